/-
  Package network: a network in memory. Conditions: those that each theorem names.
-/
import Derived.Test.YtebkpjefdaieaaaEngP
import Derived.Test.YtebkpjefdaieaaaGraphA
import Derived.Test.YtebkpjefdaieaaaTyp
namespace Go.Proofs.Ytebkpjefdaieaaa
open Go.RowKit FR FP H2 OW
set_option linter.unusedVariables false
set_option linter.unusedSimpArgs false
namespace Net
open Eng GG
/-- the kinds of blocks that a network writes -/
def netT (t : TypeId) : Prop := t = 55 ∨ t = 82 ∨ t = 88 ∨ t = 60
/-- offers in a block of offers -/
def RdT (w : World) (A : Option Addr) (k : Nat) (f : Nat → Int × Int × Int) : Prop := RdO w A k f ∧ (0 < k → ∃ g o cs fr, A = some ⟨g, o, none⟩ ∧ w.heap[g]? = some (.cells cs 99 fr))
theorem RdT.onlyT {w w' : World} {A : Option Addr} {k : Nat} {f : Nat → Int × Int × Int} (h : RdT w A k f) {T : TypeId → Prop} (ho : OnlyT T w w') (hT : ¬ T 99) : RdT w' A k f := by
  by_cases h0 : 0 < k
  · obtain ⟨g, o, cs, fr, rfl, hg⟩ := h.2 h0
    refine ⟨h.1.keep ho (fun g' o' e => ?_), fun _ => ⟨g, o, cs, fr, rfl, ho.obj hg hT⟩⟩
    cases e
    rintro ⟨cs', t', fr', h1, h2⟩
    rw [hg] at h1
    cases h1
    exact hT h2
  · exact ⟨fun i hi => by omega, fun h => absurd h h0⟩
theorem RdT.below {w w' : World} {A : Option Addr} {k : Nat} {f : Nat → Int × Int × Int} (h : RdT w A k f) (hb : Below w.heap.size w w') : RdT w' A k f :=
  h.onlyT (T := fun _ => False) ((OnlyT.refl _ w).of_below hb) (fun h => h)
theorem RdT.ne {w : World} {A : Option Addr} {k : Nat} {f : Nat → Int × Int × Int} (h : RdT w A k f) {b : Nat} {s : St} (hn : IsN w b s) : 0 < k → ∀ g o, A = some ⟨g, o, none⟩ → g ≠ b := fun h0 g o e => by
  obtain ⟨g', o', cs, fr, e', hg⟩ := h.2 h0
  rw [e'] at e
  cases e
  obtain ⟨cs', hb, _⟩ := hn.blk
  exact blk_ne hg hb (by decide)
theorem rdT_own {w : World} {base n : Nat} {v : Value} {f : Nat → Int × Int × Int} (h : w.ownsRow base 99 3 v n (cellsO f n)) : ∃ A cap, v = .slice A n cap ∧ RdT w A n f := by
  obtain ⟨A, cap, rfl, _, hr, _⟩ := rdO_own h
  refine ⟨A, cap, rfl, hr, fun h0 => ?_⟩
  obtain ⟨g, cap', e, _, _, _⟩ := own_form h h0
  rcases h.2 with ⟨h1, h2⟩ | ⟨g', cap2, cur, h1, _, hh, _⟩
  · omega
  · cases h1
    exact ⟨g', 0, _, _, rfl, hh⟩
/-- a message: from, to, and its list -/
structure MsgV where
  fr : Nat
  to_ : Nat
  A : Option Addr
  k : Nat
  cap : Nat
  f : Nat → Int × Int × Int
instance : Inhabited MsgV := ⟨⟨0, 0, none, 0, 0, fun _ => (0, 0, 0)⟩⟩
def MsgV.cells (v : MsgV) : List Value := [.int .i64 v.fr, .int .i64 v.to_, .slice v.A v.k v.cap]
def cellsM (m : List MsgV) : List Value := m.flatMap MsgV.cells
theorem cellsM_snoc (m : List MsgV) (v : MsgV) : cellsM (m ++ [v]) = cellsM m ++ v.cells := by simp [cellsM]
theorem cellsM_len (m : List MsgV) : (cellsM m).length = m.length * 3 := by
  induction m with
  | nil => rfl
  | cons v m ih => rw [cellsM, List.flatMap_cons, List.length_append]; rw [cellsM] at ih; rw [ih]; simp [MsgV.cells]; omega
theorem cellsM_get : ∀ (m : List MsgV) (i j : Nat) (hi : i < m.length), j < 3 → (cellsM m)[i * 3 + j]? = (m[i]).cells[j]?
  | [], i, j, hi, _ => by simp at hi
  | v :: m, i, j, hi, hj => by
    have hl : v.cells.length = 3 := rfl
    rw [cellsM, List.flatMap_cons]
    rcases i with _ | i
    · rw [List.getElem?_append_left (by omega)]
      simp
    · rw [List.getElem?_append_right (by omega), hl, show (i + 1) * 3 + j - 3 = i * 3 + j by omega]
      exact cellsM_get m i j (by simpa using hi) hj
/-- a network: so many nodes, what links cost, the nodes, the messages on the way -/
structure NetV where
  n : Nat
  c : Nat → Nat → Int
  x : Nat → St
  m : List MsgV
/-- where its parts lie -/
structure Lay where
  g : Nat
  gn : Nat
  cap : Nat
  nb : Nat → Nat
structure IsNet (w : World) (base b : Nat) (ly : Lay) (S : NetV) : Prop where
  n1 : 1 ≤ S.n
  n6 : S.n ≤ 6
  gr : IsG w ly.g S.n S.c
  good : GG.Good S.c
  nodes : ∃ cs, w.heap[ly.gn]? = some (.cells cs 56 (0, 0)) ∧ ∀ i, i < S.n → cs[i]? = some (.pointer (some ⟨ly.nb i, 0, none⟩))
  node : ∀ i, i < S.n → IsN w (ly.nb i) (S.x i)
  inj : ∀ i j, i < S.n → j < S.n → ly.nb i = ly.nb j → i = j
  wf : ∀ i, i < S.n → Wf (S.x i) ∧ (S.x i).id = i ∧ (S.x i).n = S.n
  blk : ∃ wv, w.heap[b]? = some (.cells #[.pointer (some ⟨ly.g, 0, none⟩), .slice (some ⟨ly.gn, 0, none⟩) S.n ly.cap, wv] 55 (0, 0)) ∧ w.ownsRow base 60 3 wv S.m.length (cellsM S.m)
  msg : ∀ v, v ∈ S.m → v.fr < S.n ∧ v.to_ < S.n ∧ v.k ≤ 6 ∧ RdT w v.A v.k v.f ∧ SmO v.f v.k
  lo : base ≤ b ∧ base ≤ ly.g ∧ base ≤ ly.gn ∧ (∀ i, i < S.n → base ≤ ly.nb i) ∧ base ≤ w.heap.size
theorem IsNet.c0 {w : World} {base b : Nat} {ly : Lay} {S : NetV} (h : IsNet w base b ly S) : w.cell? ⟨b, 0, none⟩ = some (.pointer (some ⟨ly.g, 0, none⟩)) := by
  obtain ⟨wv, hb, _⟩ := h.blk
  rw [blk_cell hb]; rfl
theorem IsNet.c1 {w : World} {base b : Nat} {ly : Lay} {S : NetV} (h : IsNet w base b ly S) : w.cell? ⟨b, 1, none⟩ = some (.slice (some ⟨ly.gn, 0, none⟩) S.n ly.cap) := by
  obtain ⟨wv, hb, _⟩ := h.blk
  rw [blk_cell hb]; rfl
theorem IsNet.cn {w : World} {base b : Nat} {ly : Lay} {S : NetV} (h : IsNet w base b ly S) {i : Nat} (hi : i < S.n) : w.cell? ⟨ly.gn, i, none⟩ = some (.pointer (some ⟨ly.nb i, 0, none⟩)) := by
  obtain ⟨cs, hb, hc⟩ := h.nodes
  rw [blk_cell hb]; exact hc i hi
theorem IsNet.free {w : World} {base b : Nat} {ly : Lay} {S : NetV} (h : IsNet w base b ly S) (i : Nat) : w.frozen? ⟨b, i, none⟩ = false := by
  obtain ⟨wv, hb, _⟩ := h.blk
  exact blk_free hb i
theorem IsNet.lt {w : World} {base b : Nat} {ly : Lay} {S : NetV} (h : IsNet w base b ly S) : b < w.heap.size := blk_lt h.blk.choose_spec.1
theorem IsNet.nt {w : World} {base b : Nat} {ly : Lay} {S : NetV} (h : IsNet w base b ly S) {i : Nat} (hi : i < S.n) : TypeAt w (ly.nb i) netT := by
  obtain ⟨cs, hb, _⟩ := (h.node i hi).blk
  exact ⟨_, _, _, hb, .inr (.inr (.inl rfl))⟩
theorem IsNet.bt {w : World} {base b : Nat} {ly : Lay} {S : NetV} (h : IsNet w base b ly S) : TypeAt w b netT := by
  obtain ⟨wv, hb, _⟩ := h.blk
  exact ⟨_, _, _, hb, .inl rfl⟩
theorem IsNet.gt {w : World} {base b : Nat} {ly : Lay} {S : NetV} (h : IsNet w base b ly S) : TypeAt w ly.g netT := by
  obtain ⟨cs, hb, _⟩ := h.gr.blk
  exact ⟨_, _, _, hb, .inr (.inl rfl)⟩
theorem isN_only {w w' : World} {T : TypeId → Prop} {b : Nat} {s : St} (h : IsN w b s) (ho : OnlyT T w w') (hT : ¬ T 88) : IsN w' b s := by
  obtain ⟨⟨cs, h1, h2⟩, h3, h4⟩ := h
  exact ⟨⟨cs, ho.obj h1 hT, h2⟩, h3, h4⟩
theorem isG_only {w w' : World} {T : TypeId → Prop} {g n : Nat} {c : Nat → Nat → Int} (h : IsG w g n c) (ho : OnlyT T w w') (hT : ¬ T 82) : IsG w' g n c := by
  obtain ⟨⟨cs, h1, h2⟩, h3, h4⟩ := h
  exact ⟨⟨cs, ho.obj h1 hT, h2⟩, h3, h4⟩
/-- what no block of the network's kinds is turned by -/
theorem IsNet.only {w w' : World} {T : TypeId → Prop} {base b : Nat} {ly : Lay} {S : NetV} (h : IsNet w base b ly S) (ho : OnlyT T w w') (h1 : ¬ T 55) (h2 : ¬ T 82) (h3 : ¬ T 88) (h4 : ¬ T 60) (h5 : ¬ T 56) (h6 : ¬ T 99) : IsNet w' base b ly S := by
  refine ⟨h.n1, h.n6, isG_only h.gr ho h2, h.good, ?_, fun i hi => isN_only (h.node i hi) ho h3, h.inj, h.wf, ?_, fun v hv => ?_, ?_⟩
  · obtain ⟨cs, a, b⟩ := h.nodes
    exact ⟨cs, ho.obj a h5, b⟩
  · obtain ⟨wv, a, b⟩ := h.blk
    exact ⟨wv, ho.obj a h1, ho.own b h4⟩
  · obtain ⟨p, q, r, s, t⟩ := h.msg v hv
    exact ⟨p, q, r, s.onlyT ho h6, t⟩
  · obtain ⟨p, q, r, s, t⟩ := h.lo
    exact ⟨p, q, r, s, Nat.le_trans t ho.size⟩
theorem IsNet.below {w w' : World} {base b : Nat} {ly : Lay} {S : NetV} (h : IsNet w base b ly S) (hb : Below w.heap.size w w') : IsNet w' base b ly S :=
  h.only (T := fun _ => False) ((OnlyT.refl _ w).of_below hb) id id id id id id
theorem IsNet.drewN {w : World} {base b : Nat} {ly : Lay} {S : NetV} (h : IsNet w base b ly S) (q : Nat) : IsNet (w.drewN q) base b ly S :=
  h.below (((Only.refl (fun _ => False) w).drewN q).below (Nat.le_refl _) (fun _ _ e => e))
theorem IsNet.drew {w : World} {base b : Nat} {ly : Lay} {S : NetV} (h : IsNet w base b ly S) : IsNet w.drew base b ly S :=
  h.below (((Only.refl (fun _ => False) w).drew).below (Nat.le_refl _) (fun _ _ e => e))
def NetV.upd (S : NetV) (k : Nat) (s : St) : NetV := { S with x := fun i => if i = k then s else S.x i }
/-- one node turned -/
theorem IsNet.node_set {w w' : World} {base b : Nat} {ly : Lay} {S : NetV} (h : IsNet w base b ly S) {k : Nat} (hk : k < S.n) {s : St} (hs : IsN w' (ly.nb k) s) (hw : Wf s ∧ s.id = k ∧ s.n = S.n) (ho : Only (fun i => i = ly.nb k) w w') : IsNet w' base b ly (S.upd k s) := by
  obtain ⟨cs0, hb0, _⟩ := (h.node k hk).blk
  have hne : ∀ {i : Nat} {cs t fr}, w.heap[i]? = some (.cells cs t fr) → t ≠ 88 → ¬ i = ly.nb k := fun h1 h2 => blk_ne h1 hb0 h2
  refine ⟨h.n1, h.n6, ?_, h.good, ?_, fun i hi => ?_, h.inj, fun i hi => ?_, ?_, fun v hv => ?_, ?_⟩
  · obtain ⟨⟨cs, h1, h2⟩, h3, h4⟩ := h.gr
    exact ⟨⟨cs, ho.obj h1 (hne h1 (by decide)), h2⟩, h3, h4⟩
  · obtain ⟨cs, h1, h2⟩ := h.nodes
    exact ⟨cs, ho.obj h1 (hne h1 (by decide)), h2⟩
  · show IsN w' (ly.nb i) (if i = k then s else S.x i)
    by_cases e : i = k
    · subst e; rw [if_pos rfl]; exact hs
    · rw [if_neg e]
      obtain ⟨⟨cs, h1, h2⟩, h3, h4⟩ := h.node i hi
      exact ⟨⟨cs, ho.obj h1 (fun e2 => e (h.inj i k hi hk e2)), h2⟩, h3, h4⟩
  · show Wf (if i = k then s else S.x i) ∧ (if i = k then s else S.x i).id = i ∧ (if i = k then s else S.x i).n = S.n
    by_cases e : i = k
    · subst e; rw [if_pos rfl]; exact hw
    · rw [if_neg e]; exact h.wf i hi
  · obtain ⟨wv, h1, h2⟩ := h.blk
    refine ⟨wv, ho.obj h1 (hne h1 (by decide)), ho.own h2 (fun q hq e => ?_)⟩
    subst e
    obtain ⟨cs', t', fr', h3, h4⟩ := own_type h2 hq (T := fun t => t = 60) rfl
    rw [hb0] at h3
    cases h3
    exact absurd h4 (by decide)
  · obtain ⟨p, q, r, u, t⟩ := h.msg v hv
    refine ⟨p, q, r, ?_, t⟩
    exact u.onlyT (T := fun t => t = 88) (ho.mono (fun i _ e => by subst e; exact ⟨_, _, _, hb0, rfl⟩)) (by decide)
  · obtain ⟨p, q, r, u, t⟩ := h.lo
    exact ⟨p, q, r, u, Nat.le_trans t ho.size⟩
/-- the graph turned -/
theorem IsNet.graph_set {w w' : World} {base b : Nat} {ly : Lay} {S : NetV} (h : IsNet w base b ly S) {c : Nat → Nat → Int} (hg : IsG w' ly.g S.n c) (hc : GG.Good c) (ho : Only (fun i => i = ly.g) w w') : IsNet w' base b ly { S with c := c } := by
  obtain ⟨cs0, hb0, _⟩ := h.gr.blk
  have ho' : OnlyT (fun t => t = 82) w w' := ho.mono (fun i _ e => by subst e; exact ⟨_, _, _, hb0, rfl⟩)
  refine ⟨h.n1, h.n6, hg, hc, ?_, fun i hi => isN_only (h.node i hi) ho' (by decide), h.inj, h.wf, ?_, fun v hv => ?_, ?_⟩
  · obtain ⟨cs, a, b⟩ := h.nodes
    exact ⟨cs, ho'.obj a (by decide), b⟩
  · obtain ⟨wv, a, b⟩ := h.blk
    exact ⟨wv, ho'.obj a (by decide), ho'.own b (by decide)⟩
  · obtain ⟨p, q, r, u, t⟩ := h.msg v hv
    exact ⟨p, q, r, u.onlyT ho' (by decide), t⟩
  · obtain ⟨p, q, r, u, t⟩ := h.lo
    exact ⟨p, q, r, u, Nat.le_trans t ho.size⟩
/-- what a call on a network leaves -/
structure After (base : Nat) (w w' : World) : Prop where
  bel : Below base w w'
  typ : OnlyT netT w w'
theorem After.refl (base : Nat) (w : World) : After base w w := ⟨Below.refl _ _, OnlyT.refl _ _⟩
theorem After.trans {base : Nat} {a b c : World} (h : After base a b) (k : After base b c) : After base a c := ⟨h.bel.trans k.bel, h.typ.trans k.typ⟩
theorem After.of_below {base : Nat} {w w' : World} (hb : Below w.heap.size w w') (h : base ≤ w.heap.size) : After base w w' := ⟨hb.mono h, (OnlyT.refl _ _).of_below hb⟩
theorem After.of_only {base : Nat} {w w' : World} {b : Nat} (ho : Only (fun i => i = b) w w') (ht : TypeAt w b netT) (h : base ≤ b) (h2 : base ≤ w.heap.size) : After base w w' :=
  ⟨ho.below h2 (fun i hi e => by omega), (OnlyT.refl _ _).of_only ho ht⟩
theorem IsNet.after_node {w w' : World} {base b : Nat} {ly : Lay} {S : NetV} (h : IsNet w base b ly S) {k : Nat} (hk : k < S.n) (ho : Only (fun i => i = ly.nb k) w w') : After base w w' :=
  After.of_only ho (h.nt hk) (h.lo.2.2.2.1 k hk) h.lo.2.2.2.2
theorem IsNet.after_below {w w' : World} {base b : Nat} {ly : Lay} {S : NetV} (h : IsNet w base b ly S) (hb : Below w.heap.size w w') : After base w w' := After.of_below hb h.lo.2.2.2.2
end Net
end Go.Proofs.Ytebkpjefdaieaaa
