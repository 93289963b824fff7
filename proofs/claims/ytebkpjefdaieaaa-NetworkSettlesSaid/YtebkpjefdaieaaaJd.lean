/-
  Joined texts: Net1 Net2 Net3 Net4 Net5 Net6 Net7 Net8 Net9. Conditions: those that each theorem names.
-/
import Derived.Test.YtebkpjefdaieaaaJb
import Derived.Test.YtebkpjefdaieaaaJc
import Derived.Test.YtebkpjefdaieaaaJa
import Derived.ProofKit
import Derived.Deep.RegionLaw
import Derived.Lib.SliceRun
/-
  Package network: a network in memory. Conditions: those that each theorem names.
-/
namespace Go.Proofs.Ytebkpjefdaieaaa
open Go.RowKit FR FP H2 OW
set_option linter.unusedVariables false
set_option linter.unusedSimpArgs false
namespace Net
open Eng GG
/-- the kinds of blocks that a network writes -/
def netT (t : TypeId) : Prop := t = 55 ∨ t = 82 ∨ t = 88 ∨ t = 60
/-- offers in a block of offers -/
def RdT (w : World) (A : Option Addr) (k : Nat) (f : Nat → Int × Int × Int) : Prop := RdO w A k f ∧ (0 < k → ∃ g o cs fr, A = some ⟨g, o, none⟩ ∧ w.heap[g]? = some (.cells cs 99 fr))
theorem RdT.onlyT {w w' : World} {A : Option Addr} {k : Nat} {f : Nat → Int × Int × Int} (h : RdT w A k f) {T : TypeId → Prop} (ho : OnlyT T w w') (hT : ¬ T 99) : RdT w' A k f := by
  by_cases h0 : 0 < k
  · obtain ⟨g, o, cs, fr, rfl, hg⟩ := h.2 h0
    refine ⟨h.1.keep ho (fun g' o' e => ?_), fun _ => ⟨g, o, cs, fr, rfl, ho.obj hg hT⟩⟩
    cases e
    rintro ⟨cs', t', fr', h1, h2⟩
    rw [hg] at h1
    cases h1
    exact hT h2
  · exact ⟨fun i hi => by omega, fun h => absurd h h0⟩
theorem RdT.below {w w' : World} {A : Option Addr} {k : Nat} {f : Nat → Int × Int × Int} (h : RdT w A k f) (hb : Below w.heap.size w w') : RdT w' A k f :=
  h.onlyT (T := fun _ => False) ((OnlyT.refl _ w).of_below hb) (fun h => h)
theorem RdT.ne {w : World} {A : Option Addr} {k : Nat} {f : Nat → Int × Int × Int} (h : RdT w A k f) {b : Nat} {s : St} (hn : IsN w b s) : 0 < k → ∀ g o, A = some ⟨g, o, none⟩ → g ≠ b := fun h0 g o e => by
  obtain ⟨g', o', cs, fr, e', hg⟩ := h.2 h0
  rw [e'] at e
  cases e
  obtain ⟨cs', hb, _⟩ := hn.blk
  exact blk_ne hg hb (by decide)
theorem rdT_own {w : World} {base n : Nat} {v : Value} {f : Nat → Int × Int × Int} (h : w.ownsRow base 99 3 v n (cellsO f n)) : ∃ A cap, v = .slice A n cap ∧ RdT w A n f := by
  obtain ⟨A, cap, rfl, _, hr, _⟩ := rdO_own h
  refine ⟨A, cap, rfl, hr, fun h0 => ?_⟩
  obtain ⟨g, cap', e, _, _, _⟩ := own_form h h0
  rcases h.2 with ⟨h1, h2⟩ | ⟨g', cap2, cur, h1, _, hh, _⟩
  · omega
  · cases h1
    exact ⟨g', 0, _, _, rfl, hh⟩
/-- a message: from, to, and its list -/
structure MsgV where
  fr : Nat
  to_ : Nat
  A : Option Addr
  k : Nat
  cap : Nat
  f : Nat → Int × Int × Int
instance : Inhabited MsgV := ⟨⟨0, 0, none, 0, 0, fun _ => (0, 0, 0)⟩⟩
def MsgV.cells (v : MsgV) : List Value := [.int .i64 v.fr, .int .i64 v.to_, .slice v.A v.k v.cap]
def cellsM (m : List MsgV) : List Value := m.flatMap MsgV.cells
theorem cellsM_snoc (m : List MsgV) (v : MsgV) : cellsM (m ++ [v]) = cellsM m ++ v.cells := by simp [cellsM]
theorem cellsM_len (m : List MsgV) : (cellsM m).length = m.length * 3 := by
  induction m with
  | nil => rfl
  | cons v m ih => rw [cellsM, List.flatMap_cons, List.length_append]; rw [cellsM] at ih; rw [ih]; simp [MsgV.cells]; omega
theorem cellsM_get : ∀ (m : List MsgV) (i j : Nat) (hi : i < m.length), j < 3 → (cellsM m)[i * 3 + j]? = (m[i]).cells[j]?
  | [], i, j, hi, _ => by simp at hi
  | v :: m, i, j, hi, hj => by
    have hl : v.cells.length = 3 := rfl
    rw [cellsM, List.flatMap_cons]
    rcases i with _ | i
    · rw [List.getElem?_append_left (by omega)]
      simp
    · rw [List.getElem?_append_right (by omega), hl, show (i + 1) * 3 + j - 3 = i * 3 + j by omega]
      exact cellsM_get m i j (by simpa using hi) hj
/-- a network: so many nodes, what links cost, the nodes, the messages on the way -/
structure NetV where
  n : Nat
  c : Nat → Nat → Int
  x : Nat → St
  m : List MsgV
/-- where its parts lie -/
structure Lay where
  g : Nat
  gn : Nat
  cap : Nat
  nb : Nat → Nat
structure IsNet (w : World) (base b : Nat) (ly : Lay) (S : NetV) : Prop where
  n1 : 1 ≤ S.n
  n6 : S.n ≤ 6
  gr : IsG w ly.g S.n S.c
  good : GG.Good S.c
  nodes : ∃ cs, w.heap[ly.gn]? = some (.cells cs 56 (0, 0)) ∧ ∀ i, i < S.n → cs[i]? = some (.pointer (some ⟨ly.nb i, 0, none⟩))
  node : ∀ i, i < S.n → IsN w (ly.nb i) (S.x i)
  inj : ∀ i j, i < S.n → j < S.n → ly.nb i = ly.nb j → i = j
  wf : ∀ i, i < S.n → Wf (S.x i) ∧ (S.x i).id = i ∧ (S.x i).n = S.n
  blk : ∃ wv, w.heap[b]? = some (.cells #[.pointer (some ⟨ly.g, 0, none⟩), .slice (some ⟨ly.gn, 0, none⟩) S.n ly.cap, wv] 55 (0, 0)) ∧ w.ownsRow base 60 3 wv S.m.length (cellsM S.m)
  msg : ∀ v, v ∈ S.m → v.fr < S.n ∧ v.to_ < S.n ∧ v.k ≤ 6 ∧ RdT w v.A v.k v.f ∧ SmO v.f v.k
  lo : base ≤ b ∧ base ≤ ly.g ∧ base ≤ ly.gn ∧ (∀ i, i < S.n → base ≤ ly.nb i) ∧ base ≤ w.heap.size
theorem IsNet.c0 {w : World} {base b : Nat} {ly : Lay} {S : NetV} (h : IsNet w base b ly S) : w.cell? ⟨b, 0, none⟩ = some (.pointer (some ⟨ly.g, 0, none⟩)) := by
  obtain ⟨wv, hb, _⟩ := h.blk
  rw [blk_cell hb]; rfl
theorem IsNet.c1 {w : World} {base b : Nat} {ly : Lay} {S : NetV} (h : IsNet w base b ly S) : w.cell? ⟨b, 1, none⟩ = some (.slice (some ⟨ly.gn, 0, none⟩) S.n ly.cap) := by
  obtain ⟨wv, hb, _⟩ := h.blk
  rw [blk_cell hb]; rfl
theorem IsNet.cn {w : World} {base b : Nat} {ly : Lay} {S : NetV} (h : IsNet w base b ly S) {i : Nat} (hi : i < S.n) : w.cell? ⟨ly.gn, i, none⟩ = some (.pointer (some ⟨ly.nb i, 0, none⟩)) := by
  obtain ⟨cs, hb, hc⟩ := h.nodes
  rw [blk_cell hb]; exact hc i hi
theorem IsNet.free {w : World} {base b : Nat} {ly : Lay} {S : NetV} (h : IsNet w base b ly S) (i : Nat) : w.frozen? ⟨b, i, none⟩ = false := by
  obtain ⟨wv, hb, _⟩ := h.blk
  exact blk_free hb i
theorem IsNet.lt {w : World} {base b : Nat} {ly : Lay} {S : NetV} (h : IsNet w base b ly S) : b < w.heap.size := blk_lt h.blk.choose_spec.1
theorem IsNet.nt {w : World} {base b : Nat} {ly : Lay} {S : NetV} (h : IsNet w base b ly S) {i : Nat} (hi : i < S.n) : TypeAt w (ly.nb i) netT := by
  obtain ⟨cs, hb, _⟩ := (h.node i hi).blk
  exact ⟨_, _, _, hb, .inr (.inr (.inl rfl))⟩
theorem IsNet.bt {w : World} {base b : Nat} {ly : Lay} {S : NetV} (h : IsNet w base b ly S) : TypeAt w b netT := by
  obtain ⟨wv, hb, _⟩ := h.blk
  exact ⟨_, _, _, hb, .inl rfl⟩
theorem IsNet.gt {w : World} {base b : Nat} {ly : Lay} {S : NetV} (h : IsNet w base b ly S) : TypeAt w ly.g netT := by
  obtain ⟨cs, hb, _⟩ := h.gr.blk
  exact ⟨_, _, _, hb, .inr (.inl rfl)⟩
theorem isN_only {w w' : World} {T : TypeId → Prop} {b : Nat} {s : St} (h : IsN w b s) (ho : OnlyT T w w') (hT : ¬ T 88) : IsN w' b s := by
  obtain ⟨⟨cs, h1, h2⟩, h3, h4⟩ := h
  exact ⟨⟨cs, ho.obj h1 hT, h2⟩, h3, h4⟩
theorem isG_only {w w' : World} {T : TypeId → Prop} {g n : Nat} {c : Nat → Nat → Int} (h : IsG w g n c) (ho : OnlyT T w w') (hT : ¬ T 82) : IsG w' g n c := by
  obtain ⟨⟨cs, h1, h2⟩, h3, h4⟩ := h
  exact ⟨⟨cs, ho.obj h1 hT, h2⟩, h3, h4⟩
/-- what no block of the network's kinds is turned by -/
theorem IsNet.only {w w' : World} {T : TypeId → Prop} {base b : Nat} {ly : Lay} {S : NetV} (h : IsNet w base b ly S) (ho : OnlyT T w w') (h1 : ¬ T 55) (h2 : ¬ T 82) (h3 : ¬ T 88) (h4 : ¬ T 60) (h5 : ¬ T 56) (h6 : ¬ T 99) : IsNet w' base b ly S := by
  refine ⟨h.n1, h.n6, isG_only h.gr ho h2, h.good, ?_, fun i hi => isN_only (h.node i hi) ho h3, h.inj, h.wf, ?_, fun v hv => ?_, ?_⟩
  · obtain ⟨cs, a, b⟩ := h.nodes
    exact ⟨cs, ho.obj a h5, b⟩
  · obtain ⟨wv, a, b⟩ := h.blk
    exact ⟨wv, ho.obj a h1, ho.own b h4⟩
  · obtain ⟨p, q, r, s, t⟩ := h.msg v hv
    exact ⟨p, q, r, s.onlyT ho h6, t⟩
  · obtain ⟨p, q, r, s, t⟩ := h.lo
    exact ⟨p, q, r, s, Nat.le_trans t ho.size⟩
theorem IsNet.below {w w' : World} {base b : Nat} {ly : Lay} {S : NetV} (h : IsNet w base b ly S) (hb : Below w.heap.size w w') : IsNet w' base b ly S :=
  h.only (T := fun _ => False) ((OnlyT.refl _ w).of_below hb) id id id id id id
theorem IsNet.drewN {w : World} {base b : Nat} {ly : Lay} {S : NetV} (h : IsNet w base b ly S) (q : Nat) : IsNet (w.drewN q) base b ly S :=
  h.below (((Only.refl (fun _ => False) w).drewN q).below (Nat.le_refl _) (fun _ _ e => e))
theorem IsNet.drew {w : World} {base b : Nat} {ly : Lay} {S : NetV} (h : IsNet w base b ly S) : IsNet w.drew base b ly S :=
  h.below (((Only.refl (fun _ => False) w).drew).below (Nat.le_refl _) (fun _ _ e => e))
def NetV.upd (S : NetV) (k : Nat) (s : St) : NetV := { S with x := fun i => if i = k then s else S.x i }
/-- one node turned -/
theorem IsNet.node_set {w w' : World} {base b : Nat} {ly : Lay} {S : NetV} (h : IsNet w base b ly S) {k : Nat} (hk : k < S.n) {s : St} (hs : IsN w' (ly.nb k) s) (hw : Wf s ∧ s.id = k ∧ s.n = S.n) (ho : Only (fun i => i = ly.nb k) w w') : IsNet w' base b ly (S.upd k s) := by
  obtain ⟨cs0, hb0, _⟩ := (h.node k hk).blk
  have hne : ∀ {i : Nat} {cs t fr}, w.heap[i]? = some (.cells cs t fr) → t ≠ 88 → ¬ i = ly.nb k := fun h1 h2 => blk_ne h1 hb0 h2
  refine ⟨h.n1, h.n6, ?_, h.good, ?_, fun i hi => ?_, h.inj, fun i hi => ?_, ?_, fun v hv => ?_, ?_⟩
  · obtain ⟨⟨cs, h1, h2⟩, h3, h4⟩ := h.gr
    exact ⟨⟨cs, ho.obj h1 (hne h1 (by decide)), h2⟩, h3, h4⟩
  · obtain ⟨cs, h1, h2⟩ := h.nodes
    exact ⟨cs, ho.obj h1 (hne h1 (by decide)), h2⟩
  · show IsN w' (ly.nb i) (if i = k then s else S.x i)
    by_cases e : i = k
    · subst e; rw [if_pos rfl]; exact hs
    · rw [if_neg e]
      obtain ⟨⟨cs, h1, h2⟩, h3, h4⟩ := h.node i hi
      exact ⟨⟨cs, ho.obj h1 (fun e2 => e (h.inj i k hi hk e2)), h2⟩, h3, h4⟩
  · show Wf (if i = k then s else S.x i) ∧ (if i = k then s else S.x i).id = i ∧ (if i = k then s else S.x i).n = S.n
    by_cases e : i = k
    · subst e; rw [if_pos rfl]; exact hw
    · rw [if_neg e]; exact h.wf i hi
  · obtain ⟨wv, h1, h2⟩ := h.blk
    refine ⟨wv, ho.obj h1 (hne h1 (by decide)), ho.own h2 (fun q hq e => ?_)⟩
    subst e
    obtain ⟨cs', t', fr', h3, h4⟩ := own_type h2 hq (T := fun t => t = 60) rfl
    rw [hb0] at h3
    cases h3
    exact absurd h4 (by decide)
  · obtain ⟨p, q, r, u, t⟩ := h.msg v hv
    refine ⟨p, q, r, ?_, t⟩
    exact u.onlyT (T := fun t => t = 88) (ho.mono (fun i _ e => by subst e; exact ⟨_, _, _, hb0, rfl⟩)) (by decide)
  · obtain ⟨p, q, r, u, t⟩ := h.lo
    exact ⟨p, q, r, u, Nat.le_trans t ho.size⟩
/-- the graph turned -/
theorem IsNet.graph_set {w w' : World} {base b : Nat} {ly : Lay} {S : NetV} (h : IsNet w base b ly S) {c : Nat → Nat → Int} (hg : IsG w' ly.g S.n c) (hc : GG.Good c) (ho : Only (fun i => i = ly.g) w w') : IsNet w' base b ly { S with c := c } := by
  obtain ⟨cs0, hb0, _⟩ := h.gr.blk
  have ho' : OnlyT (fun t => t = 82) w w' := ho.mono (fun i _ e => by subst e; exact ⟨_, _, _, hb0, rfl⟩)
  refine ⟨h.n1, h.n6, hg, hc, ?_, fun i hi => isN_only (h.node i hi) ho' (by decide), h.inj, h.wf, ?_, fun v hv => ?_, ?_⟩
  · obtain ⟨cs, a, b⟩ := h.nodes
    exact ⟨cs, ho'.obj a (by decide), b⟩
  · obtain ⟨wv, a, b⟩ := h.blk
    exact ⟨wv, ho'.obj a (by decide), ho'.own b (by decide)⟩
  · obtain ⟨p, q, r, u, t⟩ := h.msg v hv
    exact ⟨p, q, r, u.onlyT ho' (by decide), t⟩
  · obtain ⟨p, q, r, u, t⟩ := h.lo
    exact ⟨p, q, r, u, Nat.le_trans t ho.size⟩
/-- what a call on a network leaves -/
structure After (base : Nat) (w w' : World) : Prop where
  bel : Below base w w'
  typ : OnlyT netT w w'
theorem After.refl (base : Nat) (w : World) : After base w w := ⟨Below.refl _ _, OnlyT.refl _ _⟩
theorem After.trans {base : Nat} {a b c : World} (h : After base a b) (k : After base b c) : After base a c := ⟨h.bel.trans k.bel, h.typ.trans k.typ⟩
theorem After.of_below {base : Nat} {w w' : World} (hb : Below w.heap.size w w') (h : base ≤ w.heap.size) : After base w w' := ⟨hb.mono h, (OnlyT.refl _ _).of_below hb⟩
theorem After.of_only {base : Nat} {w w' : World} {b : Nat} (ho : Only (fun i => i = b) w w') (ht : TypeAt w b netT) (h : base ≤ b) (h2 : base ≤ w.heap.size) : After base w w' :=
  ⟨ho.below h2 (fun i hi e => by omega), (OnlyT.refl _ _).of_only ho ht⟩
theorem IsNet.after_node {w w' : World} {base b : Nat} {ly : Lay} {S : NetV} (h : IsNet w base b ly S) {k : Nat} (hk : k < S.n) (ho : Only (fun i => i = ly.nb k) w w') : After base w w' :=
  After.of_only ho (h.nt hk) (h.lo.2.2.2.1 k hk) h.lo.2.2.2.2
theorem IsNet.after_below {w w' : World} {base b : Nat} {ly : Lay} {S : NetV} (h : IsNet w base b ly S) (hb : Below w.heap.size w w') : After base w w' := After.of_below hb h.lo.2.2.2.2
end Net
end Go.Proofs.Ytebkpjefdaieaaa

/-
  Package network: Len, Way, at, neighbours, Told, Hear, link. Conditions: those that each theorem names.
-/
namespace Go.Proofs.Ytebkpjefdaieaaa
open Go.RowKit FR FP H2 OW
set_option linter.unusedVariables false
set_option linter.unusedSimpArgs false
namespace Net
open Eng GG
set_option maxHeartbeats 1600000 in
theorem len_any {base b : Nat} {ly : Lay} {S : NetV} (w : World) (h : IsNet w base b ly S) : Calls Try.prog 22 #[.pointer (some ⟨b, 0, none⟩)] w fun e w' => e = .returned (.int .i64 S.n) ∧ w = w' := by
  have c1 := h.c1
  clear h
  go_enter Try.func22, Try.ntmps22
  go_wp2
  go_ret
  exact ⟨rfl, rfl⟩
set_option maxHeartbeats 1600000 in
theorem len_nil (w : World) : Calls Try.prog 22 #[.pointer none] w fun e w' => e = .returned (.int .i64 0) ∧ w = w' := by
  go_enter Try.func22, Try.ntmps22
  go_wp2
  go_ret
  exact ⟨rfl, rfl⟩
theorem own_slice {w : World} {base size n : Nat} {e : TypeId} {v : Value} {xs : List Value} (h : w.ownsRow base e size v n xs) : ∃ A c, v = .slice A n c := by
  rcases h.2 with ⟨rfl, h2⟩ | ⟨g, cap, cur, rfl, _⟩
  · exact ⟨none, 0, by rw [h2]⟩
  · exact ⟨_, _, rfl⟩
theorem IsNet.c2 {w : World} {base b : Nat} {ly : Lay} {S : NetV} (h : IsNet w base b ly S) : ∃ A c, w.cell? ⟨b, 2, none⟩ = some (.slice A S.m.length c) := by
  obtain ⟨wv, hb, ho⟩ := h.blk
  obtain ⟨A, c, rfl⟩ := own_slice ho
  exact ⟨A, c, by rw [blk_cell hb]; rfl⟩
set_option maxHeartbeats 1600000 in
theorem way_len {base b : Nat} {ly : Lay} {S : NetV} (w : World) (h : IsNet w base b ly S) : Calls Try.prog 20 #[.pointer (some ⟨b, 0, none⟩)] w fun e w' => e = .returned (.int .i64 S.m.length) ∧ w = w' := by
  obtain ⟨A, c, c2⟩ := h.c2
  clear h
  go_enter Try.func20, Try.ntmps20
  go_wp2
  go_ret
  exact ⟨rfl, rfl⟩
set_option maxHeartbeats 1600000 in
theorem way_nil (w : World) : Calls Try.prog 20 #[.pointer none] w fun e w' => e = .returned (.int .i64 0) ∧ w = w' := by
  go_enter Try.func20, Try.ntmps20
  go_wp2
  go_ret
  exact ⟨rfl, rfl⟩
set_option maxHeartbeats 1600000 in
theorem at_ok {base b : Nat} {ly : Lay} {S : NetV} (w : World) (h : IsNet w base b ly S) (i : Nat) (hi : i < S.n) : Calls Try.prog 34 #[.pointer (some ⟨b, 0, none⟩), .int .i64 i] w fun e w' => e = .returned (.tuple #[.pointer (some ⟨ly.nb i, 0, none⟩), .int .i64 0]) ∧ w = w' := by
  have c1 := h.c1
  have c2 := h.cn hi
  have hn := h.n6
  have i0 : (0 : Int) ≤ (i : Int) := by omega
  have i1 : (i : Int) < (S.n : Int) := by omega
  clear h
  go_enter Try.func34, Try.ntmps34
  go_wp2
  go_ret2
  exact ⟨rfl, rfl⟩
set_option maxHeartbeats 1600000 in
theorem at_bad {base b : Nat} {ly : Lay} {S : NetV} (w : World) (h : IsNet w base b ly S) (i : Int) (hi : GG.ok S.n i = false) : Calls Try.prog 34 #[.pointer (some ⟨b, 0, none⟩), .int .i64 i] w fun e w' => e = .returned (.tuple #[.pointer none, .int .i64 2]) ∧ w = w' := by
  have c1 := h.c1
  have hn := h.n6
  clear h
  by_cases h0 : i < 0
  · clear hi
    go_enter Try.func34, Try.ntmps34
    go_wp2
    go_ret2
    exact ⟨rfl, rfl⟩
  · have h1 : (S.n : Int) ≤ i := by
      by_cases h1 : (S.n : Int) ≤ i
      · exact h1
      · have : GG.ok S.n i = true := by simp [GG.ok]; omega
        rw [this] at hi; cases hi
    clear hi
    go_enter Try.func34, Try.ntmps34
    go_wp2
    go_ret2
    exact ⟨rfl, rfl⟩
set_option maxHeartbeats 1600000 in
theorem at_nil (i : Int) (w : World) : Calls Try.prog 34 #[.pointer none, .int .i64 i] w fun e w' => e = .returned (.tuple #[.pointer none, .int .i64 10]) ∧ w = w' := by
  go_enter Try.func34, Try.ntmps34
  go_wp2
  go_ret2
  exact ⟨rfl, rfl⟩
/-- a node's neighbours among the first k -/
def nbl (c : Nat → Nat → Int) (a : Nat) : Nat → List Nat
  | 0 => []
  | k + 1 => if 0 < c a k then nbl c a k ++ [k] else nbl c a k
theorem nbl_len (c : Nat → Nat → Int) (a : Nat) : ∀ k, (nbl c a k).length ≤ k
  | 0 => Nat.le_refl _
  | k + 1 => by
    have := nbl_len c a k
    unfold nbl
    split
    · simp; omega
    · omega
theorem nbl_mem (c : Nat → Nat → Int) (a b : Nat) : ∀ k, b ∈ nbl c a k ↔ b < k ∧ 0 < c a b
  | 0 => by simp [nbl]
  | k + 1 => by
    have ih := nbl_mem c a b k
    unfold nbl
    split
    · rename_i h
      rw [List.mem_append, ih]
      constructor
      · rintro (h1 | h1)
        · exact ⟨by omega, h1.2⟩
        · have : b = k := by simpa using h1
          subst this; exact ⟨by omega, h⟩
      · rintro ⟨h1, h2⟩
        by_cases e : b = k
        · subst e; exact .inr (by simp)
        · exact .inl ⟨by omega, h2⟩
    · rename_i h
      rw [ih]
      constructor
      · rintro ⟨h1, h2⟩; exact ⟨by omega, h2⟩
      · rintro ⟨h1, h2⟩
        refine ⟨?_, h2⟩
        by_cases e : b = k
        · subst e; exact absurd h2 h
        · omega
def natN (L : List Nat) : List Value := L.map fun (b : Nat) => Value.int .i64 (b : Int)
theorem natN_snoc (L : List Nat) (b : Nat) : natN (L ++ [b]) = natN L ++ [.int .i64 b] := by simp [natN]
theorem infoI : (Try.prog.info? 3).map (fun i => (i.zero, i.size, i.bytes)) = some (some (.int .i64 0), 1, 8) := by kernel_rfl
theorem cst_nat {n : Nat} {c : Nat → Nat → Int} {a b : Nat} (ha : a < n) (hb : b < n) : GG.cst n c (a : Int) (b : Int) = c a b := by
  unfold GG.cst
  rw [if_pos ⟨by simp [GG.ok]; omega, by simp [GG.ok]; omega⟩]
  rfl
set_option maxRecDepth 100000 in
set_option maxHeartbeats 8000000 in
theorem neighbours_any {base b : Nat} {ly : Lay} {S : NetV} (w : World) (h : IsNet w base b ly S) (a : Nat) (ha : a < S.n) : Calls Try.prog 49 #[.pointer (some ⟨b, 0, none⟩), .int .i64 a] w fun e w' => (∃ v, e = .returned v ∧ w'.ownsRow w.heap.size 3 1 v (nbl S.c a S.n).length (natN (nbl S.c a S.n))) ∧ Below w.heap.size w w' := by
  obtain ⟨i0, hi, hz0, hz1, hz2⟩ := info_parts infoI
  have HI := Lib.hid hi
  have H := Lib.hid h
  have hn6 := h.n6
  have c1 := h.c1
  clear h hi
  go_enter Try.func49, Try.ntmps49
  go_upto_region 2 with fail
  go_loopw [4, 11] (fun s4 s11 wr => ∃ (k : Nat) (sv : Value), k ≤ S.n ∧ s11 = .int .i64 k ∧ sv = s4 ∧ wr.ownsRow w.heap.size 3 1 sv (nbl S.c a k).length (natN (nbl S.c a k)) ∧ Below w.heap.size w wr) (fun _ s11 _ => S.n - (intOf s11).toNat)
  case atStart => exact ⟨0, _, by omega, rfl, rfl, by show w.ownsRow w.heap.size 3 1 (.slice none 0 0) 0 []; exact World.ownsRow_nil _ _ _ _, Below.refl _ _⟩
  case round =>
    obtain ⟨k, sv, hk, rfl, rfl, ho, hb⟩ := hrel
    have HO := Lib.hid ho
    have HB := Lib.hid hb
    clear ho hb
    by_cases hlt : k < S.n
    · have hlt' : (k : Int) < (S.n : Int) := by omega
      have k0 : (0 : Int) ≤ (k : Int) := by omega
      have hnet := H.out.below HB.out
      have hc := GG.cost_any ly.g S.n S.c a k wr hnet.gr
      rw [cst_nat ha hlt] at hc
      have x0 := hnet.c0
      have hll := nbl_len S.c a k
      have HS := Lib.hid (show nbl S.c a (k + 1) = if 0 < S.c a k then nbl S.c a k ++ [k] else nbl S.c a k from rfl)
      generalize S.c a k = cc at hc HS
      have HC := Lib.hid hc
      clear hc hnet
      by_cases hcc : 0 < cc
      · have HS2 := Lib.hid (show nbl S.c a (k + 1) = nbl S.c a k ++ [k] by rw [HS.out, if_pos hcc])
        go_wp2_with (first
          | (go_at_call 65; (with_reducible refine (HC.out).mono ?_); rintro e w' ⟨rfl, rfl⟩)
          | (at_builtin; refine wpList_append_lies _ rfl (.tmp 22) (.tmp 24) 35 rfl w.heap.size 3 i0 _ 1 8 Try.underlying35 HI.out hz0 hz1 hz2 rfl (by omega) sv _ _ rfl (HO.out.alloc _) ⟨wr.heap.size, 0, none⟩ 1 1 [.int .i64 k] rfl rfl (cell_one_new _ _ _) (by simp [Value.oneCell']) (by omega) (by unfold maxLen; omega) (by omega) (by have := HB.out.size; simp; omega) (wr.heap.size + 1) (by simp) ?_; intro g2 cap2 w8 hown1 hgrow1 hat1 hlt1; have HO2 := Lib.hid hown1; have HB2 := Lib.hid (OW.app_below HB.out HO.out hgrow1); clear hown1 hgrow1 hat1 hlt1))
        go_roundw
        case rel => exact ⟨k + 1, _, by omega, by go_num, rfl, by rw [HS2.out, natN_snoc, List.length_append]; exact HO2.out, HB2.out⟩
        case measure => simp [intOf]; omega
      · have HS2 := Lib.hid (show nbl S.c a (k + 1) = nbl S.c a k by rw [HS.out, if_neg hcc])
        go_wp2_with (go_at_call 65; (with_reducible refine (HC.out).mono ?_); rintro e w' ⟨rfl, rfl⟩)
        go_roundw
        case rel => exact ⟨k + 1, _, by omega, by go_num, rfl, by rw [HS2.out]; exact HO.out, HB.out⟩
        case measure => simp [intOf]; omega
    · obtain rfl : k = S.n := by omega
      go_wp2
      go_ret
      exact ⟨⟨_, rfl, HO.out⟩, HB.out⟩
end Net
end Go.Proofs.Ytebkpjefdaieaaa

/-
  Package network: Told, Hear, link. Conditions: those that each theorem names.
-/
namespace Go.Proofs.Ytebkpjefdaieaaa
open Go.RowKit FR FP H2 OW
set_option linter.unusedVariables false
set_option linter.unusedSimpArgs false
namespace Net
open Eng GG
/-- a node that has told t -/
def tl (s : St) (t : Int) : St := if upv s t = 0 then s.tells t s.n else s
theorem tl_same (s : St) (t : Int) : (tl s t).id = s.id ∧ (tl s t).n = s.n := by unfold tl; split <;> exact ⟨rfl, rfl⟩
theorem wf_tl {s : St} (h : Wf s) (t : Int) : Wf (tl s t) := by unfold tl; split; exact wf_tells s t _ h; exact h
/-- how many offers t is told -/
def told_len (s : St) (t : Int) : Nat := if upv s t = 0 then s.n else 0
theorem tell_rd {w : World} {b : Nat} {s : St} (h : IsN w b s) (hw : Wf s) (t : Int) : Calls Try.prog 42 #[.pointer (some ⟨b, 0, none⟩), .int .i64 t] w fun e w' => (∃ A cap, e = .returned (.tuple #[.slice A (told_len s t) cap, .int .i64 (upv s t)]) ∧ RdT w' A (told_len s t) (s.offer t)) ∧ IsN w' b (tl s t) ∧ Only (fun i => i = b) w w' := by
  by_cases hz : upv s t = 0
  · unfold told_len tl
    rw [if_pos hz, if_pos hz]
    refine (tell_any b s t w h hw hz).mono fun e w' ⟨⟨v, he, hv⟩, hn, ho⟩ => ?_
    obtain ⟨A, cap, rfl, hr⟩ := rdT_own hv
    exact ⟨⟨A, cap, by rw [he, hz], hr⟩, hn, ho⟩
  · unfold told_len tl
    rw [if_neg hz, if_neg hz]
    exact (tell_no b s t w h hw hz).mono fun e w' ⟨he, hw⟩ => ⟨⟨none, 0, he, fun i hi => by omega, fun h => by omega⟩, hw ▸ h, hw ▸ Only.refl _ _⟩
theorem smO_offer' (s : St) (t : Int) (k : Nat) (hw : Wf s) : SmO (s.offer t) k := smO_offer s t k hw
set_option maxHeartbeats 1600000 in
theorem told_any {base b : Nat} {ly : Lay} {S : NetV} (w : World) (h : IsNet w base b ly S) (i : Nat) (hi : i < S.n) (t : Int) : Calls Try.prog 21 #[.pointer (some ⟨b, 0, none⟩), .int .i64 i, .int .i64 t] w fun e w' => (∃ A cap, e = .returned (.tuple #[.slice A (told_len (S.x i) t) cap, .int .i64 (upv (S.x i) t)]) ∧ RdT w' A (told_len (S.x i) t) ((S.x i).offer t)) ∧ IsNet w' base b ly (S.upd i (tl (S.x i) t)) ∧ After base w w' := by
  have H := Lib.hid h
  have hw := h.wf i hi
  have HT := Lib.hid (tell_rd (h.node i hi) hw.1 t)
  have HW := Lib.hid hw
  have i0 : (0 : Int) ≤ (i : Int) := by omega
  clear h hw
  go_enter Try.func21, Try.ntmps21
  go_wp2_with (first
    | (go_at_call 34; (with_reducible refine (at_ok w H.out i hi).mono ?_); rintro e w' ⟨rfl, rfl⟩)
    | (go_at_call 42; (with_reducible refine (HT.out).mono ?_); rintro e w4 ⟨⟨A, cap, rfl, hr⟩, hn, ho⟩; have HR := Lib.hid hr; have HN := Lib.hid hn; have HO := Lib.hid ho; clear hr hn ho))
  go_ret2
  exact ⟨⟨A, cap, rfl, HR.out⟩, H.out.node_set hi HN.out ⟨wf_tl HW.out.1 t, (tl_same _ t).1.trans HW.out.2.1, (tl_same _ t).2.trans HW.out.2.2⟩ HO.out, H.out.after_node hi HO.out⟩
set_option maxHeartbeats 1600000 in
theorem told_bad {base b : Nat} {ly : Lay} {S : NetV} (w : World) (h : IsNet w base b ly S) (i : Int) (hi : GG.ok S.n i = false) (t : Int) : Calls Try.prog 21 #[.pointer (some ⟨b, 0, none⟩), .int .i64 i, .int .i64 t] w fun e w' => e = .returned (.tuple #[.slice none 0 0, .int .i64 2]) ∧ w = w' := by
  have H := Lib.hid h
  clear h
  go_enter Try.func21, Try.ntmps21
  go_wp2_with (go_at_call 34; (with_reducible refine (at_bad w H.out i hi).mono ?_); rintro e w' ⟨rfl, rfl⟩)
  go_ret2
  exact ⟨rfl, rfl⟩
set_option maxHeartbeats 1600000 in
theorem told_nil (i t : Int) (w : World) : Calls Try.prog 21 #[.pointer none, .int .i64 i, .int .i64 t] w fun e w' => e = .returned (.tuple #[.slice none 0 0, .int .i64 10]) ∧ w = w' := by
  go_enter Try.func21, Try.ntmps21
  go_wp2_with (go_at_call 34; (with_reducible refine (at_nil i w).mono ?_); rintro e w' ⟨rfl, rfl⟩)
  go_ret2
  exact ⟨rfl, rfl⟩
set_option maxHeartbeats 1600000 in
theorem hear_any {base b : Nat} {ly : Lay} {S : NetV} (w : World) (h : IsNet w base b ly S) (i : Nat) (hi : i < S.n) (t : Int) (A : Option Addr) (k cap : Nat) (f : Nat → Int × Int × Int) (hk : k ≤ 6) (hr : RdT w A k f) (hs : SmO f k) : Calls Try.prog 23 #[.pointer (some ⟨b, 0, none⟩), .int .i64 i, .int .i64 t, .slice A k cap] w fun e w' => e = .returned (.int .i64 (hea (S.x i) t f k)) ∧ IsNet w' base b ly (S.upd i ((S.x i).hear t f k)) ∧ After base w w' := by
  have H := Lib.hid h
  have hw := h.wf i hi
  have HT := Lib.hid (Eng.hear_any (ly.nb i) (S.x i) t A k cap f w (h.node i hi) hw.1 (by unfold maxLen; omega) hr.1 (hr.ne (h.node i hi)))
  have HW := Lib.hid hw
  have HS := Lib.hid hs
  have i0 : (0 : Int) ≤ (i : Int) := by omega
  clear h hw hr hs
  go_enter Try.func23, Try.ntmps23
  go_wp2_with (first
    | (go_at_call 34; (with_reducible refine (at_ok w H.out i hi).mono ?_); rintro e w' ⟨rfl, rfl⟩)
    | (go_at_call 43; (with_reducible refine (HT.out).mono ?_); rintro e w4 ⟨rfl, hn, ho⟩; have HN := Lib.hid hn; have HO := Lib.hid ho; clear hn ho))
  go_ret
  exact ⟨rfl, H.out.node_set hi HN.out ⟨wf_hear HW.out.1 t f k HS.out, (hear_same _ t f k).1.trans HW.out.2.1, (hear_same _ t f k).2.trans HW.out.2.2⟩ HO.out, H.out.after_node hi HO.out⟩
set_option maxHeartbeats 1600000 in
theorem hear_bad {base b : Nat} {ly : Lay} {S : NetV} (w : World) (h : IsNet w base b ly S) (i : Int) (hi : GG.ok S.n i = false) (t : Int) (v : Value) : Calls Try.prog 23 #[.pointer (some ⟨b, 0, none⟩), .int .i64 i, .int .i64 t, v] w fun e w' => e = .returned (.int .i64 2) ∧ w = w' := by
  have H := Lib.hid h
  clear h
  go_enter Try.func23, Try.ntmps23
  go_wp2_with (go_at_call 34; (with_reducible refine (at_bad w H.out i hi).mono ?_); rintro e w' ⟨rfl, rfl⟩)
  go_ret
  exact ⟨rfl, rfl⟩
set_option maxHeartbeats 1600000 in
theorem hear_nil (i t : Int) (v : Value) (w : World) : Calls Try.prog 23 #[.pointer none, .int .i64 i, .int .i64 t, v] w fun e w' => e = .returned (.int .i64 10) ∧ w = w' := by
  go_enter Try.func23, Try.ntmps23
  go_wp2_with (go_at_call 34; (with_reducible refine (at_nil i w).mono ?_); rintro e w' ⟨rfl, rfl⟩)
  go_ret
  exact ⟨rfl, rfl⟩
/-- what a link makes of a network -/
def NetV.link (S : NetV) (a b : Nat) (x : Int) : NetV := (({ S with c := lnc S.n S.c a b x } : NetV).upd a ((S.x a).link b x)).upd b ((S.x b).link a x)
set_option maxRecDepth 100000 in
set_option maxHeartbeats 4000000 in
theorem link_ok {base b : Nat} {ly : Lay} {S : NetV} (w : World) (h : IsNet w base b ly S) (i j : Nat) (hi : i < S.n) (hj : j < S.n) (hij : i ≠ j) (x : Int) (h0 : 0 ≤ x) (h1 : x ≤ 1000) : Calls Try.prog 31 #[.pointer (some ⟨b, 0, none⟩), .int .i64 i, .int .i64 j, .int .i64 x] w fun e w' => e = .returned (.int .i64 0) ∧ IsNet w' base b ly (S.link i j x) ∧ After base w w' := by
  have H := Lib.hid h
  have hl : lnk S.n (i : Int) (j : Int) x = 0 := by
    unfold GG.lnk
    rw [if_pos ⟨by simp [GG.ok]; omega, by simp [GG.ok]; omega, by omega⟩, if_neg (by omega)]
  have hg := GG.link_any ly.g S.n S.c i j x w h.gr
  rw [hl] at hg
  have HG := Lib.hid hg
  have i0 : (0 : Int) ≤ (i : Int) := by omega
  have j0 : (0 : Int) ≤ (j : Int) := by omega
  have i1 : (i : Int) < (S.n : Int) := by omega
  have j1 : (j : Int) < (S.n : Int) := by omega
  have hn := h.n6
  have x0 := h.c0
  have HD := Lib.hid (good_lnc (n := S.n) h.good (i : Int) (j : Int) x)
  clear h hg hl
  go_enter Try.func31, Try.ntmps31
  go_upto_region 4 with (go_at_call 47; (with_reducible refine (HG.out).mono ?_); rintro e w4 ⟨rfl, hg1, ho⟩; have H1 := Lib.hid (H.out.graph_set hg1 HD.out ho); have A1 := Lib.hid (After.of_only ho H.out.gt H.out.lo.2.1 H.out.lo.2.2.2.2); clear hg1 ho)
  have hk1 := H1.out.node i hi
  have e1 : ({ S with c := lnc S.n S.c i j x } : NetV).x i = S.x i := rfl
  rw [e1] at hk1
  have HL1 := Lib.hid (Eng.link_any (ly.nb i) (S.x i) j x w4 hk1)
  have c1 := H1.out.c1
  have cn1 := H1.out.cn hi
  clear hk1 e1
  go_upto_region 5 with (go_at_call 48; (with_reducible refine (HL1.out).mono ?_); rintro e w5 ⟨rfl, hn1, ho⟩; have H2 := Lib.hid (H1.out.node_set hi hn1 ⟨wf_link (H.out.wf i hi).1 j x, (link_same _ j x).1.trans (H.out.wf i hi).2.1, (link_same _ j x).2.1.trans (H.out.wf i hi).2.2⟩ ho); have A2 := Lib.hid (A1.out.trans (H1.out.after_node hi ho)); clear hn1 ho c1 cn1)
  have hk2 := H2.out.node j hj
  have e2 : (({ S with c := lnc S.n S.c i j x } : NetV).upd i ((S.x i).link j x)).x j = S.x j := by
    show (if j = i then _ else S.x j) = S.x j
    rw [if_neg (fun e => hij e.symm)]
  rw [e2] at hk2
  have HL2 := Lib.hid (Eng.link_any (ly.nb j) (S.x j) i x w5 hk2)
  have c1 := H2.out.c1
  have cn1 := H2.out.cn hj
  clear hk2 e2
  go_wp2_with (go_at_call 48; (with_reducible refine (HL2.out).mono ?_); rintro e w6 ⟨rfl, hn1, ho⟩; have H3 := Lib.hid (H2.out.node_set hj hn1 ⟨wf_link (H.out.wf j hj).1 i x, (link_same _ i x).1.trans (H.out.wf j hj).2.1, (link_same _ i x).2.1.trans (H.out.wf j hj).2.2⟩ ho); have A3 := Lib.hid (A2.out.trans (H2.out.after_node hj ho)); clear hn1 ho c1 cn1)
  go_ret
  exact ⟨rfl, H3.out, A3.out⟩
set_option maxHeartbeats 1600000 in
theorem link_bad {base b : Nat} {ly : Lay} {S : NetV} (w : World) (h : IsNet w base b ly S) (i j x : Int) (hl : lnk S.n i j x ≠ 0) : Calls Try.prog 31 #[.pointer (some ⟨b, 0, none⟩), .int .i64 i, .int .i64 j, .int .i64 x] w fun e w' => e = .returned (.int .i64 (lnk S.n i j x)) ∧ w = w' := by
  have hg := GG.link_bad ly.g S.n S.c i j x w h.gr hl
  have x0 := h.c0
  generalize lnk S.n i j x = u at hg hl
  have hu : (u == 0) = false := by simpa using hl
  have HG := Lib.hid hg
  clear h hg hl
  go_enter Try.func31, Try.ntmps31
  go_wp2_with (go_at_call 47; (with_reducible refine (HG.out).mono ?_); rintro e w4 ⟨rfl, rfl⟩)
  go_ret
  exact ⟨rfl, rfl⟩
end Net
end Go.Proofs.Ytebkpjefdaieaaa

/-
  Package network: New, Next, Metrics, Far. Conditions: those that each theorem names.
-/
namespace Go.Proofs.Ytebkpjefdaieaaa
open Go.RowKit FR FP H2 OW
set_option linter.unusedVariables false
set_option linter.unusedSimpArgs false
namespace Net
open Eng GG
def ints (F : Nat → Int) (k : Nat) : List Value := (List.range k).map fun i => Value.int .i64 (F i)
theorem ints_succ (F : Nat → Int) (k : Nat) : ints F (k + 1) = ints F k ++ [.int .i64 (F k)] := by simp [ints, List.range_succ]
theorem ints_len (F : Nat → Int) (k : Nat) : (ints F k).length = k := by simp [ints]
theorem own_row {w : World} {base n : Nat} {v : Value} {F : Nat → Int} (h : w.ownsRow base 3 1 v n (ints F n)) : ∃ A c, v = .slice A n c ∧ Ints w A n F ∧ (∀ g o, A = some ⟨g, o, none⟩ → base ≤ g ∧ g < w.heap.size) := by
  rcases h.2 with ⟨rfl, rfl⟩ | ⟨g, cap, cur, rfl, hb, hh, hn, hm, hs, ht⟩
  · exact ⟨none, 0, rfl, fun i hi => by omega, fun g o e => by cases e⟩
  · refine ⟨some ⟨g, 0, none⟩, cap, rfl, fun i hi => ⟨g, 0, rfl, blk_lt hh, ?_⟩, fun g' o e => by cases e; exact ⟨hb, blk_lt hh⟩⟩
    rw [blk_cell hh]
    have e : (ints F n)[i]? = some (.int .i64 (F i)) := by simp [ints, hi]
    rw [← ht] at e
    simp only [Nat.zero_add]
    rw [← Array.getElem?_toList]
    rw [List.getElem?_take] at e
    split at e
    · exact e
    · cases e
set_option maxRecDepth 100000 in
set_option maxHeartbeats 8000000 in
theorem next_ok {base b : Nat} {ly : Lay} {S : NetV} (w : World) (h : IsNet w base b ly S) (d : Nat) (hd : d < S.n) : Calls Try.prog 19 #[.pointer (some ⟨b, 0, none⟩), .int .i64 d] w fun e w' => (∃ v, e = .returned v ∧ w'.ownsRow w.heap.size 3 1 v S.n (ints (fun i => ((S.x i).route d).1) S.n)) ∧ Below w.heap.size w w' := by
  obtain ⟨i0, hi, hz0, hz1, hz2⟩ := info_parts infoI
  have HI := Lib.hid hi
  have H := Lib.hid h
  have hn6 := h.n6
  have c1 := h.c1
  have d0 : (0 : Int) ≤ (d : Int) := by omega
  clear h hi
  go_enter Try.func19, Try.ntmps19
  go_upto_region 5 with (go_at_call 34; (with_reducible refine (at_ok w H.out d hd).mono ?_); rintro e w' ⟨rfl, rfl⟩)
  go_loopw [4, 25] (fun s4 s25 wr => ∃ (k : Nat) (sv : Value), k ≤ S.n ∧ s25 = .int .i64 k ∧ sv = s4 ∧ wr.ownsRow w.heap.size 3 1 sv k (ints (fun i => ((S.x i).route d).1) k) ∧ Below w.heap.size w wr) (fun _ s25 _ => S.n - (intOf s25).toNat)
  case atStart => exact ⟨0, _, by omega, rfl, rfl, by show w.ownsRow w.heap.size 3 1 (.slice none 0 0) 0 []; exact World.ownsRow_nil _ _ _ _, Below.refl _ _⟩
  case round =>
    obtain ⟨k, sv, hk, rfl, rfl, ho, hb⟩ := hrel
    have HO := Lib.hid ho
    have HB := Lib.hid hb
    clear ho hb
    by_cases hlt : k < S.n
    · have hlt' : (k : Int) < (S.n : Int) := by omega
      have k0 : (0 : Int) ≤ (k : Int) := by omega
      have hnet := H.out.below HB.out
      have cn := hnet.cn hlt
      have HRT := Lib.hid (route_any (ly.nb k) (S.x k) d wr (hnet.node k hlt) (H.out.wf k hlt).1)
      clear hnet
      go_upto_region 8 with (go_at_call 39; (with_reducible refine (HRT.out).mono ?_); rintro e w4 ⟨rfl, q4, rfl⟩; have HO1 := Lib.hid (own_drewN HO.out q4); have HB1 := Lib.hid (HB.out.trans (((Only.refl (fun _ => False) wr).drewN q4).below HB.out.size (fun _ _ e => e))))
      generalize wr.drewN q4 = W at HO1 HB1 ⊢
      generalize hF : ((S.x k).route d).1 = z
      have HS := Lib.hid (show ints (fun i => ((S.x i).route d).1) (k + 1) = ints (fun i => ((S.x i).route d).1) k ++ [.int .i64 z] by rw [ints_succ, ← hF])
      clear hF
      go_wp2_with (at_builtin; refine wpList_append_lies _ rfl (.tmp 36) (.tmp 38) 35 rfl w.heap.size 3 i0 _ 1 8 Try.underlying35 HI.out hz0 hz1 hz2 rfl (by omega) sv k _ rfl (HO1.out.alloc _) ⟨W.heap.size, 0, none⟩ 1 1 [.int .i64 z] rfl rfl (cell_one_new _ _ _) (by simp [Value.oneCell']) (by omega) (by unfold maxLen; omega) (by omega) (by have := HB1.out.size; simp; omega) (W.heap.size + 1) (by simp) ?_; intro g2 cap2 w8 hown1 hgrow1 hat1 hlt1; have HO2 := Lib.hid hown1; have HB2 := Lib.hid (OW.app_below HB1.out HO1.out hgrow1); clear hown1 hgrow1 hat1 hlt1)
      go_roundw
      case rel => exact ⟨k + 1, _, by omega, by go_num, rfl, by rw [HS.out]; exact HO2.out, HB2.out⟩
      case measure => simp [intOf]; omega
    · obtain rfl : k = S.n := by omega
      go_wp2
      go_ret
      exact ⟨⟨_, rfl, HO.out⟩, HB.out⟩
set_option maxHeartbeats 1600000 in
theorem next_bad {base b : Nat} {ly : Lay} {S : NetV} (w : World) (h : IsNet w base b ly S) (d : Int) (hd : GG.ok S.n d = false) : Calls Try.prog 19 #[.pointer (some ⟨b, 0, none⟩), .int .i64 d] w fun e w' => e = .returned (.slice none 0 0) ∧ w = w' := by
  have H := Lib.hid h
  clear h
  go_enter Try.func19, Try.ntmps19
  go_wp2_with (go_at_call 34; (with_reducible refine (at_bad w H.out d hd).mono ?_); rintro e w' ⟨rfl, rfl⟩)
  go_ret
  exact ⟨rfl, rfl⟩
set_option maxHeartbeats 1600000 in
theorem next_nil (d : Int) (w : World) : Calls Try.prog 19 #[.pointer none, .int .i64 d] w fun e w' => e = .returned (.slice none 0 0) ∧ w = w' := by
  go_enter Try.func19, Try.ntmps19
  go_wp2_with (go_at_call 34; (with_reducible refine (at_nil d w).mono ?_); rintro e w' ⟨rfl, rfl⟩)
  go_ret
  exact ⟨rfl, rfl⟩
set_option maxRecDepth 100000 in
set_option maxHeartbeats 8000000 in
theorem metrics_ok {base b : Nat} {ly : Lay} {S : NetV} (w : World) (h : IsNet w base b ly S) (d : Nat) (hd : d < S.n) : Calls Try.prog 17 #[.pointer (some ⟨b, 0, none⟩), .int .i64 d] w fun e w' => (∃ v, e = .returned v ∧ w'.ownsRow w.heap.size 3 1 v S.n (ints (fun i => ((S.x i).route d).2.1.1) S.n)) ∧ Below w.heap.size w w' := by
  obtain ⟨i0, hi, hz0, hz1, hz2⟩ := info_parts infoI
  have HI := Lib.hid hi
  have H := Lib.hid h
  have hn6 := h.n6
  have c1 := h.c1
  have d0 : (0 : Int) ≤ (d : Int) := by omega
  clear h hi
  go_enter Try.func17, Try.ntmps17
  go_upto_region 5 with (go_at_call 34; (with_reducible refine (at_ok w H.out d hd).mono ?_); rintro e w' ⟨rfl, rfl⟩)
  go_loopw [4, 25] (fun s4 s25 wr => ∃ (k : Nat) (sv : Value), k ≤ S.n ∧ s25 = .int .i64 k ∧ sv = s4 ∧ wr.ownsRow w.heap.size 3 1 sv k (ints (fun i => ((S.x i).route d).2.1.1) k) ∧ Below w.heap.size w wr) (fun _ s25 _ => S.n - (intOf s25).toNat)
  case atStart => exact ⟨0, _, by omega, rfl, rfl, by show w.ownsRow w.heap.size 3 1 (.slice none 0 0) 0 []; exact World.ownsRow_nil _ _ _ _, Below.refl _ _⟩
  case round =>
    obtain ⟨k, sv, hk, rfl, rfl, ho, hb⟩ := hrel
    have HO := Lib.hid ho
    have HB := Lib.hid hb
    clear ho hb
    by_cases hlt : k < S.n
    · have hlt' : (k : Int) < (S.n : Int) := by omega
      have k0 : (0 : Int) ≤ (k : Int) := by omega
      have hnet := H.out.below HB.out
      have cn := hnet.cn hlt
      have HRT := Lib.hid (route_any (ly.nb k) (S.x k) d wr (hnet.node k hlt) (H.out.wf k hlt).1)
      obtain ⟨⟨hm0, hm1⟩, hsq⟩ := route_range (S.x k) (H.out.wf k hlt).1 d
      clear hnet
      go_upto_region 8 with (go_at_call 39; (with_reducible refine (HRT.out).mono ?_); rintro e w4 ⟨rfl, q4, rfl⟩; have HO1 := Lib.hid (own_drewN HO.out q4); have HB1 := Lib.hid (HB.out.trans (((Only.refl (fun _ => False) wr).drewN q4).below HB.out.size (fun _ _ e => e))))
      generalize wr.drewN q4 = W at HO1 HB1 ⊢
      have HS0 := Lib.hid (ints_succ (fun i => ((S.x i).route d).2.1.1) k)
      obtain ⟨⟨z, zs⟩, hF⟩ : ∃ z, ((S.x k).route d).2.1 = z := ⟨_, rfl⟩
      have HS := Lib.hid (show ints (fun i => ((S.x i).route d).2.1.1) (k + 1) = ints (fun i => ((S.x i).route d).2.1.1) k ++ [.int .i64 z] by rw [HS0.out, hF])
      rw [hF] at hm0 hm1 hsq ⊢
      dsimp only at hm0 hm1 hsq ⊢
      have hsm : Sm z := ⟨hm0, by omega⟩
      clear hF HS0
      go_wp2_with (first
        | (go_at_call 40; (with_reducible refine (Feas.metric_any z zs hsm _).mono ?_); rintro e w5 ⟨rfl, rfl⟩)
        | (at_builtin; refine wpList_append_lies _ rfl (.tmp 36) (.tmp 39) 35 rfl w.heap.size 3 i0 _ 1 8 Try.underlying35 HI.out hz0 hz1 hz2 rfl (by omega) sv k _ rfl (HO1.out.alloc _) ⟨W.heap.size, 0, none⟩ 1 1 [.int .i64 z] rfl rfl (cell_one_new _ _ _) (by simp [Value.oneCell']) (by omega) (by unfold maxLen; omega) (by omega) (by have := HB1.out.size; simp; omega) (W.heap.size + 1) (by simp) ?_; intro g2 cap2 w8 hown1 hgrow1 hat1 hlt1; have HO2 := Lib.hid hown1; have HB2 := Lib.hid (OW.app_below HB1.out HO1.out hgrow1); clear hown1 hgrow1 hat1 hlt1))
      go_roundw
      case rel => exact ⟨k + 1, _, by omega, by go_num, rfl, by rw [HS.out]; exact HO2.out, HB2.out⟩
      case measure => simp [intOf]; omega
    · obtain rfl : k = S.n := by omega
      go_wp2
      go_ret
      exact ⟨⟨_, rfl, HO.out⟩, HB.out⟩
set_option maxHeartbeats 1600000 in
theorem metrics_bad {base b : Nat} {ly : Lay} {S : NetV} (w : World) (h : IsNet w base b ly S) (d : Int) (hd : GG.ok S.n d = false) : Calls Try.prog 17 #[.pointer (some ⟨b, 0, none⟩), .int .i64 d] w fun e w' => e = .returned (.slice none 0 0) ∧ w = w' := by
  have H := Lib.hid h
  clear h
  go_enter Try.func17, Try.ntmps17
  go_wp2_with (go_at_call 34; (with_reducible refine (at_bad w H.out d hd).mono ?_); rintro e w' ⟨rfl, rfl⟩)
  go_ret
  exact ⟨rfl, rfl⟩
set_option maxHeartbeats 1600000 in
theorem metrics_nil (d : Int) (w : World) : Calls Try.prog 17 #[.pointer none, .int .i64 d] w fun e w' => e = .returned (.slice none 0 0) ∧ w = w' := by
  go_enter Try.func17, Try.ntmps17
  go_wp2_with (go_at_call 34; (with_reducible refine (at_nil d w).mono ?_); rintro e w' ⟨rfl, rfl⟩)
  go_ret
  exact ⟨rfl, rfl⟩
set_option maxHeartbeats 1600000 in
theorem far_any {base b : Nat} {ly : Lay} {S : NetV} (w : World) (h : IsNet w base b ly S) (d : Nat) (hd : d < S.n) : Calls Try.prog 18 #[.pointer (some ⟨b, 0, none⟩), .int .i64 d] w fun e w' => (∃ gf F, e = .returned (.slice (some ⟨gf, 0, none⟩) S.n S.n) ∧ w.heap.size ≤ gf ∧ GG.Far w' gf S.n F ∧ GP.IsFar S.n S.c d F) ∧ Below w.heap.size w w' := by
  have x0 := h.c0
  have HF := Lib.hid (GG.far_ok ly.g S.n S.c d w h.gr hd h.good.sym h.good.low h.good.high)
  clear h
  go_enter Try.func18, Try.ntmps18
  go_wp2_with (go_at_call 41; (with_reducible refine (HF.out).mono ?_); rintro e w5 ⟨⟨gf, F, rfl, hr⟩, hb⟩; have HR := Lib.hid hr; have HB := Lib.hid hb; clear hr hb)
  go_ret
  exact ⟨⟨gf, F, rfl, HR.out⟩, HB.out⟩
set_option maxHeartbeats 1600000 in
theorem far_nil (d : Int) (w : World) : Calls Try.prog 18 #[.pointer none, .int .i64 d] w fun e w' => e = .returned (.slice none 0 0) ∧ w = w' := by
  go_enter Try.func18, Try.ntmps18
  go_wp2
  go_ret
  exact ⟨rfl, rfl⟩
end Net
end Go.Proofs.Ytebkpjefdaieaaa

/-
  Package network: New. Conditions: those that each theorem names.
-/
namespace Go.Proofs.Ytebkpjefdaieaaa
open Go.RowKit FR FP H2 OW
set_option linter.unusedVariables false
set_option linter.unusedSimpArgs false
namespace Net
open Eng GG
def ptrs (nb : Nat → Nat) (k : Nat) : List Value := (List.range k).map fun i => Value.pointer (some ⟨nb i, 0, none⟩)
theorem ptrs_succ (nb : Nat → Nat) (k b : Nat) : ptrs (fun i => if i = k then b else nb i) (k + 1) = ptrs nb k ++ [.pointer (some ⟨b, 0, none⟩)] := by
  unfold ptrs
  rw [List.range_succ, List.map_append]
  congr 1
  · apply List.map_congr_left
    intro i hi
    rw [List.mem_range] at hi
    dsimp only
    rw [if_neg (by omega)]
  · simp
theorem infoP : (Try.prog.info? 56).map (fun i => (i.zero, i.size, i.bytes)) = some (some (.pointer none), 1, 8) := by kernel_rfl
/-- a network without links -/
def NetV.new (n : Nat) : NetV := ⟨n, fun _ _ => 0, fun i => Eng.new i n, []⟩
/-- a network that is being made -/
structure Half (w0 w : World) (g b n k : Nat) (sv : Value) (nb : Nat → Nat) : Prop where
  blk : w.heap[b]? = some (.cells #[.pointer (some ⟨g, 0, none⟩), sv, .slice none 0 0] 55 (0, 0))
  row : w.ownsRow w0.heap.size 56 1 sv k (ptrs nb k)
  gr : IsG w g n (fun _ _ => 0)
  node : ∀ i, i < k → IsN w (nb i) (Eng.new i n) ∧ w0.heap.size ≤ nb i
  inj : ∀ i j, i < k → j < k → nb i = nb j → i = j
  bel : Below w0.heap.size w0 w
  lo : w0.heap.size ≤ b ∧ w0.heap.size ≤ g
theorem Half.below {w0 w w' : World} {g b n k : Nat} {sv : Value} {nb : Nat → Nat} (h : Half w0 w g b n k sv nb) (hb : Below w.heap.size w w') : Half w0 w' g b n k sv nb :=
  ⟨(hb.block b (blk_lt h.blk)).trans h.blk, own_keep h.row hb, GG.IsG.keep h.gr hb, fun i hi => ⟨(h.node i hi).1.keep hb, (h.node i hi).2⟩, h.inj, h.bel.trans (hb.mono h.bel.size), h.lo⟩
theorem Half.next {w0 w w1 : World} {g b n k bn : Nat} {sv v : Value} {nb : Nat → Nat} {o : Obj} (h : Half w0 w g b n k sv nb) (hn : IsN w bn (Eng.new k n)) (hbn : w0.heap.size ≤ bn) (hnew : ∀ i, i < k → nb i < bn)
    (ho : w1.ownsRow w0.heap.size 56 1 v (k + 1) (ptrs nb k ++ [.pointer (some ⟨bn, 0, none⟩)])) (hg : (w.alloc o).grownBy w1 sv.ownBlock) : Half w0 (w1.setCell ⟨b, 1, none⟩ v) g b n (k + 1) v (fun i => if i = k then bn else nb i) := by
  have hk : ∀ {i : Nat} {cs : Array Value} {t : TypeId} {fr : Nat × Nat}, w.heap[i]? = some (Obj.cells cs t fr) → t ≠ 56 → sv.ownBlock ≠ some i := fun h1 h2 => own_ne_blk h.row h1 (fun e => h2 e.symm)
  have ob := app_obj h.blk (hk h.blk (by decide)) hg
  have hs : ∀ {i : Nat} {cs : Array Value} {t : TypeId} {fr : Nat × Nat}, w1.heap[i]? = some (Obj.cells cs t fr) → t ≠ 55 → (w1.setCell ⟨b, 1, none⟩ v).heap[i]? = some (Obj.cells cs t fr) := fun {i cs t fr} h1 h2 =>
    (Only.setCell (Only.refl (fun i => i = b) w1) (p := ⟨b, 1, none⟩) (fun _ => rfl) v).obj h1 (fun e => by subst e; rw [ob] at h1; cases h1; exact h2 rfl)
  refine ⟨?_, ?_, ?_, fun i hi => ?_, fun i j hi hj => ?_, ?_, h.lo⟩
  · exact blk_set ob 1 v
  · rw [ptrs_succ]
    exact (Only.setCell (Only.refl (fun i => i = b) w1) (p := ⟨b, 1, none⟩) (fun _ => rfl) v).own ho (fun q hq e => by subst e; exact own_ne_blk ho ob (by decide) hq)
  · obtain ⟨⟨cs, h1, h2⟩, h3, h4⟩ := h.gr
    exact ⟨⟨cs, hs (t := 82) (app_obj h1 (hk h1 (by decide)) hg) (by decide), h2⟩, h3, h4⟩
  · by_cases e : i = k
    · subst e
      rw [if_pos rfl]
      obtain ⟨⟨cs, h1, h2⟩, h3, h4⟩ := hn
      exact ⟨⟨⟨cs, hs (t := 88) (app_obj h1 (hk h1 (by decide)) hg) (by decide), h2⟩, h3, h4⟩, hbn⟩
    · rw [if_neg e]
      obtain ⟨⟨⟨cs, h1, h2⟩, h3, h4⟩, h5⟩ := h.node i (by omega)
      exact ⟨⟨⟨cs, hs (t := 88) (app_obj h1 (hk h1 (by decide)) hg) (by decide), h2⟩, h3, h4⟩, h5⟩
  · by_cases e : i = k
    · subst e
      rw [if_pos rfl]
      by_cases e2 : j = i
      · subst e2; intro _; rfl
      · rw [if_neg e2]
        intro h1
        have := hnew j (by omega)
        omega
    · rw [if_neg e]
      by_cases e2 : j = k
      · subst e2
        rw [if_pos rfl]
        intro h1
        have := hnew i (by omega)
        omega
      · rw [if_neg e2]
        exact h.inj i j (by omega) (by omega)
  · have hb1 := OW.app_below h.bel h.row hg
    exact ((Only.refl (fun i => w0.heap.size ≤ i) w0).of_below hb1 |>.setCell (p := ⟨b, 1, none⟩) (fun _ => h.lo.1) v).below (Nat.le_refl _) (fun i hi e => by omega)
set_option maxRecDepth 100000 in
set_option maxHeartbeats 8000000 in
theorem new_any (n : Nat) (w : World) (h1 : 1 ≤ n) (h6 : n ≤ 6) : Calls Try.prog 11 #[.int .i64 n] w fun e w' => (∃ b ly, e = .returned (.tuple #[.pointer (some ⟨b, 0, none⟩), .int .i64 0]) ∧ IsNet w' w.heap.size b ly (NetV.new n)) ∧ Below w.heap.size w w' := by
  obtain ⟨i0, hi, hz0, hz1, hz2⟩ := info_parts infoP
  have HI := Lib.hid hi
  clear hi
  have HG := Lib.hid (GG.new_any (n : Int) w (by omega) (by omega))
  have HH : Half w ((w.alloc (.cells (#[Value.int .i64 n] ++ Array.replicate 36 (.int .i64 0)) 82)).alloc (.cells #[.pointer (some ⟨w.heap.size, 0, none⟩), .slice none 0 0, .slice none 0 0] 55)) w.heap.size (w.heap.size + 1) n 0 (.slice none 0 0) (fun _ => 0) := by
    refine ⟨?_, World.ownsRow_nil _ _ _ _, ?_, fun i hi => by omega, fun i j hi => by omega, ?_, by omega, by omega⟩
    · have := heap_alloc_new (w.alloc (.cells (#[Value.int .i64 n] ++ Array.replicate 36 (.int .i64 0)) 82)) (.cells #[.pointer (some ⟨w.heap.size, 0, none⟩), .slice none 0 0, .slice none 0 0] 55)
      simpa using this
    · exact GG.IsG.keep (GG.new_isG w n h1 h6) ((Below.refl _ _).alloc (Nat.le_refl _) _)
    · exact ((Below.refl _ _).alloc (Nat.le_refl _) _).alloc (by simp) _
  have HH := Lib.hid HH
  have k1 : (1 : Int) ≤ (n : Int) := by omega
  have k6 : (n : Int) ≤ 6 := by omega
  go_enter Try.func11, Try.ntmps11
  go_upto_region 4 with (go_at_call 26; (with_reducible refine (HG.out).mono ?_); rintro e w1 ⟨rfl, rfl⟩)
  go_upto_region 6 with fail
  generalize (w.alloc _).alloc _ = W at HH ⊢
  go_loopw [22] (fun s22 wr => ∃ (k : Nat) (sv : Value) (nb : Nat → Nat), k ≤ n ∧ s22 = .int .i64 k ∧ Half w wr w.heap.size (w.heap.size + 1) n k sv nb) (fun s22 _ => n - (intOf s22).toNat)
  case atStart => exact ⟨0, _, _, by omega, rfl, HH.out⟩
  case round =>
    obtain ⟨k, sv, nb, hk, rfl, hh⟩ := hrel
    have HW := Lib.hid hh
    clear hh HH
    by_cases hlt : k < n
    · have hlt' : (k : Int) < (n : Int) := by omega
      have k0 : (0 : Int) ≤ (k : Int) := by omega
      have HN := Lib.hid (Eng.new_any k n wr hlt h6)
      go_upto_region 11 with (go_at_call 27; (with_reducible refine (HN.out).mono ?_); rintro e w2 ⟨⟨bn, rfl, hn2, hb2, hl2⟩, hbel⟩; have N2 := Lib.hid hn2; have B2 := Lib.hid hb2; have HW2 := Lib.hid (HW.out.below hbel); clear hn2 hb2 hbel)
      obtain ⟨A, c, rfl⟩ := own_slice HW.out.row
      have y1 : w2.cell? ⟨w.heap.size + 1, 1, none⟩ = some (.slice A k c) := by rw [blk_cell HW2.out.blk]; rfl
      have hz : w.heap.size + 1 < w2.heap.size := blk_lt HW2.out.blk
      go_wp2_with (at_builtin; refine wpList_append_lies _ rfl (.tmp 38) (.tmp 40) 52 rfl w.heap.size 56 i0 _ 1 8 Try.underlying52 HI.out hz0 hz1 hz2 rfl (by omega) (.slice A k c) k _ rfl (HW2.out.row.alloc _) ⟨w2.heap.size, 0, none⟩ 1 1 [.pointer (some ⟨bn, 0, none⟩)] rfl rfl (cell_one_new _ _ _) (by simp [Value.oneCell']) (by omega) (by unfold maxLen; omega) (by omega) (by have := HW2.out.bel.size; simp; omega) (w2.heap.size + 1) (by simp) ?_; intro g2 cap2 w8 hown1 hgrow1 hat1 hlt1; have HO2 := Lib.hid hown1; have HG2 := Lib.hid hgrow1; have z1 := blk_cell (app_obj HW2.out.blk (own_ne_blk HW2.out.row HW2.out.blk (by decide)) hgrow1) 1; have z2 := blk_free (app_obj HW2.out.blk (own_ne_blk HW2.out.row HW2.out.blk (by decide)) hgrow1) 1; have hz8 : w.heap.size + 1 < w8.heap.size := (by have := app_size hgrow1; omega); clear hown1 hgrow1 hat1 hlt1 y1 hz)
      go_roundw
      case rel => exact ⟨k + 1, _, _, by omega, by go_num, HW2.out.next N2.out (by have := B2.out; have := HW.out.bel.size; omega) (fun i hi => by have := blk_lt (HW.out.node i hi).1.blk.choose_spec.1; have := B2.out; omega) HO2.out HG2.out⟩
      case measure => simp [intOf]; omega
    · obtain rfl : k = n := by omega
      go_wp2
      go_ret2
      obtain ⟨gn, cap, rfl, hgn, hcap, hgl⟩ := own_form HW.out.row (by omega)
      refine ⟨⟨_, ⟨w.heap.size, gn, cap, nb⟩, rfl, ⟨h1, h6, HW.out.gr, good_zero, ?_, fun i hi => (HW.out.node i hi).1, HW.out.inj, fun i hi => ⟨wf_new i k, rfl, rfl⟩, ⟨_, HW.out.blk, World.ownsRow_nil _ _ _ _⟩, fun v hv => (by cases hv), ⟨HW.out.lo.1, HW.out.lo.2, hgn, fun i hi => (HW.out.node i hi).2, HW.out.bel.size⟩⟩⟩, HW.out.bel⟩
      rcases HW.out.row.2 with ⟨h3, _⟩ | ⟨g', cap', cur, h3, _, hh, _, _, _, ht⟩
      · cases h3
      · cases h3
        refine ⟨cur, hh, fun i hi => ?_⟩
        have hi : i < k := hi
        have e : (ptrs nb k)[i]? = some (.pointer (some ⟨nb i, 0, none⟩)) := by simp [ptrs, hi]
        rw [← ht, List.getElem?_take] at e
        split at e
        · rw [← Array.getElem?_toList]; exact e
        · cases e
set_option maxHeartbeats 1600000 in
theorem new_bad (n : Int) (w : World) (h : n < 1 ∨ 6 < n) : Calls Try.prog 11 #[.int .i64 n] w fun e w' => e = .returned (.tuple #[.pointer none, .int .i64 1]) ∧ w = w' := by
  have HG := Lib.hid (GG.new_bad n w h)
  clear h
  go_enter Try.func11, Try.ntmps11
  go_wp2_with (go_at_call 26; (with_reducible refine (HG.out).mono ?_); rintro e w1 ⟨rfl, rfl⟩)
  go_ret2
  exact ⟨rfl, rfl⟩
end Net
end Go.Proofs.Ytebkpjefdaieaaa

/-
  Package network: tick, round, Settle. Conditions: those that each theorem names.
-/
namespace Go.Proofs.Ytebkpjefdaieaaa
open Go.RowKit FR FP H2 OW
set_option linter.unusedVariables false
set_option linter.unusedSimpArgs false
namespace Net
open Eng GG
theorem infoM : (Try.prog.info? 60).map (fun i => (i.zero, i.size, i.bytes)) = some (some (.agg #[.int .i64 0, .int .i64 0, .slice none 0 0]), 3, 40) := by kernel_rfl
/-- a message more -/
theorem IsNet.push {w w1 : World} {base b : Nat} {ly : Lay} {S : NetV} {wv nv : Value} {o : Obj} {v : MsgV} (h : IsNet w base b ly S) (hb : w.heap[b]? = some (.cells #[.pointer (some ⟨ly.g, 0, none⟩), .slice (some ⟨ly.gn, 0, none⟩) S.n ly.cap, wv] 55 (0, 0))) (hr : w.ownsRow base 60 3 wv S.m.length (cellsM S.m))
    (hv : v.fr < S.n ∧ v.to_ < S.n ∧ v.k ≤ 6 ∧ RdT w v.A v.k v.f ∧ SmO v.f v.k) (ho : w1.ownsRow base 60 3 nv (S.m.length + 1) (cellsM S.m ++ v.cells)) (hg : (w.alloc o).grownBy w1 wv.ownBlock) :
    IsNet (w1.setCell ⟨b, 2, none⟩ nv) base b ly { S with m := S.m ++ [v] } ∧ After base w (w1.setCell ⟨b, 2, none⟩ nv) := by
  have o1 : OnlyT (fun t => t = 60) w w1 := ((OnlyT.refl (fun t => t = 60) w).alloc o).grown hg (fun k hk hlt => by
    obtain ⟨cs, t, fr, h1, h2⟩ := own_type hr hk (T := fun t => t = 60) rfl
    exact ⟨cs, t, fr, (Below.heap_alloc w o k (blk_lt h1)).trans h1, h2⟩)
  have b1 := o1.obj hb (by decide)
  have hs : OnlyT (fun t => t = 55) w1 (w1.setCell ⟨b, 2, none⟩ nv) := (OnlyT.refl (fun t => t = 55) w1).setCell (p := ⟨b, 2, none⟩) (fun _ => ⟨_, _, _, b1, rfl⟩) nv
  have o2 : OnlyT (fun t => t = 60 ∨ t = 55) w (w1.setCell ⟨b, 2, none⟩ nv) := (o1.mono (fun _ e => .inl e)).trans (hs.mono (fun _ e => .inr e))
  refine ⟨⟨h.n1, h.n6, isG_only h.gr o2 (by decide), h.good, ?_, fun i hi => isN_only (h.node i hi) o2 (by decide), h.inj, h.wf, ⟨nv, blk_set b1 2 nv, ?_⟩, fun u hu => ?_, ?_⟩, ?_, o2.mono (fun t e => e.elim (fun e => .inr (.inr (.inr e))) (fun e => .inl e))⟩
  · obtain ⟨cs, x, y⟩ := h.nodes
    exact ⟨cs, o2.obj x (by decide), y⟩
  · have e : (S.m ++ [v]).length = S.m.length + 1 := by simp
    show (w1.setCell ⟨b, 2, none⟩ nv).ownsRow base 60 3 nv (S.m ++ [v]).length (cellsM (S.m ++ [v]))
    rw [e, cellsM_snoc]
    exact hs.own ho (by decide)
  · rcases List.mem_append.1 hu with hu | hu
    · obtain ⟨p, q, r, s, t⟩ := h.msg u hu
      exact ⟨p, q, r, s.onlyT o2 (by decide), t⟩
    · have : u = v := by simpa using hu
      subst this
      obtain ⟨p, q, r, s, t⟩ := hv
      exact ⟨p, q, r, s.onlyT o2 (by decide), t⟩
  · obtain ⟨p, q, r, u, t⟩ := h.lo
    exact ⟨p, q, r, u, Nat.le_trans t o2.size⟩
  · have hb1 : Below base w w1 := (((Only.refl (fun i => base ≤ i) w).alloc o).grown hg (fun k hk _ => (OW.own_base hr hk).1)).below h.lo.2.2.2.2 (fun i hi e => by omega)
    exact hb1.trans (((Only.refl (fun i => i = b) w1).setCell (p := ⟨b, 2, none⟩) (fun _ => rfl) nv).below (Nat.le_trans h.lo.2.2.2.2 o1.size) (fun i hi e => by have := h.lo.1; omega))
/-- a node that has told all of L -/
def tlAll (s : St) (L : List Nat) : St := L.foldl (fun (s : St) (b : Nat) => tl s (b : Int)) s
theorem tlAll_snoc (s : St) (L : List Nat) (b : Nat) : tlAll s (L ++ [b]) = tl (tlAll s L) b := by simp [tlAll]
theorem tlAll_same (s : St) : ∀ L : List Nat, (tlAll s L).id = s.id ∧ (tlAll s L).n = s.n := by
  intro L
  induction L generalizing s with
  | nil => exact ⟨rfl, rfl⟩
  | cons b L ih => exact ⟨(ih (tl s b)).1.trans (tl_same s b).1, (ih (tl s b)).2.trans (tl_same s b).2⟩
/-- the messages by which a node, that was s, told all of L -/
def IsMsgs (s : St) (a : Nat) : List Nat → List MsgV → Prop
  | [], ms => ms = []
  | b :: L, ms => ∃ v r, ms = v :: r ∧ v.fr = a ∧ v.to_ = b ∧ v.k = told_len s b ∧ v.f = s.offer b ∧ IsMsgs (tl s b) a L r
theorem isMsgs_snoc {a : Nat} : ∀ {s : St} {L : List Nat} {ms : List MsgV} {b : Nat} {v : MsgV}, IsMsgs s a L ms → v.fr = a → v.to_ = b → v.k = told_len (tlAll s L) b → v.f = (tlAll s L).offer b → IsMsgs s a (L ++ [b]) (ms ++ [v])
  | s, [], ms, b, v, h, h1, h2, h3, h4 => by
    have : ms = [] := h
    subst this
    exact ⟨v, [], rfl, h1, h2, h3, h4, rfl⟩
  | s, c :: L, ms, b, v, h, h1, h2, h3, h4 => by
    obtain ⟨u, r, rfl, k1, k2, k3, k4, k5⟩ := h
    exact ⟨u, r ++ [v], rfl, k1, k2, k3, k4, isMsgs_snoc k5 h1 h2 h3 h4⟩
/-- what tick makes of a network -/
def NetV.ticked (S : NetV) (a : Nat) (L : List Nat) (ms : List MsgV) : NetV := { S with x := fun i => if i = a then tlAll (S.x a) L else S.x i, m := S.m ++ ms }
theorem ticked_zero (S : NetV) (a : Nat) : S.ticked a [] [] = S := by
  unfold NetV.ticked
  have : (fun i => if i = a then tlAll (S.x a) [] else S.x i) = S.x := by
    funext i
    by_cases e : i = a
    · subst e; rw [if_pos rfl]; rfl
    · rw [if_neg e]
  rw [this]
  simp
theorem natN_row {w : World} {base : Nat} {v : Value} {L : List Nat} (h : w.ownsRow base 3 1 v L.length (natN L)) : ∃ A c, v = .slice A L.length c ∧ ∀ j (hj : j < L.length), ∃ g, A = some ⟨g, 0, none⟩ ∧ w.cell? ⟨g, j, none⟩ = some (.int .i64 (L[j] : Nat)) := by
  rcases h.2 with ⟨rfl, h0⟩ | ⟨g, cap, cur, rfl, hb, hh, hn, hm, hs, ht⟩
  · exact ⟨none, 0, by rw [h0], fun j hj => by omega⟩
  · refine ⟨some ⟨g, 0, none⟩, cap, rfl, fun j hj => ⟨g, rfl, ?_⟩⟩
    rw [blk_cell hh]
    have e : (natN L)[j]? = some (.int .i64 (L[j] : Nat)) := by simp [natN, hj]
    rw [← ht, List.getElem?_take] at e
    split at e
    · rw [← Array.getElem?_toList]; exact e
    · cases e
theorem nbl_get {c : Nat → Nat → Int} {a n j : Nat} (hj : j < (nbl c a n).length) : (nbl c a n)[j] < n ∧ 0 < c a (nbl c a n)[j] := (nbl_mem c a _ n).1 (List.getElem_mem hj)
theorem told_len_le (s : St) (t : Int) (n : Nat) (h : s.n ≤ n) : told_len s t ≤ n := by unfold told_len; split <;> omega
theorem take_snoc {L : List Nat} {j : Nat} (hj : j < L.length) : L.take (j + 1) = L.take j ++ [L[j]] := by
  rw [List.take_succ_eq_append_getElem hj]
set_option maxRecDepth 100000 in
set_option maxHeartbeats 8000000 in
theorem tick_full {base b : Nat} {ly : Lay} {S : NetV} (w : World) (h : IsNet w base b ly S) (hm : S.m.length ≤ 300) (a : Nat) (ha : a < S.n) (hbig : 300 < S.m.length + (nbl S.c a S.n).length) : Calls Try.prog 35 #[.pointer (some ⟨b, 0, none⟩), .int .i64 a] w fun e w' => e = .returned (.int .i64 7) ∧ IsNet w' base b ly S ∧ After base w w' := by
  have H := Lib.hid h
  have hn6 := h.n6
  have HNB := Lib.hid (neighbours_any w h a ha)
  have hll := nbl_len S.c a S.n
  generalize nbl S.c a S.n = L at HNB hll hbig
  clear h
  go_enter Try.func35, Try.ntmps35
  go_upto_region 2 with (go_at_call 49; (with_reducible refine (HNB.out).mono ?_); rintro e w1 ⟨⟨v, rfl, hv⟩, hb⟩; have HV := Lib.hid hv; have H1 := Lib.hid (H.out.below hb); have A1 := Lib.hid (H.out.after_below hb); clear hv hb)
  obtain ⟨A, c, rfl, hrow⟩ := natN_row HV.out
  obtain ⟨A2, c2, x2⟩ := H1.out.c2
  clear hrow
  have hbig' : (300 : Int) < (S.m.length : Int) + (L.length : Int) := by omega
  clear hbig
  go_wp2
  go_ret
  exact ⟨rfl, H1.out, A1.out⟩
set_option maxRecDepth 100000 in
set_option maxHeartbeats 8000000 in
theorem tick_ok {base b : Nat} {ly : Lay} {S : NetV} (w : World) (h : IsNet w base b ly S) (hm : S.m.length ≤ 300) (a : Nat) (ha : a < S.n) (hbig : ¬ 300 < S.m.length + (nbl S.c a S.n).length) : Calls Try.prog 35 #[.pointer (some ⟨b, 0, none⟩), .int .i64 a] w fun e w' =>
    (e = .returned (.int .i64 0) ∧ ∃ ms, IsMsgs (S.x a) a (nbl S.c a S.n) ms ∧ IsNet w' base b ly (S.ticked a (nbl S.c a S.n) ms)) ∧ After base w w' := by
  obtain ⟨i0, hi, hz0, hz1, hz2⟩ := info_parts infoM
  have HI := Lib.hid hi
  have H := Lib.hid h
  have hn6 := h.n6
  have HNB := Lib.hid (neighbours_any w h a ha)
  have hll := nbl_len S.c a S.n
  have HG := Lib.hid (fun j (hj : j < (nbl S.c a S.n).length) => nbl_get hj)
  generalize nbl S.c a S.n = L at HNB HG hll hbig ⊢
  clear h hi
  go_enter Try.func35, Try.ntmps35
  go_upto_region 2 with (go_at_call 49; (with_reducible refine (HNB.out).mono ?_); rintro e w1 ⟨⟨v, rfl, hv⟩, hb⟩; have HV := Lib.hid hv; have H1 := Lib.hid (H.out.below hb); have A1 := Lib.hid (H.out.after_below hb); clear hv hb)
  obtain ⟨A, c, rfl, hrow⟩ := natN_row HV.out
  obtain ⟨A2, c2, x2⟩ := H1.out.c2
  clear hrow
  have hbig' : (S.m.length : Int) + (L.length : Int) ≤ 300 := by omega
  go_upto_region 5 with fail
  clear x2
  go_loopw [24] (fun s24 wr => ∃ (j : Nat) (ms : List MsgV), j ≤ L.length ∧ s24 = .int .i64 j ∧ ms.length = j ∧ IsMsgs (S.x a) a (L.take j) ms ∧ IsNet wr base b ly (S.ticked a (L.take j) ms) ∧ After base w wr ∧ wr.ownsRow w.heap.size 3 1 (.slice A L.length c) L.length (natN L)) (fun s24 _ => L.length - (intOf s24).toNat)
  case atStart => exact ⟨0, [], by omega, rfl, rfl, rfl, by rw [List.take_zero, ticked_zero]; exact H1.out, A1.out, HV.out⟩
  case round =>
    obtain ⟨j, ms, hj, rfl, hlm, hms, hnet, haf, hrow⟩ := hrel
    have HMS := Lib.hid hms
    have N := Lib.hid hnet
    have AF := Lib.hid haf
    have R := Lib.hid hrow
    have HLM := Lib.hid hlm
    clear hms hnet haf hrow H1 A1 HV
    by_cases hlt : j < L.length
    · have hlt' : (j : Int) < (L.length : Int) := by omega
      have j0 : (0 : Int) ≤ (j : Int) := by omega
      obtain ⟨A', c', e', hcell⟩ := natN_row R.out
      cases e'
      obtain ⟨g, rfl, y⟩ := hcell j hlt
      have hbt := HG.out j hlt
      have HTS := Lib.hid (take_snoc hlt)
      generalize L[j] = t at y hbt HTS
      clear hcell
      have hx : (S.ticked a (L.take j) ms).x a = tlAll (S.x a) (L.take j) := by show (if a = a then _ else _) = _; rw [if_pos rfl]
      have hsm := tlAll_same (S.x a) (L.take j)
      have htd := told_any wr N.out a ha t
      have hwa := N.out.wf a ha
      rw [hx] at htd hwa
      have hk6 : told_len (tlAll (S.x a) (L.take j)) t ≤ 6 := told_len_le _ _ _ (by rw [hsm.2, (H.out.wf a ha).2.2]; exact hn6)
      have HSM := Lib.hid (smO_offer (tlAll (S.x a) (L.take j)) t (told_len (tlAll (S.x a) (L.take j)) t) hwa.1)
      have HTD := Lib.hid htd
      clear htd hx hsm hwa
      go_upto_region 8 with (go_at_call 21; (with_reducible refine (HTD.out).mono ?_); rintro e w4 ⟨⟨A4, c4, rfl, hr⟩, hn4, ha4⟩; have HR := Lib.hid hr; have N4 := Lib.hid hn4; have A4' := Lib.hid (AF.out.trans ha4); have R4 := Lib.hid (ha4.typ.own R.out (by unfold netT; decide)); clear hr hn4 ha4)
      obtain ⟨wv, hb4, hr4⟩ := N4.out.blk
      have HB4 := Lib.hid hb4
      have HR4 := Lib.hid hr4
      have hml : ((S.ticked a (L.take j) ms).upd a (tl (tlAll (S.x a) (L.take j)) t)).m.length = S.m.length + j := by
        show (S.m ++ ms).length = _
        rw [List.length_append, HLM.out]
      have hml2 : S.m.length + j ≤ 300 := by omega
      obtain ⟨A5, c5, rfl⟩ := own_slice hr4
      have z2 : w4.cell? ⟨b, 2, none⟩ = some (.slice A5 (((S.ticked a (L.take j) ms).upd a (tl (tlAll (S.x a) (L.take j)) t)).m.length) c5) := by rw [blk_cell hb4]; rfl
      have hlb := N4.out.lt
      have hlo := N4.out.lo.2.2.2.2
      rw [hml] at z2
      have HML := Lib.hid hml
      have HR5 := Lib.hid (show w4.ownsRow base 60 3 (.slice A5 (S.m.length + j) c5) (S.m.length + j) (cellsM ((S.ticked a (L.take j) ms).upd a (tl (tlAll (S.x a) (L.take j)) t)).m) by rw [← hml]; exact hr4)
      have hsz : ((cellsM ((S.ticked a (L.take j) ms).upd a (tl (tlAll (S.x a) (L.take j)) t)).m)).length = (S.m.length + j) * 3 := by rw [cellsM_len, hml]
      clear hb4 hr4 hml hsz
      go_wp2_with (at_builtin; refine wpList_append_lies _ rfl (.tmp 39) (.tmp 44) 53 rfl base 60 i0 _ 3 40 Try.underlying53 HI.out hz0 hz1 hz2 rfl (by omega) (.slice A5 (S.m.length + j) c5) (S.m.length + j) _ rfl (HR5.out.alloc _) ⟨w4.heap.size, 0, none⟩ 1 1 [.int .i64 a, .int .i64 t, .slice A4 (told_len (tlAll (S.x a) (L.take j)) t) c4] rfl rfl (three_cells _ _ _ _ _) (by simp [Value.oneCell']) (by omega) (by unfold maxLen; omega) (by omega) (by simp; omega) (w4.heap.size + 1) (by simp) ?_; intro g2 cap2 w8 hown1 hgrow1 hat1 hlt1; have HO2 := Lib.hid hown1; have HG2 := Lib.hid hgrow1; have hzb := app_obj HB4.out (own_ne_blk HR5.out HB4.out (by decide)) hgrow1; have z1 := blk_cell hzb 2; have z3 := blk_free hzb 2; have hz8 : b < w8.heap.size := (by have := app_size hgrow1; omega); clear hown1 hgrow1 hat1 hlt1 z2 hzb)
      go_roundw
      case rel =>
        have hp := N4.out.push (v := ⟨a, t, A4, told_len (tlAll (S.x a) (L.take j)) t, c4, (tlAll (S.x a) (L.take j)).offer t⟩) HB4.out HR4.out ⟨ha, hbt.1, hk6, HR.out, HSM.out⟩ (by rw [HML.out]; exact HO2.out) (by rw [HML.out]; exact HG2.out)
        refine ⟨j + 1, ms ++ [⟨a, t, A4, told_len (tlAll (S.x a) (L.take j)) t, c4, (tlAll (S.x a) (L.take j)).offer t⟩], by omega, by go_num, by rw [List.length_append, HLM.out]; rfl, by rw [HTS.out]; exact isMsgs_snoc HMS.out rfl rfl rfl rfl, ?_, A4'.out.trans hp.2, hp.2.typ.own R4.out (by unfold netT; decide)⟩
        have e : S.ticked a (L.take (j + 1)) (ms ++ [⟨a, t, A4, told_len (tlAll (S.x a) (L.take j)) t, c4, (tlAll (S.x a) (L.take j)).offer t⟩]) = { ((S.ticked a (L.take j) ms).upd a (tl (tlAll (S.x a) (L.take j)) t)) with m := ((S.ticked a (L.take j) ms).upd a (tl (tlAll (S.x a) (L.take j)) t)).m ++ [⟨a, t, A4, told_len (tlAll (S.x a) (L.take j)) t, c4, (tlAll (S.x a) (L.take j)).offer t⟩] } := by
          unfold NetV.ticked NetV.upd
          rw [HTS.out, tlAll_snoc]
          have e2 : (fun i => if i = a then tl (tlAll (S.x a) (L.take j)) t else S.x i) = (fun i => if i = a then tl (tlAll (S.x a) (L.take j)) t else if i = a then tlAll (S.x a) (L.take j) else S.x i) := by
            funext i
            by_cases e : i = a
            · rw [if_pos e, if_pos e]
            · rw [if_neg e, if_neg e, if_neg e]
          rw [e2, List.append_assoc]
        rw [e]
        exact hp.1
      case measure => simp [intOf]; omega
    · obtain rfl : j = L.length := by omega
      go_wp2
      go_ret
      rw [List.take_length] at HMS N
      exact ⟨⟨rfl, ms, HMS.out, N.out⟩, AF.out⟩
end Net
end Go.Proofs.Ytebkpjefdaieaaa

/-
  Package network: round, Settle. Conditions: those that each theorem names.
-/
namespace Go.Proofs.Ytebkpjefdaieaaa
open Go.RowKit FR FP H2 OW
set_option linter.unusedVariables false
set_option linter.unusedSimpArgs false
namespace Net
open Eng GG
/-- a tells t, who hears it -/
def NetV.say (S : NetV) (a t : Nat) : NetV := (S.upd a (tl (S.x a) t)).upd t (((S.upd a (tl (S.x a) t)).x t).hear a ((S.x a).offer t) (told_len (S.x a) t))
def NetV.sayAll (S : NetV) (a : Nat) (L : List Nat) : NetV := L.foldl (fun (S : NetV) (t : Nat) => S.say a t) S
theorem sayAll_snoc (S : NetV) (a : Nat) (L : List Nat) (t : Nat) : S.sayAll a (L ++ [t]) = (S.sayAll a L).say a t := by simp [NetV.sayAll]
theorem say_same (S : NetV) (a t : Nat) : (S.say a t).n = S.n ∧ (S.say a t).c = S.c ∧ (S.say a t).m = S.m := ⟨rfl, rfl, rfl⟩
theorem sayAll_same (a : Nat) : ∀ (L : List Nat) (S : NetV), (S.sayAll a L).n = S.n ∧ (S.sayAll a L).c = S.c ∧ (S.sayAll a L).m = S.m
  | [], S => ⟨rfl, rfl, rfl⟩
  | t :: L, S => sayAll_same a L (S.say a t)
/-- the first k nodes have told -/
def NetV.rounds (S : NetV) : Nat → NetV
  | 0 => S
  | k + 1 => (S.rounds k).sayAll k (nbl S.c k S.n)
theorem rounds_same (S : NetV) : ∀ k, (S.rounds k).n = S.n ∧ (S.rounds k).c = S.c ∧ (S.rounds k).m = S.m
  | 0 => ⟨rfl, rfl, rfl⟩
  | k + 1 => by
    have ih := rounds_same S k
    have h := sayAll_same k (nbl S.c k S.n) (S.rounds k)
    exact ⟨h.1.trans ih.1, h.2.1.trans ih.2.1, h.2.2.trans ih.2.2⟩
/-- how many are heard -/
def heard (c : Nat → Nat → Int) (n : Nat) : Nat → Nat
  | 0 => 0
  | k + 1 => heard c n k + (nbl c k n).length
theorem heard_le (c : Nat → Nat → Int) (n : Nat) : ∀ k, heard c n k ≤ k * n
  | 0 => by simp [heard]
  | k + 1 => by
    have := heard_le c n k
    have := nbl_len c k n
    unfold heard
    rw [Nat.succ_mul]
    omega
theorem int_own {w w' : World} {base n : Nat} {v : Value} {xs : List Value} {size : Nat} (h : OnlyT netT w w') (ho : w.ownsRow base 3 size v n xs) : w'.ownsRow base 3 size v n xs := h.own ho (by unfold netT; decide)
set_option maxRecDepth 100000 in
set_option maxHeartbeats 8000000 in
theorem round_any {base b : Nat} {ly : Lay} {S : NetV} (w : World) (h : IsNet w base b ly S) : Calls Try.prog 38 #[.pointer (some ⟨b, 0, none⟩)] w fun e w' => e = .returned (.int .i64 (heard S.c S.n S.n)) ∧ IsNet w' base b ly (S.rounds S.n) ∧ After base w w' := by
  have H := Lib.hid h
  have hn6 := h.n6
  have c1 := h.c1
  clear h
  go_enter Try.func38, Try.ntmps38
  go_upto_region 2 with fail
  go_loopw [2, 13] (fun s2 s13 wr => ∃ k : Nat, k ≤ S.n ∧ s13 = .int .i64 k ∧ s2 = .int .i64 (heard S.c S.n k) ∧ IsNet wr base b ly (S.rounds k) ∧ After base w wr) (fun _ s13 _ => S.n - (intOf s13).toNat)
  case atStart => exact ⟨0, by omega, rfl, rfl, H.out, After.refl _ _⟩
  case round =>
    obtain ⟨k, hk, rfl, rfl, hnet, haf⟩ := hrel
    have N := Lib.hid hnet
    have AF := Lib.hid haf
    clear hnet haf
    by_cases hlt : k < S.n
    · have hlt' : (k : Int) < (S.n : Int) := by omega
      have k0 : (0 : Int) ≤ (k : Int) := by omega
      have hs := rounds_same S k
      have hnb := neighbours_any wr N.out k (by rw [hs.1]; exact hlt)
      rw [hs.1, hs.2.1] at hnb
      have HNB := Lib.hid hnb
      have hll := nbl_len S.c k S.n
      have HG := Lib.hid (fun j (hj : j < (nbl S.c k S.n).length) => nbl_get hj)
      have hhl := heard_le S.c S.n k
      have hhl2 : heard S.c S.n k ≤ 36 := by
        have : k * S.n ≤ 6 * 6 := Nat.mul_le_mul (by omega) hn6
        omega
      have HRS := Lib.hid (show S.rounds (k + 1) = (S.rounds k).sayAll k (nbl S.c k S.n) from rfl)
      have HHS := Lib.hid (show heard S.c S.n (k + 1) = heard S.c S.n k + (nbl S.c k S.n).length from rfl)
      have HS := Lib.hid hs
      generalize nbl S.c k S.n = L at HNB HG hll HRS HHS
      generalize heard S.c S.n k = hd at hhl hhl2 HHS ⊢
      clear hnb hhl hs
      go_upto_region 5 with (go_at_call 49; (with_reducible refine (HNB.out).mono ?_); rintro e w1 ⟨⟨v, rfl, hv⟩, hb⟩; have HV := Lib.hid hv; have N1 := Lib.hid (N.out.below hb); have A1 := Lib.hid (AF.out.trans (N.out.after_below hb)); clear hv hb; obtain ⟨A, c, rfl, hrow⟩ := natN_row HV.out; clear hrow)
      go_loopw [2, 20] (fun s2 s20 w2 => ∃ j : Nat, j ≤ L.length ∧ s20 = .int .i64 j ∧ s2 = .int .i64 (hd + j : Nat) ∧ IsNet w2 base b ly ((S.rounds k).sayAll k (L.take j)) ∧ After base w w2 ∧ w2.ownsRow wr.heap.size 3 1 (.slice A L.length c) L.length (natN L)) (fun _ s20 _ => L.length - (intOf s20).toNat)
      case atStart => exact ⟨0, by omega, rfl, rfl, by rw [List.take_zero]; exact N1.out, A1.out, HV.out⟩
      case round =>
        rename_i wr2
        obtain ⟨j, hj, rfl, rfl, hnet, haf, hrow⟩ := hrel
        have M := Lib.hid hnet
        have MF := Lib.hid haf
        have R := Lib.hid hrow
        clear hnet haf hrow N1 A1 HV
        by_cases hltj : j < L.length
        · have hltj' : (j : Int) < (L.length : Int) := by omega
          have j0 : (0 : Int) ≤ (j : Int) := by omega
          obtain ⟨A', c', e', hcell⟩ := natN_row R.out
          cases e'
          obtain ⟨g, rfl, y⟩ := hcell j hltj
          have hbt := HG.out j hltj
          have HTS := Lib.hid (take_snoc hltj)
          generalize L[j] = t at y hbt HTS
          clear hcell
          have hss := sayAll_same k (L.take j) (S.rounds k)
          have hSn : ((S.rounds k).sayAll k (L.take j)).n = S.n := hss.1.trans HS.out.1
          have hka : k < ((S.rounds k).sayAll k (L.take j)).n := by rw [hSn]; exact hlt
          have hta : t < ((S.rounds k).sayAll k (L.take j)).n := by rw [hSn]; exact hbt.1
          generalize hT : (S.rounds k).sayAll k (L.take j) = T at M hka hta hSn hss
          have HT := Lib.hid hT
          clear hT hss
          have HTD := Lib.hid (told_any _ M.out k hka t)
          have hwk := M.out.wf k hka
          have hk6 : told_len (T.x k) t ≤ 6 := told_len_le _ _ _ (by rw [hwk.2.2, hSn]; exact hn6)
          have HSM := Lib.hid (smO_offer (T.x k) t (told_len (T.x k) t) hwk.1)
          have HHR := Lib.hid (fun (w5 : World) (A5 : Option Addr) (c5 : Nat) (hn : IsNet w5 base b ly (T.upd k (tl (T.x k) t))) (hr : RdT w5 A5 (told_len (T.x k) t) ((T.x k).offer t)) => hear_any w5 hn t hta k A5 _ c5 _ hk6 hr HSM.out)
          clear hwk
          go_wp2_with (first
            | (go_at_call 21; (with_reducible refine (HTD.out).mono ?_); rintro e w4 ⟨⟨A4, c4, rfl, hr⟩, hn4, ha4⟩; have HR := Lib.hid hr; have N4 := Lib.hid hn4; have A4' := Lib.hid (MF.out.trans ha4); have R4 := Lib.hid (int_own ha4.typ R.out); clear hr hn4 ha4)
            | (go_at_call 23; (with_reducible refine (HHR.out w4 A4 c4 N4.out HR.out).mono ?_); rintro e w5 ⟨rfl, hn5, ha5⟩; have N5 := Lib.hid hn5; have A5' := Lib.hid (A4'.out.trans ha5); have R5 := Lib.hid (int_own ha5.typ R4.out); clear hn5 ha5))
          go_roundw
          case rel => exact ⟨j + 1, by omega, by go_num, by go_num, by rw [HTS.out, sayAll_snoc, HT.out]; exact N5.out, A5'.out, R5.out⟩
          case measure => simp [intOf]; omega
        · obtain rfl : j = L.length := by omega
          go_wp2
          go_roundw
          case rel =>
            rw [List.take_length] at M
            exact ⟨k + 1, by omega, by go_num, by rw [HHS.out], by rw [HRS.out]; exact M.out, MF.out⟩
          case measure => simp [intOf]; omega
    · obtain rfl : k = S.n := by omega
      go_wp2
      go_ret
      exact ⟨rfl, N.out, AF.out⟩
end Net
end Go.Proofs.Ytebkpjefdaieaaa

/-
  Package network: Settle. Conditions: those that each theorem names.
-/
namespace Go.Proofs.Ytebkpjefdaieaaa
open Go.RowKit FR FP H2 OW
set_option linter.unusedVariables false
set_option linter.unusedSimpArgs false
namespace Net
open Eng GG
/-- a new number, if there is one -/
def fresh (s : St) : St := if s.seq = 4294967295 then s else { s with seq := s.seq + 1 }
theorem fresh_same (s : St) : (fresh s).id = s.id ∧ (fresh s).n = s.n ∧ (fresh s).cost = s.cost ∧ (fresh s).inn = s.inn ∧ (fresh s).told = s.told := by unfold fresh; split <;> exact ⟨rfl, rfl, rfl, rfl, rfl⟩
/-- what Fresh answers -/
def freshv (s : St) : Int := if s.seq = 4294967295 then 7 else 0
theorem fresh_all (b : Nat) (s : St) (w : World) (h : IsN w b s) (hw : Wf s) : Calls Try.prog 36 #[.pointer (some ⟨b, 0, none⟩)] w fun e w' => e = .returned (.int .i64 (freshv s)) ∧ IsN w' b (fresh s) ∧ Wf (fresh s) ∧ Only (fun i => i = b) w w' := by
  unfold fresh freshv
  by_cases ht : s.seq = 4294967295
  · rw [if_pos ht, if_pos ht]
    exact (fresh_top b s w h ht).mono fun e w' ⟨he, hw'⟩ => ⟨he, hw' ▸ h, hw, hw' ▸ Only.refl _ _⟩
  · rw [if_neg ht, if_neg ht]
    exact (Eng.fresh_any b s w h hw.seq ht).mono fun e w' ⟨he, hi, ho⟩ => ⟨he, hi, wf_fresh hw ht, ho⟩
/-- the first k nodes have new numbers; nothing is on the way -/
def NetV.fresh (S : NetV) (k : Nat) : NetV := { S with x := fun i => if i < k then Net.fresh (S.x i) else S.x i, m := [] }
/-- so many rounds -/
def NetV.spin (S : NetV) : Nat → NetV
  | 0 => S
  | k + 1 => (S.spin k).rounds S.n
theorem spin_same (S : NetV) : ∀ k, (S.spin k).n = S.n ∧ (S.spin k).c = S.c ∧ (S.spin k).m = S.m
  | 0 => ⟨rfl, rfl, rfl⟩
  | k + 1 => by
    have ih := spin_same S k
    have h := rounds_same (S.spin k) S.n
    exact ⟨h.1.trans ih.1, h.2.1.trans ih.2.1, h.2.2.trans ih.2.2⟩
/-- what Settle makes of a network -/
def NetV.settle (S : NetV) : NetV := (S.fresh S.n).spin S.n
theorem IsNet.clear {w : World} {base b : Nat} {ly : Lay} {S : NetV} (h : IsNet w base b ly S) : IsNet (w.setCell ⟨b, 2, none⟩ (.slice none 0 0)) base b ly (S.fresh 0) ∧ After base w (w.setCell ⟨b, 2, none⟩ (.slice none 0 0)) := by
  obtain ⟨wv, hb, hr⟩ := h.blk
  have o2 : OnlyT (fun t => t = 55) w (w.setCell ⟨b, 2, none⟩ (.slice none 0 0)) := (OnlyT.refl (fun t => t = 55) w).setCell (p := ⟨b, 2, none⟩) (fun _ => ⟨_, _, _, hb, rfl⟩) _
  refine ⟨⟨h.n1, h.n6, isG_only h.gr o2 (by decide), h.good, ?_, fun i hi => ?_, h.inj, fun i hi => ?_, ⟨.slice none 0 0, blk_set hb 2 _, World.ownsRow_nil _ _ _ _⟩, fun u hu => (by cases hu), ?_⟩, ?_, o2.mono (fun t e => .inl e)⟩
  · obtain ⟨cs, x, y⟩ := h.nodes
    exact ⟨cs, o2.obj x (by decide), y⟩
  · have e : (S.fresh 0).x i = S.x i := by show (if i < 0 then Net.fresh (S.x i) else S.x i) = _; rw [if_neg (by omega)]
    rw [e]
    exact isN_only (h.node i hi) o2 (by decide)
  · have e : (S.fresh 0).x i = S.x i := by show (if i < 0 then Net.fresh (S.x i) else S.x i) = _; rw [if_neg (by omega)]
    rw [e]
    exact h.wf i hi
  · obtain ⟨p, q, r, u, t⟩ := h.lo
    exact ⟨p, q, r, u, Nat.le_trans t o2.size⟩
  · exact ((Only.refl (fun i => i = b) w).setCell (p := ⟨b, 2, none⟩) (fun _ => rfl) _).below h.lo.2.2.2.2 (fun i hi e => by have := h.lo.1; omega)
theorem fresh_next (S : NetV) (k : Nat) : (S.fresh k).upd k (Net.fresh ((S.fresh k).x k)) = S.fresh (k + 1) := by
  unfold NetV.fresh NetV.upd
  have : (fun i => if i = k then Net.fresh (if k < k then Net.fresh (S.x k) else S.x k) else if i < k then Net.fresh (S.x i) else S.x i) = fun i => if i < k + 1 then Net.fresh (S.x i) else S.x i := by
    funext i
    by_cases e : i = k
    · subst e
      rw [if_pos rfl, if_neg (by omega), if_pos (by omega)]
    · rw [if_neg e]
      by_cases e2 : i < k
      · rw [if_pos e2, if_pos (by omega)]
      · rw [if_neg e2, if_neg (by omega)]
  show NetV.mk _ _ _ _ = _
  rw [this]
set_option maxRecDepth 100000 in
set_option maxHeartbeats 8000000 in
theorem settle_any {base b : Nat} {ly : Lay} {S : NetV} (w : World) (h : IsNet w base b ly S) : Calls Try.prog 14 #[.pointer (some ⟨b, 0, none⟩)] w fun e w' => e = .returned (.int .i64 (S.n * heard S.c S.n S.n : Nat)) ∧ IsNet w' base b ly S.settle ∧ After base w w' := by
  have H := Lib.hid h
  have hn6 := h.n6
  have c1 := h.c1
  obtain ⟨A2, c2, x2⟩ := h.c2
  have xf := h.free 2
  have hlt := h.lt
  have HC := Lib.hid h.clear
  clear h
  go_enter Try.func14, Try.ntmps14
  go_upto_region 4 with fail
  obtain ⟨hc, ha⟩ := HC.out
  have N0 := Lib.hid hc
  have A0 := Lib.hid ha
  clear hc ha x2 xf HC c1
  generalize w.setCell ⟨b, 2, none⟩ (.slice none 0 0) = W at N0 A0 ⊢
  have c1 := N0.out.c1
  have e0 : (S.fresh 0).n = S.n := rfl
  rw [e0] at c1
  clear e0
  go_upto_region 5 with fail
  go_loopw [15] (fun s15 wr => ∃ k : Nat, k ≤ S.n ∧ s15 = .int .i64 k ∧ IsNet wr base b ly (S.fresh k) ∧ After base w wr) (fun s15 _ => S.n - (intOf s15).toNat)
  case atStart => exact ⟨0, by omega, rfl, N0.out, A0.out⟩
  case round =>
    obtain ⟨k, hk, rfl, hnet, haf⟩ := hrel
    have N := Lib.hid hnet
    have AF := Lib.hid haf
    clear hnet haf N0 A0 c1
    by_cases hlt : k < S.n
    · have hlt' : (k : Int) < (S.n : Int) := by omega
      have k0 : (0 : Int) ≤ (k : Int) := by omega
      have hkn : k < (S.fresh k).n := hlt
      have y := N.out.cn hkn
      have hwk := N.out.wf k hkn
      have HFR := Lib.hid (fresh_all (ly.nb k) ((S.fresh k).x k) wr (N.out.node k hkn) hwk.1)
      have HWK := Lib.hid hwk
      have HKN := Lib.hid hkn
      clear hwk hkn
      go_wp2_with (go_at_call 36; (with_reducible refine (HFR.out).mono ?_); rintro e w4 ⟨rfl, hn4, hw4, ho4⟩; have N4 := Lib.hid (N.out.node_set HKN.out hn4 ⟨hw4, (fresh_same _).1.trans HWK.out.2.1, (fresh_same _).2.1.trans HWK.out.2.2⟩ ho4); have A4 := Lib.hid (AF.out.trans (N.out.after_node HKN.out ho4)); clear hn4 hw4 ho4)
      go_roundw
      case rel => exact ⟨k + 1, by omega, by go_num, by rw [← fresh_next]; exact N4.out, A4.out⟩
      case measure => simp [intOf]; omega
    · obtain rfl : k = S.n := by omega
      have c1 := N.out.c1
      have e0 : (S.fresh S.n).n = S.n := rfl
      rw [e0] at c1
      clear e0
      go_upto_region 10 with fail
      go_loopw [2, 27] (fun s2 s27 w2 => ∃ j : Nat, j ≤ S.n ∧ s27 = .int .i64 j ∧ s2 = .int .i64 (j * heard S.c S.n S.n : Nat) ∧ IsNet w2 base b ly ((S.fresh S.n).spin j) ∧ After base w w2) (fun _ s27 _ => S.n - (intOf s27).toNat)
      case atStart => exact ⟨0, by omega, rfl, by rw [Nat.zero_mul]; rfl, N.out, AF.out⟩
      case round =>
        obtain ⟨j, hj, rfl, rfl, hnet, haf⟩ := hrel
        have M := Lib.hid hnet
        have MF := Lib.hid haf
        clear hnet haf N AF c1
        by_cases hltj : j < S.n
        · have hltj' : (j : Int) < (S.n : Int) := by omega
          have j0 : (0 : Int) ≤ (j : Int) := by omega
          have hs := spin_same (S.fresh S.n) j
          have hrd := round_any _ M.out
          rw [hs.1, hs.2.1] at hrd
          have e1 : (S.fresh S.n).n = S.n := rfl
          have e2 : (S.fresh S.n).c = S.c := rfl
          rw [e1, e2] at hrd
          have HRD := Lib.hid hrd
          have hhl := heard_le S.c S.n S.n
          have hh36 : heard S.c S.n S.n ≤ 36 := by
            have : S.n * S.n ≤ 6 * 6 := Nat.mul_le_mul hn6 hn6
            omega
          have hj36 : j * heard S.c S.n S.n ≤ 216 := by
            have : j * heard S.c S.n S.n ≤ 6 * 36 := Nat.mul_le_mul (by omega) hh36
            omega
          have HMU := Lib.hid (Nat.succ_mul j (heard S.c S.n S.n))
          generalize heard S.c S.n S.n = hd at HRD hhl hh36 hj36 HMU
          generalize j * hd = z at hj36 HMU ⊢
          clear hs hrd e1 e2 hhl
          go_wp2_with (go_at_call 38; (with_reducible refine (HRD.out).mono ?_); rintro e w4 ⟨rfl, hn4, ha4⟩; have N4 := Lib.hid hn4; have A4 := Lib.hid (MF.out.trans ha4); clear hn4 ha4)
          go_roundw
          case rel => exact ⟨j + 1, by omega, by go_num, by rw [HMU.out]; go_num, N4.out, A4.out⟩
          case measure => simp [intOf]; omega
        · obtain rfl : j = S.n := by omega
          go_wp2
          go_ret
          exact ⟨rfl, M.out, MF.out⟩
set_option maxHeartbeats 1600000 in
theorem settle_nil (w : World) : Calls Try.prog 14 #[.pointer none] w fun e w' => e = .returned (.int .i64 0) ∧ w = w' := by
  go_enter Try.func14, Try.ntmps14
  go_wp2
  go_ret
  exact ⟨rfl, rfl⟩
end Net
end Go.Proofs.Ytebkpjefdaieaaa

/-
  slices.Delete of one message. Conditions: those that each theorem names.
-/
namespace Go.Proofs.Ytebkpjefdaieaaa
open Go.RowKit FR FP H2 OW
set_option linter.unusedVariables false
set_option linter.unusedSimpArgs false
namespace Net
open Eng GG
theorem cellsM_append (a b : List MsgV) : cellsM (a ++ b) = cellsM a ++ cellsM b := by simp [cellsM]
theorem cellsM_drop (m : List MsgV) (k : Nat) (hk : k ≤ m.length) : cellsM (m.drop k) = (cellsM m).drop (k * 3) := by
  have h : cellsM m = cellsM (m.take k) ++ cellsM (m.drop k) := by rw [← cellsM_append, List.take_append_drop]
  have hl : (cellsM (m.take k)).length = k * 3 := by rw [cellsM_len, List.length_take, Nat.min_eq_left hk]
  rw [h, List.drop_append_of_le_length (by omega), ← hl, List.drop_length, List.nil_append]
theorem cellsM_take (m : List MsgV) (k : Nat) (hk : k ≤ m.length) : cellsM (m.take k) = (cellsM m).take (k * 3) := by
  have h : cellsM m = cellsM (m.take k) ++ cellsM (m.drop k) := by rw [← cellsM_append, List.take_append_drop]
  have hl : (cellsM (m.take k)).length = k * 3 := by rw [cellsM_len, List.length_take, Nat.min_eq_left hk]
  rw [h, List.take_append_of_le_length (by omega), ← hl, List.take_length]
def zeroM : List Value := [.int .i64 0, .int .i64 0, .slice none 0 0]
theorem run_clear_one {P : Program} (w : World) (t e ty : TypeId) (z : Value) (ht : P.underlying t = some (.slice e)) (hv : ∀ w, (zeroValue e).run P w = .ok z w) (b o c : Nat)
    (h1 : ∀ v ∈ z.cells.toList, v.oneCell' = true) (hc : ∀ j, j < z.cells.toList.length → (w.cell? ⟨b, o + j, none⟩).isSome = true) (hf : ∀ j, j < z.cells.toList.length → w.frozen? ⟨b, o + j, none⟩ = false) :
    (Builtin.clear_ #[t] ty #[.slice (some ⟨b, o, none⟩) 1 c]).run P w = .ok (.tuple #[]) (w.setCells b o z.cells.toList) := by
  have hzc : (Builtin.zeroCells z.cells 1).toList = z.cells.toList := by
    simp [Builtin.zeroCells]
    apply List.ext_getElem
    · simp
    · intro i h1 h2
      have : i % z.cells.size = i := Nat.mod_eq_of_lt (by simpa using h2)
      simp only [List.getElem_map, List.getElem_range, this, Array.getElem_toList]
      exact getElem!_pos z.cells i (by simpa using h2)
  have hst := run_storeCells_cells (P := P) b o z.cells.toList 0 w (by simpa using hc) (by simpa using hf) h1
  simp only [Nat.add_zero] at hst
  simp [Builtin.clear_, run_underlying ht, hv, hzc, hst]
theorem oneCell_M (m : List MsgV) : ∀ u ∈ cellsM m, u.oneCell' = true := by
  intro u hu
  simp only [cellsM, List.mem_flatMap, MsgV.cells] at hu
  obtain ⟨v, _, hu⟩ := hu
  simp only [List.mem_cons, List.not_mem_nil, or_false] at hu
  rcases hu with rfl | rfl | rfl <;> rfl
theorem zeroM_run (w : World) : (zeroValue 60).run Try.prog w = .ok (.agg #[.int .i64 0, .int .i64 0, .slice none 0 0]) w := Try.zeroValue60 w
set_option maxRecDepth 1000000 in
set_option maxHeartbeats 8000000 in
theorem delete_any (base g n cap : Nat) (m : List MsgV) (k : Nat) (w : World) (hn : m.length = n) (hk : k < n) (hn3 : n ≤ 300) (h : w.ownsRow base 60 3 (.slice (some ⟨g, 0, none⟩) n cap) n (cellsM m)) :
    Calls Try.prog 30 #[.slice (some ⟨g, 0, none⟩) n cap, .int .i64 k, .int .i64 (k + 1 : Nat)] w fun e w' => e = .returned (.slice (some ⟨g, 0, none⟩) (n - 1) cap) ∧ w'.ownsRow base 60 3 (.slice (some ⟨g, 0, none⟩) (n - 1) cap) (n - 1) (cellsM (m.eraseIdx k)) ∧ Only (fun i => i = g) w w' := by
  obtain ⟨i0, hi0, hz0, hz1, hz2⟩ := info_parts infoM
  obtain ⟨cur, hb, hh, hnc, hcm, hsz, htk⟩ : ∃ cur, base ≤ g ∧ w.heap[g]? = some (.cells cur 60 (0, 0)) ∧ n ≤ cap ∧ cap ≤ maxLen ∧ cur.size = cap * 3 ∧ cur.toList.take (n * 3) = cellsM m := by
    rcases h.2 with ⟨h1, _⟩ | ⟨g', cap', cur, h1, a, b, c, d, e, f⟩
    · cases h1
    · cases h1; exact ⟨cur, a, b, c, d, e, f⟩
  have hget : ∀ p, p < n * 3 → cur[p]? = (cellsM m)[p]? := fun p hp => by rw [← htk, List.getElem?_take, if_pos hp, Array.getElem?_toList]
  obtain ⟨news, hnews⟩ : ∃ news, news = cellsM (m.drop (k + 1)) := ⟨_, rfl⟩
  have hlen : news.length = (n - (k + 1)) * 3 := by rw [hnews, cellsM_len, List.length_drop, hn]
  have hnd : news = (cellsM m).drop ((k + 1) * 3) := by rw [hnews, cellsM_drop _ _ (by omega)]
  obtain ⟨A, hA, hsrc⟩ : ∃ A : Addr, (if cap = k + 1 then (some ⟨g, 0, none⟩ : Option Addr) else some ⟨g, (k + 1) * 3, none⟩) = some A ∧ Hid (∀ t u, news[t]? = some u → w.drew.cell? (A.add t) = some u) := by
    by_cases hc : cap = k + 1
    · refine ⟨⟨g, 0, none⟩, by simp [hc], fun t u hu => ?_⟩
      have h0 : news.length = 0 := by rw [hlen]; omega
      rw [List.length_eq_zero_iff.1 h0] at hu
      simp at hu
    · refine ⟨⟨g, (k + 1) * 3, none⟩, by simp [hc], fun t u hu => ?_⟩
      have ht : t < news.length := (List.getElem?_eq_some_iff.1 hu).1
      rw [Addr.add_lit]
      show w.cell? ⟨g, (k + 1) * 3 + t, none⟩ = some u
      rw [blk_cell hh, hget _ (by omega), ← hu, hnd, List.getElem?_drop]
  have s1 := Lib.hid hlen
  have s2 : Hid (∀ u ∈ news, u.oneCell' = true) := by rw [hnews]; exact oneCell_M _
  have s3 : Hid (∀ t, t < news.length → (w.drew.cell? ⟨g, 0 + k * 3 + t, none⟩).isSome = true ∧ w.drew.frozen? ⟨g, 0 + k * 3 + t, none⟩ = false) := fun t ht => by
    refine ⟨?_, blk_free hh _⟩
    show (w.cell? ⟨g, 0 + k * 3 + t, none⟩).isSome = true
    rw [blk_cell hh, Array.getElem?_eq_getElem (by omega)]
    rfl
  obtain ⟨W1, hW1⟩ : ∃ W1, W1 = w.drew.setCells g (0 + k * 3) news := ⟨_, rfl⟩
  obtain ⟨cur1, hb1, hs1, hc1⟩ := blk_cells news (0 + k * 3) (w := w.drew) hh
  rw [← hW1] at hb1
  have ho1 : Only (fun i => i = g) w W1 := by rw [hW1]; exact Only.setCells (g := g) news (0 + k * 3) ((Only.refl (fun i => i = g) w).drew) (fun _ => rfl)
  have hcl : ∀ ty, (Builtin.clear_ #[53] ty #[.slice (some ⟨g, (n - 1) * 3, none⟩) 1 (cap - (n - 1))]).run Try.prog W1 = .ok (.tuple #[]) (W1.setCells g ((n - 1) * 3) zeroM) :=
    fun ty => run_clear_one W1 _ _ ty _ Try.underlying53 zeroM_run g ((n - 1) * 3) _ (by decide) (fun j hj => by
      have hj : j < 3 := hj
      rw [blk_cell hb1, Array.getElem?_eq_getElem (by omega)]; rfl) (fun j _ => blk_free hb1 _)
  obtain ⟨cur2, hb2, hs2, hc2⟩ := blk_cells zeroM ((n - 1) * 3) hb1
  have ho2 : Only (fun i => i = g) w (W1.setCells g ((n - 1) * 3) zeroM) := Only.setCells (g := g) zeroM ((n - 1) * 3) ho1 (fun _ => rfl)
  have hfin : (W1.setCells g ((n - 1) * 3) zeroM).ownsRow base 60 3 (.slice (some ⟨g, 0, none⟩) (n - 1) cap) (n - 1) (cellsM (m.eraseIdx k)) := by
    have hel : (m.eraseIdx k).length = n - 1 := by rw [List.length_eraseIdx_of_lt (by omega), hn]
    refine ⟨by rw [cellsM_len, hel], .inr ⟨g, cap, cur2, rfl, hb, hb2, by omega, hcm, by omega, ?_⟩⟩
    apply List.ext_getElem?
    intro p
    by_cases hp : p < (n - 1) * 3
    · rw [List.getElem?_take, if_pos hp, Array.getElem?_toList, hc2 p, if_neg (by omega), hc1 p]
      rw [List.eraseIdx_eq_take_drop_succ, cellsM_append, ← hnews, cellsM_take _ _ (by omega)]
      have hl : ((cellsM m).take (k * 3)).length = k * 3 := by rw [List.length_take, cellsM_len]; omega
      by_cases hp2 : k * 3 ≤ p
      · rw [if_pos ⟨by omega, by rw [hlen]; omega, by omega⟩, List.getElem?_append_right (by omega), hl, Nat.zero_add]
      · rw [if_neg (by omega), List.getElem?_append_left (by omega), List.getElem?_take, if_pos (by omega), hget p (by omega)]
    · rw [List.getElem?_eq_none (by rw [List.length_take]; omega), List.getElem?_eq_none (by rw [cellsM_len, hel]; omega)]
  have HF := Lib.hid hfin
  have HO := Lib.hid ho2
  have hW := Lib.hid hW1
  have HA := Lib.hid hA
  have k0 : (0 : Int) ≤ (k : Int) := by omega
  have k1 : (k : Int) + 1 ≤ (n : Int) := by omega
  have k2 : (n : Int) ≤ (cap : Int) := by omega
  have hkc : k ≤ cap := by omega
  have hkc1 : k + 1 ≤ cap := by omega
  have hkn : k + 1 ≤ n := by omega
  have hcl63 : (cap : Int) ≤ 9223372036854775807 := by unfold maxLen at hcm; omega
  have hne : ((k : Int) == ((k + 1 : Nat) : Int)) = false := by simp; omega
  clear hfin ho2 hW1 hb1 hs1 hc1 ho1 hb2 hs2 hc2 hget hlen hnd hnews hh htk hsz h hA
  go_enter Try.func30, Try.ntmps30
  go_upto_region 5 with fail
  have hA2 := HA.out
  have h263 : (k : Int) + 1 ≤ (cap : Int) := by omega
  have h264 : (0 : Int) ≤ (k : Int) + 1 := by omega
  go_region_law (refine step_append_room rfl (.tmp 22) (.tmp 25) 53 rfl 60 i0 3 Try.underlying53 hi0 hz1 g 0 k cap (by simp [Act.eval, Act.put]) A (n - (k + 1)) (cap - (k + 1)) news (by simp [Act.eval, Act.put]) s1.out hsrc.out s2.out (by omega) s3.out ?_; rw [← hW.out])
  have e1 : k + (n - (k + 1)) = n - 1 := by omega
  rw [e1]
  have e2 : ((n - 1 : Nat) : Int) ≤ (n : Int) := by omega
  have e3 : (0 : Int) ≤ ((n - 1 : Nat) : Int) := by omega
  have e4 : n - (n - 1) = 1 := by omega
  have e5 : ¬ cap = n - 1 := by omega
  go_wp2
  go_ret
  exact ⟨rfl, HF.out, HO.out⟩
end Net
end Go.Proofs.Ytebkpjefdaieaaa
