/-
  Maps whose elements are looked at as they are: what a map holds as a function of its keys; at keys that are pairs of whole numbers, and at whole numbers. Conditions: those that each theorem names.
-/
import Derived.Test.YtcmknllefnahkaaBelowP
import Derived.Maps.OwnSet
import Derived.Maps.Views
import Derived.WideKeyPair
import Derived.DeepKeys4
namespace Go.Proofs.Ytcmknllefnahkaa
open Go.RowKit FR FP H2 OW
set_option linter.unusedVariables false
set_option linter.unusedSimpArgs false
namespace MapP
set_option maxRecDepth 100000
open Go.Maps Go.WideMaps
abbrev RV : Value → Option (DataW Value × List MemPlace) := fun v => some (.held v, [])
/-- block b is a map of at most n entries in which key l holds F l; z stands where there is none -/
def MapF (w : World) (k : TypeId) (b n : Nat) (z : Value) (F : Lit → Value) : Prop := ∃ D : DataW Value, w.ownsMap Try.prog k RV b n D ∧ ∀ l, D.atKey l (.held z) = .held (F l)
theorem made (w : World) (k : TypeId) (z : Value) : MapF (w.alloc (.map #[] 0)) k w.heap.size 0 z (fun _ => z) := ⟨_, World.ownsMap_made w Try.prog k RV, fun l => WideAt.atKey_none _ (by simp)⟩
theorem MapF.obj {w w' : World} {k : TypeId} {b n : Nat} {z : Value} {F : Lit → Value} (h : MapF w k b n z F) (ho : w'.heap[b]? = w.heap[b]?) : MapF w' k b n z F := by
  obtain ⟨D, ⟨es, clock, hb, r⟩, hF⟩ := h
  exact ⟨D, ⟨es, clock, ho.trans hb, r⟩, hF⟩
theorem MapF.lt {w : World} {k : TypeId} {b n : Nat} {z : Value} {F : Lit → Value} (h : MapF w k b n z F) : b < w.heap.size := h.choose_spec.1.lt
theorem MapF.below {w w' : World} {k : TypeId} {b n : Nat} {z : Value} {F : Lit → Value} (h : MapF w k b n z F) (hb : Below w.heap.size w w') : MapF w' k b n z F := h.obj (hb.block b h.lt)
theorem MapF.only {S : Nat → Prop} {w w' : World} {k : TypeId} {b n : Nat} {z : Value} {F : Lit → Value} (h : MapF w k b n z F) (ho : Only S w w') (hS : ¬ S b) : MapF w' k b n z F := h.obj (ho.block b h.lt hS)
theorem MapF.grown {w w' : World} {row : Option Nat} {k : TypeId} {b n : Nat} {z : Value} {F : Lit → Value} (h : MapF w k b n z F) (hg : w.grownBy w' row) (hne : some b ≠ row) : MapF w' k b n z F := h.obj (hg.block b h.lt hne)
theorem MapF.mono {w : World} {k : TypeId} {b n n' : Nat} {z : Value} {F : Lit → Value} (h : MapF w k b n z F) (hn : n ≤ n') : MapF w k b n' z F := ⟨h.choose, h.choose_spec.1.mono hn, h.choose_spec.2⟩
theorem MapF.look {w : World} {k t e : TypeId} {b n : Nat} {z : Value} {F : Lit → Value} (h : MapF w k b n z F) (K : Keyed Try.prog k) (ht : Try.prog.underlying t = some (.map k e)) (hz : (zeroValue e).run Try.prog w = .ok z w) {key : Value} {kl : Lit} (hk : keyOf Try.prog k key = some kl) :
    (Instr.lookup t (.map (some b)) key false).run Try.prog w = .ok (F kl) w := by
  obtain ⟨D, hD, hF⟩ := h
  obtain ⟨v, ps, hrun, hv⟩ := hD.lookup K ht hz rfl hk
  have e := hF kl
  simp only [Option.some.injEq, Prod.mk.injEq] at hv
  rw [← hv.1] at e
  cases e
  exact hrun
open Classical in
theorem MapF.put {w : World} {k t e : TypeId} {b n : Nat} {z : Value} {F : Lit → Value} (h : MapF w k b n z F) (K : Keyed Try.prog k) (ht : Try.prog.underlying t = some (.map k e)) (hn : n < maxLen) {key : Value} {kl : Lit} (hk : keyOf Try.prog k key = some kl) (v : Value) :
    ∃ w', (Instr.mapUpdate t (.map (some b)) key v).run Try.prog w = .ok () w' ∧ MapF w' k b (n + 1) z (fun l => if l = kl then v else F l) ∧ w.grownBy w' (some b) := by
  obtain ⟨D, hD, hF⟩ := h
  obtain ⟨w', hrun, h1, h2⟩ := hD.update K ht hn hk (rfl : RV v = some (.held v, []))
  refine ⟨w', hrun, ⟨_, h1, fun l => ?_⟩, h2⟩
  show _ = DataW.held (if l = kl then v else F l)
  by_cases hl : l = kl
  · subst hl
    rw [if_pos rfl]
    exact atKey_put_same (hD.isMap) (K.key hk) _ _
  · rw [if_neg hl]
    exact (atKey_put_other hl _ _).trans (hF l)
theorem kI : Keyed Try.prog 3 := int_keyed Try.underlying3
theorem arr : ArrKey Try.prog 73 3 2 := ⟨Try.underlying73, by kernel_rfl, by kernel_rfl, by kernel_rfl⟩
theorem laid : laidOutB Try.prog = true := by kernel_rfl
theorem rowP : (73 : TypeId) < Try.prog.types.size := of_decide_eq_true (by kernel_rfl)
theorem wideP : (match Try.prog.underlying 73 with | some (.array _ _) | some (.struct _) => true | _ => false) = true := by rw [Try.underlying73]
theorem kP : Keyed Try.prog 73 := Keyed.of_law (deep_law_laid laid (m := 2) (by omega) rowP (by kernel_rfl) wideP)
theorem zeroD (w : World) : (zeroValue 55).run Try.prog w = .ok (.complex .f64 0 0) w := by kernel_rfl
theorem zeroI (w : World) : (zeroValue 3).run Try.prog w = .ok (.int .i64 0) w := by kernel_rfl
theorem sizeP : ∃ m, Try.prog.types.size = m + 1 := ⟨_, (Nat.succ_pred_eq_of_pos (Nat.lt_of_le_of_lt (Nat.zero_le _) rowP)).symm⟩
open Feas Eng RefN BelowP
def pk (d k : Nat) : Lit := .string (keyBytes [.int .i64 d, .int .i64 k])
theorem wfN {d : Nat} (h : d < 6) : (Lit.int .i64 (d : Int)).wf = true := by
  rcases d with _|_|_|_|_|_|d <;> first | decide | omega
theorem pk_key {d k : Nat} (hd : d < 6) (hk : k < 6) : keyOf Try.prog 73 (.agg #[.int .i64 (d : Int), .int .i64 (k : Int)]) = some (pk d k) :=
  keyOf_pair arr Try.underlying3 sizeP (wfN hd) (wfN hk)
theorem pk_inj {d k d' k' : Nat} (hd : d < 6) (hk : k < 6) (hd' : d' < 6) (hk' : k' < 6) (h : pk d k = pk d' k') : d = d' ∧ k = k' := by
  have e := kP.inj (pk_key hd hk) (h ▸ pk_key hd' hk')
  simp at e
  omega
/-- block b is the map of what was heard -/
def HeardOK (w : World) (b : Nat) (h : Hd) (n : Nat) : Prop := ∃ F, MapF w 73 b n (.complex .f64 0 0) F ∧ ∀ d k, d < 6 → k < 6 → F (pk d k) = dp (h d k)
/-- block b is the map of what links cost -/
def CostOK (w : World) (b : Nat) (c : Nat → Int) (n : Nat) : Prop := ∃ F, MapF w 3 b n (.int .i64 0) F ∧ ∀ k : Nat, k < 6 → F (.int .i64 (k : Int)) = .int .i64 (c k)
theorem heard_made (w : World) : HeardOK (w.alloc (.map #[] 0)) w.heap.size (fun _ _ => (0, 0)) 0 := ⟨_, made w _ _, fun _ _ _ _ => by show Value.complex .f64 0 0 = Value.complex .f64 (floatOfInt .f64 0) (floatOfInt .f64 0); rw [fi_zero]⟩
theorem cost_made (w : World) : CostOK (w.alloc (.map #[] 0)) w.heap.size (fun _ => 0) 0 := ⟨_, made w _ _, fun _ _ => rfl⟩
theorem HeardOK.obj {w w' : World} {b n : Nat} {h : Hd} (x : HeardOK w b h n) (ho : w'.heap[b]? = w.heap[b]?) : HeardOK w' b h n := ⟨x.choose, x.choose_spec.1.obj ho, x.choose_spec.2⟩
theorem CostOK.obj {w w' : World} {b n : Nat} {c : Nat → Int} (x : CostOK w b c n) (ho : w'.heap[b]? = w.heap[b]?) : CostOK w' b c n := ⟨x.choose, x.choose_spec.1.obj ho, x.choose_spec.2⟩
theorem HeardOK.lt {w : World} {b n : Nat} {h : Hd} (x : HeardOK w b h n) : b < w.heap.size := x.choose_spec.1.lt
theorem CostOK.lt {w : World} {b n : Nat} {c : Nat → Int} (x : CostOK w b c n) : b < w.heap.size := x.choose_spec.1.lt
theorem MapF.blk {w : World} {k : TypeId} {b n : Nat} {z : Value} {F : Lit → Value} (h : MapF w k b n z F) : ∃ es clock, w.heap[b]? = some (.map es clock) := by
  obtain ⟨D, ⟨es, clock, hb, r⟩, hF⟩ := h
  exact ⟨es, clock, hb⟩
theorem HeardOK.mono {w : World} {b n n' : Nat} {h : Hd} (x : HeardOK w b h n) (hn : n ≤ n') : HeardOK w b h n' := ⟨x.choose, x.choose_spec.1.mono hn, x.choose_spec.2⟩
theorem CostOK.mono {w : World} {b n n' : Nat} {c : Nat → Int} (x : CostOK w b c n) (hn : n ≤ n') : CostOK w b c n' := ⟨x.choose, x.choose_spec.1.mono hn, x.choose_spec.2⟩
theorem HeardOK.look {w : World} {b n : Nat} {h : Hd} (x : HeardOK w b h n) {d k : Nat} (hd : d < 6) (hk : k < 6) : (Instr.lookup 67 (.map (some b)) (.agg #[.int .i64 (d : Int), .int .i64 (k : Int)]) false).run Try.prog w = .ok (dp (h d k)) w := by
  obtain ⟨F, hm, hF⟩ := x
  have e := hm.look kP Try.underlying67 (zeroD w) (pk_key hd hk)
  rw [hF d k hd hk] at e
  exact e
theorem CostOK.look {w : World} {b n : Nat} {c : Nat → Int} (x : CostOK w b c n) {k : Nat} (hk : k < 6) : (Instr.lookup 68 (.map (some b)) (.int .i64 (k : Int)) false).run Try.prog w = .ok (.int .i64 (c k)) w := by
  obtain ⟨F, hm, hF⟩ := x
  have e := hm.look kI Try.underlying68 (zeroI w) (keyOf_int_mk Try.underlying3 (wfN hk))
  rw [hF k hk] at e
  exact e
theorem HeardOK.put {w : World} {b n : Nat} {h : Hd} (x : HeardOK w b h n) (hn : n < maxLen) {d k : Nat} (hd : d < 6) (hk : k < 6) (p : Int × Int) :
    ∃ w', (Instr.mapUpdate 67 (.map (some b)) (.agg #[.int .i64 (d : Int), .int .i64 (k : Int)]) (dp p)).run Try.prog w = .ok () w' ∧ HeardOK w' b (hset h d k p) (n + 1) ∧ w.grownBy w' (some b) := by
  obtain ⟨F, hm, hF⟩ := x
  obtain ⟨w', hrun, h1, h2⟩ := hm.put kP Try.underlying67 hn (pk_key hd hk) (dp p)
  refine ⟨w', hrun, ⟨_, h1, fun d' k' hd' hk' => ?_⟩, h2⟩
  show _ = dp (if d' = d ∧ k' = k then p else h d' k')
  by_cases he : d' = d ∧ k' = k
  · obtain ⟨rfl, rfl⟩ := he
    rw [if_pos rfl, if_pos ⟨rfl, rfl⟩]
  · rw [if_neg (fun e => he (pk_inj hd' hk' hd hk e)), if_neg he]
    exact hF d' k' hd' hk'
theorem CostOK.put {w : World} {b n : Nat} {c : Nat → Int} (x : CostOK w b c n) (hn : n < maxLen) {k : Nat} (hk : k < 6) (v : Int) :
    ∃ w', (Instr.mapUpdate 68 (.map (some b)) (.int .i64 (k : Int)) (.int .i64 v)).run Try.prog w = .ok () w' ∧ CostOK w' b (fun j => if j = k then v else c j) (n + 1) ∧ w.grownBy w' (some b) := by
  obtain ⟨F, hm, hF⟩ := x
  obtain ⟨w', hrun, h1, h2⟩ := hm.put kI Try.underlying68 hn (keyOf_int_mk Try.underlying3 (wfN hk)) (.int .i64 v)
  refine ⟨w', hrun, ⟨_, h1, fun k' hk' => ?_⟩, h2⟩
  show _ = Value.int .i64 (if k' = k then v else c k')
  by_cases he : k' = k
  · subst he
    rw [if_pos rfl, if_pos rfl]
  · rw [if_neg (fun e => he (by simp at e; omega)), if_neg he]
    exact hF k' hk'
theorem isN_obj {w w' : World} {b : Nat} {s : St} (h : IsN w b s) (ho : w'.heap[b]? = w.heap[b]?) : IsN w' b s := by
  obtain ⟨⟨cs, h1, h2⟩, h3, h4⟩ := h
  exact ⟨⟨cs, ho.trans h1, h2⟩, h3, h4⟩
/-- all that a round of EngineBelow goes by -/
structure All (w wr : World) (bx b9 b10 : Nat) (s : St) (h : Hd) (c : Nat → Int) (N : Nat) : Prop where
  nd : Nd w wr bx s
  hm : HeardOK wr b9 h N
  cm : CostOK wr b10 c N
  lo : w.heap.size ≤ b9 ∧ w.heap.size ≤ b10 ∧ b9 ≠ b10
variable {w wr w' : World} {bx b9 b10 N : Nat} {s s' : St} {h h' : Hd} {c c' : Nat → Int}
theorem All.ne (a : All w wr bx b9 b10 s h c N) : b9 ≠ bx ∧ b10 ≠ bx := by
  obtain ⟨cs, hb, _⟩ := a.nd.isn.blk
  obtain ⟨es, k, h1⟩ := a.hm.choose_spec.1.blk
  obtain ⟨es2, k2, h2⟩ := a.cm.choose_spec.1.blk
  exact ⟨fun e => (by rw [e, hb] at h1; cases h1), fun e => (by rw [e, hb] at h2; cases h2)⟩
theorem All.below (a : All w wr bx b9 b10 s h c N) (hb : Below wr.heap.size wr w') : All w w' bx b9 b10 s h c N :=
  ⟨a.nd.keep hb, a.hm.obj (hb.block _ a.hm.lt), a.cm.obj (hb.block _ a.cm.lt), a.lo⟩
theorem All.alloc (a : All w wr bx b9 b10 s h c N) (o : Obj) : All w (wr.alloc o) bx b9 b10 s h c N := a.below ((Below.refl _ _).alloc (Nat.le_refl _) o)
theorem All.drew (a : All w wr bx b9 b10 s h c N) : All w wr.drew bx b9 b10 s h c N := a.below ((Below.refl _ _).drew)
theorem All.drewN (a : All w wr bx b9 b10 s h c N) (q : Nat) : All w (wr.drewN q) bx b9 b10 s h c N := a.below (((Only.refl (fun _ => False) wr).drewN q).below (Nat.le_refl _) (fun _ _ e => e))
theorem All.node (a : All w wr bx b9 b10 s h c N) (hn : Nd w w' bx s') (ho : Only (fun i => i = bx) wr w') : All w w' bx b9 b10 s' h c N :=
  ⟨hn, a.hm.obj (ho.block _ a.hm.lt a.ne.1), a.cm.obj (ho.block _ a.cm.lt a.ne.2), a.lo⟩
theorem grown_bel {w wr w' : World} {b : Nat} (hb : Below w.heap.size w wr) (hg : wr.grownBy w' (some b)) (hl : w.heap.size ≤ b) : Below w.heap.size w w' :=
  hb.trans (((Only.refl (fun k => k = b) wr).grown hg (fun k hk _ => (Option.some.inj hk).symm)).below hb.size (fun i h1 h2 => by omega))
theorem All.put9 (a : All w wr bx b9 b10 s h c N) (hm : HeardOK w' b9 h' (N + 1)) (hg : wr.grownBy w' (some b9)) : All w w' bx b9 b10 s h' c (N + 1) :=
  ⟨⟨isN_obj a.nd.isn (hg.block bx a.nd.lt (fun e => a.ne.1 (Option.some.inj e).symm)), a.nd.wf, grown_bel a.nd.bel hg a.lo.1, a.nd.new⟩, hm,
    (a.cm.obj (hg.block _ a.cm.lt (fun e => a.lo.2.2 (Option.some.inj e).symm))).mono (Nat.le_succ _), a.lo⟩
theorem All.put10 (a : All w wr bx b9 b10 s h c N) (hm : CostOK w' b10 c' (N + 1)) (hg : wr.grownBy w' (some b10)) : All w w' bx b9 b10 s h c' (N + 1) :=
  ⟨⟨isN_obj a.nd.isn (hg.block bx a.nd.lt (fun e => a.ne.2 (Option.some.inj e).symm)), a.nd.wf, grown_bel a.nd.bel hg a.lo.2.1, a.nd.new⟩,
    (a.hm.obj (hg.block _ a.hm.lt (fun e => a.lo.2.2 (Option.some.inj e)))).mono (Nat.le_succ _), hm, a.lo⟩
/-- a row of the law's grows -/
theorem All.app {size n : Nat} {e : TypeId} {v : Value} {xs : List Value} {o : Obj} (a : All w wr bx b9 b10 s h c N) (hr : wr.ownsRow w.heap.size e size v n xs) (hne : e ≠ 83) (hg : (wr.alloc o).grownBy w' v.ownBlock) : All w w' bx b9 b10 s h c N := by
  have hmap : ∀ b es k, wr.heap[b]? = some (.map es k) → some b ≠ v.ownBlock := fun b es k hb he => by
    rcases hr.2 with ⟨rfl, _⟩ | ⟨g, cap, cur, rfl, _, hh, _⟩
    · simp [Value.ownBlock] at he
    · have : b = g := by simpa [Value.ownBlock] using he
      subst this
      rw [hh] at hb
      cases hb
  obtain ⟨es, k, h1⟩ := a.hm.choose_spec.1.blk
  obtain ⟨es2, k2, h2⟩ := a.cm.choose_spec.1.blk
  have a2 := a.alloc o
  exact ⟨⟨a.nd.isn.app (own_ne_blk hr a.nd.isn.blk.choose_spec.1 hne) hg, a.nd.wf, app_below a.nd.bel hr hg, a.nd.new⟩,
    a2.hm.obj (hg.block _ a2.hm.lt (hmap _ _ _ h1)), a2.cm.obj (hg.block _ a2.cm.lt (hmap _ _ _ h2)), a.lo⟩
theorem All.mono (a : All w wr bx b9 b10 s h c N) {N' : Nat} (hn : N ≤ N') : All w wr bx b9 b10 s h c N' := ⟨a.nd, a.hm.mono hn, a.cm.mono hn, a.lo⟩
theorem blk_app {w w1 : World} {g base size n : Nat} {e t : TypeId} {v : Value} {xs : List Value} {o : Obj} {cs : Array Value} {fr : Nat × Nat} (hx : w.heap[g]? = some (.cells cs t fr)) (ho : w.ownsRow base e size v n xs) (hne : e ≠ t) (hg : (w.alloc o).grownBy w1 v.ownBlock) : w1.heap[g]? = some (.cells cs t fr) :=
  (hg.block g (by have := blk_lt hx; simp; omega) (fun he => own_ne_blk ho hx hne he.symm)).trans ((Below.heap_alloc w o g (blk_lt hx)).trans hx)
theorem blk_map {w w1 : World} {g b N : Nat} {cs : Array Value} {t : TypeId} {fr : Nat × Nat} {k : TypeId} {z : Value} {F : Lit → Value} (hx : w.heap[g]? = some (.cells cs t fr)) (hm : MapF w k b N z F) (hg : w.grownBy w1 (some b)) : w1.heap[g]? = some (.cells cs t fr) := by
  obtain ⟨es, cl, hb⟩ := hm.blk
  refine (hg.block g (blk_lt hx) (fun he => ?_)).trans hx
  have : g = b := Option.some.inj he
  subst this
  rw [hx] at hb
  cases hb
/-- a row stays as maps, or the node, turn -/
theorem row_map {base size n b N : Nat} {e : TypeId} {v : Value} {xs : List Value} {k : TypeId} {z : Value} {F : Lit → Value} (hr : wr.ownsRow base e size v n xs) (hm : MapF wr k b N z F) (hg : wr.grownBy w' (some b)) : w'.ownsRow base e size v n xs := by
  obtain ⟨es, cl, hb⟩ := hm.blk
  refine hr.kept hg (.inr fun he => ?_)
  rcases hr.2 with ⟨rfl, _⟩ | ⟨g, cap, cur, rfl, _, hh, _⟩
  · simp [Value.ownBlock] at he
  · have : g = b := by simpa [Value.ownBlock] using he
    subst this
    rw [hh] at hb
    cases hb
end MapP
end Go.Proofs.Ytcmknllefnahkaa
