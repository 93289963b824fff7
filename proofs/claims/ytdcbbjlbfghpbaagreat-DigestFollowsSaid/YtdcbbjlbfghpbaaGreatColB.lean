/-
  slices.Values, Collect, AppendSeq, SortedFunc at routes. Conditions: those that each theorem names.
-/
import Derived.Test.YtdcbbjlbfghpbaaGreatDc
namespace Go.Proofs.YtdcbbjlbfghpbaaGreat
open Go Go.RowKit H2
set_option linter.unusedVariables false
set_option linter.unusedSimpArgs false
namespace Tab
attribute [local go_sem] Oper.semAt_some
set_option maxRecDepth 100000 in
set_option maxHeartbeats 4000000 in
theorem values1_nil (F : Fence) (n : Nat) (hF : F.fn 57) (hro : F.round = none) (l Bs c : Nat) (J : List Rt → World → Prop) (W : World) (hBs : W.cell? ⟨Bs, 0, none⟩ = some (.slice none 0 c)) (h0 : J [] W) :
    CallsIn F n Tryz.prog 57 #[.func (.yield l) #[] #[], .pointer (some ⟨Bs, 0, none⟩)] W fun e W' => (∃ v, e = .returned v) ∧ J [] W' := by
  refine callsIn_of_wp Tryz.func57 rfl hF ?_ hro
  simp only [Tryz.ntmps57, List.size_toArray, List.length_cons, List.length_nil, Nat.reduceAdd, Nat.reduceSub, Array.replicate_succ, Array.replicate_zero, List.push_toArray, List.append_toArray, List.nil_append, List.cons_append]
  gi_wp2
  gi_loopw [7] (fun i wr => i = .int .i64 0 ∧ J [] wr) (fun _ _ => 0)
  case atStart => exact ⟨rfl, h0⟩
  case round =>
    obtain ⟨rfl, hJs⟩ := hrel
    gi_wp2
    go_end0
    exact ⟨⟨_, rfl⟩, hJs⟩
theorem values_any (a : Option Addr) (len cap : Nat) (w : World) : Calls Tryz.prog 28 #[.slice a len cap] w fun e w' => e = .returned (.func (.func 57) #[] #[.pointer (some ⟨w.heap.size, 0, none⟩)]) ∧ w.alloc (.cells #[.slice a len cap] 22) = w' := by
  go_enter Tryz.func28, Tryz.ntmps28
  go_wp2
  go_ret
  exact ⟨rfl, rfl⟩
theorem values_stops (F : Fence) (n : Nat) (hF : F.fn 57) (hro : F.round = none) (hn : 1 ≤ n) (Bs n₀ : Nat) (sv : Value) (L : List Rt) (hreach : L.length ≤ 1000000) (w : World) (hBs : Bs < w.heap.size) (hn₀ : n₀ ≤ w.heap.size)
    (hc : w.cell? ⟨Bs, 0, none⟩ = some sv) (hI : Rds n₀ w sv L) :
    SeqStopsK F n Tryz.prog 57 #[.pointer (some ⟨Bs, 0, none⟩)] (fun x : Rt => #[Value.agg (encR x).toArray]) (Below n₀) (fun ys => ys = L) (fun pre => pre <+: L) L.length w := fun l J Jx W hW hJ _ hY h0 => by
  have hc' := (hW.cell (p := ⟨Bs, 0, none⟩) hBs).trans hc
  rcases hI.below (hW.mono hn₀) with ⟨c, rfl, rfl⟩ | ⟨b, off, cap, rfl, hb, _, hcs⟩
  · exact (values1_nil F n hF hro l Bs c J W hc' h0).mono fun e W' ⟨he, hj⟩ => ⟨he, .inl ⟨_, rfl, hj⟩⟩
  · refine (values1_in F n hF hro hn l Bs n₀ b off cap L hreach hb J Jx (fun pre W o h => hJ pre W _ none h (World.grownBy_alloc W o none) (fun r e => by cases e)) W (Nat.le_trans hn₀ hW.size) hY hc' hcs h0).mono ?_
    rintro e W' ⟨he, hj | ⟨pre, hp, hj⟩⟩
    · exact ⟨he, .inl ⟨_, rfl, hj⟩⟩
    · exact ⟨he, .inr ⟨_, hp, hj⟩⟩
theorem infoR : (Tryz.prog.info? 36).map (fun i => (i.zero, i.size, i.bytes)) = some (some (.agg (encR zR).toArray), 20, 48) := by kernel_rfl
/-- a block that holds a route stays while others turn -/
def HasR (x : Rt) (A : Nat → Act) (B0 : Nat) (a' : Act) (W : World) : Prop := ∃ Bx, B0 ≤ Bx ∧ W.heap[Bx]? = some (.cells (encR x).toArray 36 (0, 0)) ∧ a' = A Bx
theorem hasR_own (x : Rt) (A : Nat → Act) (B0 B : Nat) (a' : Act) : OwnFrom B (fun (_ : Unit) W => HasR x A B0 a' W) := by
  rintro _ W W' row ⟨Bx, h1, h2, h3⟩ hg hr
  refine ⟨Bx, h1, (hg.block Bx (blk_lt h2) (fun e => ?_)).trans h2, h3⟩
  obtain ⟨_, o, ho, hc⟩ := hr Bx e.symm
  rw [h2] at ho
  cases ho
  cases hc
def ColI (w : World) (pre : List Rt) (W : World) : Prop := (∃ v, Boxed W w.heap.size 22 v ∧ W.ownsRow w.heap.size 36 20 v pre.length (flat pre) ∧ (v = .slice none 0 0 ↔ pre = [])) ∧ Below w.heap.size w W
theorem colI_own (w : World) (B : Nat) (hB : w.heap.size ≤ B) : OwnFrom B (ColI w) :=
  OwnFrom.and (Own.from (holdsRow_own w.heap.size w.heap.size 22 36 20 (fun pre : List Rt => pre.length) (fun pre => flat pre) (fun pre v => v = .slice none 0 0 ↔ pre = [])) _) (ownFrom_below (Nat.le_refl _) hB)
def ColA (w : World) (Bs : Nat) (x : Rt) (a' : Act) (W : World) : Prop := HasR x (fun Bx => { tmps := #[.slice none 0 0, .func (.func 57) #[] #[.pointer (some ⟨Bs, 0, none⟩)], .pointer (some ⟨w.heap.size, 0, none⟩), undef, .slice none 0 0, .pointer (some ⟨Bx, 0, none⟩), .func (.func 57) #[] #[.pointer (some ⟨Bs, 0, none⟩)], .agg (encR x).toArray, undef, undef, undef, undef, undef], defers := [] }) (w.heap.size + 1) a' W
set_option maxRecDepth 100000 in
set_option maxHeartbeats 1000000 in
theorem appendSeq_in (F : Fence) (n : Nat) (hF1 : F.fn 78) (hF : F.fn 57) (hro : F.round = none) (hn : 3 ≤ n) (Bs : Nat) (sv : Value) (L : List Rt) (hreach : L.length ≤ 1000000) (w : World) (hBs : Bs < w.heap.size)
    (hc : w.cell? ⟨Bs, 0, none⟩ = some sv) (hI : Rds w.heap.size w sv L) :
    CallsIn F n Tryz.prog 78 #[.slice none 0 0, .func (.func 57) #[] #[.pointer (some ⟨Bs, 0, none⟩)]] w fun e W' => ∃ v, e = .returned v ∧ W'.ownsRow w.heap.size 36 20 v L.length (flat L) ∧ (v = .slice none 0 0 ↔ L = []) ∧ Below w.heap.size w W' := by
  have h1 : 1 ≤ n := by omega
  obtain ⟨i0, hi, hz0, hz1, hz2⟩ := info_parts infoR
  refine callsIn_of_wp_marks Tryz.func78 rfl hF1 ?_ hro
  simp only [Tryz.ntmps78, List.size_toArray, List.length_cons, List.length_nil, Nat.reduceAdd, Nat.reduceSub, Array.replicate_succ, Array.replicate_zero, List.push_toArray, List.append_toArray, List.nil_append, List.cons_append]
  gi_wp2
  have bO := Boxed.new w 22 (.slice none 0 0)
  have hB0 : Below w.heap.size w (w.alloc (.cells #[.slice none 0 0] 22)) := (Below.refl _ w).alloc (Nat.le_refl _) _
  have hstops := values_stops F (n - 1) hF hro (by omega) Bs w.heap.size sv L hreach (w.alloc (.cells #[.slice none 0 0] 22)) (by simp; omega) (by simp) (later hB0 hc) (hI.below hB0)
  have hown := colI_own w (w.alloc (.cells #[.slice none 0 0] 22)).heap.size (by simp)
  have h0 : ColI w [] (w.alloc (.cells #[.slice none 0 0] 22)) := ⟨⟨_, bO, World.ownsRow_nil _ _ _ _, by simp⟩, hB0⟩
  have hax : ∀ x a', OwnFrom (w.alloc (.cells #[.slice none 0 0] 22)).heap.size (fun (_ : Unit) W => ColA w Bs x a' W) := fun x a' => hasR_own x _ _ _ a'
  have eg := enters_of Tryz.func57 (by kernel_rfl) rfl
  refine wpIn_rangeFunc_ownH hro h1 (gf := 57) (lb := #[.pointer (some ⟨Bs, 0, none⟩)]) rfl hF eg hstops belowK_t (belowK_b (by simp)) (Below.refl _ _) (fun _ => rfl) (ColI w) (fun _ _ _ => False) hown (fun _ _ _ _ _ hs _ _ => hs) h0 (ColA w Bs) hax ?assign ?body ?done ?stop
  case assign =>
    rintro l pre x W K ⟨⟨v, hv, hrow, hnil⟩, hB⟩ hK
    have hst := store_new W x
    have hlt := hv.lt
    gi_wp2
    exact hK _ _ ((KeepsOthers.alloc _ _).from _) ((Below.refl _ W).alloc hB.size _) ⟨⟨v, hv.alloc _, hrow.alloc _, hnil⟩, hB.alloc hB.size _⟩ ⟨W.heap.size, by omega, heap_alloc_new W _, rfl⟩
  case body =>
    rintro l pre x a' W hl ⟨r, hr⟩ ⟨⟨v, hv, hrow, hnil⟩, hB⟩ ⟨Bx, hBx, hbx, rfl⟩ hlt
    have hc2 := hv.cell
    have hld := (at_row hbx).load (k := n20) (encR_n _) Tryz.prog
    gi_wp2_with (first
      | (refine wpListIn_row_run (o := ⟨some 10, .buildSlice 22 1 #[(0, .tmp 9)], _, _, _, _⟩) rfl 22 1 #[(0, .tmp 9)] rfl #[(0, .agg (encR x).toArray)] (by simp [Act.eval]) (row_R1 x W) ?_)
      | (gi_at_builtin; refine wpListIn_append_own _ rfl _ _ 22 rfl w.heap.size 36 i0 _ 20 48 Tryz.underlying22 hi hz0 hz1 hz2 (by simp [Value.cells, encR_len]) (by decide) v pre.length (flat pre) rfl (hrow.alloc _) ⟨W.heap.size, 0, none⟩ 1 1 (encR x) rfl (by rw [encR_len]) (fun j u hj => by rw [Addr.add_lit]; exact at_new W (encR x) _ _ j u hj) (encR_one x) (by unfold maxLen; omega) (by omega) (by have := hB.size; simp; omega) ?_; intro v' w1 hown' hgrow _; obtain ⟨g', cap', rfl⟩ := ownsRow_succ hown'; obtain ⟨hv1, hv2, hr2, hk2, hb2⟩ := hv.appended (by decide) hrow hB.size (Nat.le_refl _) hown' hgrow; have hc1 := hv1.cell; have hf1 := hv1.frozen))
    exact ⟨hk2.from _, hb2, ⟨_, hv2, by rw [flat_app, flat_one, List.length_append]; exact hr2, by simp⟩, hB.trans hb2⟩
  case done =>
    rintro D ys W hD rfl ⟨⟨v, hv, hrow, hnil⟩, hB⟩ hK
    have hc2 := hv.cell
    gi_wp2
    refine ⟨by simp, .inl ⟨_, _, rfl, run_takeDeferred hK, ?_⟩⟩
    exact ⟨_, results_tmp rfl _ _ _, v, rfl, ownsRow_putObj hrow _ hK rfl, hnil, hB.trans (belowK_b (w := w) (Nat.le_refl _) W D _ _ (by simp at hD; omega) hK rfl rfl)⟩
  case stop =>
    rintro D c pre W _ _ h _
    exact h.elim
end Tab
end Go.Proofs.YtdcbbjlbfghpbaaGreat
