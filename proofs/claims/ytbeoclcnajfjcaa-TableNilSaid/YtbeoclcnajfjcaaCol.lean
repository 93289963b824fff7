/-
  slices.Values, Collect, AppendSeq, SortedFunc at routes. Conditions: those that each theorem names.
-/
import Derived.Test.YtbeoclcnajfjcaaSrt
import Derived.RangeFuncNested
import Derived.RangeFuncBox
import Derived.RangeFuncBound
import Derived.RangeFuncCalls
import Derived.RangeFuncLeaves
import Derived.Shelf.Abstract
import Derived.OwnWalkIn
import Derived.TacticsInMore
import Derived.LoopNIn
import Derived.LoopIn
import Derived.Maps.AppendAt
import Derived.Deep.WholeRow
namespace Go.Proofs.Ytbeoclcnajfjcaa
open Go Go.RowKit H2
set_option linter.unusedVariables false
set_option linter.unusedSimpArgs false
namespace Tab
attribute [local go_sem] Oper.semAt_some
theorem wpListIn_row_run {F : Fence} {n : Nat} {P : Program} {ops : Array Oper} {rest : List Oper} {o : Oper} {a : Act} {w w' : World} {Q : Exit → Act → World → Prop} (hgd : o.guard = none) (t : TypeId) (k : Nat) (parts : Array (Nat × Operand)) (ho : o.op = .buildSlice t k parts) (vs : Array (Nat × Value)) (hv : (parts.map fun (i, x) => (i, a.eval x)) = vs) {v : Value}
    (hr : (Instr.buildSlice t k vs).run P w = .ok v w') (h : wpListIn F n P ops Q rest (a.put o.dst v) w') : wpListIn F n P ops Q (o :: rest) a w := by
  refine wpListIn_plain hgd fun K hK' => ?_
  subst hv
  unfold Oper.wpIn
  refine ⟨?_, ?_⟩
  · simp [Oper.about, ho]
  · rw [Oper.semAt_plain F _ _ (by rw [ho]; intro c hc'; cases hc')]
    simp only [execOp, ho, hr, Sem.run_bind, Result.andThen_ok, Sem.run_pure]
    exact hK' _ _ h
/-- a value that reads as a row of routes, in blocks below n₀ -/
def Rds (n₀ : Nat) (W : World) (v : Value) (L : List Rt) : Prop :=
  (∃ c, v = .slice none 0 c ∧ L = []) ∨ ∃ b off cap, v = .slice (some ⟨b, off, none⟩) L.length cap ∧ b < n₀ ∧ L.length ≤ cap ∧ At W b off (flat L)
theorem Rds.below {n₀ : Nat} {A B : World} (h : Below n₀ A B) {v : Value} {L : List Rt} : Rds n₀ A v L → Rds n₀ B v L
  | .inl e => .inl e
  | .inr ⟨b, off, cap, e, hb, hl, hc⟩ => .inr ⟨b, off, cap, e, hb, hl, fun j u hj => (h.cell (p := ⟨b, off + j, none⟩) hb).trans (hc j u hj)⟩
theorem At.row {w : World} {B o : Nat} {L : List Rt} (h : At w B o (flat L)) {i : Nat} (hi : i < L.length) : RAt w B (o + i * 20) L[i] := ⟨fun j u hj => by
  have hj20 : j < 20 := by
    have := (List.getElem?_eq_some_iff.1 hj).1
    rwa [encR_len] at this
  have := h (i * 20 + j) u (by rw [flat_get L i j hi hj20]; exact hj)
  rwa [← Nat.add_assoc] at this⟩
theorem store_new (w : World) (x : Rt) : Sem.run Try.prog (storeCells ⟨w.heap.size, 0, none⟩ (encR x) 0) (w.alloc (.cells (encR zR).toArray 34 (0, 0))) = .ok () (w.alloc (.cells (encR x).toArray 34 (0, 0))) := by
  have h := store_row (o := 0) (vs := encR x) (heap_alloc_new w (.cells (encR zR).toArray 34 (0, 0))) (by simp [encR_len]) (encR_one x) Try.prog
  rw [splice_whole (by simp [encR_len]), World.setRow_alloc_new] at h
  exact h
set_option maxRecDepth 100000 in
set_option maxHeartbeats 4000000 in
theorem values1_in (F : Fence) (n : Nat) (hF : F.fn 52) (hro : F.round = none) (hn : 1 ≤ n) (l Bs n₀ b off cap : Nat) (L : List Rt) (hreach : L.length ≤ 1000000) (hb : b < n₀) (J Jx : List Rt → World → Prop)
    (hJ : ∀ pre W o, J pre W → J pre (W.alloc o)) (W : World) (hn₀ : n₀ ≤ W.heap.size)
    (hY : ∀ pre x W1, J pre W1 → pre.length < L.length → YieldAt F (n - 1) Try.prog l #[.agg (encR x).toArray] W1 fun e W' =>
      (e = .returned (.bool true) ∧ J (pre ++ [x]) W' ∧ Below n₀ W1 W') ∨ (e = .returned (.bool false) ∧ Jx (pre ++ [x]) W'))
    (hBs : W.cell? ⟨Bs, 0, none⟩ = some (.slice (some ⟨b, off, none⟩) L.length cap)) (hc : At W b off (flat L)) (h0 : J [] W) :
    CallsIn F n Try.prog 52 #[.func (.yield l) #[] #[], .pointer (some ⟨Bs, 0, none⟩)] W fun e W' => (∃ v, e = .returned v) ∧
      (J L W' ∨ (∃ pre, pre <+: L ∧ Jx pre W')) := by
  have HC := Lib.hid hc
  clear hc
  refine callsIn_of_wp Try.func52 rfl hF ?_ hro
  simp only [Try.ntmps52, List.size_toArray, List.length_cons, List.length_nil, Nat.reduceAdd, Nat.reduceSub, Array.replicate_succ, Array.replicate_zero, List.push_toArray, List.append_toArray, List.nil_append, List.cons_append]
  gi_wp2
  gi_loopw [7] (fun i wr => ∃ k : Nat, k ≤ L.length ∧ i = .int .i64 k ∧ J (L.take k) wr ∧ Below n₀ W wr) (fun i _ => L.length - (intOf i).toNat)
  case atStart => exact ⟨0, Nat.zero_le _, rfl, h0, Below.refl _ _⟩
  case round =>
    obtain ⟨k, hk, rfl, hJs, hnx⟩ := hrel
    by_cases hlt : k < L.length
    · have hcx := ((show At wr b off (flat L) from fun j u hj => (hnx.cell (p := ⟨b, off + j, none⟩) hb).trans (HC.out j u hj)).row hlt).all.load (k := n20) (encR_n _) Try.prog
      have hcx2 : Sem.run Try.prog (loadCellsFrom ⟨b, off + k * n20, none⟩ 0 n20 #[]) wr = .ok (encR L[k]).toArray wr := hcx
      have hst := store_new wr L[k]
      have hld := (rAt_new wr L[k] 34 (0, 0)).all.load (k := n20) (encR_n _) Try.prog
      have HT := Lib.hid (List.take_append_getElem hlt)
      have HW := Lib.hid (hnx.alloc (Nat.le_trans hn₀ hnx.size) (.cells (encR L[k]).toArray 34 (0, 0)))
      clear hcx hnx
      obtain ⟨fn, tmps, assign, body, hy, hR⟩ := hY _ L[k] (wr.alloc (.cells (encR L[k]).toArray 34 (0, 0))) (hJ _ _ _ hJs) (by rw [List.length_take]; omega)
      gi_wp2
      refine hR.mono ?_
      rintro e W3 (⟨rfl, hJ3, hk3⟩ | ⟨rfl, hJx3⟩)
      · rw [HT.out] at hJ3
        gi_wp2
        go_roundw
        case rel => exact ⟨k + 1, by omega, by go_num, hJ3, HW.out.trans hk3⟩
        case measure => simp [intOf]; omega
      · rw [HT.out] at hJx3
        gi_wp2
        refine bodyPost_ret (results_none rfl _ _ _) rfl ?_
        exact ⟨⟨_, rfl⟩, .inr ⟨_, List.take_prefix _ _, hJx3⟩⟩
    · obtain rfl : k = L.length := by omega
      rw [List.take_length] at hJs
      gi_wp2
      go_end0
      exact ⟨⟨_, rfl⟩, .inl hJs⟩
end Tab
end Go.Proofs.Ytbeoclcnajfjcaa
