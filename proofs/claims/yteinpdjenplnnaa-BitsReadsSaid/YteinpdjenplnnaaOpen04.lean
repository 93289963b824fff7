/-
  Arguments of the laws of layer 4, opened. Conditions: those that each theorem names.
-/
import Derived.Test.YteinpdjenplnnaaAw04
import Derived.Test.YteinpdjenplnnaaOpenS
import Derived.ProofKit
import Derived.Lib.SmallJoins
import Derived.OpenShut
import Derived.Deep.Fields
namespace Go.Proofs.Yteinpdjenplnnaa
open Go Go.Deep Go.Joins Go.ChangeShapes Go.WideShapes Go.RowKit
set_option linter.unusedVariables false
set_option linter.unusedSimpArgs false
namespace BW
theorem cellsOp : Try.prog.cellsOf 29 = 3 := by kernel_rfl
def IsOp (W : World) (v : Value) : Prop := ∃ k n x : Int, v = .agg #[.int .i64 k, .int .i64 n, .int .u64 x] ∧ 0 ≤ x ∧ x ≤ 18446744073709551615
def IsOps (W : World) (v : Value) : Prop := ∃ (A : Option Addr) (n cap : Nat) (K N V : Nat → Int), v = .slice A n cap ∧ n ≤ maxLen ∧
  ∀ i, i < n → 0 ≤ V i ∧ V i ≤ 18446744073709551615 ∧ ∃ b o, A = some ⟨b, o, none⟩ ∧ b < W.heap.size ∧ W.cell? ⟨b, o + i * 3, none⟩ = some (.int .i64 (K i)) ∧ W.cell? ⟨b, o + i * 3 + 1, none⟩ = some (.int .i64 (N i)) ∧ W.cell? ⟨b, o + i * 3 + 2, none⟩ = some (.int .u64 (V i))
theorem open_Op {H : Type} {enc : TypeId × Value → H} {W : World} {base : Nat} {v : Value} {d : DataW H} {p : List MemPlace} (hv : Value.okWide Try.prog W .any base 29 v)
    (h : DataW.Trod enc Try.prog W 0 (fun _ => true) true 29 v d p) : IsOp W v := by
  obtain ⟨c0, c1, c2, y0, y1, y2, m, rfl, rfl, rfl, hy0, hy1, hy2⟩ := open_agg3 Try.underlying29 (by kernel_rfl) cellsOp hv h
  obtain ⟨a, e0, _, wa⟩ := DataW.trod_int Try.underlying3 hy0
  obtain ⟨b, e1, _, wb⟩ := DataW.trod_int Try.underlying3 hy1
  obtain ⟨c, e2, _, wc⟩ := DataW.trod_int Try.underlying27 hy2
  simp at e0 e1 e2
  subst e0 e1 e2
  exact ⟨a, b, c, rfl, bounds_u64 wc⟩
theorem open_Ops {H : Type} {enc : TypeId × Value → H} {W : World} {base : Nat} {v : Value} {d : DataW H} {p : List MemPlace} (hv : Value.okWide Try.prog W .any base 22 v)
    (h : DataW.Trod enc Try.prog W 0 (fun _ => true) true 22 v d p) : IsOps W v := by
  obtain ⟨a1, len, cap, rfl⟩ := okWide_slice Try.underlying22 hv
  obtain ⟨fuel, hf⟩ := h
  rcases open_slice_three Try.underlying22 Try.underlying29 cellsOp rfl rfl rfl (by kernel_rfl) (by kernel_rfl) (by kernel_rfl) hf with hcs | ⟨b, o, len', cap', ⟨s, hcs, hs⟩, hl, hx⟩
  · simp [Value.cells] at hcs
    obtain ⟨rfl, rfl, rfl⟩ := hcs
    exact ⟨none, 0, 0, fun _ => 0, fun _ => 0, fun _ => 0, rfl, by decide, fun i hi => by omega⟩
  · simp [Value.cells] at hcs
    obtain ⟨rfl, rfl, rfl⟩ := hcs
    have each : ∀ i, i < len → ∃ q : Int × Int × Int, 0 ≤ q.2.2 ∧ q.2.2 ≤ 18446744073709551615 ∧ W.cell? ⟨b, o + i * 3, none⟩ = some (.int .i64 q.1) ∧ W.cell? ⟨b, o + i * 3 + 1, none⟩ = some (.int .i64 q.2.1) ∧ W.cell? ⟨b, o + i * 3 + 2, none⟩ = some (.int .u64 q.2.2) := by
      intro i hi
      obtain ⟨v0, v1, v2, n, y0, y1, y2, h0, h1, h2, t0, t1, t2⟩ := hx i hi
      obtain ⟨a, e0, _, wa⟩ := DataW.trod_int Try.underlying3 t0
      obtain ⟨b, e1, _, wb⟩ := DataW.trod_int Try.underlying3 t1
      obtain ⟨c, e2, _, wc⟩ := DataW.trod_int Try.underlying27 t2
      simp at e0 e1 e2
      subst e0 e1 e2
      exact ⟨(a, b, c), (bounds_u64 wc).1, (bounds_u64 wc).2, h0, h1, h2⟩
    obtain ⟨q, hq⟩ := choose_lt each
    refine ⟨some ⟨b, o, s⟩, len, cap, fun i => (q i).1, fun i => (q i).2.1, fun i => (q i).2.2, rfl, hl, fun i hi => ?_⟩
    have hs0 := hs (by omega)
    subst hs0
    obtain ⟨h0, h1, h2, h3, h4⟩ := hq i hi
    exact ⟨h0, h1, b, o, rfl, World.block_lt_of_cell? _ _ h2, h2, h3, h4⟩
end BW
end Go.Proofs.Yteinpdjenplnnaa
