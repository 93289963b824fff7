/-
  How the arguments of the laws of layer 'feasible' read. Conditions: none.
-/
import Derived.Test.YtiopekkmbfllaaaProg
import Derived.Test.YtiopekkmbfllaaaFloat
import Derived.WalkKit
import Derived.ProofKit
import Derived.KernelRfl
import Derived.Lib.SmallJoins
import Derived.OpenShut
namespace Go.Proofs.Ytiopekkmbfllaaa
open Go.ChangeShapes Go.WideShapes Go.ChangeAt Go.RowKit Go.Joins FR FP
set_option linter.unusedVariables false
set_option linter.unusedSimpArgs false
namespace Law18
/-- a metric and a number -/
def IsD (w : World) (v : Value) : Prop := ∃ m s : Int, v = .agg #[.int .i64 m, .int .u32 s] ∧ (Lit.int .i64 m).wf = true ∧ Sm s
theorem cellsD : Try.prog.cellsOf 24 = 2 := by kernel_rfl
theorem sm_u32 {s : Int} (h : (Lit.int .u32 s).wf = true) : Sm s := bounds_u32 h
theorem open_D {H : Type} {enc : TypeId × Value → H} {W : World} {base : Nat} {v : Value} {d : DataW H} {p : List MemPlace} (hv : Value.okWide Try.prog W .any base 24 v)
    (h : DataW.Trod enc Try.prog W 0 (fun _ => true) true 24 v d p) : IsD W v := by
  obtain ⟨c0, c1, y0, y1, m, rfl, rfl, rfl, hy0, hy1⟩ := open_agg2 Try.underlying24 (by kernel_rfl) cellsD hv h
  obtain ⟨a, e0, _, wa⟩ := DataW.trod_int Try.underlying3 hy0
  obtain ⟨b, e1, _, wb⟩ := DataW.trod_int Try.underlying22 hy1
  simp at e0 e1
  subst e0 e1
  exact ⟨a, b, rfl, wa, sm_u32 wb⟩
end Law18
end Go.Proofs.Ytiopekkmbfllaaa
