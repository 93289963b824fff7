/-
  TableNil walked. Conditions: those that each theorem names.
-/
import Derived.Test.YtbeoclcnajfjcaaTNil
import Derived.Test.YtbeoclcnajfjcaaOpenR
namespace Go.Proofs.Ytbeoclcnajfjcaa.TableNil
open Go Go.RowKit
theorem walk (v0 : Value) (a1 : Int) (W : World) (w0 : Tab.IsR W v0) (w1 : (Lit.int .i64 a1).wf = true) : Calls Try.prog 7 #[v0, .int .i64 a1] W fun e w' => e = .returned (.bool true) ∧ Below W.heap.size W w' := by
  obtain ⟨r, rfl⟩ := w0
  exact Tab.tnil_any r a1 W
end Go.Proofs.Ytbeoclcnajfjcaa.TableNil
