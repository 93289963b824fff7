/-
  The document's Put. Conditions: those that each theorem names.
-/
import Derived.Test.YtdcbbjlbfghpbaaGreatDi
namespace Go.Proofs.YtdcbbjlbfghpbaaGreat
open Go Go.RowKit H2
set_option linter.unusedVariables false
set_option linter.unusedSimpArgs false
namespace Tab
theorem part_step {T : List Rt} {k : Nat} (hk : k < T.length) : T.take k ++ [T[k]] = T.take (k + 1) := List.take_append_getElem hk
theorem part_drop {T : List Rt} {k q : Nat} (hk : k < T.length) (hq : q ≤ k) : (T.take k).drop q ++ [T[k]] = (T.take (k + 1)).drop q := by
  rw [← part_step hk, List.drop_append_of_le_length (by rw [List.length_take]; omega)]
end Tab
end Go.Proofs.YtdcbbjlbfghpbaaGreat
