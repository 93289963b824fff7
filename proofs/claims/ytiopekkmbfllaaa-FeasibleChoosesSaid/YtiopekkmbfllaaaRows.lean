/-
  No cell of these rows narrows 'for every input' (looked for: loops, veiled, ifaces, maps, wideKeys, modest, calm, conditions, laid).
  DERIVED. THE GIVEN ROWS OF THIS SEAT. 5 by the template 'for every input the law returns true; each argument reads behind the call as it read before'; 0 by the template 'total and deterministic' (their statements: YtiopekkmbfllaaaTotals.lean).
  GIVEN WITH THE SEED: the statements are not yours to turn. If you find one false, say at which input.
  Laid BY PROGRAM, IN A SANDBOX (cutbox-rows.mjs): the forced cells as the released guide's own fill.sh prints them over the translation aee7cd98af36d20f… (all of the seat's roots in one cut). By AI agents, Wed Nov 11 2026. No macro, syntax, notation, axiom, sorry.
-/
import Derived.Test.YtiopekkmbfllaaaChecked
import GoSem.Claim
import GoSem.ClaimJoined
import GoSem.ClaimMapViews
import Derived.JoinedTies
import Derived.KernelRfl
namespace Go.Proofs.Ytiopekkmbfllaaa
/- THE CELL 'sum', in the pinned program and in every row, IS THE sha256 OF THE DUMP (.gsa) THAT YtiopekkmbfllaaaProg.lean LOADS. Nothing in Lean hashes anything: it is a label: what it is worth is what the hold of that sum in a sandbox is worth. -/
noncomputable def Try.pinned : Pinned := { name := "ytiopekkmbfllaaa", sum := "aee7cd98af36d20fdb6c89994682a8c1f738ef7fceb9b10dd65220d190de4223", checked := Try.checked }
namespace Rows
def none {H : Type} : Left H := { results := [], args := [] }

/-- 'signpostlaw18.FeasibleTells': WHATEVER THE INPUT: true; the input reads as it did. -/
def feasibleTellsSpec : ChangeSpec := { name := "feasibleTells", fn := fun _ => fun
  | [d1, d2, d3] => { results := [.lit (.bool true)], args := [d1, d2, d3] }
  | _ => none }
def feasibleTellsRow : OpenClaim := { program := "ytiopekkmbfllaaa", sum := "aee7cd98af36d20fdb6c89994682a8c1f738ef7fceb9b10dd65220d190de4223", func := "signpost/signpostlaw18.FeasibleTells", spec := "feasibleTells", apart := false }
def FeasibleTellsSaid : Prop := feasibleTellsRow.holds Try.pinned (OpenSpec.ofChange feasibleTellsSpec)

/-- ITS FALSE NEIGHBOUR: 'it returns false'. Refute it at one input. -/
def feasibleTellsWrong : ChangeSpec := { name := "feasibleTells", fn := fun _ => fun
  | [d1, d2, d3] => { results := [.lit (.bool false)], args := [d1, d2, d3] }
  | _ => none }
def FeasibleTellsWrongFalsely : Prop := feasibleTellsRow.holds Try.pinned (OpenSpec.ofChange feasibleTellsWrong)

/-- 'signpostlaw18.FeasibleOrder': WHATEVER THE INPUT: true; the input reads as it did. -/
def feasibleOrderSpec : ChangeSpec := { name := "feasibleOrder", fn := fun _ => fun
  | [d1, d2, d3, d4] => { results := [.lit (.bool true)], args := [d1, d2, d3, d4] }
  | _ => none }
def feasibleOrderRow : OpenClaim := { program := "ytiopekkmbfllaaa", sum := "aee7cd98af36d20fdb6c89994682a8c1f738ef7fceb9b10dd65220d190de4223", func := "signpost/signpostlaw18.FeasibleOrder", spec := "feasibleOrder", apart := false }
def FeasibleOrderSaid : Prop := feasibleOrderRow.holds Try.pinned (OpenSpec.ofChange feasibleOrderSpec)

/-- ITS FALSE NEIGHBOUR: 'it returns false'. Refute it at one input. -/
def feasibleOrderWrong : ChangeSpec := { name := "feasibleOrder", fn := fun _ => fun
  | [d1, d2, d3, d4] => { results := [.lit (.bool false)], args := [d1, d2, d3, d4] }
  | _ => none }
def FeasibleOrderWrongFalsely : Prop := feasibleOrderRow.holds Try.pinned (OpenSpec.ofChange feasibleOrderWrong)

/-- 'signpostlaw18.FeasibleChooses': WHATEVER THE INPUT: true; the input reads as it did. -/
def feasibleChoosesSpec : ChangeSpec := { name := "feasibleChooses", fn := fun _ => fun
  | [d1, d2, d3] => { results := [.lit (.bool true)], args := [d1, d2, d3] }
  | _ => none }
def feasibleChoosesRow : OpenClaim := { program := "ytiopekkmbfllaaa", sum := "aee7cd98af36d20fdb6c89994682a8c1f738ef7fceb9b10dd65220d190de4223", func := "signpost/signpostlaw18.FeasibleChooses", spec := "feasibleChooses", apart := false }
def FeasibleChoosesSaid : Prop := feasibleChoosesRow.holds Try.pinned (OpenSpec.ofChange feasibleChoosesSpec)

/-- ITS FALSE NEIGHBOUR: 'it returns false'. Refute it at one input. -/
def feasibleChoosesWrong : ChangeSpec := { name := "feasibleChooses", fn := fun _ => fun
  | [d1, d2, d3] => { results := [.lit (.bool false)], args := [d1, d2, d3] }
  | _ => none }
def FeasibleChoosesWrongFalsely : Prop := feasibleChoosesRow.holds Try.pinned (OpenSpec.ofChange feasibleChoosesWrong)

/-- 'signpostlaw18.FeasibleAdds': WHATEVER THE INPUT: true; the input reads as it did. -/
def feasibleAddsSpec : ChangeSpec := { name := "feasibleAdds", fn := fun _ => fun
  | [d1, d2, d3, d4] => { results := [.lit (.bool true)], args := [d1, d2, d3, d4] }
  | _ => none }
def feasibleAddsRow : OpenClaim := { program := "ytiopekkmbfllaaa", sum := "aee7cd98af36d20fdb6c89994682a8c1f738ef7fceb9b10dd65220d190de4223", func := "signpost/signpostlaw18.FeasibleAdds", spec := "feasibleAdds", apart := false }
def FeasibleAddsSaid : Prop := feasibleAddsRow.holds Try.pinned (OpenSpec.ofChange feasibleAddsSpec)

/-- ITS FALSE NEIGHBOUR: 'it returns false'. Refute it at one input. -/
def feasibleAddsWrong : ChangeSpec := { name := "feasibleAdds", fn := fun _ => fun
  | [d1, d2, d3, d4] => { results := [.lit (.bool false)], args := [d1, d2, d3, d4] }
  | _ => none }
def FeasibleAddsWrongFalsely : Prop := feasibleAddsRow.holds Try.pinned (OpenSpec.ofChange feasibleAddsWrong)

/-- 'signpostlaw18.FeasibleNone': WHATEVER THE INPUT: true; the input reads as it did. -/
def feasibleNoneSpec : ChangeSpec := { name := "feasibleNone", fn := fun _ => fun
  | [d1, d2] => { results := [.lit (.bool true)], args := [d1, d2] }
  | _ => none }
def feasibleNoneRow : OpenClaim := { program := "ytiopekkmbfllaaa", sum := "aee7cd98af36d20fdb6c89994682a8c1f738ef7fceb9b10dd65220d190de4223", func := "signpost/signpostlaw18.FeasibleNone", spec := "feasibleNone", apart := false }
def FeasibleNoneSaid : Prop := feasibleNoneRow.holds Try.pinned (OpenSpec.ofChange feasibleNoneSpec)

/-- ITS FALSE NEIGHBOUR: 'it returns false'. Refute it at one input. -/
def feasibleNoneWrong : ChangeSpec := { name := "feasibleNone", fn := fun _ => fun
  | [d1, d2] => { results := [.lit (.bool false)], args := [d1, d2] }
  | _ => none }
def FeasibleNoneWrongFalsely : Prop := feasibleNoneRow.holds Try.pinned (OpenSpec.ofChange feasibleNoneWrong)

/- THE SECOND FORM. 'bulk': how many values and letters a reading holds, each counted each time it is reached (what is shared counts as often as it is met; a slice's spare places count too). A statement '..UptoSaid' is the law's where the arguments, and the package variables that the reading takes, are together of bulk at most 1048576: NARROWER than '..Said'. Prove '..Said' where nothing that the law and all that it calls make is longer than what came in: it says more and counts as full. Else prove '..UptoSaid'. A law counts once. -/
mutual
def uptoBulk {H : Type} : DataW H → Nat
  | .lit (.string bytes) => bytes.length + 1
  | .lit _ => 1
  | .nil => 1
  | .ptr d => uptoBulk d + 1
  | .slice elems spare => uptoBulkAll elems + uptoBulkAll spare + 1
  | .agg parts => uptoBulkAll parts + 1
  | .iface _ d => uptoBulk d + 1
  | .map entries => uptoBulkEntries entries + 1
  | .held _ => 1
def uptoBulkAll {H : Type} : List (DataW H) → Nat
  | [] => 0
  | d :: r => uptoBulk d + uptoBulkAll r
def uptoBulkEntries {H : Type} : List (Lit × DataW H) → Nat
  | [] => 0
  | x :: r => uptoBulkEntry x + uptoBulkEntries r
def uptoBulkEntry {H : Type} : Lit × DataW H → Nat
  | (.string bytes, d) => bytes.length + uptoBulk d + 1
  | (_, d) => uptoBulk d + 1
 end
def uptoSmall : (H : Type) → List (DataW H) → Bool := fun _ ds => decide (uptoBulkAll ds ≤ 1048576)
def OpenSpec.upto (s : _root_.Go.ChangeSpec) : _root_.Go.OpenSpec := { _root_.Go.OpenSpec.ofChange s with cond := some uptoSmall }

/-- 'signpostlaw18.FeasibleTells', WHERE WHAT IT READS IS OF BULK AT MOST 1048576: true; the input reads as it did. -/
def feasibleTellsUptoRow : OpenClaim := { program := "ytiopekkmbfllaaa", sum := "aee7cd98af36d20fdb6c89994682a8c1f738ef7fceb9b10dd65220d190de4223", func := "signpost/signpostlaw18.FeasibleTells", spec := "feasibleTells", apart := false, narrowed := true }
def FeasibleTellsUptoSaid : Prop := feasibleTellsUptoRow.holds Try.pinned (OpenSpec.upto feasibleTellsSpec)

/-- 'signpostlaw18.FeasibleOrder', WHERE WHAT IT READS IS OF BULK AT MOST 1048576: true; the input reads as it did. -/
def feasibleOrderUptoRow : OpenClaim := { program := "ytiopekkmbfllaaa", sum := "aee7cd98af36d20fdb6c89994682a8c1f738ef7fceb9b10dd65220d190de4223", func := "signpost/signpostlaw18.FeasibleOrder", spec := "feasibleOrder", apart := false, narrowed := true }
def FeasibleOrderUptoSaid : Prop := feasibleOrderUptoRow.holds Try.pinned (OpenSpec.upto feasibleOrderSpec)

/-- 'signpostlaw18.FeasibleChooses', WHERE WHAT IT READS IS OF BULK AT MOST 1048576: true; the input reads as it did. -/
def feasibleChoosesUptoRow : OpenClaim := { program := "ytiopekkmbfllaaa", sum := "aee7cd98af36d20fdb6c89994682a8c1f738ef7fceb9b10dd65220d190de4223", func := "signpost/signpostlaw18.FeasibleChooses", spec := "feasibleChooses", apart := false, narrowed := true }
def FeasibleChoosesUptoSaid : Prop := feasibleChoosesUptoRow.holds Try.pinned (OpenSpec.upto feasibleChoosesSpec)

/-- 'signpostlaw18.FeasibleAdds', WHERE WHAT IT READS IS OF BULK AT MOST 1048576: true; the input reads as it did. -/
def feasibleAddsUptoRow : OpenClaim := { program := "ytiopekkmbfllaaa", sum := "aee7cd98af36d20fdb6c89994682a8c1f738ef7fceb9b10dd65220d190de4223", func := "signpost/signpostlaw18.FeasibleAdds", spec := "feasibleAdds", apart := false, narrowed := true }
def FeasibleAddsUptoSaid : Prop := feasibleAddsUptoRow.holds Try.pinned (OpenSpec.upto feasibleAddsSpec)

/-- 'signpostlaw18.FeasibleNone', WHERE WHAT IT READS IS OF BULK AT MOST 1048576: true; the input reads as it did. -/
def feasibleNoneUptoRow : OpenClaim := { program := "ytiopekkmbfllaaa", sum := "aee7cd98af36d20fdb6c89994682a8c1f738ef7fceb9b10dd65220d190de4223", func := "signpost/signpostlaw18.FeasibleNone", spec := "feasibleNone", apart := false, narrowed := true }
def FeasibleNoneUptoSaid : Prop := feasibleNoneUptoRow.holds Try.pinned (OpenSpec.upto feasibleNoneSpec)

end Rows
end Go.Proofs.Ytiopekkmbfllaaa
