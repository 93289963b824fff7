/-
  No cell of these rows narrows 'for every input' (looked for: loops, veiled, ifaces, maps, wideKeys, modest, calm, conditions, laid).
  DERIVED. THE GIVEN ROWS OF THIS SEAT. 6 by the template 'for every input the law returns true; each argument reads behind the call as it read before'; 0 by the template 'total and deterministic' (their statements: YtcmknllefnahkaaTotals.lean).
  GIVEN WITH THE SEED: the statements are not yours to turn. If you find one false, say at which input.
  Laid BY PROGRAM, IN A SANDBOX (cutbox-rows.mjs): the forced cells as the released guide's own fill.sh prints them over the translation 37128f6040683183… (all of the seat's roots in one cut). By AI agents, Wed Nov 11 2026. No macro, syntax, notation, axiom, sorry.
-/
import Derived.Test.YtcmknllefnahkaaChecked
import GoSem.Claim
import GoSem.ClaimJoined
import GoSem.ClaimMapViews
import Derived.JoinedTies
import Derived.KernelRfl
namespace Go.Proofs.Ytcmknllefnahkaa
/- THE CELL 'sum', in the pinned program and in every row, IS THE sha256 OF THE DUMP (.gsa) THAT YtcmknllefnahkaaProg.lean LOADS. Nothing in Lean hashes anything: it is a label: what it is worth is what the hold of that sum in a sandbox is worth. -/
noncomputable def Try.pinned : Pinned := { name := "ytcmknllefnahkaa", sum := "37128f6040683183586cea423761cb95c54188e0067dc697e992923c7f39b3b7", checked := Try.checked }
namespace Rows
def none {H : Type} : Left H := { results := [], args := [] }

/-- 'signpostlaw19.EnginePlays': WHATEVER THE INPUT: true; the input reads as it did. -/
def enginePlaysSpec : ChangeSpec := { name := "enginePlays", fn := fun _ => fun
  | [d1, d2, d3] => { results := [.lit (.bool true)], args := [d1, d2, d3] }
  | _ => none }
def enginePlaysRow : OpenClaim := { program := "ytcmknllefnahkaa", sum := "37128f6040683183586cea423761cb95c54188e0067dc697e992923c7f39b3b7", func := "signpost/signpostlaw19.EnginePlays", spec := "enginePlays", plainKeys := false, apart := false }
def EnginePlaysSaid : Prop := enginePlaysRow.holds Try.pinned (OpenSpec.ofChange enginePlaysSpec)

/-- ITS FALSE NEIGHBOUR: 'it returns false'. Refute it at one input. -/
def enginePlaysWrong : ChangeSpec := { name := "enginePlays", fn := fun _ => fun
  | [d1, d2, d3] => { results := [.lit (.bool false)], args := [d1, d2, d3] }
  | _ => none }
def EnginePlaysWrongFalsely : Prop := enginePlaysRow.holds Try.pinned (OpenSpec.ofChange enginePlaysWrong)

/-- 'signpostlaw19.EngineBelow': WHATEVER THE INPUT: true; the input reads as it did. -/
def engineBelowSpec : ChangeSpec := { name := "engineBelow", fn := fun _ => fun
  | [d1, d2, d3] => { results := [.lit (.bool true)], args := [d1, d2, d3] }
  | _ => none }
def engineBelowRow : OpenClaim := { program := "ytcmknllefnahkaa", sum := "37128f6040683183586cea423761cb95c54188e0067dc697e992923c7f39b3b7", func := "signpost/signpostlaw19.EngineBelow", spec := "engineBelow", plainKeys := false, apart := false }
def EngineBelowSaid : Prop := engineBelowRow.holds Try.pinned (OpenSpec.ofChange engineBelowSpec)

/-- ITS FALSE NEIGHBOUR: 'it returns false'. Refute it at one input. -/
def engineBelowWrong : ChangeSpec := { name := "engineBelow", fn := fun _ => fun
  | [d1, d2, d3] => { results := [.lit (.bool false)], args := [d1, d2, d3] }
  | _ => none }
def EngineBelowWrongFalsely : Prop := engineBelowRow.holds Try.pinned (OpenSpec.ofChange engineBelowWrong)

/-- 'signpostlaw19.EngineForgets': WHATEVER THE INPUT: true; the input reads as it did. -/
def engineForgetsSpec : ChangeSpec := { name := "engineForgets", fn := fun _ => fun
  | [d1, d2, d3] => { results := [.lit (.bool true)], args := [d1, d2, d3] }
  | _ => none }
def engineForgetsRow : OpenClaim := { program := "ytcmknllefnahkaa", sum := "37128f6040683183586cea423761cb95c54188e0067dc697e992923c7f39b3b7", func := "signpost/signpostlaw19.EngineForgets", spec := "engineForgets", plainKeys := false, apart := false }
def EngineForgetsSaid : Prop := engineForgetsRow.holds Try.pinned (OpenSpec.ofChange engineForgetsSpec)

/-- ITS FALSE NEIGHBOUR: 'it returns false'. Refute it at one input. -/
def engineForgetsWrong : ChangeSpec := { name := "engineForgets", fn := fun _ => fun
  | [d1, d2, d3] => { results := [.lit (.bool false)], args := [d1, d2, d3] }
  | _ => none }
def EngineForgetsWrongFalsely : Prop := engineForgetsRow.holds Try.pinned (OpenSpec.ofChange engineForgetsWrong)

/-- 'signpostlaw19.EngineNil': WHATEVER THE INPUT: true; the input reads as it did. -/
def engineNilSpec : ChangeSpec := { name := "engineNil", fn := fun _ => fun
  | [d1, d2, d3] => { results := [.lit (.bool true)], args := [d1, d2, d3] }
  | _ => none }
def engineNilRow : OpenClaim := { program := "ytcmknllefnahkaa", sum := "37128f6040683183586cea423761cb95c54188e0067dc697e992923c7f39b3b7", func := "signpost/signpostlaw19.EngineNil", spec := "engineNil", plainKeys := false, apart := false }
def EngineNilSaid : Prop := engineNilRow.holds Try.pinned (OpenSpec.ofChange engineNilSpec)

/-- ITS FALSE NEIGHBOUR: 'it returns false'. Refute it at one input. -/
def engineNilWrong : ChangeSpec := { name := "engineNil", fn := fun _ => fun
  | [d1, d2, d3] => { results := [.lit (.bool false)], args := [d1, d2, d3] }
  | _ => none }
def EngineNilWrongFalsely : Prop := engineNilRow.holds Try.pinned (OpenSpec.ofChange engineNilWrong)

/-- 'signpostlaw19.EngineTells': WHATEVER THE INPUT: true; the input reads as it did. -/
def engineTellsSpec : ChangeSpec := { name := "engineTells", fn := fun _ => fun
  | [d1, d2, d3] => { results := [.lit (.bool true)], args := [d1, d2, d3] }
  | _ => none }
def engineTellsRow : OpenClaim := { program := "ytcmknllefnahkaa", sum := "37128f6040683183586cea423761cb95c54188e0067dc697e992923c7f39b3b7", func := "signpost/signpostlaw19.EngineTells", spec := "engineTells", plainKeys := false, apart := false }
def EngineTellsSaid : Prop := engineTellsRow.holds Try.pinned (OpenSpec.ofChange engineTellsSpec)

/-- ITS FALSE NEIGHBOUR: 'it returns false'. Refute it at one input. -/
def engineTellsWrong : ChangeSpec := { name := "engineTells", fn := fun _ => fun
  | [d1, d2, d3] => { results := [.lit (.bool false)], args := [d1, d2, d3] }
  | _ => none }
def EngineTellsWrongFalsely : Prop := engineTellsRow.holds Try.pinned (OpenSpec.ofChange engineTellsWrong)

/-- 'signpostlaw19.EngineDown': WHATEVER THE INPUT: true; the input reads as it did. -/
def engineDownSpec : ChangeSpec := { name := "engineDown", fn := fun _ => fun
  | [d1, d2, d3] => { results := [.lit (.bool true)], args := [d1, d2, d3] }
  | _ => none }
def engineDownRow : OpenClaim := { program := "ytcmknllefnahkaa", sum := "37128f6040683183586cea423761cb95c54188e0067dc697e992923c7f39b3b7", func := "signpost/signpostlaw19.EngineDown", spec := "engineDown", plainKeys := false, apart := false }
def EngineDownSaid : Prop := engineDownRow.holds Try.pinned (OpenSpec.ofChange engineDownSpec)

/-- ITS FALSE NEIGHBOUR: 'it returns false'. Refute it at one input. -/
def engineDownWrong : ChangeSpec := { name := "engineDown", fn := fun _ => fun
  | [d1, d2, d3] => { results := [.lit (.bool false)], args := [d1, d2, d3] }
  | _ => none }
def EngineDownWrongFalsely : Prop := engineDownRow.holds Try.pinned (OpenSpec.ofChange engineDownWrong)

/- THE SECOND FORM. 'bulk': how many values and letters a reading holds, each counted each time it is reached (what is shared counts as often as it is met; a slice's spare places count too). A statement '..UptoSaid' is the law's where the arguments, and the package variables that the reading takes, are together of bulk at most 1048576: NARROWER than '..Said'. Prove '..Said' where nothing that the law and all that it calls make is longer than what came in: it says more and counts as full. Else prove '..UptoSaid'. A law counts once. -/
mutual
def uptoBulk {H : Type} : DataW H → Nat
  | .lit (.string bytes) => bytes.length + 1
  | .lit _ => 1
  | .nil => 1
  | .ptr d => uptoBulk d + 1
  | .slice elems spare => uptoBulkAll elems + uptoBulkAll spare + 1
  | .agg parts => uptoBulkAll parts + 1
  | .iface _ d => uptoBulk d + 1
  | .map entries => uptoBulkEntries entries + 1
  | .held _ => 1
def uptoBulkAll {H : Type} : List (DataW H) → Nat
  | [] => 0
  | d :: r => uptoBulk d + uptoBulkAll r
def uptoBulkEntries {H : Type} : List (Lit × DataW H) → Nat
  | [] => 0
  | x :: r => uptoBulkEntry x + uptoBulkEntries r
def uptoBulkEntry {H : Type} : Lit × DataW H → Nat
  | (.string bytes, d) => bytes.length + uptoBulk d + 1
  | (_, d) => uptoBulk d + 1
 end
def uptoSmall : (H : Type) → List (DataW H) → Bool := fun _ ds => decide (uptoBulkAll ds ≤ 1048576)
def OpenSpec.upto (s : _root_.Go.ChangeSpec) : _root_.Go.OpenSpec := { _root_.Go.OpenSpec.ofChange s with cond := some uptoSmall }

/-- 'signpostlaw19.EnginePlays', WHERE WHAT IT READS IS OF BULK AT MOST 1048576: true; the input reads as it did. -/
def enginePlaysUptoRow : OpenClaim := { program := "ytcmknllefnahkaa", sum := "37128f6040683183586cea423761cb95c54188e0067dc697e992923c7f39b3b7", func := "signpost/signpostlaw19.EnginePlays", spec := "enginePlays", plainKeys := false, apart := false, narrowed := true }
def EnginePlaysUptoSaid : Prop := enginePlaysUptoRow.holds Try.pinned (OpenSpec.upto enginePlaysSpec)

/-- 'signpostlaw19.EngineBelow', WHERE WHAT IT READS IS OF BULK AT MOST 1048576: true; the input reads as it did. -/
def engineBelowUptoRow : OpenClaim := { program := "ytcmknllefnahkaa", sum := "37128f6040683183586cea423761cb95c54188e0067dc697e992923c7f39b3b7", func := "signpost/signpostlaw19.EngineBelow", spec := "engineBelow", plainKeys := false, apart := false, narrowed := true }
def EngineBelowUptoSaid : Prop := engineBelowUptoRow.holds Try.pinned (OpenSpec.upto engineBelowSpec)

/-- 'signpostlaw19.EngineForgets', WHERE WHAT IT READS IS OF BULK AT MOST 1048576: true; the input reads as it did. -/
def engineForgetsUptoRow : OpenClaim := { program := "ytcmknllefnahkaa", sum := "37128f6040683183586cea423761cb95c54188e0067dc697e992923c7f39b3b7", func := "signpost/signpostlaw19.EngineForgets", spec := "engineForgets", plainKeys := false, apart := false, narrowed := true }
def EngineForgetsUptoSaid : Prop := engineForgetsUptoRow.holds Try.pinned (OpenSpec.upto engineForgetsSpec)

/-- 'signpostlaw19.EngineNil', WHERE WHAT IT READS IS OF BULK AT MOST 1048576: true; the input reads as it did. -/
def engineNilUptoRow : OpenClaim := { program := "ytcmknllefnahkaa", sum := "37128f6040683183586cea423761cb95c54188e0067dc697e992923c7f39b3b7", func := "signpost/signpostlaw19.EngineNil", spec := "engineNil", plainKeys := false, apart := false, narrowed := true }
def EngineNilUptoSaid : Prop := engineNilUptoRow.holds Try.pinned (OpenSpec.upto engineNilSpec)

/-- 'signpostlaw19.EngineTells', WHERE WHAT IT READS IS OF BULK AT MOST 1048576: true; the input reads as it did. -/
def engineTellsUptoRow : OpenClaim := { program := "ytcmknllefnahkaa", sum := "37128f6040683183586cea423761cb95c54188e0067dc697e992923c7f39b3b7", func := "signpost/signpostlaw19.EngineTells", spec := "engineTells", plainKeys := false, apart := false, narrowed := true }
def EngineTellsUptoSaid : Prop := engineTellsUptoRow.holds Try.pinned (OpenSpec.upto engineTellsSpec)

/-- 'signpostlaw19.EngineDown', WHERE WHAT IT READS IS OF BULK AT MOST 1048576: true; the input reads as it did. -/
def engineDownUptoRow : OpenClaim := { program := "ytcmknllefnahkaa", sum := "37128f6040683183586cea423761cb95c54188e0067dc697e992923c7f39b3b7", func := "signpost/signpostlaw19.EngineDown", spec := "engineDown", plainKeys := false, apart := false, narrowed := true }
def EngineDownUptoSaid : Prop := engineDownUptoRow.holds Try.pinned (OpenSpec.upto engineDownSpec)

end Rows
end Go.Proofs.Ytcmknllefnahkaa
