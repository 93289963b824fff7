/-
  No cell of these rows narrows 'for every input' (looked for: loops, veiled, ifaces, maps, wideKeys, modest, calm, conditions, laid).
  DERIVED. THE GIVEN ROWS OF THIS SEAT. 6 by the template 'for every input the law returns true; each argument reads behind the call as it read before'; 0 by the template 'total and deterministic' (their statements: YtbghebncmfjgiaaTotals.lean).
  GIVEN WITH THE SEED: the statements are not yours to turn. If you find one false, say at which input.
  Laid BY PROGRAM, IN A SANDBOX (cutbox-rows.mjs): the forced cells as the released guide's own fill.sh prints them over the translation 31d550e58fc79d4c… (all of the seat's roots in one cut). By AI agents, Wed Nov 11 2026. No macro, syntax, notation, axiom, sorry.
-/
import Derived.Test.YtbghebncmfjgiaaChecked
import GoSem.Claim
import GoSem.ClaimJoined
import GoSem.ClaimMapViews
import Derived.JoinedTies
import Derived.KernelRfl
namespace Go.Proofs.Ytbghebncmfjgiaa
/- THE CELL 'sum', in the pinned program and in every row, IS THE sha256 OF THE DUMP (.gsa) THAT YtbghebncmfjgiaaProg.lean LOADS. Nothing in Lean hashes anything: it is a label: what it is worth is what the hold of that sum in a sandbox is worth. -/
noncomputable def Try.pinned : Pinned := { name := "ytbghebncmfjgiaa", sum := "31d550e58fc79d4cbe4729daf6d809025bb48f3b10deb3278b979120fe0f7d62", checked := Try.checked }
namespace Rows
def none {H : Type} : Left H := { results := [], args := [] }

/-- 'signpostlaw17.GraphTells': WHATEVER THE INPUT: true; the input reads as it did. -/
def graphTellsSpec : ChangeSpec := { name := "graphTells", fn := fun _ => fun
  | [d1, d2, d3] => { results := [.lit (.bool true)], args := [d1, d2, d3] }
  | _ => none }
def graphTellsRow : OpenClaim := { program := "ytbghebncmfjgiaa", sum := "31d550e58fc79d4cbe4729daf6d809025bb48f3b10deb3278b979120fe0f7d62", func := "signpost/signpostlaw17.GraphTells", spec := "graphTells", apart := false }
def GraphTellsSaid : Prop := graphTellsRow.holds Try.pinned (OpenSpec.ofChange graphTellsSpec)

/-- ITS FALSE NEIGHBOUR: 'it returns false'. Refute it at one input. -/
def graphTellsWrong : ChangeSpec := { name := "graphTells", fn := fun _ => fun
  | [d1, d2, d3] => { results := [.lit (.bool false)], args := [d1, d2, d3] }
  | _ => none }
def GraphTellsWrongFalsely : Prop := graphTellsRow.holds Try.pinned (OpenSpec.ofChange graphTellsWrong)

/-- 'signpostlaw17.GraphTriangle': WHATEVER THE INPUT: true; the input reads as it did. -/
def graphTriangleSpec : ChangeSpec := { name := "graphTriangle", fn := fun _ => fun
  | [d1, d2] => { results := [.lit (.bool true)], args := [d1, d2] }
  | _ => none }
def graphTriangleRow : OpenClaim := { program := "ytbghebncmfjgiaa", sum := "31d550e58fc79d4cbe4729daf6d809025bb48f3b10deb3278b979120fe0f7d62", func := "signpost/signpostlaw17.GraphTriangle", spec := "graphTriangle", apart := false }
def GraphTriangleSaid : Prop := graphTriangleRow.holds Try.pinned (OpenSpec.ofChange graphTriangleSpec)

/-- ITS FALSE NEIGHBOUR: 'it returns false'. Refute it at one input. -/
def graphTriangleWrong : ChangeSpec := { name := "graphTriangle", fn := fun _ => fun
  | [d1, d2] => { results := [.lit (.bool false)], args := [d1, d2] }
  | _ => none }
def GraphTriangleWrongFalsely : Prop := graphTriangleRow.holds Try.pinned (OpenSpec.ofChange graphTriangleWrong)

/-- 'signpostlaw17.GraphWays': WHATEVER THE INPUT: true; the input reads as it did. -/
def graphWaysSpec : ChangeSpec := { name := "graphWays", fn := fun _ => fun
  | [d1, d2] => { results := [.lit (.bool true)], args := [d1, d2] }
  | _ => none }
def graphWaysRow : OpenClaim := { program := "ytbghebncmfjgiaa", sum := "31d550e58fc79d4cbe4729daf6d809025bb48f3b10deb3278b979120fe0f7d62", func := "signpost/signpostlaw17.GraphWays", spec := "graphWays", apart := false }
def GraphWaysSaid : Prop := graphWaysRow.holds Try.pinned (OpenSpec.ofChange graphWaysSpec)

/-- ITS FALSE NEIGHBOUR: 'it returns false'. Refute it at one input. -/
def graphWaysWrong : ChangeSpec := { name := "graphWays", fn := fun _ => fun
  | [d1, d2] => { results := [.lit (.bool false)], args := [d1, d2] }
  | _ => none }
def GraphWaysWrongFalsely : Prop := graphWaysRow.holds Try.pinned (OpenSpec.ofChange graphWaysWrong)

/-- 'signpostlaw17.GraphNil': WHATEVER THE INPUT: true; the input reads as it did. -/
def graphNilSpec : ChangeSpec := { name := "graphNil", fn := fun _ => fun
  | [d1, d2] => { results := [.lit (.bool true)], args := [d1, d2] }
  | _ => none }
def graphNilRow : OpenClaim := { program := "ytbghebncmfjgiaa", sum := "31d550e58fc79d4cbe4729daf6d809025bb48f3b10deb3278b979120fe0f7d62", func := "signpost/signpostlaw17.GraphNil", spec := "graphNil", apart := false }
def GraphNilSaid : Prop := graphNilRow.holds Try.pinned (OpenSpec.ofChange graphNilSpec)

/-- ITS FALSE NEIGHBOUR: 'it returns false'. Refute it at one input. -/
def graphNilWrong : ChangeSpec := { name := "graphNil", fn := fun _ => fun
  | [d1, d2] => { results := [.lit (.bool false)], args := [d1, d2] }
  | _ => none }
def GraphNilWrongFalsely : Prop := graphNilRow.holds Try.pinned (OpenSpec.ofChange graphNilWrong)

/-- 'signpostlaw17.GraphLess': WHATEVER THE INPUT: true; the input reads as it did. -/
def graphLessSpec : ChangeSpec := { name := "graphLess", fn := fun _ => fun
  | [d1, d2, d3] => { results := [.lit (.bool true)], args := [d1, d2, d3] }
  | _ => none }
def graphLessRow : OpenClaim := { program := "ytbghebncmfjgiaa", sum := "31d550e58fc79d4cbe4729daf6d809025bb48f3b10deb3278b979120fe0f7d62", func := "signpost/signpostlaw17.GraphLess", spec := "graphLess", apart := false }
def GraphLessSaid : Prop := graphLessRow.holds Try.pinned (OpenSpec.ofChange graphLessSpec)

/-- ITS FALSE NEIGHBOUR: 'it returns false'. Refute it at one input. -/
def graphLessWrong : ChangeSpec := { name := "graphLess", fn := fun _ => fun
  | [d1, d2, d3] => { results := [.lit (.bool false)], args := [d1, d2, d3] }
  | _ => none }
def GraphLessWrongFalsely : Prop := graphLessRow.holds Try.pinned (OpenSpec.ofChange graphLessWrong)

/-- 'signpostlaw17.GraphNearer': WHATEVER THE INPUT: true; the input reads as it did. -/
def graphNearerSpec : ChangeSpec := { name := "graphNearer", fn := fun _ => fun
  | [d1, d2, d3] => { results := [.lit (.bool true)], args := [d1, d2, d3] }
  | _ => none }
def graphNearerRow : OpenClaim := { program := "ytbghebncmfjgiaa", sum := "31d550e58fc79d4cbe4729daf6d809025bb48f3b10deb3278b979120fe0f7d62", func := "signpost/signpostlaw17.GraphNearer", spec := "graphNearer", apart := false }
def GraphNearerSaid : Prop := graphNearerRow.holds Try.pinned (OpenSpec.ofChange graphNearerSpec)

/-- ITS FALSE NEIGHBOUR: 'it returns false'. Refute it at one input. -/
def graphNearerWrong : ChangeSpec := { name := "graphNearer", fn := fun _ => fun
  | [d1, d2, d3] => { results := [.lit (.bool false)], args := [d1, d2, d3] }
  | _ => none }
def GraphNearerWrongFalsely : Prop := graphNearerRow.holds Try.pinned (OpenSpec.ofChange graphNearerWrong)

/- THE SECOND FORM. 'bulk': how many values and letters a reading holds, each counted each time it is reached (what is shared counts as often as it is met; a slice's spare places count too). A statement '..UptoSaid' is the law's where the arguments, and the package variables that the reading takes, are together of bulk at most 1048576: NARROWER than '..Said'. Prove '..Said' where nothing that the law and all that it calls make is longer than what came in: it says more and counts as full. Else prove '..UptoSaid'. A law counts once. -/
mutual
def uptoBulk {H : Type} : DataW H → Nat
  | .lit (.string bytes) => bytes.length + 1
  | .lit _ => 1
  | .nil => 1
  | .ptr d => uptoBulk d + 1
  | .slice elems spare => uptoBulkAll elems + uptoBulkAll spare + 1
  | .agg parts => uptoBulkAll parts + 1
  | .iface _ d => uptoBulk d + 1
  | .map entries => uptoBulkEntries entries + 1
  | .held _ => 1
def uptoBulkAll {H : Type} : List (DataW H) → Nat
  | [] => 0
  | d :: r => uptoBulk d + uptoBulkAll r
def uptoBulkEntries {H : Type} : List (Lit × DataW H) → Nat
  | [] => 0
  | x :: r => uptoBulkEntry x + uptoBulkEntries r
def uptoBulkEntry {H : Type} : Lit × DataW H → Nat
  | (.string bytes, d) => bytes.length + uptoBulk d + 1
  | (_, d) => uptoBulk d + 1
 end
def uptoSmall : (H : Type) → List (DataW H) → Bool := fun _ ds => decide (uptoBulkAll ds ≤ 1048576)
def OpenSpec.upto (s : _root_.Go.ChangeSpec) : _root_.Go.OpenSpec := { _root_.Go.OpenSpec.ofChange s with cond := some uptoSmall }

/-- 'signpostlaw17.GraphTells', WHERE WHAT IT READS IS OF BULK AT MOST 1048576: true; the input reads as it did. -/
def graphTellsUptoRow : OpenClaim := { program := "ytbghebncmfjgiaa", sum := "31d550e58fc79d4cbe4729daf6d809025bb48f3b10deb3278b979120fe0f7d62", func := "signpost/signpostlaw17.GraphTells", spec := "graphTells", apart := false, narrowed := true }
def GraphTellsUptoSaid : Prop := graphTellsUptoRow.holds Try.pinned (OpenSpec.upto graphTellsSpec)

/-- 'signpostlaw17.GraphTriangle', WHERE WHAT IT READS IS OF BULK AT MOST 1048576: true; the input reads as it did. -/
def graphTriangleUptoRow : OpenClaim := { program := "ytbghebncmfjgiaa", sum := "31d550e58fc79d4cbe4729daf6d809025bb48f3b10deb3278b979120fe0f7d62", func := "signpost/signpostlaw17.GraphTriangle", spec := "graphTriangle", apart := false, narrowed := true }
def GraphTriangleUptoSaid : Prop := graphTriangleUptoRow.holds Try.pinned (OpenSpec.upto graphTriangleSpec)

/-- 'signpostlaw17.GraphWays', WHERE WHAT IT READS IS OF BULK AT MOST 1048576: true; the input reads as it did. -/
def graphWaysUptoRow : OpenClaim := { program := "ytbghebncmfjgiaa", sum := "31d550e58fc79d4cbe4729daf6d809025bb48f3b10deb3278b979120fe0f7d62", func := "signpost/signpostlaw17.GraphWays", spec := "graphWays", apart := false, narrowed := true }
def GraphWaysUptoSaid : Prop := graphWaysUptoRow.holds Try.pinned (OpenSpec.upto graphWaysSpec)

/-- 'signpostlaw17.GraphNil', WHERE WHAT IT READS IS OF BULK AT MOST 1048576: true; the input reads as it did. -/
def graphNilUptoRow : OpenClaim := { program := "ytbghebncmfjgiaa", sum := "31d550e58fc79d4cbe4729daf6d809025bb48f3b10deb3278b979120fe0f7d62", func := "signpost/signpostlaw17.GraphNil", spec := "graphNil", apart := false, narrowed := true }
def GraphNilUptoSaid : Prop := graphNilUptoRow.holds Try.pinned (OpenSpec.upto graphNilSpec)

/-- 'signpostlaw17.GraphLess', WHERE WHAT IT READS IS OF BULK AT MOST 1048576: true; the input reads as it did. -/
def graphLessUptoRow : OpenClaim := { program := "ytbghebncmfjgiaa", sum := "31d550e58fc79d4cbe4729daf6d809025bb48f3b10deb3278b979120fe0f7d62", func := "signpost/signpostlaw17.GraphLess", spec := "graphLess", apart := false, narrowed := true }
def GraphLessUptoSaid : Prop := graphLessUptoRow.holds Try.pinned (OpenSpec.upto graphLessSpec)

/-- 'signpostlaw17.GraphNearer', WHERE WHAT IT READS IS OF BULK AT MOST 1048576: true; the input reads as it did. -/
def graphNearerUptoRow : OpenClaim := { program := "ytbghebncmfjgiaa", sum := "31d550e58fc79d4cbe4729daf6d809025bb48f3b10deb3278b979120fe0f7d62", func := "signpost/signpostlaw17.GraphNearer", spec := "graphNearer", apart := false, narrowed := true }
def GraphNearerUptoSaid : Prop := graphNearerUptoRow.holds Try.pinned (OpenSpec.upto graphNearerSpec)

end Rows
end Go.Proofs.Ytbghebncmfjgiaa
