/-
  No cell of these rows narrows 'for every input' (looked for: loops, veiled, ifaces, maps, wideKeys, modest, calm, conditions, laid).
  DERIVED. THE GIVEN ROWS OF THIS SEAT. 6 by the template 'for every input the law returns true; each argument reads behind the call as it read before'; 0 by the template 'total and deterministic' (their statements: YtebkpjefdaieaaaTotals.lean).
  GIVEN WITH THE SEED: the statements are not yours to turn. If you find one false, say at which input.
  Laid BY PROGRAM, IN A SANDBOX (cutbox-rows.mjs): the forced cells as the released guide's own fill.sh prints them over the translation a1f1f613e7858213… (all of the seat's roots in one cut). By AI agents, Wed Nov 11 2026. No macro, syntax, notation, axiom, sorry.
-/
import Derived.Test.YtebkpjefdaieaaaChecked
import GoSem.Claim
import GoSem.ClaimJoined
import GoSem.ClaimMapViews
import Derived.JoinedTies
import Derived.KernelRfl
namespace Go.Proofs.Ytebkpjefdaieaaa
/- THE CELL 'sum', in the pinned program and in every row, IS THE sha256 OF THE DUMP (.gsa) THAT YtebkpjefdaieaaaProg.lean LOADS. Nothing in Lean hashes anything: it is a label: what it is worth is what the hold of that sum in a sandbox is worth. -/
noncomputable def Try.pinned : Pinned := { name := "ytebkpjefdaieaaa", sum := "a1f1f613e7858213b204b8806eaca2424a4d9a0208c5c7066cc1b8fd2811312d", checked := Try.checked }
namespace Rows
def none {H : Type} : Left H := { results := [], args := [] }

/-- 'signpostlaw20.NetworkSettles': WHATEVER THE INPUT: true; the input reads as it did. -/
def networkSettlesSpec : ChangeSpec := { name := "networkSettles", fn := fun _ => fun
  | [d1, d2] => { results := [.lit (.bool true)], args := [d1, d2] }
  | _ => none }
def networkSettlesRow : OpenClaim := { program := "ytebkpjefdaieaaa", sum := "a1f1f613e7858213b204b8806eaca2424a4d9a0208c5c7066cc1b8fd2811312d", func := "signpost/signpostlaw20.NetworkSettles", spec := "networkSettles", unfollowed := true, recurses := true, apart := false }
def NetworkSettlesSaid : Prop := networkSettlesRow.holds Try.pinned (OpenSpec.ofChange networkSettlesSpec)

/-- ITS FALSE NEIGHBOUR: 'it returns false'. Refute it at one input. -/
def networkSettlesWrong : ChangeSpec := { name := "networkSettles", fn := fun _ => fun
  | [d1, d2] => { results := [.lit (.bool false)], args := [d1, d2] }
  | _ => none }
def NetworkSettlesWrongFalsely : Prop := networkSettlesRow.holds Try.pinned (OpenSpec.ofChange networkSettlesWrong)

/-- 'signpostlaw20.NetworkTrue': WHATEVER THE INPUT: true; the input reads as it did. -/
def networkTrueSpec : ChangeSpec := { name := "networkTrue", fn := fun _ => fun
  | [d1, d2, d3] => { results := [.lit (.bool true)], args := [d1, d2, d3] }
  | _ => none }
def networkTrueRow : OpenClaim := { program := "ytebkpjefdaieaaa", sum := "a1f1f613e7858213b204b8806eaca2424a4d9a0208c5c7066cc1b8fd2811312d", func := "signpost/signpostlaw20.NetworkTrue", spec := "networkTrue", unfollowed := true, recurses := true, apart := false }
def NetworkTrueSaid : Prop := networkTrueRow.holds Try.pinned (OpenSpec.ofChange networkTrueSpec)

/-- ITS FALSE NEIGHBOUR: 'it returns false'. Refute it at one input. -/
def networkTrueWrong : ChangeSpec := { name := "networkTrue", fn := fun _ => fun
  | [d1, d2, d3] => { results := [.lit (.bool false)], args := [d1, d2, d3] }
  | _ => none }
def NetworkTrueWrongFalsely : Prop := networkTrueRow.holds Try.pinned (OpenSpec.ofChange networkTrueWrong)

/-- 'signpostlaw20.NetworkNil': WHATEVER THE INPUT: true; the input reads as it did. -/
def networkNilSpec : ChangeSpec := { name := "networkNil", fn := fun _ => fun
  | [d1, d2] => { results := [.lit (.bool true)], args := [d1, d2] }
  | _ => none }
def networkNilRow : OpenClaim := { program := "ytebkpjefdaieaaa", sum := "a1f1f613e7858213b204b8806eaca2424a4d9a0208c5c7066cc1b8fd2811312d", func := "signpost/signpostlaw20.NetworkNil", spec := "networkNil", unfollowed := true, recurses := true, apart := false }
def NetworkNilSaid : Prop := networkNilRow.holds Try.pinned (OpenSpec.ofChange networkNilSpec)

/-- ITS FALSE NEIGHBOUR: 'it returns false'. Refute it at one input. -/
def networkNilWrong : ChangeSpec := { name := "networkNil", fn := fun _ => fun
  | [d1, d2] => { results := [.lit (.bool false)], args := [d1, d2] }
  | _ => none }
def NetworkNilWrongFalsely : Prop := networkNilRow.holds Try.pinned (OpenSpec.ofChange networkNilWrong)

/-- 'signpostlaw20.NetworkAgain': WHATEVER THE INPUT: true; the input reads as it did. -/
def networkAgainSpec : ChangeSpec := { name := "networkAgain", fn := fun _ => fun
  | [d1, d2] => { results := [.lit (.bool true)], args := [d1, d2] }
  | _ => none }
def networkAgainRow : OpenClaim := { program := "ytebkpjefdaieaaa", sum := "a1f1f613e7858213b204b8806eaca2424a4d9a0208c5c7066cc1b8fd2811312d", func := "signpost/signpostlaw20.NetworkAgain", spec := "networkAgain", unfollowed := true, recurses := true, apart := false }
def NetworkAgainSaid : Prop := networkAgainRow.holds Try.pinned (OpenSpec.ofChange networkAgainSpec)

/-- ITS FALSE NEIGHBOUR: 'it returns false'. Refute it at one input. -/
def networkAgainWrong : ChangeSpec := { name := "networkAgain", fn := fun _ => fun
  | [d1, d2] => { results := [.lit (.bool false)], args := [d1, d2] }
  | _ => none }
def NetworkAgainWrongFalsely : Prop := networkAgainRow.holds Try.pinned (OpenSpec.ofChange networkAgainWrong)

/-- 'signpostlaw20.NetworkLost': WHATEVER THE INPUT: true; the input reads as it did. -/
def networkLostSpec : ChangeSpec := { name := "networkLost", fn := fun _ => fun
  | [d1, d2] => { results := [.lit (.bool true)], args := [d1, d2] }
  | _ => none }
def networkLostRow : OpenClaim := { program := "ytebkpjefdaieaaa", sum := "a1f1f613e7858213b204b8806eaca2424a4d9a0208c5c7066cc1b8fd2811312d", func := "signpost/signpostlaw20.NetworkLost", spec := "networkLost", unfollowed := true, recurses := true, apart := false }
def NetworkLostSaid : Prop := networkLostRow.holds Try.pinned (OpenSpec.ofChange networkLostSpec)

/-- ITS FALSE NEIGHBOUR: 'it returns false'. Refute it at one input. -/
def networkLostWrong : ChangeSpec := { name := "networkLost", fn := fun _ => fun
  | [d1, d2] => { results := [.lit (.bool false)], args := [d1, d2] }
  | _ => none }
def NetworkLostWrongFalsely : Prop := networkLostRow.holds Try.pinned (OpenSpec.ofChange networkLostWrong)

/-- 'signpostlaw20.NetworkAcyclic': WHATEVER THE INPUT: true; the input reads as it did. -/
def networkAcyclicSpec : ChangeSpec := { name := "networkAcyclic", fn := fun _ => fun
  | [d1, d2] => { results := [.lit (.bool true)], args := [d1, d2] }
  | _ => none }
def networkAcyclicRow : OpenClaim := { program := "ytebkpjefdaieaaa", sum := "a1f1f613e7858213b204b8806eaca2424a4d9a0208c5c7066cc1b8fd2811312d", func := "signpost/signpostlaw20.NetworkAcyclic", spec := "networkAcyclic", unfollowed := true, recurses := true, apart := false }
def NetworkAcyclicSaid : Prop := networkAcyclicRow.holds Try.pinned (OpenSpec.ofChange networkAcyclicSpec)

/-- ITS FALSE NEIGHBOUR: 'it returns false'. Refute it at one input. -/
def networkAcyclicWrong : ChangeSpec := { name := "networkAcyclic", fn := fun _ => fun
  | [d1, d2] => { results := [.lit (.bool false)], args := [d1, d2] }
  | _ => none }
def NetworkAcyclicWrongFalsely : Prop := networkAcyclicRow.holds Try.pinned (OpenSpec.ofChange networkAcyclicWrong)

/- THE SECOND FORM. 'bulk': how many values and letters a reading holds, each counted each time it is reached (what is shared counts as often as it is met; a slice's spare places count too). A statement '..UptoSaid' is the law's where the arguments, and the package variables that the reading takes, are together of bulk at most 1048576: NARROWER than '..Said'. Prove '..Said' where nothing that the law and all that it calls make is longer than what came in: it says more and counts as full. Else prove '..UptoSaid'. A law counts once. -/
mutual
def uptoBulk {H : Type} : DataW H → Nat
  | .lit (.string bytes) => bytes.length + 1
  | .lit _ => 1
  | .nil => 1
  | .ptr d => uptoBulk d + 1
  | .slice elems spare => uptoBulkAll elems + uptoBulkAll spare + 1
  | .agg parts => uptoBulkAll parts + 1
  | .iface _ d => uptoBulk d + 1
  | .map entries => uptoBulkEntries entries + 1
  | .held _ => 1
def uptoBulkAll {H : Type} : List (DataW H) → Nat
  | [] => 0
  | d :: r => uptoBulk d + uptoBulkAll r
def uptoBulkEntries {H : Type} : List (Lit × DataW H) → Nat
  | [] => 0
  | x :: r => uptoBulkEntry x + uptoBulkEntries r
def uptoBulkEntry {H : Type} : Lit × DataW H → Nat
  | (.string bytes, d) => bytes.length + uptoBulk d + 1
  | (_, d) => uptoBulk d + 1
 end
def uptoSmall : (H : Type) → List (DataW H) → Bool := fun _ ds => decide (uptoBulkAll ds ≤ 1048576)
def OpenSpec.upto (s : _root_.Go.ChangeSpec) : _root_.Go.OpenSpec := { _root_.Go.OpenSpec.ofChange s with cond := some uptoSmall }

/-- 'signpostlaw20.NetworkSettles', WHERE WHAT IT READS IS OF BULK AT MOST 1048576: true; the input reads as it did. -/
def networkSettlesUptoRow : OpenClaim := { program := "ytebkpjefdaieaaa", sum := "a1f1f613e7858213b204b8806eaca2424a4d9a0208c5c7066cc1b8fd2811312d", func := "signpost/signpostlaw20.NetworkSettles", spec := "networkSettles", unfollowed := true, recurses := true, apart := false, narrowed := true }
def NetworkSettlesUptoSaid : Prop := networkSettlesUptoRow.holds Try.pinned (OpenSpec.upto networkSettlesSpec)

/-- 'signpostlaw20.NetworkTrue', WHERE WHAT IT READS IS OF BULK AT MOST 1048576: true; the input reads as it did. -/
def networkTrueUptoRow : OpenClaim := { program := "ytebkpjefdaieaaa", sum := "a1f1f613e7858213b204b8806eaca2424a4d9a0208c5c7066cc1b8fd2811312d", func := "signpost/signpostlaw20.NetworkTrue", spec := "networkTrue", unfollowed := true, recurses := true, apart := false, narrowed := true }
def NetworkTrueUptoSaid : Prop := networkTrueUptoRow.holds Try.pinned (OpenSpec.upto networkTrueSpec)

/-- 'signpostlaw20.NetworkNil', WHERE WHAT IT READS IS OF BULK AT MOST 1048576: true; the input reads as it did. -/
def networkNilUptoRow : OpenClaim := { program := "ytebkpjefdaieaaa", sum := "a1f1f613e7858213b204b8806eaca2424a4d9a0208c5c7066cc1b8fd2811312d", func := "signpost/signpostlaw20.NetworkNil", spec := "networkNil", unfollowed := true, recurses := true, apart := false, narrowed := true }
def NetworkNilUptoSaid : Prop := networkNilUptoRow.holds Try.pinned (OpenSpec.upto networkNilSpec)

/-- 'signpostlaw20.NetworkAgain', WHERE WHAT IT READS IS OF BULK AT MOST 1048576: true; the input reads as it did. -/
def networkAgainUptoRow : OpenClaim := { program := "ytebkpjefdaieaaa", sum := "a1f1f613e7858213b204b8806eaca2424a4d9a0208c5c7066cc1b8fd2811312d", func := "signpost/signpostlaw20.NetworkAgain", spec := "networkAgain", unfollowed := true, recurses := true, apart := false, narrowed := true }
def NetworkAgainUptoSaid : Prop := networkAgainUptoRow.holds Try.pinned (OpenSpec.upto networkAgainSpec)

/-- 'signpostlaw20.NetworkLost', WHERE WHAT IT READS IS OF BULK AT MOST 1048576: true; the input reads as it did. -/
def networkLostUptoRow : OpenClaim := { program := "ytebkpjefdaieaaa", sum := "a1f1f613e7858213b204b8806eaca2424a4d9a0208c5c7066cc1b8fd2811312d", func := "signpost/signpostlaw20.NetworkLost", spec := "networkLost", unfollowed := true, recurses := true, apart := false, narrowed := true }
def NetworkLostUptoSaid : Prop := networkLostUptoRow.holds Try.pinned (OpenSpec.upto networkLostSpec)

/-- 'signpostlaw20.NetworkAcyclic', WHERE WHAT IT READS IS OF BULK AT MOST 1048576: true; the input reads as it did. -/
def networkAcyclicUptoRow : OpenClaim := { program := "ytebkpjefdaieaaa", sum := "a1f1f613e7858213b204b8806eaca2424a4d9a0208c5c7066cc1b8fd2811312d", func := "signpost/signpostlaw20.NetworkAcyclic", spec := "networkAcyclic", unfollowed := true, recurses := true, apart := false, narrowed := true }
def NetworkAcyclicUptoSaid : Prop := networkAcyclicUptoRow.holds Try.pinned (OpenSpec.upto networkAcyclicSpec)

end Rows
end Go.Proofs.Ytebkpjefdaieaaa
