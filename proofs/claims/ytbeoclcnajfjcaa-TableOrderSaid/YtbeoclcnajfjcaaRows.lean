/-
  No cell of these rows narrows 'for every input' (looked for: loops, veiled, ifaces, maps, wideKeys, modest, calm, conditions, laid).
  DERIVED. THE GIVEN ROWS OF THIS SEAT. 7 by the template 'for every input the law returns true; each argument reads behind the call as it read before'; 0 by the template 'total and deterministic' (their statements: YtbeoclcnajfjcaaTotals.lean).
  GIVEN WITH THE SEED: the statements are not yours to turn. If you find one false, say at which input.
  Laid BY PROGRAM, IN A SANDBOX (cutbox-rows.mjs): the forced cells as the released guide's own fill.sh prints them over the translation 2bd21338c0d1024a… (all of the seat's roots in one cut). By AI agents, Wed Nov 11 2026. No macro, syntax, notation, axiom, sorry.
-/
import Derived.Test.YtbeoclcnajfjcaaChecked
import GoSem.Claim
import GoSem.ClaimJoined
import GoSem.ClaimMapViews
import Derived.JoinedTies
import Derived.KernelRfl
namespace Go.Proofs.Ytbeoclcnajfjcaa
/- THE CELL 'sum', in the pinned program and in every row, IS THE sha256 OF THE DUMP (.gsa) THAT YtbeoclcnajfjcaaProg.lean LOADS. Nothing in Lean hashes anything: it is a label: what it is worth is what the hold of that sum in a sandbox is worth. -/
noncomputable def Try.pinned : Pinned := { name := "ytbeoclcnajfjcaa", sum := "2bd21338c0d1024ade105d29acfbd4664cdc2d5893426585029bd5787c70243e", checked := Try.checked }
namespace Rows
def none {H : Type} : Left H := { results := [], args := [] }

/-- 'signpostlaw06.TablePlays': WHATEVER THE INPUT: true; the input reads as it did. -/
def tablePlaysSpec : ChangeSpec := { name := "tablePlays", fn := fun _ => fun
  | [d1, d2, d3] => { results := [.lit (.bool true)], args := [d1, d2, d3] }
  | _ => none }
def tablePlaysRow : OpenClaim := { program := "ytbeoclcnajfjcaa", sum := "2bd21338c0d1024ade105d29acfbd4664cdc2d5893426585029bd5787c70243e", func := "signpost/signpostlaw06.TablePlays", spec := "tablePlays", inPlace := ["internal/bytealg.Compare", "slices.overlaps[signpost/api.Route]"], unfollowed := true, recurses := true, plainKeys := false, apart := false }
def TablePlaysSaid : Prop := tablePlaysRow.holds Try.pinned (OpenSpec.ofChange tablePlaysSpec)

/-- ITS FALSE NEIGHBOUR: 'it returns false'. Refute it at one input. -/
def tablePlaysWrong : ChangeSpec := { name := "tablePlays", fn := fun _ => fun
  | [d1, d2, d3] => { results := [.lit (.bool false)], args := [d1, d2, d3] }
  | _ => none }
def TablePlaysWrongFalsely : Prop := tablePlaysRow.holds Try.pinned (OpenSpec.ofChange tablePlaysWrong)

/-- 'signpostlaw06.TableMakes': WHATEVER THE INPUT: true; the input reads as it did. -/
def tableMakesSpec : ChangeSpec := { name := "tableMakes", fn := fun _ => fun
  | [d] => { results := [.lit (.bool true)], args := [d] }
  | _ => none }
def tableMakesRow : OpenClaim := { program := "ytbeoclcnajfjcaa", sum := "2bd21338c0d1024ade105d29acfbd4664cdc2d5893426585029bd5787c70243e", func := "signpost/signpostlaw06.TableMakes", spec := "tableMakes", inPlace := ["internal/bytealg.Compare", "slices.overlaps[signpost/api.Route]"], unfollowed := true, recurses := true, plainKeys := false, apart := false }
def TableMakesSaid : Prop := tableMakesRow.holds Try.pinned (OpenSpec.ofChange tableMakesSpec)

/-- ITS FALSE NEIGHBOUR: 'it returns false'. Refute it at one input. -/
def tableMakesWrong : ChangeSpec := { name := "tableMakes", fn := fun _ => fun
  | [d] => { results := [.lit (.bool false)], args := [d] }
  | _ => none }
def TableMakesWrongFalsely : Prop := tableMakesRow.holds Try.pinned (OpenSpec.ofChange tableMakesWrong)

/-- 'signpostlaw06.TableChanges': WHATEVER THE INPUT: true; the input reads as it did. -/
def tableChangesSpec : ChangeSpec := { name := "tableChanges", fn := fun _ => fun
  | [d1, d2] => { results := [.lit (.bool true)], args := [d1, d2] }
  | _ => none }
def tableChangesRow : OpenClaim := { program := "ytbeoclcnajfjcaa", sum := "2bd21338c0d1024ade105d29acfbd4664cdc2d5893426585029bd5787c70243e", func := "signpost/signpostlaw06.TableChanges", spec := "tableChanges", inPlace := ["internal/bytealg.Compare", "slices.overlaps[signpost/api.Route]"], unfollowed := true, recurses := true, plainKeys := false, apart := false }
def TableChangesSaid : Prop := tableChangesRow.holds Try.pinned (OpenSpec.ofChange tableChangesSpec)

/-- ITS FALSE NEIGHBOUR: 'it returns false'. Refute it at one input. -/
def tableChangesWrong : ChangeSpec := { name := "tableChanges", fn := fun _ => fun
  | [d1, d2] => { results := [.lit (.bool false)], args := [d1, d2] }
  | _ => none }
def TableChangesWrongFalsely : Prop := tableChangesRow.holds Try.pinned (OpenSpec.ofChange tableChangesWrong)

/-- 'signpostlaw06.TableCopies': WHATEVER THE INPUT: true; the input reads as it did. -/
def tableCopiesSpec : ChangeSpec := { name := "tableCopies", fn := fun _ => fun
  | [d1, d2] => { results := [.lit (.bool true)], args := [d1, d2] }
  | _ => none }
def tableCopiesRow : OpenClaim := { program := "ytbeoclcnajfjcaa", sum := "2bd21338c0d1024ade105d29acfbd4664cdc2d5893426585029bd5787c70243e", func := "signpost/signpostlaw06.TableCopies", spec := "tableCopies", inPlace := ["internal/bytealg.Compare", "slices.overlaps[signpost/api.Route]"], unfollowed := true, recurses := true, plainKeys := false, apart := false }
def TableCopiesSaid : Prop := tableCopiesRow.holds Try.pinned (OpenSpec.ofChange tableCopiesSpec)

/-- ITS FALSE NEIGHBOUR: 'it returns false'. Refute it at one input. -/
def tableCopiesWrong : ChangeSpec := { name := "tableCopies", fn := fun _ => fun
  | [d1, d2] => { results := [.lit (.bool false)], args := [d1, d2] }
  | _ => none }
def TableCopiesWrongFalsely : Prop := tableCopiesRow.holds Try.pinned (OpenSpec.ofChange tableCopiesWrong)

/-- 'signpostlaw06.TableNil': WHATEVER THE INPUT: true; the input reads as it did. -/
def tableNilSpec : ChangeSpec := { name := "tableNil", fn := fun _ => fun
  | [d1, d2] => { results := [.lit (.bool true)], args := [d1, d2] }
  | _ => none }
def tableNilRow : OpenClaim := { program := "ytbeoclcnajfjcaa", sum := "2bd21338c0d1024ade105d29acfbd4664cdc2d5893426585029bd5787c70243e", func := "signpost/signpostlaw06.TableNil", spec := "tableNil", inPlace := ["internal/bytealg.Compare", "slices.overlaps[signpost/api.Route]"], unfollowed := true, recurses := true, plainKeys := false, apart := false }
def TableNilSaid : Prop := tableNilRow.holds Try.pinned (OpenSpec.ofChange tableNilSpec)

/-- ITS FALSE NEIGHBOUR: 'it returns false'. Refute it at one input. -/
def tableNilWrong : ChangeSpec := { name := "tableNil", fn := fun _ => fun
  | [d1, d2] => { results := [.lit (.bool false)], args := [d1, d2] }
  | _ => none }
def TableNilWrongFalsely : Prop := tableNilRow.holds Try.pinned (OpenSpec.ofChange tableNilWrong)

/-- 'signpostlaw06.TableOrder': WHATEVER THE INPUT: true; the input reads as it did. -/
def tableOrderSpec : ChangeSpec := { name := "tableOrder", fn := fun _ => fun
  | [d1, d2] => { results := [.lit (.bool true)], args := [d1, d2] }
  | _ => none }
def tableOrderRow : OpenClaim := { program := "ytbeoclcnajfjcaa", sum := "2bd21338c0d1024ade105d29acfbd4664cdc2d5893426585029bd5787c70243e", func := "signpost/signpostlaw06.TableOrder", spec := "tableOrder", inPlace := ["internal/bytealg.Compare", "slices.overlaps[signpost/api.Route]"], unfollowed := true, recurses := true, plainKeys := false, apart := false }
def TableOrderSaid : Prop := tableOrderRow.holds Try.pinned (OpenSpec.ofChange tableOrderSpec)

/-- ITS FALSE NEIGHBOUR: 'it returns false'. Refute it at one input. -/
def tableOrderWrong : ChangeSpec := { name := "tableOrder", fn := fun _ => fun
  | [d1, d2] => { results := [.lit (.bool false)], args := [d1, d2] }
  | _ => none }
def TableOrderWrongFalsely : Prop := tableOrderRow.holds Try.pinned (OpenSpec.ofChange tableOrderWrong)

/-- 'signpostlaw06.TableBetween': WHATEVER THE INPUT: true; the input reads as it did. -/
def tableBetweenSpec : ChangeSpec := { name := "tableBetween", fn := fun _ => fun
  | [d1, d2, d3] => { results := [.lit (.bool true)], args := [d1, d2, d3] }
  | _ => none }
def tableBetweenRow : OpenClaim := { program := "ytbeoclcnajfjcaa", sum := "2bd21338c0d1024ade105d29acfbd4664cdc2d5893426585029bd5787c70243e", func := "signpost/signpostlaw06.TableBetween", spec := "tableBetween", inPlace := ["internal/bytealg.Compare", "slices.overlaps[signpost/api.Route]"], unfollowed := true, recurses := true, plainKeys := false, apart := false }
def TableBetweenSaid : Prop := tableBetweenRow.holds Try.pinned (OpenSpec.ofChange tableBetweenSpec)

/-- ITS FALSE NEIGHBOUR: 'it returns false'. Refute it at one input. -/
def tableBetweenWrong : ChangeSpec := { name := "tableBetween", fn := fun _ => fun
  | [d1, d2, d3] => { results := [.lit (.bool false)], args := [d1, d2, d3] }
  | _ => none }
def TableBetweenWrongFalsely : Prop := tableBetweenRow.holds Try.pinned (OpenSpec.ofChange tableBetweenWrong)

/- THE SECOND FORM. 'bulk': how many values and letters a reading holds, each counted each time it is reached (what is shared counts as often as it is met; a slice's spare places count too). A statement '..UptoSaid' is the law's where the arguments, and the package variables that the reading takes, are together of bulk at most 1048576: NARROWER than '..Said'. Prove '..Said' where nothing that the law and all that it calls make is longer than what came in: it says more and counts as full. Else prove '..UptoSaid'. A law counts once. -/
mutual
def uptoBulk {H : Type} : DataW H → Nat
  | .lit (.string bytes) => bytes.length + 1
  | .lit _ => 1
  | .nil => 1
  | .ptr d => uptoBulk d + 1
  | .slice elems spare => uptoBulkAll elems + uptoBulkAll spare + 1
  | .agg parts => uptoBulkAll parts + 1
  | .iface _ d => uptoBulk d + 1
  | .map entries => uptoBulkEntries entries + 1
  | .held _ => 1
def uptoBulkAll {H : Type} : List (DataW H) → Nat
  | [] => 0
  | d :: r => uptoBulk d + uptoBulkAll r
def uptoBulkEntries {H : Type} : List (Lit × DataW H) → Nat
  | [] => 0
  | x :: r => uptoBulkEntry x + uptoBulkEntries r
def uptoBulkEntry {H : Type} : Lit × DataW H → Nat
  | (.string bytes, d) => bytes.length + uptoBulk d + 1
  | (_, d) => uptoBulk d + 1
 end
def uptoSmall : (H : Type) → List (DataW H) → Bool := fun _ ds => decide (uptoBulkAll ds ≤ 1048576)
def OpenSpec.upto (s : _root_.Go.ChangeSpec) : _root_.Go.OpenSpec := { _root_.Go.OpenSpec.ofChange s with cond := some uptoSmall }

/-- 'signpostlaw06.TablePlays', WHERE WHAT IT READS IS OF BULK AT MOST 1048576: true; the input reads as it did. -/
def tablePlaysUptoRow : OpenClaim := { program := "ytbeoclcnajfjcaa", sum := "2bd21338c0d1024ade105d29acfbd4664cdc2d5893426585029bd5787c70243e", func := "signpost/signpostlaw06.TablePlays", spec := "tablePlays", inPlace := ["internal/bytealg.Compare", "slices.overlaps[signpost/api.Route]"], unfollowed := true, recurses := true, plainKeys := false, apart := false, narrowed := true }
def TablePlaysUptoSaid : Prop := tablePlaysUptoRow.holds Try.pinned (OpenSpec.upto tablePlaysSpec)

/-- 'signpostlaw06.TableMakes', WHERE WHAT IT READS IS OF BULK AT MOST 1048576: true; the input reads as it did. -/
def tableMakesUptoRow : OpenClaim := { program := "ytbeoclcnajfjcaa", sum := "2bd21338c0d1024ade105d29acfbd4664cdc2d5893426585029bd5787c70243e", func := "signpost/signpostlaw06.TableMakes", spec := "tableMakes", inPlace := ["internal/bytealg.Compare", "slices.overlaps[signpost/api.Route]"], unfollowed := true, recurses := true, plainKeys := false, apart := false, narrowed := true }
def TableMakesUptoSaid : Prop := tableMakesUptoRow.holds Try.pinned (OpenSpec.upto tableMakesSpec)

/-- 'signpostlaw06.TableChanges', WHERE WHAT IT READS IS OF BULK AT MOST 1048576: true; the input reads as it did. -/
def tableChangesUptoRow : OpenClaim := { program := "ytbeoclcnajfjcaa", sum := "2bd21338c0d1024ade105d29acfbd4664cdc2d5893426585029bd5787c70243e", func := "signpost/signpostlaw06.TableChanges", spec := "tableChanges", inPlace := ["internal/bytealg.Compare", "slices.overlaps[signpost/api.Route]"], unfollowed := true, recurses := true, plainKeys := false, apart := false, narrowed := true }
def TableChangesUptoSaid : Prop := tableChangesUptoRow.holds Try.pinned (OpenSpec.upto tableChangesSpec)

/-- 'signpostlaw06.TableCopies', WHERE WHAT IT READS IS OF BULK AT MOST 1048576: true; the input reads as it did. -/
def tableCopiesUptoRow : OpenClaim := { program := "ytbeoclcnajfjcaa", sum := "2bd21338c0d1024ade105d29acfbd4664cdc2d5893426585029bd5787c70243e", func := "signpost/signpostlaw06.TableCopies", spec := "tableCopies", inPlace := ["internal/bytealg.Compare", "slices.overlaps[signpost/api.Route]"], unfollowed := true, recurses := true, plainKeys := false, apart := false, narrowed := true }
def TableCopiesUptoSaid : Prop := tableCopiesUptoRow.holds Try.pinned (OpenSpec.upto tableCopiesSpec)

/-- 'signpostlaw06.TableNil', WHERE WHAT IT READS IS OF BULK AT MOST 1048576: true; the input reads as it did. -/
def tableNilUptoRow : OpenClaim := { program := "ytbeoclcnajfjcaa", sum := "2bd21338c0d1024ade105d29acfbd4664cdc2d5893426585029bd5787c70243e", func := "signpost/signpostlaw06.TableNil", spec := "tableNil", inPlace := ["internal/bytealg.Compare", "slices.overlaps[signpost/api.Route]"], unfollowed := true, recurses := true, plainKeys := false, apart := false, narrowed := true }
def TableNilUptoSaid : Prop := tableNilUptoRow.holds Try.pinned (OpenSpec.upto tableNilSpec)

/-- 'signpostlaw06.TableOrder', WHERE WHAT IT READS IS OF BULK AT MOST 1048576: true; the input reads as it did. -/
def tableOrderUptoRow : OpenClaim := { program := "ytbeoclcnajfjcaa", sum := "2bd21338c0d1024ade105d29acfbd4664cdc2d5893426585029bd5787c70243e", func := "signpost/signpostlaw06.TableOrder", spec := "tableOrder", inPlace := ["internal/bytealg.Compare", "slices.overlaps[signpost/api.Route]"], unfollowed := true, recurses := true, plainKeys := false, apart := false, narrowed := true }
def TableOrderUptoSaid : Prop := tableOrderUptoRow.holds Try.pinned (OpenSpec.upto tableOrderSpec)

/-- 'signpostlaw06.TableBetween', WHERE WHAT IT READS IS OF BULK AT MOST 1048576: true; the input reads as it did. -/
def tableBetweenUptoRow : OpenClaim := { program := "ytbeoclcnajfjcaa", sum := "2bd21338c0d1024ade105d29acfbd4664cdc2d5893426585029bd5787c70243e", func := "signpost/signpostlaw06.TableBetween", spec := "tableBetween", inPlace := ["internal/bytealg.Compare", "slices.overlaps[signpost/api.Route]"], unfollowed := true, recurses := true, plainKeys := false, apart := false, narrowed := true }
def TableBetweenUptoSaid : Prop := tableBetweenUptoRow.holds Try.pinned (OpenSpec.upto tableBetweenSpec)

end Rows
end Go.Proofs.Ytbeoclcnajfjcaa
