/-
  No cell of these rows narrows 'for every input' (looked for: loops, veiled, ifaces, maps, wideKeys, modest, calm, conditions, laid).
  DERIVED. THE GIVEN ROWS OF THIS SEAT. 5 by the template 'for every input the law returns true; each argument reads behind the call as it read before'; 0 by the template 'total and deterministic' (their statements: YtdcbbjlbfghpbaaTotals.lean).
  GIVEN WITH THE SEED: the statements are not yours to turn. If you find one false, say at which input.
  Laid BY PROGRAM, IN A SANDBOX (cutbox-rows.mjs): the forced cells as the released guide's own fill.sh prints them over the translation f44adf4ca4d6df8f… (all of the seat's roots in one cut). By AI agents, Wed Nov 11 2026. No macro, syntax, notation, axiom, sorry.
-/
import Derived.Test.YtdcbbjlbfghpbaaChecked
import GoSem.Claim
import GoSem.ClaimJoined
import GoSem.ClaimMapViews
import Derived.JoinedTies
import Derived.KernelRfl
namespace Go.Proofs.Ytdcbbjlbfghpbaa
/- THE CELL 'sum', in the pinned program and in every row, IS THE sha256 OF THE DUMP (.gsa) THAT YtdcbbjlbfghpbaaProg.lean LOADS. Nothing in Lean hashes anything: it is a label: what it is worth is what the hold of that sum in a sandbox is worth. -/
noncomputable def Try.pinned : Pinned := { name := "ytdcbbjlbfghpbaa", sum := "f44adf4ca4d6df8f80f38e2390907eca6d20df8888a55f2d0dbce70b90cc12e0", checked := Try.checked }
namespace Rows
def none {H : Type} : Left H := { results := [], args := [] }

/-- 'signpostlaw09.DigestTells': WHATEVER THE INPUT: true; the input reads as it did. -/
def digestTellsSpec : ChangeSpec := { name := "digestTells", fn := fun _ => fun
  | [d1, d2, d3] => { results := [.lit (.bool true)], args := [d1, d2, d3] }
  | _ => none }
def digestTellsRow : OpenClaim := { program := "ytdcbbjlbfghpbaa", sum := "f44adf4ca4d6df8f80f38e2390907eca6d20df8888a55f2d0dbce70b90cc12e0", func := "signpost/signpostlaw09.DigestTells", spec := "digestTells", inPlace := ["internal/bytealg.Compare", "internal/abi.NoEscape"], unfollowed := true, recurses := true, apart := false }
def DigestTellsSaid : Prop := digestTellsRow.holds Try.pinned (OpenSpec.ofChange digestTellsSpec)

/-- ITS FALSE NEIGHBOUR: 'it returns false'. Refute it at one input. -/
def digestTellsWrong : ChangeSpec := { name := "digestTells", fn := fun _ => fun
  | [d1, d2, d3] => { results := [.lit (.bool false)], args := [d1, d2, d3] }
  | _ => none }
def DigestTellsWrongFalsely : Prop := digestTellsRow.holds Try.pinned (OpenSpec.ofChange digestTellsWrong)

/-- 'signpostlaw09.DigestMends': WHATEVER THE INPUT: true; the input reads as it did. -/
def digestMendsSpec : ChangeSpec := { name := "digestMends", fn := fun _ => fun
  | [d1, d2] => { results := [.lit (.bool true)], args := [d1, d2] }
  | _ => none }
def digestMendsRow : OpenClaim := { program := "ytdcbbjlbfghpbaa", sum := "f44adf4ca4d6df8f80f38e2390907eca6d20df8888a55f2d0dbce70b90cc12e0", func := "signpost/signpostlaw09.DigestMends", spec := "digestMends", inPlace := ["internal/bytealg.Compare", "internal/abi.NoEscape"], unfollowed := true, recurses := true, apart := false }
def DigestMendsSaid : Prop := digestMendsRow.holds Try.pinned (OpenSpec.ofChange digestMendsSpec)

/-- ITS FALSE NEIGHBOUR: 'it returns false'. Refute it at one input. -/
def digestMendsWrong : ChangeSpec := { name := "digestMends", fn := fun _ => fun
  | [d1, d2] => { results := [.lit (.bool false)], args := [d1, d2] }
  | _ => none }
def DigestMendsWrongFalsely : Prop := digestMendsRow.holds Try.pinned (OpenSpec.ofChange digestMendsWrong)

/-- 'signpostlaw09.DigestParts': WHATEVER THE INPUT: true; the input reads as it did. -/
def digestPartsSpec : ChangeSpec := { name := "digestParts", fn := fun _ => fun
  | [d] => { results := [.lit (.bool true)], args := [d] }
  | _ => none }
def digestPartsRow : OpenClaim := { program := "ytdcbbjlbfghpbaa", sum := "f44adf4ca4d6df8f80f38e2390907eca6d20df8888a55f2d0dbce70b90cc12e0", func := "signpost/signpostlaw09.DigestParts", spec := "digestParts", inPlace := ["internal/bytealg.Compare", "internal/abi.NoEscape"], unfollowed := true, recurses := true, apart := false }
def DigestPartsSaid : Prop := digestPartsRow.holds Try.pinned (OpenSpec.ofChange digestPartsSpec)

/-- ITS FALSE NEIGHBOUR: 'it returns false'. Refute it at one input. -/
def digestPartsWrong : ChangeSpec := { name := "digestParts", fn := fun _ => fun
  | [d] => { results := [.lit (.bool false)], args := [d] }
  | _ => none }
def DigestPartsWrongFalsely : Prop := digestPartsRow.holds Try.pinned (OpenSpec.ofChange digestPartsWrong)

/-- 'signpostlaw09.DigestLists': WHATEVER THE INPUT: true; the input reads as it did. -/
def digestListsSpec : ChangeSpec := { name := "digestLists", fn := fun _ => fun
  | [d1, d2, d3] => { results := [.lit (.bool true)], args := [d1, d2, d3] }
  | _ => none }
def digestListsRow : OpenClaim := { program := "ytdcbbjlbfghpbaa", sum := "f44adf4ca4d6df8f80f38e2390907eca6d20df8888a55f2d0dbce70b90cc12e0", func := "signpost/signpostlaw09.DigestLists", spec := "digestLists", inPlace := ["internal/bytealg.Compare", "internal/abi.NoEscape"], unfollowed := true, recurses := true, apart := false }
def DigestListsSaid : Prop := digestListsRow.holds Try.pinned (OpenSpec.ofChange digestListsSpec)

/-- ITS FALSE NEIGHBOUR: 'it returns false'. Refute it at one input. -/
def digestListsWrong : ChangeSpec := { name := "digestLists", fn := fun _ => fun
  | [d1, d2, d3] => { results := [.lit (.bool false)], args := [d1, d2, d3] }
  | _ => none }
def DigestListsWrongFalsely : Prop := digestListsRow.holds Try.pinned (OpenSpec.ofChange digestListsWrong)

/-- 'signpostlaw09.DigestBack': WHATEVER THE INPUT: true; the input reads as it did. -/
def digestBackSpec : ChangeSpec := { name := "digestBack", fn := fun _ => fun
  | [d1, d2] => { results := [.lit (.bool true)], args := [d1, d2] }
  | _ => none }
def digestBackRow : OpenClaim := { program := "ytdcbbjlbfghpbaa", sum := "f44adf4ca4d6df8f80f38e2390907eca6d20df8888a55f2d0dbce70b90cc12e0", func := "signpost/signpostlaw09.DigestBack", spec := "digestBack", inPlace := ["internal/bytealg.Compare", "internal/abi.NoEscape"], unfollowed := true, recurses := true, apart := false }
def DigestBackSaid : Prop := digestBackRow.holds Try.pinned (OpenSpec.ofChange digestBackSpec)

/-- ITS FALSE NEIGHBOUR: 'it returns false'. Refute it at one input. -/
def digestBackWrong : ChangeSpec := { name := "digestBack", fn := fun _ => fun
  | [d1, d2] => { results := [.lit (.bool false)], args := [d1, d2] }
  | _ => none }
def DigestBackWrongFalsely : Prop := digestBackRow.holds Try.pinned (OpenSpec.ofChange digestBackWrong)

/- THE SECOND FORM. 'bulk': how many values and letters a reading holds, each counted each time it is reached (what is shared counts as often as it is met; a slice's spare places count too). A statement '..UptoSaid' is the law's where the arguments, and the package variables that the reading takes, are together of bulk at most 1048576: NARROWER than '..Said'. Prove '..Said' where nothing that the law and all that it calls make is longer than what came in: it says more and counts as full. Else prove '..UptoSaid'. A law counts once. -/
mutual
def uptoBulk {H : Type} : DataW H → Nat
  | .lit (.string bytes) => bytes.length + 1
  | .lit _ => 1
  | .nil => 1
  | .ptr d => uptoBulk d + 1
  | .slice elems spare => uptoBulkAll elems + uptoBulkAll spare + 1
  | .agg parts => uptoBulkAll parts + 1
  | .iface _ d => uptoBulk d + 1
  | .map entries => uptoBulkEntries entries + 1
  | .held _ => 1
def uptoBulkAll {H : Type} : List (DataW H) → Nat
  | [] => 0
  | d :: r => uptoBulk d + uptoBulkAll r
def uptoBulkEntries {H : Type} : List (Lit × DataW H) → Nat
  | [] => 0
  | x :: r => uptoBulkEntry x + uptoBulkEntries r
def uptoBulkEntry {H : Type} : Lit × DataW H → Nat
  | (.string bytes, d) => bytes.length + uptoBulk d + 1
  | (_, d) => uptoBulk d + 1
 end
def uptoSmall : (H : Type) → List (DataW H) → Bool := fun _ ds => decide (uptoBulkAll ds ≤ 1048576)
def OpenSpec.upto (s : _root_.Go.ChangeSpec) : _root_.Go.OpenSpec := { _root_.Go.OpenSpec.ofChange s with cond := some uptoSmall }

/-- 'signpostlaw09.DigestTells', WHERE WHAT IT READS IS OF BULK AT MOST 1048576: true; the input reads as it did. -/
def digestTellsUptoRow : OpenClaim := { program := "ytdcbbjlbfghpbaa", sum := "f44adf4ca4d6df8f80f38e2390907eca6d20df8888a55f2d0dbce70b90cc12e0", func := "signpost/signpostlaw09.DigestTells", spec := "digestTells", inPlace := ["internal/bytealg.Compare", "internal/abi.NoEscape"], unfollowed := true, recurses := true, apart := false, narrowed := true }
def DigestTellsUptoSaid : Prop := digestTellsUptoRow.holds Try.pinned (OpenSpec.upto digestTellsSpec)

/-- 'signpostlaw09.DigestMends', WHERE WHAT IT READS IS OF BULK AT MOST 1048576: true; the input reads as it did. -/
def digestMendsUptoRow : OpenClaim := { program := "ytdcbbjlbfghpbaa", sum := "f44adf4ca4d6df8f80f38e2390907eca6d20df8888a55f2d0dbce70b90cc12e0", func := "signpost/signpostlaw09.DigestMends", spec := "digestMends", inPlace := ["internal/bytealg.Compare", "internal/abi.NoEscape"], unfollowed := true, recurses := true, apart := false, narrowed := true }
def DigestMendsUptoSaid : Prop := digestMendsUptoRow.holds Try.pinned (OpenSpec.upto digestMendsSpec)

/-- 'signpostlaw09.DigestParts', WHERE WHAT IT READS IS OF BULK AT MOST 1048576: true; the input reads as it did. -/
def digestPartsUptoRow : OpenClaim := { program := "ytdcbbjlbfghpbaa", sum := "f44adf4ca4d6df8f80f38e2390907eca6d20df8888a55f2d0dbce70b90cc12e0", func := "signpost/signpostlaw09.DigestParts", spec := "digestParts", inPlace := ["internal/bytealg.Compare", "internal/abi.NoEscape"], unfollowed := true, recurses := true, apart := false, narrowed := true }
def DigestPartsUptoSaid : Prop := digestPartsUptoRow.holds Try.pinned (OpenSpec.upto digestPartsSpec)

/-- 'signpostlaw09.DigestLists', WHERE WHAT IT READS IS OF BULK AT MOST 1048576: true; the input reads as it did. -/
def digestListsUptoRow : OpenClaim := { program := "ytdcbbjlbfghpbaa", sum := "f44adf4ca4d6df8f80f38e2390907eca6d20df8888a55f2d0dbce70b90cc12e0", func := "signpost/signpostlaw09.DigestLists", spec := "digestLists", inPlace := ["internal/bytealg.Compare", "internal/abi.NoEscape"], unfollowed := true, recurses := true, apart := false, narrowed := true }
def DigestListsUptoSaid : Prop := digestListsUptoRow.holds Try.pinned (OpenSpec.upto digestListsSpec)

/-- 'signpostlaw09.DigestBack', WHERE WHAT IT READS IS OF BULK AT MOST 1048576: true; the input reads as it did. -/
def digestBackUptoRow : OpenClaim := { program := "ytdcbbjlbfghpbaa", sum := "f44adf4ca4d6df8f80f38e2390907eca6d20df8888a55f2d0dbce70b90cc12e0", func := "signpost/signpostlaw09.DigestBack", spec := "digestBack", inPlace := ["internal/bytealg.Compare", "internal/abi.NoEscape"], unfollowed := true, recurses := true, apart := false, narrowed := true }
def DigestBackUptoSaid : Prop := digestBackUptoRow.holds Try.pinned (OpenSpec.upto digestBackSpec)

end Rows
end Go.Proofs.Ytdcbbjlbfghpbaa
