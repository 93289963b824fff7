/-
  Slices of numbers that came in, opened. Conditions: those that each theorem names.
-/
import Derived.Test.YtbghebncmfjgiaaAwake17
import Derived.ChangeSlices
import Derived.ProofKit
import Derived.Lib.SmallJoins
import Derived.OpenShut
namespace Go.Proofs.Ytbghebncmfjgiaa
open Go Go.Deep Go.ChangeShapes Go.WideShapes Go.RowKit
set_option linter.unusedVariables false
set_option linter.unusedSimpArgs false
namespace GG
def IsIs (W : World) (v : Value) : Prop := ∃ (A : Option Addr) (n cap : Nat) (V : Nat → Int), v = .slice A n cap ∧ n ≤ maxLen ∧
  Ints W A n V
theorem open_Is {H : Type} {enc : TypeId × Value → H} {W : World} {base : Nat} {v : Value} {d : DataW H} {p : List MemPlace} (hv : Value.okWide Try.prog W .any base 32 v)
    (h : DataW.Trod enc Try.prog W 0 (fun _ => true) true 32 v d p) : IsIs W v := by
  obtain ⟨a1, len, cap, rfl⟩ := okWide_slice Try.underlying32 hv
  obtain ⟨fuel, hf⟩ := h
  rcases open_ints Try.underlying32 Try.underlying3 (by kernel_rfl) hf with ⟨hcs, _⟩ | ⟨a, len', cap', zs, hcs, _, hl, hm, hz, _, hcell, hwz⟩
  · simp [Value.cells] at hcs
    obtain ⟨rfl, rfl, rfl⟩ := hcs
    exact ⟨none, 0, 0, fun _ => 0, rfl, by decide, fun i hi => by omega⟩
  · simp [Value.cells] at hcs
    obtain ⟨rfl, rfl, rfl⟩ := hcs
    simp only [if_true] at hz
    obtain ⟨ab, ao, sp⟩ := a
    refine ⟨some ⟨ab, ao, sp⟩, len, cap, fun i => zs.getD i 0, rfl, by omega, fun i hi => ?_⟩
    have h0 := hcell 0 (by omega)
    have hs : sp = none := by simpa [Addr.add] using World.cell?_spot h0
    subst hs
    have hi2 := hcell i (by omega)
    rw [Addr.add_lit] at hi2
    exact ⟨ab, ao, rfl, World.block_lt_of_cell? _ _ hi2, hi2⟩
end GG
end Go.Proofs.Ytbghebncmfjgiaa
