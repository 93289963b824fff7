/-
  Slices of uint64 that came in, opened. Conditions: those that each theorem names.
-/
import Derived.Test.YteinpdjenplnnaaBitsB
import Derived.ChangeSlices
namespace Go.Proofs.Yteinpdjenplnnaa
open Go Go.Deep Go.ChangeShapes Go.WideShapes Go.RowKit
set_option linter.unusedVariables false
set_option linter.unusedSimpArgs false
namespace BW
def IsUs (W : World) (v : Value) : Prop := ∃ (A : Option Addr) (n cap : Nat) (V : Nat → Int), v = .slice A n cap ∧ n ≤ maxLen ∧
  ∀ i, i < n → 0 ≤ V i ∧ V i ≤ 18446744073709551615 ∧ ∃ b o, A = some ⟨b, o, none⟩ ∧ b < W.heap.size ∧ W.cell? ⟨b, o + i, none⟩ = some (.int .u64 (V i))
theorem open_Us {H : Type} {enc : TypeId × Value → H} {W : World} {base : Nat} {v : Value} {d : DataW H} {p : List MemPlace} (hv : Value.okWide Try.prog W .any base 54 v)
    (h : DataW.Trod enc Try.prog W 0 (fun _ => true) true 54 v d p) : IsUs W v := by
  obtain ⟨a1, len, cap, rfl⟩ := okWide_slice Try.underlying54 hv
  obtain ⟨fuel, hf⟩ := h
  rcases open_ints Try.underlying54 Try.underlying27 (by kernel_rfl) hf with ⟨hcs, _⟩ | ⟨a, len', cap', zs, hcs, _, hl, hm, hz, _, hcell, hwz⟩
  · simp [Value.cells] at hcs
    obtain ⟨rfl, rfl, rfl⟩ := hcs
    exact ⟨none, 0, 0, fun _ => 0, rfl, by decide, fun i hi => by omega⟩
  · simp [Value.cells] at hcs
    obtain ⟨rfl, rfl, rfl⟩ := hcs
    simp only [if_true] at hz
    obtain ⟨ab, ao, sp⟩ := a
    refine ⟨some ⟨ab, ao, sp⟩, len, cap, fun i => zs.getD i 0, rfl, by omega, fun i hi => ?_⟩
    have h0 := hcell 0 (by omega)
    have hs : sp = none := by simpa [Addr.add] using World.cell?_spot h0
    subst hs
    have hi2 := hcell i (by omega)
    rw [Addr.add_lit] at hi2
    have hb := bounds_u64 (hwz (zs.getD i 0) (by rw [List.getD_eq_getElem?_getD, List.getElem?_eq_getElem (show i < zs.length by omega)]; exact List.getElem_mem _))
    exact ⟨hb.1, hb.2, ab, ao, rfl, World.block_lt_of_cell? _ _ hi2, hi2⟩
end BW
end Go.Proofs.Yteinpdjenplnnaa
