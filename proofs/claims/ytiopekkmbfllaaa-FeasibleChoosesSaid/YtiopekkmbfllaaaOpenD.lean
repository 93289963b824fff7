/-
  Slices that came into the laws of layer 18, opened. Conditions: those that each theorem names.
-/
import Derived.Test.YtiopekkmbfllaaaRefCh
import Derived.Test.YtiopekkmbfllaaaOpenS
import Derived.ChangeSlices
import Derived.ProofKit
import Derived.Lib.SmallJoins
import Derived.OpenShut
import Derived.Deep.Fields
namespace Go.Proofs.Ytiopekkmbfllaaa
open Go Go.Deep Go.Joins Go.ChangeShapes Go.WideShapes Go.RowKit FR FP
set_option linter.unusedVariables false
set_option linter.unusedSimpArgs false
namespace Law18
open Feas
def IsDs (W : World) (v : Value) : Prop := ∃ (A : Option Addr) (n cap : Nat) (M S : Nat → Int), v = .slice A n cap ∧ n ≤ maxLen ∧
  ∀ i, i < n → Sm (S i) ∧ ∃ b o, A = some ⟨b, o, none⟩ ∧ b < W.heap.size ∧ W.cell? ⟨b, o + i * 2, none⟩ = some (.int .i64 (M i)) ∧ W.cell? ⟨b, o + i * 2 + 1, none⟩ = some (.int .u32 (S i))
theorem open_Ds {H : Type} {enc : TypeId × Value → H} {W : World} {base : Nat} {v : Value} {d : DataW H} {p : List MemPlace} (hv : Value.okWide Try.prog W .any base 41 v)
    (h : DataW.Trod enc Try.prog W 0 (fun _ => true) true 41 v d p) : IsDs W v := by
  obtain ⟨a1, len, cap, rfl⟩ := okWide_slice Try.underlying41 hv
  obtain ⟨fuel, hf⟩ := h
  rcases open_slice_pairs Try.underlying41 Try.underlying24 cellsD rfl rfl (by kernel_rfl) (by kernel_rfl) hf with ⟨hcs, _⟩ | ⟨a, len', cap', m, n, V0, V1, D0, D1, P0, P1, hcs, _, hl, hm, hmm, _, hx⟩
  · simp [Value.cells] at hcs
    obtain ⟨rfl, rfl, rfl⟩ := hcs
    exact ⟨none, 0, 0, fun _ => 0, fun _ => 0, rfl, by decide, fun i hi => by omega⟩
  · simp [Value.cells] at hcs
    obtain ⟨rfl, rfl, rfl⟩ := hcs
    obtain ⟨ab, ao, sp⟩ := a
    have each : ∀ i, i < len → ∃ q : Int × Int, Sm q.2 ∧ sp = none ∧ W.cell? ⟨ab, ao + i * 2, none⟩ = some (.int .i64 q.1) ∧ W.cell? ⟨ab, ao + i * 2 + 1, none⟩ = some (.int .u32 q.2) := by
      intro i hi
      obtain ⟨h0, h1, t0, t1⟩ := hx i (by rw [hmm]; split <;> omega)
      obtain ⟨a, e0, _, wa⟩ := DataW.trod_int Try.underlying3 t0
      obtain ⟨b, e1, _, wb⟩ := DataW.trod_int Try.underlying22 t1
      have hs : sp = none := by
        obtain ⟨z0, _, _, _⟩ := hx 0 (by rw [hmm]; split <;> omega)
        simpa [Addr.add] using World.cell?_spot z0
      subst hs
      simp at e0 e1
      rw [e0] at h0
      rw [e1] at h1
      rw [Addr.add_lit] at h0 h1
      exact ⟨(a, b), sm_u32 wb, rfl, h0, h1⟩
    obtain ⟨q, hq⟩ := choose_lt each
    refine ⟨some ⟨ab, ao, sp⟩, len, cap, fun i => (q i).1, fun i => (q i).2, rfl, by omega, fun i hi => ?_⟩
    obtain ⟨h0, h1, h2, h3⟩ := hq i hi
    subst h1
    exact ⟨h0, ab, ao, rfl, World.block_lt_of_cell? _ _ h2, h2, h3⟩

def IsIs (W : World) (v : Value) : Prop := ∃ (A : Option Addr) (n cap : Nat) (V : Nat → Int), v = .slice A n cap ∧ n ≤ maxLen ∧
  RefCh.Ints W A n V
theorem open_Is {H : Type} {enc : TypeId × Value → H} {W : World} {base : Nat} {v : Value} {d : DataW H} {p : List MemPlace} (hv : Value.okWide Try.prog W .any base 42 v)
    (h : DataW.Trod enc Try.prog W 0 (fun _ => true) true 42 v d p) : IsIs W v := by
  obtain ⟨a1, len, cap, rfl⟩ := okWide_slice Try.underlying42 hv
  obtain ⟨fuel, hf⟩ := h
  rcases open_ints Try.underlying42 Try.underlying3 (by kernel_rfl) hf with ⟨hcs, _⟩ | ⟨a, len', cap', zs, hcs, _, hl, hm, hz, _, hcell, hwz⟩
  · simp [Value.cells] at hcs
    obtain ⟨rfl, rfl, rfl⟩ := hcs
    exact ⟨none, 0, 0, fun _ => 0, rfl, by decide, fun i hi => by omega⟩
  · simp [Value.cells] at hcs
    obtain ⟨rfl, rfl, rfl⟩ := hcs
    simp only [if_true] at hz
    obtain ⟨ab, ao, sp⟩ := a
    refine ⟨some ⟨ab, ao, sp⟩, len, cap, fun i => zs.getD i 0, rfl, by omega, fun i hi => ?_⟩
    have h0 := hcell 0 (by omega)
    have hs : sp = none := by simpa [Addr.add] using World.cell?_spot h0
    subst hs
    have hi2 := hcell i (by omega)
    rw [Addr.add_lit] at hi2
    exact ⟨ab, ao, rfl, World.block_lt_of_cell? _ _ hi2, hi2⟩

end Law18
end Go.Proofs.Ytiopekkmbfllaaa
