/-
  Links that came into the laws of layer 17, opened; Link, whatever it is asked. Conditions: those that each theorem names.
-/
import Derived.Test.YtbghebncmfjgiaaOpenI
import Derived.Test.YtbghebncmfjgiaaOpenS
import Derived.Deep.Fields
namespace Go.Proofs.Ytbghebncmfjgiaa
open Go Go.Deep Go.Joins Go.ChangeShapes Go.WideShapes Go.RowKit
set_option linter.unusedVariables false
set_option linter.unusedSimpArgs false
namespace GG
theorem cellsL : Try.prog.cellsOf 31 = 3 := by kernel_rfl
def IsLs (W : World) (v : Value) : Prop := ∃ (A : Option Addr) (n cap : Nat) (K N V : Nat → Int), v = .slice A n cap ∧ n ≤ maxLen ∧
  ∀ i, i < n → ∃ b o, A = some ⟨b, o, none⟩ ∧ b < W.heap.size ∧ W.cell? ⟨b, o + i * 3, none⟩ = some (.int .i64 (K i)) ∧ W.cell? ⟨b, o + i * 3 + 1, none⟩ = some (.int .i64 (N i)) ∧ W.cell? ⟨b, o + i * 3 + 2, none⟩ = some (.int .i64 (V i))
theorem open_Ls {H : Type} {enc : TypeId × Value → H} {W : World} {base : Nat} {v : Value} {d : DataW H} {p : List MemPlace} (hv : Value.okWide Try.prog W .any base 22 v)
    (h : DataW.Trod enc Try.prog W 0 (fun _ => true) true 22 v d p) : IsLs W v := by
  obtain ⟨a1, len, cap, rfl⟩ := okWide_slice Try.underlying22 hv
  obtain ⟨fuel, hf⟩ := h
  rcases open_slice_three Try.underlying22 Try.underlying31 cellsL rfl rfl rfl (by kernel_rfl) (by kernel_rfl) (by kernel_rfl) hf with hcs | ⟨b, o, len', cap', ⟨s, hcs, hs⟩, hl, hx⟩
  · simp [Value.cells] at hcs
    obtain ⟨rfl, rfl, rfl⟩ := hcs
    exact ⟨none, 0, 0, fun _ => 0, fun _ => 0, fun _ => 0, rfl, by decide, fun i hi => by omega⟩
  · simp [Value.cells] at hcs
    obtain ⟨rfl, rfl, rfl⟩ := hcs
    have each : ∀ i, i < len → ∃ q : Int × Int × Int, W.cell? ⟨b, o + i * 3, none⟩ = some (.int .i64 q.1) ∧ W.cell? ⟨b, o + i * 3 + 1, none⟩ = some (.int .i64 q.2.1) ∧ W.cell? ⟨b, o + i * 3 + 2, none⟩ = some (.int .i64 q.2.2) := by
      intro i hi
      obtain ⟨v0, v1, v2, n, y0, y1, y2, h0, h1, h2, t0, t1, t2⟩ := hx i hi
      obtain ⟨a, e0, _, wa⟩ := DataW.trod_int Try.underlying3 t0
      obtain ⟨b, e1, _, wb⟩ := DataW.trod_int Try.underlying3 t1
      obtain ⟨c, e2, _, wc⟩ := DataW.trod_int Try.underlying3 t2
      simp at e0 e1 e2
      subst e0 e1 e2
      exact ⟨(a, b, c), h0, h1, h2⟩
    obtain ⟨q, hq⟩ := choose_lt each
    refine ⟨some ⟨b, o, s⟩, len, cap, fun i => (q i).1, fun i => (q i).2.1, fun i => (q i).2.2, rfl, hl, fun i hi => ?_⟩
    have hs0 := hs (by omega)
    subst hs0
    obtain ⟨h2, h3, h4⟩ := hq i hi
    exact ⟨b, o, rfl, World.block_lt_of_cell? _ _ h2, h2, h3, h4⟩
theorem good_lnc {n : Nat} {c : Nat → Nat → Int} (h : Good c) (a b x : Int) : Good (lnc n c a b x) := by
  unfold lnc
  split
  · rename_i hl
    have hx : ¬ (x < 0 ∨ 1000 < x) := by
      intro hx
      unfold lnk at hl
      split at hl
      · cases hl
      · cases hl
    exact good_put h _ _ x (by omega) (by omega)
  · exact h
theorem link_any (g n : Nat) (c : Nat → Nat → Int) (a b x : Int) (w : World) (h : IsG w g n c) :
    Calls Try.prog 12 #[.pointer (some ⟨g, 0, none⟩), .int .i64 a, .int .i64 b, .int .i64 x] w fun e w' => e = .returned (.int .i64 (lnk n a b x)) ∧ IsG w' g n (lnc n c a b x) ∧ Only (fun i => i = g) w w' := by
  by_cases hl : lnk n a b x = 0
  · have hk : (ok n a = true ∧ ok n b = true ∧ a ≠ b) ∧ ¬ (x < 0 ∨ 1000 < x) := by
      unfold lnk at hl
      split at hl
      · rename_i h1
        split at hl
        · cases hl
        · rename_i h2; exact ⟨h1, h2⟩
      · cases hl
    obtain ⟨⟨h1, h2, h3⟩, h4⟩ := hk
    obtain ⟨A, rfl, hA⟩ := ok_nat h1
    obtain ⟨B, rfl, hB⟩ := ok_nat h2
    have e : lnc n c (A : Int) (B : Int) x = put (put c A B x) B A x := by unfold lnc; rw [if_pos hl]; rfl
    rw [hl, e]
    exact link_ok g n c A B x w h hA hB (fun e => h3 (by rw [e])) (by omega) (by omega)
  · have e : lnc n c a b x = c := by unfold lnc; rw [if_neg hl]
    rw [e]
    exact (link_bad g n c a b x w h hl).mono fun e w' ⟨he, hw⟩ => ⟨he, hw ▸ h, hw ▸ Only.refl _ _⟩
/-- the condition that a drawn region keeps may grow on the way -/
theorem held_mono {P : Program} {ops : Array Oper} {Q : Exit → Act → World → Prop} {md : Region.Mode} {S S' : World → Prop} (h : ∀ w, S' w → S w) : ∀ (fuel : Nat) (listed : Array Bool) (a : Act) (w : World), wpAnyH P md ops Q S' fuel listed a w → wpAnyH P md ops Q S fuel listed a w
  | 0, _, _, _, hh => hh
  | fuel + 1, _, _, _, hh => ⟨hh.1, fun i hi => wpOp_mono (fun a' w' h' => ⟨h _ h'.1, held_mono h fuel _ a' w' h'.2⟩) (hh.2 i hi)⟩
theorem rem6 (n : Int) : ∃ N : Nat, 1 ≤ N ∧ N ≤ 6 ∧ (N : Int) = 1 + (IntKind.u64.wrap n).tmod 6 := by
  have h0 : 0 ≤ IntKind.u64.wrap n ∧ IntKind.u64.wrap n ≤ 18446744073709551615 := by simp [IntKind.wrap, IntKind.bits, IntKind.signed]; omega
  have h1 : (IntKind.u64.wrap n).tmod 6 = IntKind.u64.wrap n % 6 := Int.tmod_eq_emod_of_nonneg h0.1
  refine ⟨(1 + IntKind.u64.wrap n % 6).toNat, by omega, by omega, ?_⟩
  rw [h1]
  omega
end GG
end Go.Proofs.Ytbghebncmfjgiaa
