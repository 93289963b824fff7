/-
  Package graph: Link, whatever it is asked; costs that links may have. Conditions: those that each theorem names.
-/
import Derived.Test.YtebkpjefdaieaaaGraphB
namespace Go.Proofs.Ytebkpjefdaieaaa
open Go Go.RowKit
set_option linter.unusedVariables false
set_option linter.unusedSimpArgs false
namespace GG
/-- costs that links may have -/
structure Good (c : Nat → Nat → Int) : Prop where
  sym : ∀ i k, c i k = c k i
  low : ∀ i k, 0 ≤ c i k
  high : ∀ i k, c i k ≤ 1000
theorem good_zero : Good (fun _ _ => 0) := ⟨fun _ _ => rfl, fun _ _ => by omega, fun _ _ => by omega⟩
theorem good_put {c : Nat → Nat → Int} (h : Good c) (a b : Nat) (x : Int) (h0 : 0 ≤ x) (h1 : x ≤ 1000) : Good (put (put c a b x) b a x) := by
  have e : ∀ i k, put (put c a b x) b a x i k = if (i = a ∧ k = b) ∨ (i = b ∧ k = a) then x else c i k := by
    intro i k
    unfold put
    by_cases h1 : i = b ∧ k = a
    · rw [if_pos h1, if_pos (.inr h1)]
    · rw [if_neg h1]
      by_cases h2 : i = a ∧ k = b
      · rw [if_pos h2, if_pos (.inl h2)]
      · rw [if_neg h2, if_neg (by rintro (h | h); exact h2 h; exact h1 h)]
  refine ⟨fun i k => ?_, fun i k => ?_, fun i k => ?_⟩
  · rw [e, e]
    by_cases h1 : (i = a ∧ k = b) ∨ (i = b ∧ k = a)
    · rw [if_pos h1, if_pos (by rcases h1 with ⟨p, q⟩ | ⟨p, q⟩; exact .inr ⟨q, p⟩; exact .inl ⟨q, p⟩)]
    · rw [if_neg h1, if_neg (fun h2 => h1 (by rcases h2 with ⟨p, q⟩ | ⟨p, q⟩; exact .inr ⟨q, p⟩; exact .inl ⟨q, p⟩)), h.sym i k]
  · rw [e]; have := h.low i k; split <;> omega
  · rw [e]; have := h.high i k; split <;> omega
theorem good_lnc {n : Nat} {c : Nat → Nat → Int} (h : Good c) (a b x : Int) : Good (lnc n c a b x) := by
  unfold lnc
  split
  · rename_i hl
    have hx : ¬ (x < 0 ∨ 1000 < x) := by
      intro hx
      unfold lnk at hl
      split at hl
      · cases hl
      · cases hl
    exact good_put h _ _ x (by omega) (by omega)
  · exact h
theorem link_any (g n : Nat) (c : Nat → Nat → Int) (a b x : Int) (w : World) (h : IsG w g n c) :
    Calls Try.prog 47 #[.pointer (some ⟨g, 0, none⟩), .int .i64 a, .int .i64 b, .int .i64 x] w fun e w' => e = .returned (.int .i64 (lnk n a b x)) ∧ IsG w' g n (lnc n c a b x) ∧ Only (fun i => i = g) w w' := by
  by_cases hl : lnk n a b x = 0
  · have hk : (ok n a = true ∧ ok n b = true ∧ a ≠ b) ∧ ¬ (x < 0 ∨ 1000 < x) := by
      unfold lnk at hl
      split at hl
      · rename_i h1
        split at hl
        · cases hl
        · rename_i h2; exact ⟨h1, h2⟩
      · cases hl
    obtain ⟨⟨h1, h2, h3⟩, h4⟩ := hk
    obtain ⟨A, rfl, hA⟩ := ok_nat h1
    obtain ⟨B, rfl, hB⟩ := ok_nat h2
    have e : lnc n c (A : Int) (B : Int) x = put (put c A B x) B A x := by unfold lnc; rw [if_pos hl]; rfl
    rw [hl, e]
    exact link_ok g n c A B x w h hA hB (fun e => h3 (by rw [e])) (by omega) (by omega)
  · have e : lnc n c a b x = c := by unfold lnc; rw [if_neg hl]
    rw [e]
    exact (link_bad g n c a b x w h hl).mono fun e w' ⟨he, hw⟩ => ⟨he, hw ▸ h, hw ▸ Only.refl _ _⟩
theorem rem6 (n : Int) : ∃ N : Nat, 1 ≤ N ∧ N ≤ 6 ∧ (N : Int) = 1 + (IntKind.u64.wrap n).tmod 6 := by
  have h0 : 0 ≤ IntKind.u64.wrap n ∧ IntKind.u64.wrap n ≤ 18446744073709551615 := by simp [IntKind.wrap, IntKind.bits, IntKind.signed]; omega
  have h1 : (IntKind.u64.wrap n).tmod 6 = IntKind.u64.wrap n % 6 := Int.tmod_eq_emod_of_nonneg h0.1
  refine ⟨(1 + IntKind.u64.wrap n % 6).toNat, by omega, by omega, ?_⟩
  rw [h1]
  omega
end GG
end Go.Proofs.Ytebkpjefdaieaaa
