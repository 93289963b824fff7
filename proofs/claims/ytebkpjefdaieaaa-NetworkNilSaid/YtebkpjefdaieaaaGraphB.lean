/-
  Package graph on none, and beyond its nodes. Conditions: those that each theorem names.
-/
import Derived.Test.YtebkpjefdaieaaaFar
namespace Go.Proofs.Ytebkpjefdaieaaa
open Go Go.RowKit
set_option linter.unusedVariables false
set_option linter.unusedSimpArgs false
namespace GG
set_option maxRecDepth 1000000 in
set_option maxHeartbeats 4000000 in
theorem far_bad (g n : Nat) (c : Nat → Nat → Int) (t : Int) (w : World) (h : IsG w g n c) (hk : ok n t = false) :
    Calls Try.prog 41 #[.pointer (some ⟨g, 0, none⟩), .int .i64 t] w fun e w' => e = .returned (.slice none 0 0) ∧ w = w' := by
  have H := Lib.hid h
  clear h
  go_enter Try.func41, Try.ntmps41
  go_wp2
  go_step3
  go_wp2_with (go_at_call 54; refine (is_any g n c t w H.out).mono ?_; rintro e w' ⟨rfl, rfl⟩; rw [hk])
  simp only [Exit.noGoto_ret]
  go_ret
  exact ⟨rfl, rfl⟩
set_option maxRecDepth 1000000 in
set_option maxHeartbeats 4000000 in
theorem far_nil (t : Int) (w : World) :
    Calls Try.prog 41 #[.pointer none, .int .i64 t] w fun e w' => e = .returned (.slice none 0 0) ∧ w = w' := by
  go_enter Try.func41, Try.ntmps41
  go_wp2
  go_step3
  go_wp2_with (go_at_call 54; refine (is_nil t w).mono ?_; rintro e w' ⟨rfl, rfl⟩)
  simp only [Exit.noGoto_ret]
  go_ret
  exact ⟨rfl, rfl⟩
set_option maxHeartbeats 1600000 in
theorem cost_nil (a b : Int) (w : World) :
    Calls Try.prog 65 #[.pointer none, .int .i64 a, .int .i64 b] w fun e w' => e = .returned (.int .i64 0) ∧ w = w' := by
  go_enter Try.func65, Try.ntmps65
  go_wp2_with (go_at_call 54; refine (is_nil a w).mono ?_; rintro e w' ⟨rfl, rfl⟩)
  go_ret
  exact ⟨rfl, rfl⟩
set_option maxHeartbeats 1600000 in
theorem link_nil (a b x : Int) (w : World) :
    Calls Try.prog 47 #[.pointer none, .int .i64 a, .int .i64 b, .int .i64 x] w fun e w' => e = .returned (.int .i64 10) ∧ w = w' := by
  go_enter Try.func47, Try.ntmps47
  go_wp2
  go_ret
  exact ⟨rfl, rfl⟩
end GG
end Go.Proofs.Ytebkpjefdaieaaa
