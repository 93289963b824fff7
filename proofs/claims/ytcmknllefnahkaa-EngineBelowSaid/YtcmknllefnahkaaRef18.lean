/-
  What the functions of package signpostref18 return, as words on whole numbers. Conditions: those that each theorem names.
-/
import Derived.Test.YtcmknllefnahkaaFeas
namespace Go.Proofs.Ytcmknllefnahkaa
open Go.RowKit FR FP
set_option linter.unusedVariables false
set_option linter.unusedSimpArgs false
namespace Ref18
open Feas
/-- the reference's distance -/
abbrev rv (m s : Int) : Value := .agg #[.int .i64 m, .int .i64 s]
attribute [local go_sem] max_ite min_ite cl_fold
theorem make_any (m s : Int) (hs : Sm s) (w : World) : Calls Try.prog 43 #[.int .i64 m, .int .u32 s] w fun e w' => e = .returned (rv (cl m) s) ∧ w.alloc (.cells #[.int .i64 (cl m), .int .i64 s] 59) = w' := by
  have hs1 := hs.1
  have hs2 := hs.2
  go_enter Try.func43, Try.ntmps43
  go_wp2
  exact bodyPost_ret (v := rv (cl m) s) (by simp [results, Try.results43, go_sem]) rfl ⟨rfl, rfl⟩
theorem bet_any (a b c d : Int) (w : World) : Calls Try.prog 44 #[rv a b, rv c d] w fun e w' => e = .returned (.bool (bet a b c d)) ∧ (w.alloc (.cells #[.int .i64 a, .int .i64 b] 59)).alloc (.cells #[.int .i64 c, .int .i64 d] 59) = w' := by
  cases h1 : decide (d < b) <;> cases h2 : (b == d) <;> cases h3 : decide (a < c) <;>
  · have e : bet a b c d = (decide (d < b) || (b == d && decide (a < c))) := rfl
    rw [h1, h2, h3] at e
    rw [e]; clear e
    go_enter Try.func44, Try.ntmps44
    go_wp2
    all_goals
      go_ret
      exact ⟨rfl, rfl⟩
theorem bet_below (a b c d : Int) (w : World) : Calls Try.prog 44 #[rv a b, rv c d] w fun e w' => e = .returned (.bool (bet a b c d)) ∧ Below w.heap.size w w' :=
  (bet_any a b c d w).mono fun _ _ ⟨he, hw⟩ => ⟨he, hw ▸ ((Below.refl _ _).alloc (Nat.le_refl _) _).alloc (by simp) _⟩
theorem feas_any (a b c d : Int) (w : World) : Calls Try.prog 49 #[rv a b, rv c d] w fun e w' => e = .returned (.bool (fea a b c d)) ∧ Below w.heap.size w w' := by
  cases h1 : decide (a < 65535) <;> cases h2 : decide (65535 ≤ c) <;>
  · have e : fea a b c d = (decide (a < 65535) && (decide (65535 ≤ c) || bet a b c d)) := rfl
    rw [h1, h2] at e
    rw [e]; clear e
    go_enter Try.func49, Try.ntmps49
    go_wp2_with (go_at_call 44; refine (bet_any _ _ _ _ _).mono ?_; rintro e w' ⟨rfl, rfl⟩)
    all_goals
      go_ret
      (try simp only [Bool.true_and, Bool.false_or, Bool.false_and, Bool.true_or])
      exact ⟨rfl, by repeat (first | exact Below.refl _ _ | (refine Below.alloc ?_ (by first | omega | (simp; done) | (simp; omega)) _))⟩
theorem add_any (m s c : Int) (h0 : 0 ≤ m) (h1 : m ≤ 65535) (w : World) : Calls Try.prog 47 #[rv m s, .int .i64 c] w fun e w' => e = .returned (rv (addm m c) s) ∧ (w.alloc (.cells #[.int .i64 m, .int .i64 s] 59)).alloc (.cells #[.int .i64 (addm m c), .int .i64 s] 59) = w' := by
  by_cases h : 65535 < c
  · have e : addm m c = min (m + 65535) 65535 := by unfold addm cl; omega
    rw [e]; clear e
    go_enter Try.func47, Try.ntmps47
    go_wp2
    exact bodyPost_ret (v := rv (min (m + 65535) 65535) s) (by simp [results, Try.results47, go_sem]) rfl ⟨rfl, rfl⟩
  · have e : addm m c = min (m + max c 0) 65535 := by unfold addm cl; omega
    rw [e]; clear e
    have hx1 : 0 ≤ max c 0 := by omega
    have hx2 : max c 0 ≤ 65535 := by omega
    go_enter Try.func47, Try.ntmps47
    go_wp2
    exact bodyPost_ret (v := rv (min (m + max c 0) 65535) s) (by simp [results, Try.results47, go_sem]) rfl ⟨rfl, rfl⟩
end Ref18
end Go.Proofs.Ytcmknllefnahkaa
