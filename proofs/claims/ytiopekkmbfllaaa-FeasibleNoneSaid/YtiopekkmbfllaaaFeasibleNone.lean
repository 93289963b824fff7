/-
  The walk of the law FeasibleNone. Conditions: none.
-/
import Derived.Test.YtiopekkmbfllaaaAw18
import Derived.Test.YtiopekkmbfllaaaOpen18
import Derived.Lib.QuietBelow
namespace Go.Proofs.Ytiopekkmbfllaaa
open Go.RowKit FR FP
set_option linter.unusedVariables false
set_option linter.unusedSimpArgs false
namespace Law18
open Feas Go.Sort
end Law18
namespace FeasibleNone
open Feas Law18 Go.Sort
set_option maxHeartbeats 4000000 in
theorem walk (v0 v1 : Value) (w : World) (h0 : IsD w v0) (h1 : IsD w v1) : Calls Try.prog 7 #[v0, v1] w fun e w' => e = .returned (.bool true) ∧ Below w.heap.size w w' := by
  obtain ⟨m0, s0, rfl, wm0, hs0⟩ := h0
  obtain ⟨m1, s1, rfl, wm1, hs1⟩ := h1
  obtain ⟨W, hW⟩ : ∃ W, W = ((w.alloc (.cells #[.int .i64 m0, .int .u32 s0] 24)).alloc (.cells #[.int .i64 m1, .int .u32 s1] 24)) := ⟨_, rfl⟩
  have hB : Below w.heap.size w W := by rw [hW]; exact ((Below.refl _ _).alloc (Nat.le_refl _) _).alloc (by simp) _
  have hz : W.heap.size = w.heap.size + 2 := by rw [hW]; simp
  have c00 : W.cell? ⟨w.heap.size, 0, none⟩ = some (.int .i64 m0) := by rw [hW]; simp [go_sem]
  have c01 : W.cell? ⟨w.heap.size, 1, none⟩ = some (.int .u32 s0) := by rw [hW]; simp [go_sem]
  have c10 : W.cell? ⟨w.heap.size + 1, 0, none⟩ = some (.int .i64 m1) := by rw [hW]; simp [go_sem]
  have c11 : W.cell? ⟨w.heap.size + 1, 1, none⟩ = some (.int .u32 s1) := by rw [hW]; simp [go_sem]
  have k00 := cell_regrown c00
  have k01 := cell_regrown c01
  have k10 := cell_regrown c10
  have k11 := cell_regrown c11
  have hm0 := sm_cl m0
  have hm1 := sm_cl m1
  have HZ := Lib.hid hz
  have HW := Lib.hid hW
  clear hz hW
  go_enter Try.func7, Try.ntmps7
  go_wp2
  rw [← HW.out]
  refine wp_region_quiet_below (by kernel_rfl) (by kernel_rfl) ?_
  repeat (quiet_step ((go_at_call 8; exact Calls.regrown_of (of_any _ _ _))))
  refine wpQuiet_nil ?_
  intro w1 hw1
  have hb1 : Below W.heap.size W w1 := by obtain ⟨p, rfl⟩ := hw1; exact below_regrown _ _ _
  clear hw1
  have s65 : Sm 65535 := by decide
  have s00 : Sm 0 := by decide
  have f1 : fea (cl m0) s0 65535 0 = !decide (65535 ≤ cl m0) := by
    cases h : decide (65535 ≤ cl m0)
    · simp at h; simp [fea, h]
    · simp at h; simp [fea]; omega
  have f2 : fea 65535 0 (cl m1) s1 = false := by simp [fea]
  have f3 : s0 < s1 → ¬ 65535 ≤ cl m1 → fea (cl m0) s0 (cl m1) s1 = false := by
    intro h h2; cases h3 : fea (cl m0) s0 (cl m1) s1
    · rfl
    · rw [fea_iff, bet_iff] at h3; omega
  have f4 : s1 < s0 → ¬ 65535 ≤ cl m0 → fea (cl m0) s0 (cl m1) s1 = true := by
    intro h h2; rw [fea_iff, bet_iff]; omega
  have F3 := Lib.hid f3
  have F4 := Lib.hid f4
  clear f3 f4
  by_cases h1 : s0 < s1 <;> by_cases h2 : s1 < s0 <;> by_cases hx : 65535 ≤ cl m0 <;> by_cases hy : 65535 ≤ cl m1 <;>
  first
  | (exfalso; omega)
  | (try (have f3 := F3.out h1 hy)
     try (have f4 := F4.out h2 hx)
     go_wp2_with (first | (go_at_call 24; refine (none_any _).mono ?_; rintro e w2 ⟨rfl, rfl⟩) | (go_at_call 14; refine (awake_any _).mono ?_; rintro e w2 ⟨rfl, hb2⟩) | (go_at_call 19; refine (feas_any _ _ _ _ (by assumption) (by assumption) (by assumption) (by assumption) _).mono ?_; rintro e w' ⟨rfl, rfl⟩) | (go_at_call 17; refine (far_any _ _ (by assumption) _).mono ?_; rintro e w' ⟨rfl, rfl⟩) | (go_at_call 16; refine (seq_any _ _ (by assumption) _).mono ?_; rintro e w' ⟨rfl, rfl⟩))
     go_ret
     exact ⟨rfl, (hB.trans (hb1.mono (by have := HZ.out; omega))).trans (hb2.mono (by have := HZ.out; have := hb1.size; omega))⟩)
end FeasibleNone
end Go.Proofs.Ytiopekkmbfllaaa
