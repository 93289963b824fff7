/-
  The walk of the law FeasibleAdds. Conditions: none.
-/
import Derived.Test.YtiopekkmbfllaaaAw18
import Derived.Test.YtiopekkmbfllaaaOpen18
import Derived.Lib.QuietBelow
namespace Go.Proofs.Ytiopekkmbfllaaa
open Go.RowKit FR FP
set_option linter.unusedVariables false
set_option linter.unusedSimpArgs false
attribute [local go_sem] order_sm order_sub0 order_inf cmp_lt cmp_gt cmp_eq cmp_ne run_fsub run_cadd run_toI64 run_toU32
namespace Law18
open Feas Go.Sort
end Law18
namespace FeasibleAdds
open Feas Law18 Go.Sort
theorem mod_small (x : Int) : 0 ≤ wrap64 ((IntKind.u64.wrap x).tmod 70000) ∧ wrap64 ((IntKind.u64.wrap x).tmod 70000) < 70000 := by
  have h : IntKind.u64.wrap x = x % 18446744073709551616 := by simp [IntKind.wrap, IntKind.signed, IntKind.bits]
  rw [h, Int.tmod_eq_emod_of_nonneg (by omega)]
  unfold wrap64
  omega
attribute [local irreducible] cl addm bet fea Sm
set_option maxHeartbeats 40000000 in
theorem walk (v0 v1 : Value) (x y : Int) (w : World) (h0 : IsD w v0) (h1 : IsD w v1) (hx : (Lit.int .i64 x).wf = true) (hy : (Lit.int .i64 y).wf = true) : Calls Try.prog 6 #[v0, v1, .int .i64 x, .int .i64 y] w fun e w' => e = .returned (.bool true) ∧ Below w.heap.size w w' := by
  obtain ⟨m0, s0, rfl, wm0, hs0⟩ := h0
  obtain ⟨m1, s1, rfl, wm1, hs1⟩ := h1
  obtain ⟨W, hW⟩ : ∃ W, W = ((w.alloc (.cells #[.int .i64 m0, .int .u32 s0] 24)).alloc (.cells #[.int .i64 m1, .int .u32 s1] 24)) := ⟨_, rfl⟩
  have hB : Below w.heap.size w W := by rw [hW]; exact ((Below.refl _ _).alloc (Nat.le_refl _) _).alloc (by simp) _
  have hz : W.heap.size = w.heap.size + 2 := by rw [hW]; simp
  have c00 : W.cell? ⟨w.heap.size, 0, none⟩ = some (.int .i64 m0) := by rw [hW]; simp [go_sem]
  have c01 : W.cell? ⟨w.heap.size, 1, none⟩ = some (.int .u32 s0) := by rw [hW]; simp [go_sem]
  have c10 : W.cell? ⟨w.heap.size + 1, 0, none⟩ = some (.int .i64 m1) := by rw [hW]; simp [go_sem]
  have c11 : W.cell? ⟨w.heap.size + 1, 1, none⟩ = some (.int .u32 s1) := by rw [hW]; simp [go_sem]
  have k00 := cell_regrown c00
  have k01 := cell_regrown c01
  have k10 := cell_regrown c10
  have k11 := cell_regrown c11
  have hm0 := sm_cl m0
  have hm1 := sm_cl m1
  have HZ := Lib.hid hz
  have HW := Lib.hid hW
  clear hz hW
  go_enter Try.func6, Try.ntmps6
  go_wp2
  rw [← HW.out]
  refine wp_region_quiet_below (by kernel_rfl) (by kernel_rfl) ?_
  repeat (quiet_step ((go_at_call 8; exact Calls.regrown_of (of_any _ _ _))))
  refine wpQuiet_nil ?_
  intro w1 hw1
  have hb1 : Below W.heap.size W w1 := by obtain ⟨p, rfl⟩ := hw1; exact below_regrown _ _ _
  clear hw1
  have hX : 0 ≤ wrap64 ((IntKind.u64.wrap x).tmod 70000) ∧ wrap64 ((IntKind.u64.wrap x).tmod 70000) < 70000 := mod_small x
  have hY : 0 ≤ wrap64 ((IntKind.u64.wrap y).tmod 70000) ∧ wrap64 ((IntKind.u64.wrap y).tmod 70000) < 70000 := mod_small y
  generalize wrap64 ((IntKind.u64.wrap x).tmod 70000) = X at hX ⊢
  generalize wrap64 ((IntKind.u64.wrap y).tmod 70000) = Y at hY ⊢
  obtain ⟨hX0, hX1⟩ := hX
  obtain ⟨hY0, hY1⟩ := hY
  have l0 := (cl_range m0).2
  have l1 := (cl_range m1).2
  have n0 := (cl_range m0).1
  have n1 := (cl_range m1).1
  have e := addm_add (cl m0) X Y (cl_range m0).1 hX0 hY0
  have q1 := sm_addm X hm0
  have q2 := sm_addm (X + Y) hm0
  have q3 := sm_addm X hm1
  have q4 := addm_le X hm0
  have f1 : ¬ cl m0 < 65535 → decide (65535 ≤ addm (cl m0) X) = true := by intro h; unfold addm; simp; have := cl_range X; omega
  have f2 : s0 = s1 → bet (cl m0) s0 (cl m1) s1 = true → bet (addm (cl m1) X) s1 (addm (cl m0) X) s0 = false := by
    intro h h2
    rw [bet_iff] at h2; rw [bet_false]
    unfold addm; omega
  have r0 : bet (cl m0) s0 (cl m0) s0 = false := by rw [bet_false]; omega
  have r1 : bet (cl m1) s1 (cl m1) s1 = false := by rw [bet_false]; omega
  have F1 := Lib.hid f1
  have F2 := Lib.hid f2
  clear f1 f2
  have hse : (s0 = s1 ∧ (s0 != s1) = false) ∨ (s0 ≠ s1 ∧ (s0 != s1) = true) := by
    by_cases h : s0 = s1
    · exact .inl ⟨h, by simp [h]⟩
    · exact .inr ⟨h, by simp [h]⟩
  have HS := Lib.hid hse
  clear hse
  have hss := HS.out
  by_cases hf : cl m0 < 65535
  · rcases hss with ⟨h, h2⟩ | ⟨h, h2⟩ <;> cases hb : bet (cl m1) s1 (cl m0) s0 <;> cases hp : bet (cl m0) s0 (cl m1) s1 <;>
    first
    | (exfalso; rw [bet_iff] at hb hp; omega)
    | (try (have f2 := F2.out h hp)
       have H := Lib.hid h
       clear h
       go_wp2_with (first | (go_at_call 14; refine (awake_any _).mono ?_; rintro e w2 ⟨rfl, hb2⟩) | (go_at_call 17; refine (far_any _ _ (by assumption) _).mono ?_; rintro e w' ⟨rfl, rfl⟩) | (go_at_call 16; refine (seq_any _ _ (by assumption) _).mono ?_; rintro e w' ⟨rfl, rfl⟩) | (go_at_call 11; refine (add_any _ _ _ (by assumption) (by assumption) (by assumption) _).mono ?_; rintro e w' ⟨rfl, rfl⟩) | (go_at_call 18; refine (bet_any _ _ _ _ (by assumption) (by assumption) (by assumption) (by assumption) _).mono ?_; rintro e w' ⟨rfl, rfl⟩) | (go_at_call 13; refine (least_any _ _ _ _ (by assumption) (by assumption) (by assumption) (by assumption) _).mono ?_; rintro e w' ⟨rfl, rfl⟩))
       go_ret
       exact ⟨rfl, (hB.trans (hb1.mono (by have := HZ.out; omega))).trans (hb2.mono (by have := HZ.out; have := hb1.size; omega))⟩)
  · have f1 := F1.out hf
    rcases hss with ⟨h, h2⟩ | ⟨h, h2⟩ <;> cases hb : bet (cl m1) s1 (cl m0) s0 <;> cases hp : bet (cl m0) s0 (cl m1) s1 <;>
    first
    | (exfalso; rw [bet_iff] at hb hp; omega)
    | (try (have f2 := F2.out h hp)
       have H := Lib.hid h
       clear h
       go_wp2_with (first | (go_at_call 14; refine (awake_any _).mono ?_; rintro e w2 ⟨rfl, hb2⟩) | (go_at_call 17; refine (far_any _ _ (by assumption) _).mono ?_; rintro e w' ⟨rfl, rfl⟩) | (go_at_call 16; refine (seq_any _ _ (by assumption) _).mono ?_; rintro e w' ⟨rfl, rfl⟩) | (go_at_call 11; refine (add_any _ _ _ (by assumption) (by assumption) (by assumption) _).mono ?_; rintro e w' ⟨rfl, rfl⟩) | (go_at_call 18; refine (bet_any _ _ _ _ (by assumption) (by assumption) (by assumption) (by assumption) _).mono ?_; rintro e w' ⟨rfl, rfl⟩) | (go_at_call 13; refine (least_any _ _ _ _ (by assumption) (by assumption) (by assumption) (by assumption) _).mono ?_; rintro e w' ⟨rfl, rfl⟩))
       go_ret
       exact ⟨rfl, (hB.trans (hb1.mono (by have := HZ.out; omega))).trans (hb2.mono (by have := HZ.out; have := hb1.size; omega))⟩)
end FeasibleAdds
end Go.Proofs.Ytiopekkmbfllaaa
