/-
  The walk of the law FeasibleOrder. Conditions: none.
-/
import Derived.Test.YtiopekkmbfllaaaAw18
import Derived.Test.YtiopekkmbfllaaaOpen18
import Derived.Lib.QuietBelow
import Derived.Deep.DeepCutAuto
import Derived.Deep.CutBlock
namespace Go.Proofs.Ytiopekkmbfllaaa
open Go.RowKit FR FP
set_option linter.unusedVariables false
set_option linter.unusedSimpArgs false
attribute [local go_sem] order_sm order_sub0 order_inf cmp_lt cmp_gt cmp_eq cmp_ne run_fsub run_cadd run_toI64 run_toU32
namespace Law18
open Feas Go.Sort
end Law18
namespace FeasibleOrder
open Feas Law18 Go.Sort
attribute [local irreducible] cl addm bet fea Sm
set_option maxRecDepth 100000 in
set_option maxHeartbeats 1600000 in
theorem walk (v0 v1 v2 : Value) (c : Int) (w : World) (h0 : IsD w v0) (h1 : IsD w v1) (h2 : IsD w v2) (hc : (Lit.int .i64 c).wf = true) : Calls Try.prog 4 #[v0, v1, v2, .int .i64 c] w fun e w' => e = .returned (.bool true) ∧ Below w.heap.size w w' := by
  obtain ⟨m0, s0, rfl, wm0, hs0⟩ := h0
  obtain ⟨m1, s1, rfl, wm1, hs1⟩ := h1
  obtain ⟨m2, s2, rfl, wm2, hs2⟩ := h2
  obtain ⟨W, hW⟩ : ∃ W, W = (((w.alloc (.cells #[.int .i64 m0, .int .u32 s0] 24)).alloc (.cells #[.int .i64 m1, .int .u32 s1] 24)).alloc (.cells #[.int .i64 m2, .int .u32 s2] 24)) := ⟨_, rfl⟩
  have hB : Below w.heap.size w W := by rw [hW]; exact (((Below.refl _ _).alloc (Nat.le_refl _) _).alloc (by simp) _).alloc (by simp; omega) _
  have hz : W.heap.size = w.heap.size + 3 := by rw [hW]; simp
  have c00 : W.cell? ⟨w.heap.size, 0, none⟩ = some (.int .i64 m0) := by rw [hW]; simp [go_sem]
  have c01 : W.cell? ⟨w.heap.size, 1, none⟩ = some (.int .u32 s0) := by rw [hW]; simp [go_sem]
  have c10 : W.cell? ⟨w.heap.size + 1, 0, none⟩ = some (.int .i64 m1) := by rw [hW]; simp [go_sem]
  have c11 : W.cell? ⟨w.heap.size + 1, 1, none⟩ = some (.int .u32 s1) := by rw [hW]; simp [go_sem]
  have c20 : W.cell? ⟨w.heap.size + 2, 0, none⟩ = some (.int .i64 m2) := by rw [hW]; simp [go_sem]
  have c21 : W.cell? ⟨w.heap.size + 2, 1, none⟩ = some (.int .u32 s2) := by rw [hW]; simp [go_sem]
  have k00 := cell_regrown c00
  have k01 := cell_regrown c01
  have k10 := cell_regrown c10
  have k11 := cell_regrown c11
  have k20 := cell_regrown c20
  have k21 := cell_regrown c21
  have hm0 := sm_cl m0
  have hm1 := sm_cl m1
  have hm2 := sm_cl m2
  have HZ := Lib.hid hz
  have HW := Lib.hid hW
  clear hz hW
  go_enter Try.func4, Try.ntmps4
  go_wp2
  rw [← HW.out]
  refine wp_region_quiet_below (by kernel_rfl) (by kernel_rfl) ?_
  repeat (quiet_step ((go_at_call 8; exact Calls.regrown_of (of_any _ _ _))))
  refine wpQuiet_nil ?_
  intro w1 hw1
  have hb1 : Below W.heap.size W w1 := by obtain ⟨p, rfl⟩ := hw1; exact below_regrown _ _ _
  clear hw1
  clear k00 k01 k10 k11 k20 k21 c00 c01 c10 c11 c20 c21
  have l0 := (cl_range m0).2
  have n0 := (cl_range m0).1
  have hc1 := sm_addm c hm0
  generalize hx : cl m0 = x at *
  generalize hy : cl m1 = y at *
  generalize hz2 : cl m2 = z at *
  clear hx hy hz2
  go_upto_region 3 with (go_at_call 18; refine (bet_any _ _ _ _ (by assumption) (by assumption) (by assumption) (by assumption) _).mono ?_; rintro e w' ⟨rfl, rfl⟩)
  have e1 : bet x s0 y s1 = true → bet y s1 x s0 = false := by intro h; rw [bet_iff] at h; rw [bet_false]; omega
  have e2 : bet x s0 y s1 = false → bet y s1 x s0 = false → x = y ∧ s0 = s1 := by intro h h'; rw [bet_false] at h h'; omega
  have e3 : bet x s0 y s1 = true → bet y s1 z s2 = true → bet x s0 z s2 = true := by intro h h'; rw [bet_iff] at h h' ⊢; omega
  have e4 : bet y s1 x s0 = true → (decide (x = y) && decide (s0 = s1)) = false := by intro h; rw [bet_iff] at h; simp; omega
  have e5 : bet x s0 y s1 = true → (decide (x = y) && decide (s0 = s1)) = false := by intro h; rw [bet_iff] at h; simp; omega
  have e6 : fea x s0 y s1 = true → ¬ 65535 ≤ y → bet x s0 y s1 = true := by intro h h'; rw [fea_iff] at h; rcases h.2 with h | h; omega; exact h
  have e7 : fea x s0 y s1 = true → ¬ 65535 ≤ y → bet y s1 z s2 = true → fea x s0 z s2 = true := by
    intro h h' h2
    rw [fea_iff] at h ⊢
    rcases h.2 with h3 | h3
    · omega
    · rw [bet_iff] at h3 h2 ⊢; omega
  have e8 : bet x s0 y s1 = true → bet y s1 x s0 = true → False := by intro h h'; rw [bet_iff] at h h'; omega
  generalize hp : bet x s0 y s1 = p at *
  generalize hq : bet y s1 z s2 = q at *
  generalize hr : bet x s0 z s2 = r at *
  have E1 := Lib.hid e1
  have E2 := Lib.hid e2
  have E3 := Lib.hid e3
  have E4 := Lib.hid e4
  have E5 := Lib.hid e5
  have E6 := Lib.hid e6
  have E7 := Lib.hid e7
  clear e1 e2 e3 e4 e5 e6 e7 e8
  go_cut [61] (fun s61 wx => s61 = .bool false ∧ Below w1.heap.size w1 wx)
  case first =>
    cases p
    · cases hr2 : bet y s1 x s0
      · obtain ⟨rfl, rfl⟩ := E2.out rfl hr2
        go_wp2_with (first | (go_at_call 14; refine (awake_any _).mono ?_; rintro e w2 ⟨rfl, hb2⟩) | (go_at_call 18; refine (bet_any _ _ _ _ (by assumption) (by assumption) (by assumption) (by assumption) _).mono ?_; rintro e w' ⟨rfl, rfl⟩) | (go_at_call 19; refine (feas_any _ _ _ _ (by assumption) (by assumption) (by assumption) (by assumption) _).mono ?_; rintro e w' ⟨rfl, rfl⟩) | (go_at_call 17; refine (far_any _ _ (by assumption) _).mono ?_; rintro e w' ⟨rfl, rfl⟩) | (go_at_call 11; refine (add_any _ _ _ (by assumption) (by assumption) (by assumption) _).mono ?_; rintro e w' ⟨rfl, rfl⟩))
        all_goals
          go_meet
          exact ⟨rfl, hb2⟩
      · have e4 := E4.out hr2
        go_wp2_with (first | (go_at_call 14; refine (awake_any _).mono ?_; rintro e w2 ⟨rfl, hb2⟩) | (go_at_call 18; refine (bet_any _ _ _ _ (by assumption) (by assumption) (by assumption) (by assumption) _).mono ?_; rintro e w' ⟨rfl, rfl⟩) | (go_at_call 19; refine (feas_any _ _ _ _ (by assumption) (by assumption) (by assumption) (by assumption) _).mono ?_; rintro e w' ⟨rfl, rfl⟩) | (go_at_call 17; refine (far_any _ _ (by assumption) _).mono ?_; rintro e w' ⟨rfl, rfl⟩) | (go_at_call 11; refine (add_any _ _ _ (by assumption) (by assumption) (by assumption) _).mono ?_; rintro e w' ⟨rfl, rfl⟩))
        all_goals
          go_meet
          exact ⟨rfl, hb2⟩
    · have e5 := E5.out rfl
      have hr2 := E1.out rfl
      cases q
      · go_wp2_with (first | (go_at_call 14; refine (awake_any _).mono ?_; rintro e w2 ⟨rfl, hb2⟩) | (go_at_call 18; refine (bet_any _ _ _ _ (by assumption) (by assumption) (by assumption) (by assumption) _).mono ?_; rintro e w' ⟨rfl, rfl⟩) | (go_at_call 19; refine (feas_any _ _ _ _ (by assumption) (by assumption) (by assumption) (by assumption) _).mono ?_; rintro e w' ⟨rfl, rfl⟩) | (go_at_call 17; refine (far_any _ _ (by assumption) _).mono ?_; rintro e w' ⟨rfl, rfl⟩) | (go_at_call 11; refine (add_any _ _ _ (by assumption) (by assumption) (by assumption) _).mono ?_; rintro e w' ⟨rfl, rfl⟩))
        all_goals
          go_meet
          exact ⟨rfl, hb2⟩
      · have e3 := E3.out rfl rfl
        subst e3
        go_wp2_with (first | (go_at_call 14; refine (awake_any _).mono ?_; rintro e w2 ⟨rfl, hb2⟩) | (go_at_call 18; refine (bet_any _ _ _ _ (by assumption) (by assumption) (by assumption) (by assumption) _).mono ?_; rintro e w' ⟨rfl, rfl⟩) | (go_at_call 19; refine (feas_any _ _ _ _ (by assumption) (by assumption) (by assumption) (by assumption) _).mono ?_; rintro e w' ⟨rfl, rfl⟩) | (go_at_call 17; refine (far_any _ _ (by assumption) _).mono ?_; rintro e w' ⟨rfl, rfl⟩) | (go_at_call 11; refine (add_any _ _ _ (by assumption) (by assumption) (by assumption) _).mono ?_; rintro e w' ⟨rfl, rfl⟩))
        all_goals
          go_meet
          exact ⟨rfl, hb2⟩
  case rest =>
    obtain ⟨rfl, hb2⟩ := hcut
    go_upto_region 5 with (fail)
    go_cut [83] (fun s83 wx => s83 = .bool false ∧ wc = wx)
    case first =>
      have e1 : bet (addm x c) s0 x s0 = false := by unfold addm; rw [bet_false]; have := cl_range c; omega
      have e2 : 0 < c → ¬ 65535 ≤ x → bet x s0 (addm x c) s0 = true := by intro h h'; unfold addm cl; rw [bet_iff]; omega
      have E2 := Lib.hid e2
      clear e2
      by_cases h1 : 0 < c <;> by_cases h2 : 65535 ≤ x <;>
      · try (have e2 := E2.out h1 h2)
        go_wp2_with (first | (go_at_call 14; refine (awake_any _).mono ?_; rintro e w2 ⟨rfl, hb2⟩) | (go_at_call 18; refine (bet_any _ _ _ _ (by assumption) (by assumption) (by assumption) (by assumption) _).mono ?_; rintro e w' ⟨rfl, rfl⟩) | (go_at_call 19; refine (feas_any _ _ _ _ (by assumption) (by assumption) (by assumption) (by assumption) _).mono ?_; rintro e w' ⟨rfl, rfl⟩) | (go_at_call 17; refine (far_any _ _ (by assumption) _).mono ?_; rintro e w' ⟨rfl, rfl⟩) | (go_at_call 11; refine (add_any _ _ _ (by assumption) (by assumption) (by assumption) _).mono ?_; rintro e w' ⟨rfl, rfl⟩))
        all_goals
          go_meet
          exact ⟨rfl, rfl⟩
    case rest =>
      obtain ⟨rfl, rfl⟩ := hcut
      cases hf : fea x s0 y s1
      · go_wp2_with (first | (go_at_call 14; refine (awake_any _).mono ?_; rintro e w2 ⟨rfl, hb2⟩) | (go_at_call 18; refine (bet_any _ _ _ _ (by assumption) (by assumption) (by assumption) (by assumption) _).mono ?_; rintro e w' ⟨rfl, rfl⟩) | (go_at_call 19; refine (feas_any _ _ _ _ (by assumption) (by assumption) (by assumption) (by assumption) _).mono ?_; rintro e w' ⟨rfl, rfl⟩) | (go_at_call 17; refine (far_any _ _ (by assumption) _).mono ?_; rintro e w' ⟨rfl, rfl⟩) | (go_at_call 11; refine (add_any _ _ _ (by assumption) (by assumption) (by assumption) _).mono ?_; rintro e w' ⟨rfl, rfl⟩))
        go_ret
        exact ⟨rfl, (hB.trans (hb1.mono (by have := HZ.out; omega))).trans (hb2.mono (by have := HZ.out; have := hb1.size; omega))⟩
      · by_cases hy : 65535 ≤ y
        · go_wp2_with (first | (go_at_call 14; refine (awake_any _).mono ?_; rintro e w2 ⟨rfl, hb2⟩) | (go_at_call 18; refine (bet_any _ _ _ _ (by assumption) (by assumption) (by assumption) (by assumption) _).mono ?_; rintro e w' ⟨rfl, rfl⟩) | (go_at_call 19; refine (feas_any _ _ _ _ (by assumption) (by assumption) (by assumption) (by assumption) _).mono ?_; rintro e w' ⟨rfl, rfl⟩) | (go_at_call 17; refine (far_any _ _ (by assumption) _).mono ?_; rintro e w' ⟨rfl, rfl⟩) | (go_at_call 11; refine (add_any _ _ _ (by assumption) (by assumption) (by assumption) _).mono ?_; rintro e w' ⟨rfl, rfl⟩))
          go_ret
          exact ⟨rfl, (hB.trans (hb1.mono (by have := HZ.out; omega))).trans (hb2.mono (by have := HZ.out; have := hb1.size; omega))⟩
        · have e6 := E6.out hf hy
          subst e6
          cases q
          · go_wp2_with (first | (go_at_call 14; refine (awake_any _).mono ?_; rintro e w2 ⟨rfl, hb2⟩) | (go_at_call 18; refine (bet_any _ _ _ _ (by assumption) (by assumption) (by assumption) (by assumption) _).mono ?_; rintro e w' ⟨rfl, rfl⟩) | (go_at_call 19; refine (feas_any _ _ _ _ (by assumption) (by assumption) (by assumption) (by assumption) _).mono ?_; rintro e w' ⟨rfl, rfl⟩) | (go_at_call 17; refine (far_any _ _ (by assumption) _).mono ?_; rintro e w' ⟨rfl, rfl⟩) | (go_at_call 11; refine (add_any _ _ _ (by assumption) (by assumption) (by assumption) _).mono ?_; rintro e w' ⟨rfl, rfl⟩))
            go_ret
            exact ⟨rfl, (hB.trans (hb1.mono (by have := HZ.out; omega))).trans (hb2.mono (by have := HZ.out; have := hb1.size; omega))⟩
          · have e7 := E7.out hf hy rfl
            go_wp2_with (first | (go_at_call 14; refine (awake_any _).mono ?_; rintro e w2 ⟨rfl, hb2⟩) | (go_at_call 18; refine (bet_any _ _ _ _ (by assumption) (by assumption) (by assumption) (by assumption) _).mono ?_; rintro e w' ⟨rfl, rfl⟩) | (go_at_call 19; refine (feas_any _ _ _ _ (by assumption) (by assumption) (by assumption) (by assumption) _).mono ?_; rintro e w' ⟨rfl, rfl⟩) | (go_at_call 17; refine (far_any _ _ (by assumption) _).mono ?_; rintro e w' ⟨rfl, rfl⟩) | (go_at_call 11; refine (add_any _ _ _ (by assumption) (by assumption) (by assumption) _).mono ?_; rintro e w' ⟨rfl, rfl⟩))
            go_ret
            exact ⟨rfl, (hB.trans (hb1.mono (by have := HZ.out; omega))).trans (hb2.mono (by have := HZ.out; have := hb1.size; omega))⟩
end FeasibleOrder
end Go.Proofs.Ytiopekkmbfllaaa
