/-
  The walk of the law FeasibleTells. Conditions: none.
-/
import Derived.Test.YtiopekkmbfllaaaAw18
import Derived.Test.YtiopekkmbfllaaaOpen18
import Derived.Lib.QuietBelow
import Derived.Deep.DeepCutAuto
import Derived.Deep.CutBlock
import Derived.Deep.RegionHeld3
import Derived.Deep.DrawnRows
namespace Go.Proofs.Ytiopekkmbfllaaa
open Go.RowKit FR FP
set_option linter.unusedVariables false
set_option linter.unusedSimpArgs false
attribute [local go_sem] order_sm order_sub0 order_inf cmp_lt cmp_gt cmp_eq cmp_ne run_fsub run_cadd run_toI64 run_toU32
namespace Law18
open Feas Go.Sort
end Law18
namespace FeasibleTells
open Feas Law18 Go.Sort
attribute [local irreducible] cl addm bet fea Sm
set_option maxRecDepth 100000 in
set_option maxHeartbeats 16000000 in
theorem walk (v0 v1 : Value) (c : Int) (w : World) (h0 : IsD w v0) (h1 : IsD w v1) (hc : (Lit.int .i64 c).wf = true) : Calls Try.prog 3 #[v0, v1, .int .i64 c] w fun e w' => e = .returned (.bool true) ∧ Below w.heap.size w w' := by
  obtain ⟨m0, s0, rfl, wm0, hs0⟩ := h0
  obtain ⟨m1, s1, rfl, wm1, hs1⟩ := h1
  obtain ⟨W, hW⟩ : ∃ W, W = ((w.alloc (.cells #[.int .i64 m0, .int .u32 s0] 24)).alloc (.cells #[.int .i64 m1, .int .u32 s1] 24)) := ⟨_, rfl⟩
  have hB : Below w.heap.size w W := by rw [hW]; exact ((Below.refl _ _).alloc (Nat.le_refl _) _).alloc (by simp) _
  have hz : W.heap.size = w.heap.size + 2 := by rw [hW]; simp
  have c00 : W.cell? ⟨w.heap.size, 0, none⟩ = some (.int .i64 m0) := by rw [hW]; simp [go_sem]
  have c01 : W.cell? ⟨w.heap.size, 1, none⟩ = some (.int .u32 s0) := by rw [hW]; simp [go_sem]
  have c10 : W.cell? ⟨w.heap.size + 1, 0, none⟩ = some (.int .i64 m1) := by rw [hW]; simp [go_sem]
  have c11 : W.cell? ⟨w.heap.size + 1, 1, none⟩ = some (.int .u32 s1) := by rw [hW]; simp [go_sem]
  have k00 := cell_regrown c00
  have k01 := cell_regrown c01
  have k10 := cell_regrown c10
  have k11 := cell_regrown c11
  have hm0 := sm_cl m0
  have hm1 := sm_cl m1
  have HZ := Lib.hid hz
  have HW := Lib.hid hW
  clear hz hW
  go_enter Try.func3, Try.ntmps3
  go_wp2
  rw [← HW.out]
  refine wp_region_quiet_below (by kernel_rfl) (by kernel_rfl) ?_
  repeat (quiet_step ((go_at_call 8; exact Calls.regrown_of (of_any _ _ _))))
  refine wpQuiet_nil ?_
  intro w1 hw1
  have hb1 : Below W.heap.size W w1 := by obtain ⟨p, rfl⟩ := hw1; exact below_regrown _ _ _
  clear hw1
  have d00 : w1.cell? ⟨w.heap.size, 0, none⟩ = some (.int .i64 m0) := by rw [hb1.cell (by rw [HZ.out]; simp)]; exact c00
  have d01 : w1.cell? ⟨w.heap.size, 1, none⟩ = some (.int .u32 s0) := by rw [hb1.cell (by rw [HZ.out]; simp)]; exact c01
  have d10 : w1.cell? ⟨w.heap.size + 1, 0, none⟩ = some (.int .i64 m1) := by rw [hb1.cell (by rw [HZ.out]; simp)]; exact c10
  have d11 : w1.cell? ⟨w.heap.size + 1, 1, none⟩ = some (.int .u32 s1) := by rw [hb1.cell (by rw [HZ.out]; simp)]; exact c11
  clear k00 k01 k10 k11 c00 c01 c10 c11
  have l0 := (cl_range m0).2
  have n0 := (cl_range m0).1
  have hzz : w.heap.size + 1 < w1.heap.size := by have := hb1.size; have := HZ.out; omega
  have hzz0 : w.heap.size < w1.heap.size := by omega
  go_upto_region 2 with (fail)
  go_cut [9, 10] (fun s9 s10 wx => ∃ g1 g2 : Nat, s9 = .pointer (some ⟨g1, 0, none⟩) ∧ s10 = .pointer (some ⟨g2, 0, none⟩) ∧ Below w1.heap.size w1 wx ∧ w1.heap.size ≤ g1 ∧ w1.heap.size ≤ g2 ∧ g1 < wx.heap.size ∧ g2 < wx.heap.size ∧
    wx.cell? ⟨g1, 0, none⟩ = some (.int .i64 (cl m0)) ∧ wx.cell? ⟨g1, 1, none⟩ = some (.int .i64 s0) ∧ wx.cell? ⟨g2, 0, none⟩ = some (.int .i64 (cl m1)) ∧ wx.cell? ⟨g2, 1, none⟩ = some (.int .i64 s1))
  case first =>
    have x0 := World.new_ne w1 _ d00
    have x1 := World.new_ne w1 _ d10
    go_region_held3 (fun w' => w'.cell? ⟨w.heap.size, 0, none⟩ = some (.int .i64 m0) ∧ w'.cell? ⟨w.heap.size, 1, none⟩ = some (.int .u32 s0) ∧ w'.cell? ⟨w.heap.size + 1, 0, none⟩ = some (.int .i64 m1) ∧ w'.cell? ⟨w.heap.size + 1, 1, none⟩ = some (.int .u32 s1))
      ((refine ⟨later ?_ d00, later ?_ d01, later ?_ d10, later ?_ d11⟩ <;> (repeat (first | exact Below.refl _ _ | apply Below.drew | (refine Below.alloc ?_ (by first | omega | (simp; done) | (simp; omega)) _) | (refine Below.setCell ?_ (by first | omega | (simp; done) | (simp; omega)) _)))))
      (first
        | (go_at_call_of 9 (Value.agg #[.int .i64 m0, .int .u32 s0]); refine (ref_any _ _ hs0 _).mono ?_; rintro e w' ⟨rfl, rfl⟩)
        | (go_at_call_of 9 (Value.agg #[.int .i64 m1, .int .u32 s1]); refine (ref_any _ _ hs1 _).mono ?_; rintro e w' ⟨rfl, rfl⟩))
    all_goals
      go_wp2_with (fail)
      go_meet
      exact ⟨_, _, rfl, rfl, by repeat (first | exact Below.refl _ _ | apply Below.drew | (refine Below.alloc ?_ (by first | omega | (simp; done) | (simp; omega)) _)), (by first | omega | (simp; done) | (simp; omega)), (by first | omega | (simp; done) | (simp; omega)), (by first | omega | (simp; done) | (simp; omega)), (by first | omega | (simp; done) | (simp; omega)), by simp [go_sem], by simp [go_sem], by simp [go_sem], by simp [go_sem]⟩
  case rest =>
    obtain ⟨g1, g2, rfl, rfl, hb2, hg1, hg2, hl1, hl2, q0, q1, q2, q3⟩ := hcut
    have t1 := hs0.lo
    have t2 := hs0.hi
    have t3 := hs1.lo
    have t4 := hs1.hi
    have hc1 := sm_addm c hm0
    have ng1_0 : g1 ≠ wc.heap.size := by omega
    have ng1_1 : g1 ≠ wc.heap.size + 1 := by omega
    have lg1_1 : g1 < wc.heap.size + 1 := by omega
    have ng1_2 : g1 ≠ wc.heap.size + 1 + 1 := by omega
    have lg1_2 : g1 < wc.heap.size + 1 + 1 := by omega
    have ng1_3 : g1 ≠ wc.heap.size + 1 + 1 + 1 := by omega
    have lg1_3 : g1 < wc.heap.size + 1 + 1 + 1 := by omega
    have ng1_4 : g1 ≠ wc.heap.size + 1 + 1 + 1 + 1 := by omega
    have lg1_4 : g1 < wc.heap.size + 1 + 1 + 1 + 1 := by omega
    have ng1_5 : g1 ≠ wc.heap.size + 1 + 1 + 1 + 1 + 1 := by omega
    have lg1_5 : g1 < wc.heap.size + 1 + 1 + 1 + 1 + 1 := by omega
    have ng1_6 : g1 ≠ wc.heap.size + 1 + 1 + 1 + 1 + 1 + 1 := by omega
    have lg1_6 : g1 < wc.heap.size + 1 + 1 + 1 + 1 + 1 + 1 := by omega
    have ng1_7 : g1 ≠ wc.heap.size + 1 + 1 + 1 + 1 + 1 + 1 + 1 := by omega
    have lg1_7 : g1 < wc.heap.size + 1 + 1 + 1 + 1 + 1 + 1 + 1 := by omega
    have ng1_8 : g1 ≠ wc.heap.size + 1 + 1 + 1 + 1 + 1 + 1 + 1 + 1 := by omega
    have lg1_8 : g1 < wc.heap.size + 1 + 1 + 1 + 1 + 1 + 1 + 1 + 1 := by omega
    have ng2_0 : g2 ≠ wc.heap.size := by omega
    have ng2_1 : g2 ≠ wc.heap.size + 1 := by omega
    have lg2_1 : g2 < wc.heap.size + 1 := by omega
    have ng2_2 : g2 ≠ wc.heap.size + 1 + 1 := by omega
    have lg2_2 : g2 < wc.heap.size + 1 + 1 := by omega
    have ng2_3 : g2 ≠ wc.heap.size + 1 + 1 + 1 := by omega
    have lg2_3 : g2 < wc.heap.size + 1 + 1 + 1 := by omega
    have ng2_4 : g2 ≠ wc.heap.size + 1 + 1 + 1 + 1 := by omega
    have lg2_4 : g2 < wc.heap.size + 1 + 1 + 1 + 1 := by omega
    have ng2_5 : g2 ≠ wc.heap.size + 1 + 1 + 1 + 1 + 1 := by omega
    have lg2_5 : g2 < wc.heap.size + 1 + 1 + 1 + 1 + 1 := by omega
    have ng2_6 : g2 ≠ wc.heap.size + 1 + 1 + 1 + 1 + 1 + 1 := by omega
    have lg2_6 : g2 < wc.heap.size + 1 + 1 + 1 + 1 + 1 + 1 := by omega
    have ng2_7 : g2 ≠ wc.heap.size + 1 + 1 + 1 + 1 + 1 + 1 + 1 := by omega
    have lg2_7 : g2 < wc.heap.size + 1 + 1 + 1 + 1 + 1 + 1 + 1 := by omega
    have ng2_8 : g2 ≠ wc.heap.size + 1 + 1 + 1 + 1 + 1 + 1 + 1 + 1 := by omega
    have lg2_8 : g2 < wc.heap.size + 1 + 1 + 1 + 1 + 1 + 1 + 1 + 1 := by omega
    cases hb : bet (cl m1) s1 (cl m0) s0
    · go_wp2_with (first | (go_at_call 14; refine (awake_any _).mono ?_; rintro e w2 ⟨rfl, hb2⟩; obtain ⟨hc2, hf2⟩ := bcell hb2; have hz2 := hb2.size) | (go_at_call 18; refine (bet_any _ _ _ _ (by assumption) (by assumption) (by assumption) (by assumption) _).mono ?_; rintro e w' ⟨rfl, rfl⟩) | (go_at_call 19; refine (feas_any _ _ _ _ (by assumption) (by assumption) (by assumption) (by assumption) _).mono ?_; rintro e w' ⟨rfl, rfl⟩) | (go_at_call 17; refine (far_any _ _ (by assumption) _).mono ?_; rintro e w' ⟨rfl, rfl⟩) | (go_at_call 11; refine (add_any _ _ _ (by assumption) (by assumption) (by assumption) _).mono ?_; rintro e w' ⟨rfl, rfl⟩) | (go_at_call 15; refine (metric_any _ _ (by assumption) _).mono ?_; rintro e w' ⟨rfl, rfl⟩) | (go_at_call 16; refine (seq_any _ _ (by assumption) _).mono ?_; rintro e w' ⟨rfl, rfl⟩) | (go_at_call 13; refine (least_any _ _ _ _ (by assumption) (by assumption) (by assumption) (by assumption) _).mono ?_; rintro e w' ⟨rfl, rfl⟩) | (go_at_call 10; refine (Ref18.add_any _ _ _ (by assumption) (by assumption) _).mono ?_; rintro e w' ⟨rfl, rfl⟩) | (go_at_call 12; refine (Ref18.bet_any _ _ _ _ _).mono ?_; rintro e w' ⟨rfl, rfl⟩) | (go_at_call 20; refine (Ref18.feas_any _ _ _ _ _).mono ?_; rintro e w3 ⟨rfl, hb3⟩; obtain ⟨hc3, hf3⟩ := bcell hb3; have hz3 := hb3.size))
      refine wp_gen (fun W => Below wc.heap.size wc W ∧ W.cell? ⟨g1, 0, none⟩ = some (.int .i64 (cl m0)) ∧ W.cell? ⟨g1, 1, none⟩ = some (.int .i64 s0) ∧ W.cell? ⟨g2, 0, none⟩ = some (.int .i64 (cl m1)) ∧ W.cell? ⟨g2, 1, none⟩ = some (.int .i64 s1) ∧ W.cell? ⟨wc.heap.size + 1 + 1, 0, none⟩ = some (.int .i64 (addm (cl m0) c)) ∧ W.cell? ⟨wc.heap.size + 1 + 1, 1, none⟩ = some (.int .i64 s0) ∧ W.cell? ⟨wc.heap.size + 1 + 1 + 1, 0, none⟩ = some (.int .i64 (cl m0)) ∧ W.cell? ⟨wc.heap.size + 1 + 1 + 1, 1, none⟩ = some (.int .i64 s0)) ?_ ?_
      · exact ⟨by repeat (first | exact Below.refl _ _ | apply Below.drew | (refine Below.alloc ?_ (by first | omega | (simp; done) | (simp; omega)) _)), by simp [go_sem, *], by simp [go_sem, *], by simp [go_sem, *], by simp [go_sem, *], by simp [go_sem, *], by simp [go_sem, *], by simp [go_sem, *], by simp [go_sem, *]⟩
      · rintro W3 ⟨hb3, r0, r1, r2, r3, r4, r5, r6, r7⟩
        have k0 := cell_regrown r0
        have k1 := cell_regrown r1
        have k2 := cell_regrown r2
        have k3 := cell_regrown r3
        have k4 := cell_regrown r4
        have k5 := cell_regrown r5
        have k6 := cell_regrown r6
        have k7 := cell_regrown r7
        clear r0 r1 r2 r3 r4 r5 r6 r7
        (try simp only [List.cons_append, List.nil_append])
        have u0 : IntKind.i64.wrap s0 = s0 := IntWalk.i64_in _ (by omega)
        have u1 : IntKind.i64.wrap s1 = s1 := IntWalk.i64_in _ (by omega)
        refine wp_region_quiet_below (by kernel_rfl) (by kernel_rfl) ?_
        repeat (quiet_step ((first | (go_at_call 14; exact Calls.regrown_of (awake_any _)) | (go_at_call 18; exact Calls.regrown_of (quiet_same (bet_any _ _ _ _ (by assumption) (by assumption) (by assumption) (by assumption) _))) | (go_at_call 19; exact Calls.regrown_of (quiet_same (feas_any _ _ _ _ (by assumption) (by assumption) (by assumption) (by assumption) _))) | (go_at_call 17; exact Calls.regrown_of (quiet_same (far_any _ _ (by assumption) _))) | (go_at_call 15; exact Calls.regrown_of (quiet_same (metric_any _ _ (by assumption) _))) | (go_at_call 16; exact Calls.regrown_of (quiet_same (seq_any _ _ (by assumption) _))) | (go_at_call 12; exact Calls.regrown_of (Ref18.bet_below _ _ _ _ _)) | (go_at_call 20; exact Calls.regrown_of (Ref18.feas_any _ _ _ _ _)))))
        refine wpQuiet_nil ?_
        intro w9 hw9
        have hb9 : Below W3.heap.size W3 w9 := by obtain ⟨p, rfl⟩ := hw9; exact below_regrown _ _ _
        go_wp2
        go_ret
        exact ⟨rfl, (((hB.trans (hb1.mono (by have := HZ.out; omega))).trans (hb2.mono (by omega))).trans (hb3.mono (by have := hb2.size; omega))).trans (hb9.mono (by have := hb2.size; have := hb3.size; omega))⟩
    · go_wp2_with (first | (go_at_call 14; refine (awake_any _).mono ?_; rintro e w2 ⟨rfl, hb2⟩; obtain ⟨hc2, hf2⟩ := bcell hb2; have hz2 := hb2.size) | (go_at_call 18; refine (bet_any _ _ _ _ (by assumption) (by assumption) (by assumption) (by assumption) _).mono ?_; rintro e w' ⟨rfl, rfl⟩) | (go_at_call 19; refine (feas_any _ _ _ _ (by assumption) (by assumption) (by assumption) (by assumption) _).mono ?_; rintro e w' ⟨rfl, rfl⟩) | (go_at_call 17; refine (far_any _ _ (by assumption) _).mono ?_; rintro e w' ⟨rfl, rfl⟩) | (go_at_call 11; refine (add_any _ _ _ (by assumption) (by assumption) (by assumption) _).mono ?_; rintro e w' ⟨rfl, rfl⟩) | (go_at_call 15; refine (metric_any _ _ (by assumption) _).mono ?_; rintro e w' ⟨rfl, rfl⟩) | (go_at_call 16; refine (seq_any _ _ (by assumption) _).mono ?_; rintro e w' ⟨rfl, rfl⟩) | (go_at_call 13; refine (least_any _ _ _ _ (by assumption) (by assumption) (by assumption) (by assumption) _).mono ?_; rintro e w' ⟨rfl, rfl⟩) | (go_at_call 10; refine (Ref18.add_any _ _ _ (by assumption) (by assumption) _).mono ?_; rintro e w' ⟨rfl, rfl⟩) | (go_at_call 12; refine (Ref18.bet_any _ _ _ _ _).mono ?_; rintro e w' ⟨rfl, rfl⟩) | (go_at_call 20; refine (Ref18.feas_any _ _ _ _ _).mono ?_; rintro e w3 ⟨rfl, hb3⟩; obtain ⟨hc3, hf3⟩ := bcell hb3; have hz3 := hb3.size))
      refine wp_gen (fun W => Below wc.heap.size wc W ∧ W.cell? ⟨g1, 0, none⟩ = some (.int .i64 (cl m0)) ∧ W.cell? ⟨g1, 1, none⟩ = some (.int .i64 s0) ∧ W.cell? ⟨g2, 0, none⟩ = some (.int .i64 (cl m1)) ∧ W.cell? ⟨g2, 1, none⟩ = some (.int .i64 s1) ∧ W.cell? ⟨wc.heap.size + 1 + 1, 0, none⟩ = some (.int .i64 (addm (cl m0) c)) ∧ W.cell? ⟨wc.heap.size + 1 + 1, 1, none⟩ = some (.int .i64 s0) ∧ W.cell? ⟨wc.heap.size + 1 + 1 + 1, 0, none⟩ = some (.int .i64 (cl m1)) ∧ W.cell? ⟨wc.heap.size + 1 + 1 + 1, 1, none⟩ = some (.int .i64 s1)) ?_ ?_
      · exact ⟨by repeat (first | exact Below.refl _ _ | apply Below.drew | (refine Below.alloc ?_ (by first | omega | (simp; done) | (simp; omega)) _)), by simp [go_sem, *], by simp [go_sem, *], by simp [go_sem, *], by simp [go_sem, *], by simp [go_sem, *], by simp [go_sem, *], by simp [go_sem, *], by simp [go_sem, *]⟩
      · rintro W3 ⟨hb3, r0, r1, r2, r3, r4, r5, r6, r7⟩
        have k0 := cell_regrown r0
        have k1 := cell_regrown r1
        have k2 := cell_regrown r2
        have k3 := cell_regrown r3
        have k4 := cell_regrown r4
        have k5 := cell_regrown r5
        have k6 := cell_regrown r6
        have k7 := cell_regrown r7
        clear r0 r1 r2 r3 r4 r5 r6 r7
        (try simp only [List.cons_append, List.nil_append])
        have u0 : IntKind.i64.wrap s0 = s0 := IntWalk.i64_in _ (by omega)
        have u1 : IntKind.i64.wrap s1 = s1 := IntWalk.i64_in _ (by omega)
        refine wp_region_quiet_below (by kernel_rfl) (by kernel_rfl) ?_
        repeat (quiet_step ((first | (go_at_call 14; exact Calls.regrown_of (awake_any _)) | (go_at_call 18; exact Calls.regrown_of (quiet_same (bet_any _ _ _ _ (by assumption) (by assumption) (by assumption) (by assumption) _))) | (go_at_call 19; exact Calls.regrown_of (quiet_same (feas_any _ _ _ _ (by assumption) (by assumption) (by assumption) (by assumption) _))) | (go_at_call 17; exact Calls.regrown_of (quiet_same (far_any _ _ (by assumption) _))) | (go_at_call 15; exact Calls.regrown_of (quiet_same (metric_any _ _ (by assumption) _))) | (go_at_call 16; exact Calls.regrown_of (quiet_same (seq_any _ _ (by assumption) _))) | (go_at_call 12; exact Calls.regrown_of (Ref18.bet_below _ _ _ _ _)) | (go_at_call 20; exact Calls.regrown_of (Ref18.feas_any _ _ _ _ _)))))
        refine wpQuiet_nil ?_
        intro w9 hw9
        have hb9 : Below W3.heap.size W3 w9 := by obtain ⟨p, rfl⟩ := hw9; exact below_regrown _ _ _
        go_wp2
        go_ret
        exact ⟨rfl, (((hB.trans (hb1.mono (by have := HZ.out; omega))).trans (hb2.mono (by omega))).trans (hb3.mono (by have := hb2.size; omega))).trans (hb9.mono (by have := hb2.size; have := hb3.size; omega))⟩
end FeasibleTells
end Go.Proofs.Ytiopekkmbfllaaa
