/-
  The layer 'feasible': the law's helper 'awake' returns true. Conditions: none.
-/
import Derived.Test.YtiopekkmbfllaaaFeas
import Derived.Test.YtiopekkmbfllaaaRef18
namespace Go.Proofs.Ytiopekkmbfllaaa
open Go.RowKit FR FP
set_option linter.unusedVariables false
set_option linter.unusedSimpArgs false
attribute [local go_sem] order_sm order_sub0 order_inf cmp_lt cmp_gt cmp_eq cmp_ne run_fsub run_cadd run_toI64 run_toU32 max_ite min_ite cl_fold
namespace Law18
open Feas
theorem of_any (m s : Int) (w : World) : Calls Try.prog 8 #[.agg #[.int .i64 m, .int .u32 s]] w fun e w' => e = .returned (dv (cl m) s) ∧ Below w.heap.size w w' := by
  go_enter Try.func8, Try.ntmps8
  go_wp2_with (go_at_call 21; refine (make_any _ _ _).mono ?_; rintro e w' ⟨rfl, rfl⟩)
  go_ret
  exact ⟨rfl, (Below.refl _ _).alloc (Nat.le_refl _) _⟩
theorem ref_any (m s : Int) (hs : Sm s) (w : World) : Calls Try.prog 9 #[.agg #[.int .i64 m, .int .u32 s]] w fun e w' => e = .returned (Ref18.rv (cl m) s) ∧ ((w.alloc (.cells #[.int .i64 m, .int .u32 s] 24)).alloc (.cells #[.int .i64 (cl m), .int .i64 s] 29)).alloc (.cells #[.int .i64 (cl m), .int .i64 s] 29) = w' := by
  go_enter Try.func9, Try.ntmps9
  go_wp2_with (go_at_call 25; refine (Ref18.make_any _ _ hs _).mono ?_; rintro e w' ⟨rfl, rfl⟩)
  refine bodyPost_ret (v := Ref18.rv (cl m) s) (by simp [results, Try.results9, go_sem]) rfl ⟨rfl, ?_⟩
  rfl
set_option maxHeartbeats 4000000 in
theorem awake_any (w : World) : Calls Try.prog 14 #[] w fun e w' => e = .returned (.bool true) ∧ Below w.heap.size w w' := by
  have c1 : cl 1 = 1 := by decide
  have c4 : cl 4 = 4 := by decide
  have c5 : cl 5 = 5 := by decide
  have c7 : cl 7 = 7 := by decide
  have c9 : cl 9 = 9 := by decide
  have s1 : Sm 1 := by decide
  have s4 : Sm 4 := by decide
  have s7 : Sm 7 := by decide
  have f1 : fea 4 1 5 1 = true := by decide
  have f2 : fea 5 1 5 1 = false := by decide
  have f3 : fea 9 2 5 1 = true := by decide
  have f4 : fea 65535 0 5 1 = false := by decide
  have f5 : fea 5 1 65535 0 = true := by decide
  have a1 : addm 4 3 = 7 := by decide
  have b1 : bet 4 1 5 1 = true := by decide
  go_enter Try.func14, Try.ntmps14
  go_wp2_with (first | (go_at_call 21; refine (make_any _ _ _).mono ?_; rintro e w' ⟨rfl, rfl⟩) | (go_at_call 19; refine (feas_any _ _ _ _ (by decide) (by decide) (by decide) (by decide) _).mono ?_; rintro e w' ⟨rfl, rfl⟩) | (go_at_call 24; refine (none_any _).mono ?_; rintro e w' ⟨rfl, rfl⟩) | (go_at_call 15; refine (metric_any _ _ (by decide) _).mono ?_; rintro e w' ⟨rfl, rfl⟩) | (go_at_call 16; refine (seq_any _ _ (by decide) _).mono ?_; rintro e w' ⟨rfl, rfl⟩) | (go_at_call 11; refine (add_any _ _ _ (by decide) (by decide) (by decide) _).mono ?_; rintro e w' ⟨rfl, rfl⟩) | (go_at_call 17; refine (far_any _ _ (by decide) _).mono ?_; rintro e w' ⟨rfl, rfl⟩) | (go_at_call 18; refine (bet_any _ _ _ _ (by decide) (by decide) (by decide) (by decide) _).mono ?_; rintro e w' ⟨rfl, rfl⟩) | (go_at_call 13; refine (least_any _ _ _ _ (by decide) (by decide) (by decide) (by decide) _).mono ?_; rintro e w' ⟨rfl, rfl⟩))
  refine (choose_any _ _ 2 2 2 2 (fun i => if i = 0 then 5 else 4) (fun _ => 1) (fun _ => 1) (fun _ => 0) 5 1 _ (by omega) (by omega) ?_ ?_ ?_ ?_ (by decide) (by decide)).mono ?_
  · intro i hi
    refine ⟨_, _, rfl, ?_⟩
    obtain rfl | rfl : i = 0 ∨ i = 1 := by omega
    · simp [go_sem]
    · simp [go_sem]
  · intro i hi
    refine ⟨_, _, rfl, ?_⟩
    obtain rfl | rfl : i = 0 ∨ i = 1 := by omega
    · simp [go_sem]
    · simp [go_sem]
  · intro i hi
    obtain rfl | rfl : i = 0 ∨ i = 1 := by omega
    · decide
    · decide
  · intro i hi
    decide
  rintro e w' ⟨rfl, rfl⟩
  have hch : (ch (fun i => if i = 0 then 5 else 4) (fun _ => 1) (fun _ => 1) 2 5 1 2).1 = 1 := by decide
  rw [hch]
  go_wp2
  go_ret
  exact ⟨rfl, ((Below.refl _ _).alloc (Nat.le_refl _) _).alloc (by simp) _⟩
end Law18
end Go.Proofs.Ytiopekkmbfllaaa
