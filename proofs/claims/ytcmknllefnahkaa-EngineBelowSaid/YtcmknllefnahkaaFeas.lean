/-
  What the functions of package feasible return, as words on whole numbers. Conditions: the parts of a distance are whole numbers of 32 bits.
-/
import Derived.Test.YtcmknllefnahkaaProg
import Derived.Test.YtcmknllefnahkaaFloat
import Derived.WalkKit
import Derived.WalkLawsBesides
import Derived.KernelRfl
import Derived.Lib.Hide
import Derived.Outline
import Derived.LoopTactic
import Derived.Deep.RegionWith
import Derived.Below
namespace Go.Proofs.Ytcmknllefnahkaa
open Go.RowKit FR FP
set_option linter.unusedVariables false
set_option linter.unusedSimpArgs false
attribute [local go_sem] order_sm order_sub0 order_inf cmp_lt cmp_gt cmp_eq cmp_ne run_fsub run_cadd run_toI64 run_toU32 max_ite min_ite cl_fold
namespace Feas
theorem sm_cl (m : Int) : Sm (cl m) := by have := cl_range m; exact ⟨by omega, by omega⟩
theorem metric_any (m s : Int) (hm : Sm m) (w : World) : Calls Try.prog 36 #[dv m s] w fun e w' => e = .returned (.int .i64 m) ∧ w = w' := by
  go_enter Try.func36, Try.ntmps36
  go_wp2
  go_ret
  exact ⟨rfl, rfl⟩
theorem seq_any (m s : Int) (hs : Sm s) (w : World) : Calls Try.prog 37 #[dv m s] w fun e w' => e = .returned (.int .u32 s) ∧ w = w' := by
  go_enter Try.func37, Try.ntmps37
  go_wp2
  go_ret
  exact ⟨rfl, rfl⟩
theorem far_any (m s : Int) (hm : Sm m) (w : World) : Calls Try.prog 33 #[dv m s] w fun e w' => e = .returned (.bool (decide (65535 ≤ m))) ∧ w = w' := by
  go_enter Try.func33, Try.ntmps33
  go_wp2
  go_ret
  have e : (decide (65535 < m) || decide (m = 65535)) = decide (65535 ≤ m) := by
    rw [← Bool.decide_or]; congr 1; exact propext ⟨fun h => by omega, fun h => by omega⟩
  simp [e]
theorem make_any (m s : Int) (w : World) : Calls Try.prog 31 #[.int .i64 m, .int .u32 s] w fun e w' => e = .returned (dv (cl m) s) ∧ w = w' := by
  go_enter Try.func31, Try.ntmps31
  go_wp2
  go_ret
  exact ⟨rfl, rfl⟩
theorem bet_any (a b c d : Int) (h1 : Sm a) (h2 : Sm b) (h3 : Sm c) (h4 : Sm d) (w : World) : Calls Try.prog 32 #[dv a b, dv c d] w fun e w' => e = .returned (.bool (bet a b c d)) ∧ w = w' := by
  go_enter Try.func32, Try.ntmps32
  go_wp2
  · have h : ¬ b = d := by simpa using ‹(!decide (b = d)) = true›
    go_ret
    simp [bet, h]
  · have h : b = d := by simpa using ‹(!decide (b = d)) = false›
    go_ret
    simp [bet, h]
theorem none_any (w : World) : Calls Try.prog 35 #[] w fun e w' => e = .returned (dv 65535 0) ∧ w = w' := by
  go_enter Try.func35, Try.ntmps35
  go_wp2_with (go_at_call 31; refine (make_any _ _ _).mono ?_; rintro e w' ⟨rfl, rfl⟩)
  go_ret
  exact ⟨rfl, rfl⟩
theorem feas_any (a b c d : Int) (h1 : Sm a) (h2 : Sm b) (h3 : Sm c) (h4 : Sm d) (w : World) : Calls Try.prog 48 #[dv a b, dv c d] w fun e w' => e = .returned (.bool (fea a b c d)) ∧ w = w' := by
  have hf1 : decide (a < 65535) = !decide (65535 ≤ a) := by by_cases h : a < 65535 <;> simp [h]; omega
  unfold fea
  rw [hf1]
  clear hf1
  cases hx : decide (65535 ≤ a) <;> cases hy : decide (65535 ≤ c) <;>
  · go_enter Try.func48, Try.ntmps48
    go_wp2_with (first | (go_at_call_of 33 (dv a b); refine (far_any _ _ h1 _).mono ?_; rintro e w' ⟨rfl, rfl⟩) | (go_at_call_of 33 (dv c d); refine (far_any _ _ h3 _).mono ?_; rintro e w' ⟨rfl, rfl⟩) | (go_at_call 32; refine (bet_any _ _ _ _ h1 h2 h3 h4 _).mono ?_; rintro e w' ⟨rfl, rfl⟩))
    go_ret
    first | exact ⟨rfl, rfl⟩ | simp
theorem add_any (m s c : Int) (h1 : Sm m) (h2 : Sm s) (h3 : m ≤ 65535) (w : World) : Calls Try.prog 34 #[dv m s, .int .i64 c] w fun e w' => e = .returned (dv (addm m c) s) ∧ w = w' := by
  have hc := sm_cl c
  have hr := cl_range c
  have hm := h1.1
  by_cases h : 65535 ≤ m + cl c
  · have e1 : addm m c = cl 65535 := by unfold addm; rw [show cl 65535 = 65535 from rfl]; omega
    rw [e1]; clear e1
    go_enter Try.func34, Try.ntmps34
    go_wp2_with (first | (go_at_call 36; refine (metric_any _ _ h1 _).mono ?_; rintro e w' ⟨rfl, rfl⟩) | (go_at_call 37; refine (seq_any _ _ h2 _).mono ?_; rintro e w' ⟨rfl, rfl⟩) | (go_at_call 31; refine (make_any _ _ _).mono ?_; rintro e w' ⟨rfl, rfl⟩))
    go_ret
    exact ⟨rfl, rfl⟩
  · have e1 : addm m c = m + cl c := by unfold addm; omega
    rw [e1]; clear e1
    go_enter Try.func34, Try.ntmps34
    go_wp2_with (first | (go_at_call 36; refine (metric_any _ _ h1 _).mono ?_; rintro e w' ⟨rfl, rfl⟩) | (go_at_call 37; refine (seq_any _ _ h2 _).mono ?_; rintro e w' ⟨rfl, rfl⟩) | (go_at_call 31; refine (make_any _ _ _).mono ?_; rintro e w' ⟨rfl, rfl⟩))
    go_ret
    exact ⟨rfl, rfl⟩
/-- a slice that reads as distances -/
def Rd (w : World) (A : Option Addr) (n : Nat) (om os : Nat → Int) : Prop := ∀ i, i < n → ∃ b o, A = some ⟨b, o, none⟩ ∧ w.cell? ⟨b, o + i, none⟩ = some (dv (om i) (os i))
set_option maxHeartbeats 4000000 in
theorem choose_any (A B : Option Addr) (n m c d : Nat) (om os cm cs : Nat → Int) (fm fs : Int) (w : World) (hn : n ≤ 1000000) (hm : m ≤ 1000000)
    (ha : Rd w A n om os) (hb : Rd w B m cm cs) (ho : ∀ i, i < n → (Sm (om i) ∧ om i ≤ 65535) ∧ Sm (os i)) (hc : ∀ i, i < m → Sm (cm i)) (hf : Sm fm) (hg : Sm fs) :
    Calls Try.prog 45 #[.slice A n c, .slice B m d, dv fm fs] w fun e w' => e = .returned (.int .i64 (ch om os cm m fm fs n).1) ∧ w = w' := by
  have HA := Lib.hid ha; have HB := Lib.hid hb; have HO := Lib.hid ho; have HC := Lib.hid hc
  clear ha hb ho hc
  go_enter Try.func45, Try.ntmps45
  go_wp2_with (go_at_call 35; refine (none_any _).mono ?_; rintro e w' ⟨rfl, rfl⟩)
  go_loop [7, 8, 15] (fun s7 s8 s15 => ∃ k : Nat, k ≤ n ∧ s15 = .int .i64 k ∧ s7 = .int .i64 (ch om os cm m fm fs k).1 ∧ s8 = dv (ch om os cm m fm fs k).2.1 (ch om os cm m fm fs k).2.2) (fun _ _ s15 => n - (intOf s15).toNat)
  case atStart => exact ⟨0, Nat.zero_le _, rfl, rfl, rfl⟩
  case round =>
    obtain ⟨k, hk, rfl, rfl, rfl⟩ := hrel
    by_cases hlt : k < n
    · obtain ⟨b, o, rfl, hcell⟩ := HA.out k hlt
      obtain ⟨⟨hok, hoi⟩, hos⟩ := HO.out k hlt
      have hqr := ch_range om os cm m fm fs n (fun i hi => ⟨(HO.out i hi).1.1.1, (HO.out i hi).2⟩) k hk
      have hyes := @ch_yes om os cm m fm fs k
      have hno := @ch_no om os cm m fm fs k
      generalize hq : ch om os cm m fm fs k = q at hyes hno hqr ⊢
      obtain ⟨at_, bm, bs⟩ := q
      dsimp only at hyes hno hqr ⊢
      have HY := Lib.hid hyes
      have HN := Lib.hid hno
      have hat1 := hqr.1
      have hat2 := hqr.2.1
      have hbm : Sm bm := ⟨hqr.2.2.1.1, by have := hqr.2.2.1.2; omega⟩
      have hbs : Sm bs := hqr.2.2.2
      clear hq hyes hno hqr
      by_cases hm2 : k < m
      · obtain ⟨b2, o2, rfl, hcell2⟩ := HB.out k hm2
        have hck := HC.out k hm2
        have hsa : Sm (addm (om k) (cm k)) := by have := addm_range (cm k) hok.1; exact ⟨by omega, by omega⟩
        cases hfe : fea (om k) (os k) fm fs
        · have hfe2 := Lib.hid hfe
          have H1 := Lib.hid (show ch om os cm m fm fs (k + 1) = _ from HN.out (fun h => by have h2 := h.2.1; rw [hfe2.out] at h2; cases h2))
          go_wp2_with (first | (go_at_call 48; refine (feas_any _ _ _ _ hok hos hf hg _).mono ?_; rintro e w' ⟨rfl, rfl⟩) | (go_at_call 36; refine (metric_any _ _ hck _).mono ?_; rintro e w' ⟨rfl, rfl⟩) | (go_at_call 34; refine (add_any _ _ _ hok hos hoi _).mono ?_; rintro e w' ⟨rfl, rfl⟩) | (go_at_call 33; refine (far_any _ _ hsa _).mono ?_; rintro e w' ⟨rfl, rfl⟩) | (go_at_call 32; refine (bet_any _ _ _ _ hsa hos hbm hbs _).mono ?_; rintro e w' ⟨rfl, rfl⟩))
          all_goals
            go_round
            case rel => exact ⟨k + 1, by omega, by go_num, by rw [H1.out], by rw [H1.out]⟩
            case measure => simp [intOf]; omega
        · have hfe2 := Lib.hid hfe
          by_cases hc0 : 0 < cm k
          · by_cases hin : addm (om k) (cm k) < 65535
            · have hin2 : decide (65535 ≤ addm (om k) (cm k)) = false := by simp; omega
              by_cases hneg : at_ < 0
              · have H1 := Lib.hid (show ch om os cm m fm fs (k + 1) = _ from HY.out ⟨hm2, hfe2.out, hc0, hin, .inl hneg⟩)
                go_wp2_with (first | (go_at_call 48; refine (feas_any _ _ _ _ hok hos hf hg _).mono ?_; rintro e w' ⟨rfl, rfl⟩) | (go_at_call 36; refine (metric_any _ _ hck _).mono ?_; rintro e w' ⟨rfl, rfl⟩) | (go_at_call 34; refine (add_any _ _ _ hok hos hoi _).mono ?_; rintro e w' ⟨rfl, rfl⟩) | (go_at_call 33; refine (far_any _ _ hsa _).mono ?_; rintro e w' ⟨rfl, rfl⟩) | (go_at_call 32; refine (bet_any _ _ _ _ hsa hos hbm hbs _).mono ?_; rintro e w' ⟨rfl, rfl⟩))
                all_goals
                  go_round
                  case rel => exact ⟨k + 1, by omega, by go_num, by rw [H1.out], by rw [H1.out]⟩
                  case measure => simp [intOf]; omega
              · cases hbt : bet (addm (om k) (cm k)) (os k) bm bs
                · have hbt2 := Lib.hid hbt
                  have H1 := Lib.hid (show ch om os cm m fm fs (k + 1) = _ from HN.out (fun h => by rcases h.2.2.2.2 with h2 | h2; exact hneg h2; rw [hbt2.out] at h2; cases h2))
                  go_wp2_with (first | (go_at_call 48; refine (feas_any _ _ _ _ hok hos hf hg _).mono ?_; rintro e w' ⟨rfl, rfl⟩) | (go_at_call 36; refine (metric_any _ _ hck _).mono ?_; rintro e w' ⟨rfl, rfl⟩) | (go_at_call 34; refine (add_any _ _ _ hok hos hoi _).mono ?_; rintro e w' ⟨rfl, rfl⟩) | (go_at_call 33; refine (far_any _ _ hsa _).mono ?_; rintro e w' ⟨rfl, rfl⟩) | (go_at_call 32; refine (bet_any _ _ _ _ hsa hos hbm hbs _).mono ?_; rintro e w' ⟨rfl, rfl⟩))
                  all_goals
                    go_round
                    case rel => exact ⟨k + 1, by omega, by go_num, by rw [H1.out], by rw [H1.out]⟩
                    case measure => simp [intOf]; omega
                · have hbt2 := Lib.hid hbt
                  have H1 := Lib.hid (show ch om os cm m fm fs (k + 1) = _ from HY.out ⟨hm2, hfe2.out, hc0, hin, .inr hbt2.out⟩)
                  go_wp2_with (first | (go_at_call 48; refine (feas_any _ _ _ _ hok hos hf hg _).mono ?_; rintro e w' ⟨rfl, rfl⟩) | (go_at_call 36; refine (metric_any _ _ hck _).mono ?_; rintro e w' ⟨rfl, rfl⟩) | (go_at_call 34; refine (add_any _ _ _ hok hos hoi _).mono ?_; rintro e w' ⟨rfl, rfl⟩) | (go_at_call 33; refine (far_any _ _ hsa _).mono ?_; rintro e w' ⟨rfl, rfl⟩) | (go_at_call 32; refine (bet_any _ _ _ _ hsa hos hbm hbs _).mono ?_; rintro e w' ⟨rfl, rfl⟩))
                  all_goals
                    go_round
                    case rel => exact ⟨k + 1, by omega, by go_num, by rw [H1.out], by rw [H1.out]⟩
                    case measure => simp [intOf]; omega
            · have H1 := Lib.hid (show ch om os cm m fm fs (k + 1) = _ from HN.out (fun h => hin h.2.2.2.1))
              go_wp2_with (first | (go_at_call 48; refine (feas_any _ _ _ _ hok hos hf hg _).mono ?_; rintro e w' ⟨rfl, rfl⟩) | (go_at_call 36; refine (metric_any _ _ hck _).mono ?_; rintro e w' ⟨rfl, rfl⟩) | (go_at_call 34; refine (add_any _ _ _ hok hos hoi _).mono ?_; rintro e w' ⟨rfl, rfl⟩) | (go_at_call 33; refine (far_any _ _ hsa _).mono ?_; rintro e w' ⟨rfl, rfl⟩) | (go_at_call 32; refine (bet_any _ _ _ _ hsa hos hbm hbs _).mono ?_; rintro e w' ⟨rfl, rfl⟩))
              all_goals
                go_round
                case rel => exact ⟨k + 1, by omega, by go_num, by rw [H1.out], by rw [H1.out]⟩
                case measure => simp [intOf]; omega
          · have H1 := Lib.hid (show ch om os cm m fm fs (k + 1) = _ from HN.out (fun h => hc0 h.2.2.1))
            go_wp2_with (first | (go_at_call 48; refine (feas_any _ _ _ _ hok hos hf hg _).mono ?_; rintro e w' ⟨rfl, rfl⟩) | (go_at_call 36; refine (metric_any _ _ hck _).mono ?_; rintro e w' ⟨rfl, rfl⟩) | (go_at_call 34; refine (add_any _ _ _ hok hos hoi _).mono ?_; rintro e w' ⟨rfl, rfl⟩) | (go_at_call 33; refine (far_any _ _ hsa _).mono ?_; rintro e w' ⟨rfl, rfl⟩) | (go_at_call 32; refine (bet_any _ _ _ _ hsa hos hbm hbs _).mono ?_; rintro e w' ⟨rfl, rfl⟩))
            all_goals
              go_round
              case rel => exact ⟨k + 1, by omega, by go_num, by rw [H1.out], by rw [H1.out]⟩
              case measure => simp [intOf]; omega
      · have H1 := Lib.hid (show ch om os cm m fm fs (k + 1) = _ from HN.out (fun h => hm2 h.1))
        go_wp2_with (first | (go_at_call 48; refine (feas_any _ _ _ _ hok hos hf hg _).mono ?_; rintro e w' ⟨rfl, rfl⟩) | (go_at_call 36; refine (metric_any _ _ hck _).mono ?_; rintro e w' ⟨rfl, rfl⟩) | (go_at_call 34; refine (add_any _ _ _ hok hos hoi _).mono ?_; rintro e w' ⟨rfl, rfl⟩) | (go_at_call 33; refine (far_any _ _ hsa _).mono ?_; rintro e w' ⟨rfl, rfl⟩) | (go_at_call 32; refine (bet_any _ _ _ _ hsa hos hbm hbs _).mono ?_; rintro e w' ⟨rfl, rfl⟩))
        all_goals
          go_round
          case rel => exact ⟨k + 1, by omega, by go_num, by rw [H1.out], by rw [H1.out]⟩
          case measure => simp [intOf]; omega
    · go_wp2
      go_ret
      have e : k = n := by omega
      subst e
      exact ⟨rfl, rfl⟩
end Feas
end Go.Proofs.Ytcmknllefnahkaa
