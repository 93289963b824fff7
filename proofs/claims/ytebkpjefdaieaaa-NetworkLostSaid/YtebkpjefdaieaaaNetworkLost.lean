/-
  NetworkLost: the walk. Conditions: none.
-/
import Derived.Test.YtebkpjefdaieaaaJe
namespace Go.Proofs.Ytebkpjefdaieaaa
open Go.RowKit FR FP H2 OW
set_option linter.unusedVariables false
set_option linter.unusedSimpArgs false
namespace Net
theorem IsNet.alloc {w : World} {base b : Nat} {ly : Lay} {S : NetV} (h : IsNet w base b ly S) (o : Obj) : IsNet (w.alloc o) base b ly S := h.below ((Below.refl _ _).alloc (Nat.le_refl _) o)
theorem IsNet.boxed {w : World} {base b : Nat} {ly : Lay} {S : NetV} (h : IsNet w base b ly S) (o : Obj) (v : Value) : IsNet ((w.alloc o).setCell ⟨w.heap.size, 0, none⟩ v) base b ly S := h.below (((Below.refl _ _).alloc (Nat.le_refl _) o).setCell (Nat.le_refl _) v)
end Net
namespace NetworkLost
open Eng GG Net
set_option maxRecDepth 1000000 in
set_option maxHeartbeats 16000000 in
theorem walk (n0 : Int) (v : Value) (w : World) (_ : (Lit.int .i64 n0).wf = true) (wv : IsActs w v) : Calls Try.prog 7 #[.int .i64 n0, v] w fun e w' => e = .returned (.bool true) ∧ Below w.heap.size w w' := by
  obtain ⟨A, m, cap, f, rfl, hm, hf⟩ := wv
  have HF := Lib.hid hf
  have HM := Lib.hid hm
  unfold maxLen at hm
  clear hf
  obtain ⟨r, hr, hrr⟩ := remk n0 6 (by omega)
  obtain ⟨n, hn⟩ : ∃ n : Nat, n = 1 + r := ⟨_, rfl⟩
  have hn1 : 1 ≤ n := by omega
  have hn6 : n ≤ 6 := by omega
  have e6 : ((6 : Nat) : Int) = 6 := rfl
  rw [e6] at hrr
  have wa : IntKind.i64.wrap (r : Int) = (r : Int) := IntWalk.i64_in _ (by omega)
  have wb : IntKind.i64.wrap (1 + (r : Int)) = (n : Int) := by rw [IntWalk.i64_in _ (by omega)]; omega
  clear hn e6
  by_cases hfew : m ≤ 300
  · have hd : decide (m ≤ 300) = true := decide_eq_true hfew
    have hq := fun (w : World) => few_any A m cap w HM.out
    rw [hd] at hq
    have HQ := Lib.hid hq
    clear hd hq
    go_enter Try.func7, Try.ntmps7
    go_upto_region 8 with (first
      | (go_at_call 9; (with_reducible refine (awake_any w).mono ?_); rintro e w1 ⟨rfl, hb⟩; have HB1 := Lib.hid hb; have HF1 := Lib.hid (HF.out.below hb); clear hb)
      | (go_at_call 10; (with_reducible refine (HQ.out w1).mono ?_); rintro e w2 ⟨rfl, rfl⟩)
      | (go_at_call 11; (with_reducible refine (Net.new_any n w1 hn1 hn6).mono ?_); rintro e w2 ⟨⟨b, ly, rfl, hi⟩, hb⟩; have N2 := Lib.hid hi; have B2 := Lib.hid hb; clear hi hb))
    go_loopw [34] (fun s34 wr => ∃ (i : Nat) (S : NetV), i ≤ m ∧ s34 = .int .i64 i ∧ IsNet wr w1.heap.size b ly S ∧ Below w1.heap.size w1 wr ∧ S.n = n ∧ S.m.length ≤ 300 ∧ Dark S) (fun s34 _ => m - (intOf s34).toNat)
    case atStart => exact ⟨0, _, by omega, rfl, N2.out, B2.out, rfl, Nat.zero_le _, dark_new n⟩
    case round =>
      obtain ⟨i, S, hi, rfl, hnet, hbel, hsn, hsm, hdk⟩ := hrel
      have N := Lib.hid hnet
      have B := Lib.hid hbel
      have HN := Lib.hid hsn
      have HL := Lib.hid hsm
      have HK := Lib.hid hdk
      clear hnet hbel hsn hsm hdk N2 B2
      by_cases hlt : i < m
      · have hlt' : (i : Int) < (m : Int) := by omega
        have i0 : (0 : Int) ≤ (i : Int) := by omega
        obtain ⟨g, o, rfl, hg, x0, x1, x2, x3⟩ := (HF1.out.below B.out) i hlt
        generalize f i = q at x0 x1 x2 x3
        obtain ⟨kk, a, bb, nn⟩ := q
        dsimp only at x0 x1 x2 x3
        by_cases h3 : kk = 3
        · subst h3
          go_upto_region 14 with (go_at_call 13; (with_reducible refine (do_any 4 a bb nn _ (N.out.alloc _) HL.out).mono ?_); rintro e w4 ⟨x, S', rfl, hd, hn4, ha⟩; have HD := Lib.hid hd; have N4 := Lib.hid hn4; have B4 := Lib.hid (B.out.trans ((((Below.refl _ _).alloc (Nat.le_refl _) _).mono B.out.size).trans ha.bel)); clear hd hn4 ha)
          obtain ⟨hm4, hn4⟩ := DoR.few HD.out HL.out
          have hk4 := HD.out.dark (by decide) (by decide) HK.out
          have HN4 := Lib.hid (hn4.trans HN.out)
          have HL4 := Lib.hid hm4
          have HK4 := Lib.hid hk4
          clear hm4 hn4 hk4
          go_loopw [51] (fun s51 wr => ∃ d : Nat, d ≤ n ∧ s51 = .int .i64 d ∧ IsNet wr w1.heap.size b ly S' ∧ Below w1.heap.size w1 wr) (fun s51 _ => n - (intOf s51).toNat)
          case atStart => exact ⟨0, by omega, rfl, N4.out, B4.out⟩
          case round =>
            obtain ⟨d, hd, rfl, hnet4, hb4⟩ := hrel
            have M := Lib.hid hnet4
            have MB := Lib.hid hb4
            clear hnet4 hb4 N4 B4
            by_cases hdn : d < n
            · have hdn' : (d : Int) < (n : Int) := by omega
              have d0 : (0 : Int) ≤ (d : Int) := by omega
              have HMT := Lib.hid (metrics_ok wr M.out d (by rw [HN4.out]; exact hdn))
              go_upto_region 17 with (go_at_call 17; (with_reducible refine (HMT.out).mono ?_); rintro e w5 ⟨⟨v5, rfl, hv5⟩, hb5⟩; have M5 := Lib.hid (M.out.below hb5); have MB5 := Lib.hid (MB.out.trans (hb5.mono MB.out.size)); rw [HN4.out] at hv5; obtain ⟨A5, c5, rfl, hI5, _⟩ := own_row hv5; have HI5 := Lib.hid hI5; clear hv5 hb5 hI5)
              go_loop [58] (fun s58 => ∃ i : Nat, i ≤ n ∧ s58 = .int .i64 i) (fun s58 => n - (intOf s58).toNat)
              case atStart => exact ⟨0, by omega, rfl⟩
              case round =>
                obtain ⟨i, hi, rfl⟩ := hrel
                by_cases hin : i < n
                · have hin' : (i : Int) < (n : Int) := by omega
                  have i0 : (0 : Int) ≤ (i : Int) := by omega
                  obtain ⟨g5, o5, rfl, _, hc5⟩ := HI5.out i hin
                  have hwf := M.out.wf i (by rw [HN4.out]; exact hin)
                  have hdm := dark_metric HK4.out i d hwf.2.2 hwf.2.1 (by rw [HN4.out]; exact hdn)
                  dsimp only at hc5
                  rw [hdm] at hc5
                  clear hdm hwf
                  by_cases e : i = d
                  · subst e
                    rw [if_pos rfl] at hc5
                    have b1 : ((i : Int) == (i : Int)) = true := by simp
                    go_wp2
                    go_round
                    case rel => exact ⟨i + 1, by omega, by go_num⟩
                    case measure => simp [intOf]; omega
                  · rw [if_neg e] at hc5
                    have b1 : ((i : Int) == (d : Int)) = false := by simp; omega
                    have b2 : ((i : Int) != (d : Int)) = true := by simp; omega
                    clear e
                    go_wp2
                    go_round
                    case rel => exact ⟨i + 1, by omega, by go_num⟩
                    case measure => simp [intOf]; omega
                · obtain rfl : i = n := by omega
                  go_wp2
                  go_roundw
                  case rel => exact ⟨d + 1, by omega, by go_num, M5.out, MB5.out⟩
                  case measure => simp [intOf]; omega
            · obtain rfl : d = n := by omega
              go_wp2
              go_roundw
              case rel => exact ⟨i + 1, _, by omega, by go_num, M.out, MB.out, HN4.out, HL4.out, HK4.out⟩
              case measure => simp [intOf]; omega
        by_cases h5 : kk = 5
        · subst h5
          go_upto_region 14 with (go_at_call 13; (with_reducible refine (do_any 4 a bb nn _ (N.out.alloc _) HL.out).mono ?_); rintro e w4 ⟨x, S', rfl, hd, hn4, ha⟩; have HD := Lib.hid hd; have N4 := Lib.hid hn4; have B4 := Lib.hid (B.out.trans ((((Below.refl _ _).alloc (Nat.le_refl _) _).mono B.out.size).trans ha.bel)); clear hd hn4 ha)
          obtain ⟨hm4, hn4⟩ := DoR.few HD.out HL.out
          have hk4 := HD.out.dark (by decide) (by decide) HK.out
          have HN4 := Lib.hid (hn4.trans HN.out)
          have HL4 := Lib.hid hm4
          have HK4 := Lib.hid hk4
          clear hm4 hn4 hk4
          go_loopw [51] (fun s51 wr => ∃ d : Nat, d ≤ n ∧ s51 = .int .i64 d ∧ IsNet wr w1.heap.size b ly S' ∧ Below w1.heap.size w1 wr) (fun s51 _ => n - (intOf s51).toNat)
          case atStart => exact ⟨0, by omega, rfl, N4.out, B4.out⟩
          case round =>
            obtain ⟨d, hd, rfl, hnet4, hb4⟩ := hrel
            have M := Lib.hid hnet4
            have MB := Lib.hid hb4
            clear hnet4 hb4 N4 B4
            by_cases hdn : d < n
            · have hdn' : (d : Int) < (n : Int) := by omega
              have d0 : (0 : Int) ≤ (d : Int) := by omega
              have HMT := Lib.hid (metrics_ok wr M.out d (by rw [HN4.out]; exact hdn))
              go_upto_region 17 with (go_at_call 17; (with_reducible refine (HMT.out).mono ?_); rintro e w5 ⟨⟨v5, rfl, hv5⟩, hb5⟩; have M5 := Lib.hid (M.out.below hb5); have MB5 := Lib.hid (MB.out.trans (hb5.mono MB.out.size)); rw [HN4.out] at hv5; obtain ⟨A5, c5, rfl, hI5, _⟩ := own_row hv5; have HI5 := Lib.hid hI5; clear hv5 hb5 hI5)
              go_loop [58] (fun s58 => ∃ i : Nat, i ≤ n ∧ s58 = .int .i64 i) (fun s58 => n - (intOf s58).toNat)
              case atStart => exact ⟨0, by omega, rfl⟩
              case round =>
                obtain ⟨i, hi, rfl⟩ := hrel
                by_cases hin : i < n
                · have hin' : (i : Int) < (n : Int) := by omega
                  have i0 : (0 : Int) ≤ (i : Int) := by omega
                  obtain ⟨g5, o5, rfl, _, hc5⟩ := HI5.out i hin
                  have hwf := M.out.wf i (by rw [HN4.out]; exact hin)
                  have hdm := dark_metric HK4.out i d hwf.2.2 hwf.2.1 (by rw [HN4.out]; exact hdn)
                  dsimp only at hc5
                  rw [hdm] at hc5
                  clear hdm hwf
                  by_cases e : i = d
                  · subst e
                    rw [if_pos rfl] at hc5
                    have b1 : ((i : Int) == (i : Int)) = true := by simp
                    go_wp2
                    go_round
                    case rel => exact ⟨i + 1, by omega, by go_num⟩
                    case measure => simp [intOf]; omega
                  · rw [if_neg e] at hc5
                    have b1 : ((i : Int) == (d : Int)) = false := by simp; omega
                    have b2 : ((i : Int) != (d : Int)) = true := by simp; omega
                    clear e
                    go_wp2
                    go_round
                    case rel => exact ⟨i + 1, by omega, by go_num⟩
                    case measure => simp [intOf]; omega
                · obtain rfl : i = n := by omega
                  go_wp2
                  go_roundw
                  case rel => exact ⟨d + 1, by omega, by go_num, M5.out, MB5.out⟩
                  case measure => simp [intOf]; omega
            · obtain rfl : d = n := by omega
              go_wp2
              go_roundw
              case rel => exact ⟨i + 1, _, by omega, by go_num, M.out, MB.out, HN4.out, HL4.out, HK4.out⟩
              case measure => simp [intOf]; omega
        · have h3' : (kk == 3) = false := by simpa using h3
          have h5' : (kk == 5) = false := by simpa using h5
          have H35 := Lib.hid (And.intro h3 h5)
          clear h3 h5
          go_upto_region 14 with (go_at_call 13; (with_reducible refine (do_any kk a bb nn _ (N.out.alloc _) HL.out).mono ?_); rintro e w4 ⟨x, S', rfl, hd, hn4, ha⟩; have HD := Lib.hid hd; have N4 := Lib.hid hn4; have B4 := Lib.hid (B.out.trans ((((Below.refl _ _).alloc (Nat.le_refl _) _).mono B.out.size).trans ha.bel)); clear hd hn4 ha)
          obtain ⟨hm4, hn4⟩ := DoR.few HD.out HL.out
          have hk4 := HD.out.dark H35.out.1 H35.out.2 HK.out
          have HN4 := Lib.hid (hn4.trans HN.out)
          have HL4 := Lib.hid hm4
          have HK4 := Lib.hid hk4
          clear hm4 hn4 hk4
          go_loopw [51] (fun s51 wr => ∃ d : Nat, d ≤ n ∧ s51 = .int .i64 d ∧ IsNet wr w1.heap.size b ly S' ∧ Below w1.heap.size w1 wr) (fun s51 _ => n - (intOf s51).toNat)
          case atStart => exact ⟨0, by omega, rfl, N4.out, B4.out⟩
          case round =>
            obtain ⟨d, hd, rfl, hnet4, hb4⟩ := hrel
            have M := Lib.hid hnet4
            have MB := Lib.hid hb4
            clear hnet4 hb4 N4 B4
            by_cases hdn : d < n
            · have hdn' : (d : Int) < (n : Int) := by omega
              have d0 : (0 : Int) ≤ (d : Int) := by omega
              have HMT := Lib.hid (metrics_ok wr M.out d (by rw [HN4.out]; exact hdn))
              go_upto_region 17 with (go_at_call 17; (with_reducible refine (HMT.out).mono ?_); rintro e w5 ⟨⟨v5, rfl, hv5⟩, hb5⟩; have M5 := Lib.hid (M.out.below hb5); have MB5 := Lib.hid (MB.out.trans (hb5.mono MB.out.size)); rw [HN4.out] at hv5; obtain ⟨A5, c5, rfl, hI5, _⟩ := own_row hv5; have HI5 := Lib.hid hI5; clear hv5 hb5 hI5)
              go_loop [58] (fun s58 => ∃ i : Nat, i ≤ n ∧ s58 = .int .i64 i) (fun s58 => n - (intOf s58).toNat)
              case atStart => exact ⟨0, by omega, rfl⟩
              case round =>
                obtain ⟨i, hi, rfl⟩ := hrel
                by_cases hin : i < n
                · have hin' : (i : Int) < (n : Int) := by omega
                  have i0 : (0 : Int) ≤ (i : Int) := by omega
                  obtain ⟨g5, o5, rfl, _, hc5⟩ := HI5.out i hin
                  have hwf := M.out.wf i (by rw [HN4.out]; exact hin)
                  have hdm := dark_metric HK4.out i d hwf.2.2 hwf.2.1 (by rw [HN4.out]; exact hdn)
                  dsimp only at hc5
                  rw [hdm] at hc5
                  clear hdm hwf
                  by_cases e : i = d
                  · subst e
                    rw [if_pos rfl] at hc5
                    have b1 : ((i : Int) == (i : Int)) = true := by simp
                    go_wp2
                    go_round
                    case rel => exact ⟨i + 1, by omega, by go_num⟩
                    case measure => simp [intOf]; omega
                  · rw [if_neg e] at hc5
                    have b1 : ((i : Int) == (d : Int)) = false := by simp; omega
                    have b2 : ((i : Int) != (d : Int)) = true := by simp; omega
                    clear e
                    go_wp2
                    go_round
                    case rel => exact ⟨i + 1, by omega, by go_num⟩
                    case measure => simp [intOf]; omega
                · obtain rfl : i = n := by omega
                  go_wp2
                  go_roundw
                  case rel => exact ⟨d + 1, by omega, by go_num, M5.out, MB5.out⟩
                  case measure => simp [intOf]; omega
            · obtain rfl : d = n := by omega
              go_wp2
              go_roundw
              case rel => exact ⟨i + 1, _, by omega, by go_num, M.out, MB.out, HN4.out, HL4.out, HK4.out⟩
              case measure => simp [intOf]; omega
      · obtain rfl : i = m := by omega
        go_wp2
        go_ret
        exact ⟨rfl, HB1.out.trans (B.out.mono HB1.out.size)⟩
  · have hd : decide (m ≤ 300) = false := decide_eq_false hfew
    have hq := fun (w : World) => few_any A m cap w HM.out
    rw [hd] at hq
    have HQ := Lib.hid hq
    clear hd hq
    go_enter Try.func7, Try.ntmps7
    go_wp2_with (first
      | (go_at_call 9; (with_reducible refine (awake_any w).mono ?_); rintro e w1 ⟨rfl, hb⟩; have HB1 := Lib.hid hb; clear hb)
      | (go_at_call 10; (with_reducible refine (HQ.out w1).mono ?_); rintro e w2 ⟨rfl, rfl⟩)
      | (go_at_call 9; (with_reducible refine (awake_any w1).mono ?_); rintro e w2 ⟨rfl, hb⟩; have HB2 := Lib.hid (HB1.out.trans (hb.mono HB1.out.size)); clear hb))
    go_ret
    exact ⟨rfl, HB2.out⟩
end NetworkLost
end Go.Proofs.Ytebkpjefdaieaaa
