/-
  NetworkTrue: the walk. Conditions: none.
-/
import Derived.Test.YtebkpjefdaieaaaTrueP
namespace Go.Proofs.Ytebkpjefdaieaaa
open Go.RowKit FR FP H2 OW
set_option linter.unusedVariables false
set_option linter.unusedSimpArgs false
namespace NetworkTrue
open Eng GG Net
theorem ids_of {w : World} {base b : Nat} {ly : Lay} {S : NetV} (h : IsNet w base b ly S) : Ids S := fun i hi => (h.wf i hi).2
theorem ialloc {w : World} {base b : Nat} {ly : Lay} {S : NetV} (h : IsNet w base b ly S) (o : Obj) : IsNet (w.alloc o) base b ly S := h.below ((Below.refl _ _).alloc (Nat.le_refl _) o)
theorem one_m {S S' : NetV} {a b n e : Int} (h : DoR S 1 a b n e S') : S'.m = S.m := by
  rcases h.cases with rfl | ⟨i, j, _, hk, _, _, _, _, _, _, _, rfl⟩ | ⟨v, m, hv, hm, hl, ⟨hk, _⟩ | ⟨hk, _⟩⟩ | ⟨i, hi', hk, _⟩ | ⟨i, _, hk, _⟩ | ⟨i, _, hk, _⟩
  · rfl
  · rfl
  all_goals omega
/-- as long as links stay -/
def Tru (S : NetV) : Prop := ∀ (d : Nat) (D : Nat → Int), d < S.n → GP.IsFar S.n S.c d D → Low (fun _ => True) d D S
theorem tru_do {S S' : NetV} {k a b n e : Int} (h : DoR S k a b n e S') (h1 : k ≠ 1) (hi : Ids S) (hc : Cst S) (hg : GG.Good S.c) (hM : ∀ v, v ∈ S.m → v.fr < S.n) (hT : Tru S) (hn : S'.n = S.n) : Tru S' := fun d D hd hF => by
  rw [h.same h1, hn] at hF
  rw [hn] at hd
  exact h.low h1 hi hc hg hd hF hM (hT d D hd hF)
theorem tru_dark {S : NetV} (h : Dark S) (hm : S.m = []) : Tru S := fun d D hd hF => low_dark hF rfl h hm
set_option maxRecDepth 1000000 in
set_option maxHeartbeats 16000000 in
theorem walk (n0 : Int) (v v2 : Value) (w : World) (_ : (Lit.int .i64 n0).wf = true) (wv : IsActs w v) (wv2 : IsActs w v2) : Calls Try.prog 4 #[.int .i64 n0, v, v2] w fun e w' => e = .returned (.bool true) ∧ Below w.heap.size w w' := by
  obtain ⟨A, m, cap, f, rfl, hm, hf⟩ := wv
  obtain ⟨A2, m2, cap2, f2, rfl, hm2, hf2⟩ := wv2
  have HF := Lib.hid hf
  have HM := Lib.hid hm
  have HF2 := Lib.hid hf2
  have HM2 := Lib.hid hm2
  unfold maxLen at hm hm2
  clear hf hf2
  obtain ⟨r, hr, hrr⟩ := remk n0 6 (by omega)
  obtain ⟨n, hn⟩ : ∃ n : Nat, n = 1 + r := ⟨_, rfl⟩
  have hn1 : 1 ≤ n := by omega
  have hn6 : n ≤ 6 := by omega
  have e6 : ((6 : Nat) : Int) = 6 := rfl
  rw [e6] at hrr
  have wa : IntKind.i64.wrap (r : Int) = (r : Int) := IntWalk.i64_in _ (by omega)
  have wb : IntKind.i64.wrap (1 + (r : Int)) = (n : Int) := by rw [IntWalk.i64_in _ (by omega)]; omega
  clear hn e6
  by_cases hfew : m ≤ 300
  · have hd : decide (m ≤ 300) = true := decide_eq_true hfew
    have hq := fun (w : World) => few_any A m cap w HM.out
    rw [hd] at hq
    have HQ := Lib.hid hq
    clear hd hq
    by_cases hfew2 : m2 ≤ 300
    · have hd : decide (m2 ≤ 300) = true := decide_eq_true hfew2
      have hq := fun (w : World) => few_any A2 m2 cap2 w HM2.out
      rw [hd] at hq
      have HQ2 := Lib.hid hq
      clear hd hq
      go_enter Try.func4, Try.ntmps4
      go_upto_region 8 with (first
        | (go_at_call 9; (with_reducible refine (awake_any w).mono ?_); rintro e w1 ⟨rfl, hb⟩; have HB1 := Lib.hid hb; have HF1 := Lib.hid (HF.out.below hb); have HG1 := Lib.hid (HF2.out.below hb); clear hb)
        | (go_at_call 10; (with_reducible refine (HQ.out w1).mono ?_); rintro e w2 ⟨rfl, rfl⟩)
        | (go_at_call 10; (with_reducible refine (HQ2.out w1).mono ?_); rintro e w2 ⟨rfl, rfl⟩)
        | (go_at_call 11; (with_reducible refine (Net.new_any n w1 hn1 hn6).mono ?_); rintro e w2 ⟨⟨b, ly, rfl, hi⟩, hb⟩; have N2 := Lib.hid hi; have B2 := Lib.hid hb; clear hi hb))
      go_loopw [44] (fun s44 wr => ∃ (i : Nat) (S : NetV), i ≤ m ∧ s44 = .int .i64 i ∧ IsNet wr w1.heap.size b ly S ∧ Below w1.heap.size w1 wr ∧ S.n = n ∧ S.m = [] ∧ Dark S ∧ Cst S) (fun s44 _ => m - (intOf s44).toNat)
      case atStart => exact ⟨0, _, by omega, rfl, N2.out, B2.out, rfl, rfl, dark_new n, cst_new n⟩
      case round =>
        obtain ⟨i, S, hi, rfl, hnet, hbel, hsn, hsm, hdk, hcs⟩ := hrel
        have N := Lib.hid hnet
        have B := Lib.hid hbel
        have HN := Lib.hid hsn
        have HL := Lib.hid hsm
        have HK := Lib.hid hdk
        have HC := Lib.hid hcs
        clear hnet hbel hsn hsm hdk hcs N2 B2
        by_cases hlt : i < m
        · have hlt' : (i : Int) < (m : Int) := by omega
          have i0 : (0 : Int) ≤ (i : Int) := by omega
          obtain ⟨g, o, rfl, hg, x0, x1, x2, x3⟩ := (HF1.out.below B.out) i hlt
          generalize f i = q at x0 x1 x2 x3
          obtain ⟨kk, a, bb, nn⟩ := q
          dsimp only at x0 x1 x2 x3
          by_cases h1 : kk = 1
          · subst h1
            have HL0 := Lib.hid (show S.m.length ≤ 300 by rw [HL.out]; exact Nat.zero_le _)
            go_wp2_with (go_at_call 13; (with_reducible refine (do_any 1 a bb nn _ (ialloc N.out _) HL0.out).mono ?_); rintro e w4 ⟨x, S', rfl, hd, hn4, ha⟩; have HD := Lib.hid hd; have N4 := Lib.hid hn4; have B4 := Lib.hid (B.out.trans ((((Below.refl _ _).alloc (Nat.le_refl _) _).mono B.out.size).trans ha.bel)); clear hd hn4 ha)
            go_roundw
            case rel => exact ⟨i + 1, _, by omega, by go_num, N4.out, B4.out, (HD.out.few HL0.out).2.trans HN.out, (one_m HD.out).trans HL.out, HD.out.dark (by decide) (by decide) HK.out, HD.out.cst (ids_of N.out) HC.out⟩
            case measure => simp [intOf]; omega
          · have h1' : (kk == 1) = false := by simpa using h1
            clear h1
            go_wp2
            go_roundw
            case rel => exact ⟨i + 1, _, by omega, by go_num, ialloc N.out _, B.out.trans (((Below.refl _ _).alloc (Nat.le_refl _) _).mono B.out.size), HN.out, HL.out, HK.out, HC.out⟩
            case measure => simp [intOf]; omega
        · obtain rfl : i = m := by omega
          have HT := Lib.hid (tru_dark HK.out HL.out)
          go_upto_region 14 with fail
          go_loopw [57] (fun s57 wr => ∃ (j : Nat) (S : NetV), j ≤ m2 ∧ s57 = .int .i64 j ∧ IsNet wr w1.heap.size b ly S ∧ Below w1.heap.size w1 wr ∧ S.n = n ∧ S.m.length ≤ 300 ∧ Cst S ∧ Tru S) (fun s57 _ => m2 - (intOf s57).toNat)
          case atStart => exact ⟨0, S, by omega, rfl, N.out, B.out, HN.out, by rw [HL.out]; exact Nat.zero_le _, HC.out, HT.out⟩
          case round =>
            obtain ⟨j, S2, hj, rfl, hnet, hbel, hsn, hsm, hcs, htr⟩ := hrel
            have M := Lib.hid hnet
            have MB := Lib.hid hbel
            have HN2 := Lib.hid hsn
            have HL2 := Lib.hid hsm
            have HC2 := Lib.hid hcs
            have HT2 := Lib.hid htr
            clear hnet hbel hsn hsm htr hcs N B HN HL HK HC HT
            by_cases hltj : j < m2
            · have hltj' : (j : Int) < (m2 : Int) := by omega
              have j0 : (0 : Int) ≤ (j : Int) := by omega
              obtain ⟨g, o, rfl, hg, x0, x1, x2, x3⟩ := (HG1.out.below MB.out) j hltj
              generalize f2 j = q at x0 x1 x2 x3
              obtain ⟨kk, a, bb, nn⟩ := q
              dsimp only at x0 x1 x2 x3
              by_cases h1 : kk = 1
              · subst h1
                go_wp2
                go_roundw
                case rel => exact ⟨j + 1, _, by omega, by go_num, ialloc M.out _, MB.out.trans (((Below.refl _ _).alloc (Nat.le_refl _) _).mono MB.out.size), HN2.out, HL2.out, HC2.out, HT2.out⟩
                case measure => simp [intOf]; omega
              · have h1' : (kk == 1) = false := by simpa using h1
                have H1 := Lib.hid h1
                clear h1
                go_upto_region 19 with (go_at_call 13; (with_reducible refine (do_any kk a bb nn _ (ialloc M.out _) HL2.out).mono ?_); rintro e w4 ⟨x, S', rfl, hd, hn4, ha⟩; have HD := Lib.hid hd; have N4 := Lib.hid hn4; have B4 := Lib.hid (MB.out.trans ((((Below.refl _ _).alloc (Nat.le_refl _) _).mono MB.out.size).trans ha.bel)); clear hd hn4 ha)
                obtain ⟨hm4, hn4⟩ := DoR.few HD.out HL2.out
                have HT4 := Lib.hid (tru_do HD.out H1.out (ids_of M.out) HC2.out M.out.good (fun v hv => (M.out.msg v hv).1) HT2.out hn4)
                have HC4 := Lib.hid (HD.out.cst (ids_of M.out) HC2.out)
                have HN4 := Lib.hid (hn4.trans HN2.out)
                have HL4 := Lib.hid hm4
                clear hm4 hn4
                go_loopw [68] (fun s68 wr => ∃ d : Nat, d ≤ n ∧ s68 = .int .i64 d ∧ IsNet wr w1.heap.size b ly S' ∧ Below w1.heap.size w1 wr) (fun s68 _ => n - (intOf s68).toNat)
                case atStart => exact ⟨0, by omega, rfl, N4.out, B4.out⟩
                case round =>
                  obtain ⟨d, hd, rfl, hnet4, hb4⟩ := hrel
                  have P := Lib.hid hnet4
                  have PB := Lib.hid hb4
                  clear hnet4 hb4 N4 B4
                  by_cases hdn : d < n
                  · have hdn' : (d : Int) < (n : Int) := by omega
                    have d0 : (0 : Int) ≤ (d : Int) := by omega
                    have HFR := Lib.hid (Net.far_any wr P.out d (by rw [HN4.out]; exact hdn))
                    go_upto_region 23 with (first
                      | (go_at_call 18; (with_reducible refine (HFR.out).mono ?_); rintro e w5 ⟨⟨gf, F, rfl, hgf, hfar, hisf⟩, hb5⟩; have P5 := Lib.hid (P.out.below hb5); have PB5 := Lib.hid (PB.out.trans (hb5.mono PB.out.size)); have HFA := Lib.hid hfar; have HIF := Lib.hid hisf; clear hgf hfar hisf hb5)
                      | (go_at_call 17; (with_reducible refine (metrics_ok w5 P5.out d (by rw [HN4.out]; exact hdn)).mono ?_); rintro e w6 ⟨⟨v6, rfl, hv6⟩, hb6⟩; have P6 := Lib.hid (P5.out.below hb6); have PB6 := Lib.hid (PB5.out.trans (hb6.mono PB5.out.size)); have HFB := Lib.hid (HFA.out.keep hb6); rw [HN4.out] at hv6; obtain ⟨A6, c6, rfl, hI6, _⟩ := own_row hv6; have HI6 := Lib.hid hI6; clear hv6 hb6 hI6))
                    have HSN := Lib.hid HN4.out
                    go_loop [78] (fun s78 => ∃ i : Nat, i ≤ n ∧ s78 = .int .i64 i) (fun s78 => n - (intOf s78).toNat)
                    case atStart => exact ⟨0, by omega, rfl⟩
                    case round =>
                      obtain ⟨i, hi, rfl⟩ := hrel
                      by_cases hin : i < n
                      · have hin' : (i : Int) < (n : Int) := by omega
                        have i0 : (0 : Int) ≤ (i : Int) := by omega
                        obtain ⟨g6, o6, rfl, _, hc6⟩ := HI6.out i hin
                        have hc7 := HFB.out.cell i (by rw [HN4.out]; exact hin)
                        have hsn : (S'.n : Int) = (n : Int) := by rw [HN4.out]
                        have hmt := (HT4.out d F (by rw [HN4.out]; exact hdn) HIF.out).metric (ids_of P.out) HC4.out P.out.good (by rw [HN4.out]; exact hdn) HIF.out (i := i) (by rw [HN4.out]; exact hin)
                        have hzz := HIF.out.zero
                        have hisn : (i : Int) < (S'.n : Int) := by omega
                        clear hsn
                        dsimp only at hc6
                        generalize ((S'.x i).route (d : Int)).2.1.1 = x at hc6 hmt
                        by_cases e : i = d
                        · subst e
                          have hx0 := hmt.2.2 rfl
                          rw [hx0] at hc6
                          rw [hzz] at hc7
                          have b1 : ((i : Int) == (i : Int)) = true := by simp
                          clear hmt hzz hx0
                          go_wp2
                          go_round
                          case rel => exact ⟨i + 1, by omega, by go_num⟩
                          case measure => simp [intOf]; omega
                        · have b1 : ((i : Int) == (d : Int)) = false := by simp; omega
                          have b2 : (x == 0) = false := by
                            have := mt hmt.2.1 e
                            simpa using this
                          have hle := hmt.1
                          clear hmt hzz e
                          generalize F i = y at hc7 hle
                          go_wp2
                          go_round
                          case rel => exact ⟨i + 1, by omega, by go_num⟩
                          case measure => simp [intOf]; omega
                      · obtain rfl : i = n := by omega
                        go_wp2
                        go_roundw
                        case rel => exact ⟨d + 1, by omega, by go_num, P6.out, PB6.out⟩
                        case measure => simp [intOf]; omega
                  · obtain rfl : d = n := by omega
                    go_wp2
                    go_roundw
                    case rel => exact ⟨j + 1, _, by omega, by go_num, P.out, PB.out, HN4.out, HL4.out, HC4.out, HT4.out⟩
                    case measure => simp [intOf]; omega
            · obtain rfl : j = m2 := by omega
              go_wp2
              go_ret
              exact ⟨rfl, HB1.out.trans (MB.out.mono HB1.out.size)⟩
    · have hd : decide (m2 ≤ 300) = false := decide_eq_false hfew2
      have hq := fun (w : World) => few_any A2 m2 cap2 w HM2.out
      rw [hd] at hq
      have HQ2 := Lib.hid hq
      clear hd hq
      go_enter Try.func4, Try.ntmps4
      go_wp2_with (first
        | (go_at_call 9; (with_reducible refine (awake_any w).mono ?_); rintro e w1 ⟨rfl, hb⟩; have HB1 := Lib.hid hb; clear hb)
        | (go_at_call 10; (with_reducible refine (HQ.out w1).mono ?_); rintro e w2 ⟨rfl, rfl⟩)
        | (go_at_call 10; (with_reducible refine (HQ2.out w1).mono ?_); rintro e w2 ⟨rfl, rfl⟩)
        | (go_at_call 9; (with_reducible refine (awake_any w1).mono ?_); rintro e w2 ⟨rfl, hb⟩; have HB2 := Lib.hid (HB1.out.trans (hb.mono HB1.out.size)); clear hb))
      go_ret
      exact ⟨rfl, HB2.out⟩
  · have hd : decide (m ≤ 300) = false := decide_eq_false hfew
    have hq := fun (w : World) => few_any A m cap w HM.out
    rw [hd] at hq
    have HQ := Lib.hid hq
    clear hd hq
    go_enter Try.func4, Try.ntmps4
    go_wp2_with (first
      | (go_at_call 9; (with_reducible refine (awake_any w).mono ?_); rintro e w1 ⟨rfl, hb⟩; have HB1 := Lib.hid hb; clear hb)
      | (go_at_call 10; (with_reducible refine (HQ.out w1).mono ?_); rintro e w2 ⟨rfl, rfl⟩)
      | (go_at_call 9; (with_reducible refine (awake_any w1).mono ?_); rintro e w2 ⟨rfl, hb⟩; have HB2 := Lib.hid (HB1.out.trans (hb.mono HB1.out.size)); clear hb))
    go_ret
    exact ⟨rfl, HB2.out⟩
end NetworkTrue
end Go.Proofs.Ytebkpjefdaieaaa
