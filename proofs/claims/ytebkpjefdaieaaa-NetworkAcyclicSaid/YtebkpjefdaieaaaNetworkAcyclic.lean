/-
  NetworkAcyclic: the walk. Conditions: none.
-/
import Derived.Test.YtebkpjefdaieaaaJe
namespace Go.Proofs.Ytebkpjefdaieaaa
open Go.RowKit FR FP H2 OW
set_option linter.unusedVariables false
set_option linter.unusedSimpArgs false
namespace NetworkAcyclic
open Eng GG Net
theorem ids_of {w : World} {base b : Nat} {ly : Lay} {S : NetV} (h : IsNet w base b ly S) : Ids S := fun i hi => (h.wf i hi).2
theorem ialloc {w : World} {base b : Nat} {ly : Lay} {S : NetV} (h : IsNet w base b ly S) (o : Obj) : IsNet (w.alloc o) base b ly S := h.below ((Below.refl _ _).alloc (Nat.le_refl _) o)
set_option maxRecDepth 1000000 in
set_option maxHeartbeats 8000000 in
theorem round_no {base b : Nat} {ly : Lay} {S : NetV} (w : World) (h : IsNet w base b ly S) (hk : Ok S) : Calls Try.prog 25 #[.pointer (some ⟨b, 0, none⟩)] w fun e w' => e = .returned (.bool false) ∧ Below w.heap.size w w' := by
  have H := Lib.hid h
  have hn6 := h.n6
  have HAC := Lib.hid (fun (d : Nat) (hd : d < S.n) (A : Option Addr) (c : Nat) (w : World) (hI : Ints w A S.n (fun i => ((S.x i).route d).1)) => (show Calls Try.prog 44 #[.slice A S.n c] w fun e w' => e = .returned (.bool true) ∧ Below w.heap.size w w' by
    have := acyclic_any A S.n c _ w (by omega) hI
    rw [acy_net hk (ids_of h) hd] at this
    exact this))
  have HRC := Lib.hid (fun (d : Nat) (hd : d < S.n) (A : Option Addr) (c : Nat) (w : World) (hI : Ints w A S.n (fun i => ((S.x i).route d).1)) => (show Calls Try.prog 45 #[.slice A S.n c] w fun e w' => e = .returned (.bool true) ∧ Below w.heap.size w w' by
    have := refacyclic_any A S.n c _ w (by omega) hI
    rw [acy_net hk (ids_of h) hd] at this
    exact this))
  clear h hk
  go_enter Try.func25, Try.ntmps25
  go_upto_region 2 with (go_at_call 22; (with_reducible refine (Net.len_any w H.out).mono ?_); rintro e w1 ⟨rfl, rfl⟩)
  go_loopw [6] (fun s6 wr => ∃ d : Nat, d ≤ S.n ∧ s6 = .int .i64 d ∧ Below w.heap.size w wr) (fun s6 _ => S.n - (intOf s6).toNat)
  case atStart => exact ⟨0, by omega, rfl, Below.refl _ _⟩
  case round =>
    obtain ⟨d, hd, rfl, hb⟩ := hrel
    have HB := Lib.hid hb
    clear hb
    by_cases hdn : d < S.n
    · have hdn' : (d : Int) < (S.n : Int) := by omega
      have d0 : (0 : Int) ≤ (d : Int) := by omega
      go_wp2_with (first
        | (go_at_call 19; (with_reducible refine (next_ok wr (H.out.below HB.out) d hdn).mono ?_); rintro e w2 ⟨⟨v2, rfl, hv2⟩, hb2⟩; have HB2 := Lib.hid (HB.out.trans (hb2.mono HB.out.size)); obtain ⟨A2, c2, rfl, hI2, _⟩ := own_row hv2; have HI2 := Lib.hid hI2; clear hv2 hb2 hI2)
        | (go_at_call 44; (with_reducible refine (HAC.out d hdn A2 c2 w2 HI2.out).mono ?_); rintro e w3 ⟨rfl, hb3⟩; have HB3 := Lib.hid (HB2.out.trans (hb3.mono HB2.out.size)); clear hb3)
        | (go_at_call 19; (with_reducible refine (next_ok w3 (H.out.below HB3.out) d hdn).mono ?_); rintro e w4 ⟨⟨v4, rfl, hv4⟩, hb4⟩; have HB4 := Lib.hid (HB3.out.trans (hb4.mono HB3.out.size)); obtain ⟨A4, c4, rfl, hI4, _⟩ := own_row hv4; have HI4 := Lib.hid hI4; clear hv4 hb4 hI4)
        | (go_at_call 45; (with_reducible refine (HRC.out d hdn A4 c4 w4 HI4.out).mono ?_); rintro e w5 ⟨rfl, hb5⟩; have HB5 := Lib.hid (HB4.out.trans (hb5.mono HB4.out.size)); clear hb5))
      go_roundw
      case rel => exact ⟨d + 1, by omega, by go_num, HB5.out⟩
      case measure => simp [intOf]; omega
    · obtain rfl : d = S.n := by omega
      go_wp2
      go_ret
      exact ⟨rfl, HB.out⟩
set_option maxRecDepth 1000000 in
set_option maxHeartbeats 16000000 in
theorem walk (n0 : Int) (v : Value) (w : World) (_ : (Lit.int .i64 n0).wf = true) (wv : IsActs w v) : Calls Try.prog 8 #[.int .i64 n0, v] w fun e w' => e = .returned (.bool true) ∧ Below w.heap.size w w' := by
  obtain ⟨A, m, cap, f, rfl, hm, hf⟩ := wv
  have HF := Lib.hid hf
  have HM := Lib.hid hm
  unfold maxLen at hm
  clear hf
  obtain ⟨r, hr, hrr⟩ := remk n0 6 (by omega)
  obtain ⟨n, hn⟩ : ∃ n : Nat, n = 1 + r := ⟨_, rfl⟩
  have hn1 : 1 ≤ n := by omega
  have hn6 : n ≤ 6 := by omega
  have e6 : ((6 : Nat) : Int) = 6 := rfl
  rw [e6] at hrr
  have wa : IntKind.i64.wrap (r : Int) = (r : Int) := IntWalk.i64_in _ (by omega)
  have wb : IntKind.i64.wrap (1 + (r : Int)) = (n : Int) := by rw [IntWalk.i64_in _ (by omega)]; omega
  clear hn e6
  by_cases hfew : m ≤ 300
  · have hd : decide (m ≤ 300) = true := decide_eq_true hfew
    have hq := fun (w : World) => few_any A m cap w HM.out
    rw [hd] at hq
    have HQ := Lib.hid hq
    clear hd hq
    go_enter Try.func8, Try.ntmps8
    go_upto_region 8 with (first
      | (go_at_call 9; (with_reducible refine (awake_any w).mono ?_); rintro e w1 ⟨rfl, hb⟩; have HB1 := Lib.hid hb; have HF1 := Lib.hid (HF.out.below hb); clear hb)
      | (go_at_call 10; (with_reducible refine (HQ.out w1).mono ?_); rintro e w2 ⟨rfl, rfl⟩)
      | (go_at_call 11; (with_reducible refine (Net.new_any n w1 hn1 hn6).mono ?_); rintro e w2 ⟨⟨b, ly, rfl, hi⟩, hb⟩; have N2 := Lib.hid hi; have B2 := Lib.hid hb; clear hi hb))
    go_loopw [31] (fun s31 wr => ∃ (i : Nat) (S : NetV), i ≤ m ∧ s31 = .int .i64 i ∧ IsNet wr w1.heap.size b ly S ∧ Below w1.heap.size w1 wr ∧ S.m.length ≤ 300 ∧ Ok S) (fun s31 _ => m - (intOf s31).toNat)
    case atStart => exact ⟨0, _, by omega, rfl, N2.out, B2.out, Nat.zero_le _, ok_new n⟩
    case round =>
      obtain ⟨i, S, hi, rfl, hnet, hbel, hsm, hdk⟩ := hrel
      have N := Lib.hid hnet
      have B := Lib.hid hbel
      have HL := Lib.hid hsm
      have HK := Lib.hid hdk
      clear hnet hbel hsm hdk N2 B2
      by_cases hlt : i < m
      · have hlt' : (i : Int) < (m : Int) := by omega
        have i0 : (0 : Int) ≤ (i : Int) := by omega
        obtain ⟨g, o, rfl, hg, x0, x1, x2, x3⟩ := (HF1.out.below B.out) i hlt
        generalize f i = q at x0 x1 x2 x3
        obtain ⟨kk, a, bb, nn⟩ := q
        dsimp only at x0 x1 x2 x3
        go_wp2_with (first
          | (go_at_call 13; (with_reducible refine (do_any kk a bb nn _ (ialloc N.out _) HL.out).mono ?_); rintro e w4 ⟨x, S', rfl, hd, hn4, ha⟩; have HD := Lib.hid hd; have HKS := Lib.hid (hd.ok (ids_of N.out) HK.out); have N4 := Lib.hid hn4; have B4 := Lib.hid (B.out.trans ((((Below.refl _ _).alloc (Nat.le_refl _) _).mono B.out.size).trans ha.bel)); clear hd hn4 ha)
          | (go_at_call 25; (with_reducible refine (round_no w4 N4.out HKS.out).mono ?_); rintro e w5 ⟨rfl, hb5⟩; have N5 := Lib.hid (N4.out.below hb5); have B5 := Lib.hid (B4.out.trans (hb5.mono B4.out.size)); clear hb5))
        go_roundw
        case rel => exact ⟨i + 1, _, by omega, by go_num, N5.out, B5.out, (HD.out.few HL.out).1, HKS.out⟩
        case measure => simp [intOf]; omega
      · obtain rfl : i = m := by omega
        have hst := settle_any wr N.out
        generalize S.n * heard S.c S.n S.n = T at hst
        have HST := Lib.hid hst
        clear hst
        have t0 : (0 : Int) ≤ (T : Int) := by omega
        go_wp2_with (first
          | (go_at_call 14; (with_reducible refine (HST.out).mono ?_); rintro e w4 ⟨rfl, hn4, ha⟩; have N4 := Lib.hid hn4; have B4 := Lib.hid (B.out.trans ha.bel); clear hn4 ha)
          | (go_at_call 25; (with_reducible refine (round_no w4 N4.out (ok_settle HK.out (ids_of N.out))).mono ?_); rintro e w5 ⟨rfl, hb5⟩; have B5 := Lib.hid (B4.out.trans (hb5.mono B4.out.size)); clear hb5))
        go_ret
        exact ⟨rfl, HB1.out.trans (B5.out.mono HB1.out.size)⟩
  · have hd : decide (m ≤ 300) = false := decide_eq_false hfew
    have hq := fun (w : World) => few_any A m cap w HM.out
    rw [hd] at hq
    have HQ := Lib.hid hq
    clear hd hq
    go_enter Try.func8, Try.ntmps8
    go_wp2_with (first
      | (go_at_call 9; (with_reducible refine (awake_any w).mono ?_); rintro e w1 ⟨rfl, hb⟩; have HB1 := Lib.hid hb; clear hb)
      | (go_at_call 10; (with_reducible refine (HQ.out w1).mono ?_); rintro e w2 ⟨rfl, rfl⟩)
      | (go_at_call 9; (with_reducible refine (awake_any w1).mono ?_); rintro e w2 ⟨rfl, hb⟩; have HB2 := Lib.hid (HB1.out.trans (hb.mono HB1.out.size)); clear hb))
    go_ret
    exact ⟨rfl, HB2.out⟩
end NetworkAcyclic
end Go.Proofs.Ytebkpjefdaieaaa
