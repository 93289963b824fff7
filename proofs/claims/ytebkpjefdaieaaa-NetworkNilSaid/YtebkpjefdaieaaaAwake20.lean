/-
  The walk of the laws' awake of layer 20. Conditions: none.
-/
import Derived.Test.YtebkpjefdaieaaaAw20A
namespace Go.Proofs.Ytebkpjefdaieaaa
open Go.RowKit FR FP H2 OW
set_option linter.unusedVariables false
set_option linter.unusedSimpArgs false
namespace Net
open Eng GG
theorem lit_ints (w : World) (L : List Int) : Ints (w.alloc (.cells (nums L).toArray 3)) (some ⟨w.heap.size, 0, none⟩) L.length (fun i => L.getD i 0) := by
  have h : Row (w.alloc (.cells (nums L).toArray 3)) w.heap.size L := by
    show (w.alloc _).heap[w.heap.size]? = _
    simp only [World.alloc]; exact Array.getElem?_push_size
  exact h.ints
theorem far_ints {w : World} {g n : Nat} {F : Nat → Int} (h : Far w g n F) : Ints w (some ⟨g, 0, none⟩) n F := fun i hi => ⟨g, 0, rfl, blk_lt h, by rw [Nat.zero_add]; exact h.cell i hi⟩
theorem three {p : Nat → Prop} (h0 : p 0) (h1 : p 1) (h2 : p 2) : ∀ i, i < 3 → p i := fun i hi => by
  have : i = 0 ∨ i = 1 ∨ i = 2 := by omega
  rcases this with rfl | rfl | rfl <;> assumption
theorem sm3 (a b c : Int) (A : Option Addr) (cap : Nat) (V : Nat → Int) (w : World) (hI : Ints w A 3 V) (h0 : V 0 = a) (h1 : V 1 = b) (h2 : V 2 = c) : Calls Try.prog 16 #[.slice A 3 cap, .slice (some ⟨w.heap.size, 0, none⟩) 3 3] (w.alloc (.cells #[.int .i64 a, .int .i64 b, .int .i64 c] 3)) fun e w' => e = .returned (.bool true) ∧ Below w.heap.size w w' :=
  (same_any _ 3 cap V _ 3 3 _ _ (by omega) (hI.keep ((Below.refl _ _).alloc (Nat.le_refl _) _)) (lit_ints w [a, b, c])).mono fun e w' ⟨he, hb⟩ => ⟨by rw [he]; exact congrArg _ (congrArg _ (sam_yes (fun j hj => by
    have : j = 0 ∨ j = 1 ∨ j = 2 := by omega
    rcases this with rfl | rfl | rfl
    · exact h0
    · exact h1
    · exact h2))), ((Below.refl _ _).alloc (Nat.le_refl _) _).trans (hb.mono (by simp))⟩
def F5 (i : Nat) : Int := if i = 0 then 3 else if i = 1 then 2 else 0
theorem far5 : GP.IsFar 3 j5.c 2 F5 := by
  refine ⟨rfl, three (by decide) (by decide) (by decide), three (by decide) (by decide) (by decide), three (by decide) (by decide) (fun h => absurd rfl h), fun i k hi hk => ?_, three (fun _ => .inr ⟨1, by omega, by decide +kernel, by decide +kernel⟩) (fun _ => .inr ⟨2, by omega, by decide +kernel, by decide +kernel⟩) (fun h => absurd rfl h)⟩
  have a : i = 0 ∨ i = 1 ∨ i = 2 := by omega
  have b : k = 0 ∨ k = 1 ∨ k = 2 := by omega
  rcases a with rfl | rfl | rfl <;> rcases b with rfl | rfl | rfl <;> decide +kernel
theorem q1 {base b : Nat} {ly : Lay} (w : World) (h : IsNet w base b ly j0) : Calls Try.prog 13 #[.pointer (some ⟨b, 0, none⟩), .agg #[.int .i64 1, .int .i64 0, .int .i64 1, .int .i64 1]] w fun e w' => e = .returned (.int .i64 0) ∧ IsNet w' base b ly j1 ∧ After base w w' :=
  (do_any 1 0 1 1 w h (by decide)).mono fun e w' ⟨x, S', he, hd, hn, ha⟩ => by
    unfold DoR at hd
    rw [if_pos rfl] at hd
    obtain ⟨rfl, rfl⟩ := hd
    have hl : GG.lnk j0.n 0 1 1 = 0 := by decide +kernel
    rw [hl] at he hn
    exact ⟨he, hn, ha⟩
theorem q2 {base b : Nat} {ly : Lay} (w : World) (h : IsNet w base b ly j1) : Calls Try.prog 13 #[.pointer (some ⟨b, 0, none⟩), .agg #[.int .i64 1, .int .i64 1, .int .i64 2, .int .i64 2]] w fun e w' => e = .returned (.int .i64 0) ∧ IsNet w' base b ly j2 ∧ After base w w' :=
  (do_any 1 1 2 2 w h (by decide)).mono fun e w' ⟨x, S', he, hd, hn, ha⟩ => by
    unfold DoR at hd
    rw [if_pos rfl] at hd
    obtain ⟨rfl, rfl⟩ := hd
    have hl : GG.lnk j1.n 1 2 2 = 0 := by decide +kernel
    rw [hl] at he hn
    exact ⟨he, hn, ha⟩
theorem q3 {base b : Nat} {ly : Lay} (w : World) (h : IsNet w base b ly j2) : Calls Try.prog 13 #[.pointer (some ⟨b, 0, none⟩), .agg #[.int .i64 3, .int .i64 0, .int .i64 0, .int .i64 0]] w fun e w' => e = .returned (.int .i64 8) ∧ IsNet w' base b ly j2 ∧ After base w w' :=
  (do_any 3 0 0 0 w h (by decide)).mono fun e w' ⟨x, S', he, hd, hn, ha⟩ => by
    unfold DoR at hd
    rw [if_neg (by decide), if_pos (by decide), if_pos (by decide)] at hd
    obtain ⟨rfl, rfl⟩ := hd
    exact ⟨he, hn, ha⟩
theorem q4 {base b : Nat} {ly : Lay} (w : World) (h : IsNet w base b ly j2) : Calls Try.prog 13 #[.pointer (some ⟨b, 0, none⟩), .agg #[.int .i64 2, .int .i64 1, .int .i64 0, .int .i64 0]] w fun e w' => e = .returned (.int .i64 0) ∧ (∃ v0 v1, (v1.fr = 1 ∧ v1.to_ = 2 ∧ v1.k = 3 ∧ v1.f = (tl (j2.x 1) 0).offer 2) ∧ IsNet w' base b ly { j3 with m := [v0, v1] }) ∧ After base w w' :=
  (do_any 2 1 0 0 w h (by decide)).mono fun e w' ⟨x, S', he, hd, hn, ha⟩ => by
    unfold DoR at hd
    rw [if_neg (by decide), if_neg (by decide), if_pos (by decide), if_pos (by decide +kernel), if_pos rfl, if_neg (by decide +kernel)] at hd
    obtain ⟨rfl, ms, hm, rfl⟩ := hd
    have hl : nbl j2.c (1 : Int).toNat j2.n = [0, 2] := b1
    rw [hl] at hm hn
    obtain ⟨v0, r, rfl, _, _, _, _, v1, r', rfl, k1, k2, k3, k4, k5⟩ := hm
    have k5' : r' = [] := k5
    subst k5'
    exact ⟨he, ⟨v0, v1, ⟨k1, k2, k3.trans (by decide +kernel), k4⟩, hn⟩, ha⟩
theorem q5 {base b : Nat} {ly : Lay} (v0 v1 : MsgV) (w : World) (hv : v1.fr = 1 ∧ v1.to_ = 2 ∧ v1.k = 3 ∧ v1.f = (tl (j2.x 1) 0).offer 2) (h : IsNet w base b ly { j3 with m := [v0, v1] }) : Calls Try.prog 13 #[.pointer (some ⟨b, 0, none⟩), .agg #[.int .i64 3, .int .i64 0, .int .i64 0, .int .i64 1]] w fun e w' => e = .returned (.int .i64 0) ∧ IsNet w' base b ly { j4 with m := [v0] } ∧ After base w w' :=
  (do_any 3 0 0 1 w h (by simp)).mono fun e w' ⟨x, S', he, hd, hn, ha⟩ => by
    unfold DoR at hd
    rw [if_neg (by decide), if_pos (by decide), if_neg (by simp)] at hd
    obtain ⟨rfl, v, h1, rfl⟩ := hd
    have hw : whichM 1 ([v0, v1] : List MsgV).length = 1 := by show whichM 1 2 = 1; decide +kernel
    simp only [hw] at h1 hn
    cases h1
    refine ⟨he, ?_, ha⟩
    have e1 : (if (3 : Int) = 3 then ({ ({ j3 with m := [v0, v1] } : NetV) with m := [v0, v1].eraseIdx 1 } : NetV).hear v1 else if (3 : Int) = 4 then { ({ j3 with m := [v0, v1] } : NetV) with m := [v0, v1].eraseIdx 1 } else ({ j3 with m := [v0, v1] } : NetV).hear v1) = { j4 with m := [v0] } := by
      rw [if_pos rfl]
      unfold NetV.hear
      rw [hv.1, hv.2.1, hv.2.2.1, hv.2.2.2]
      rfl
    exact e1 ▸ hn
theorem q6 {base b : Nat} {ly : Lay} (v0 : MsgV) (w : World) (h : IsNet w base b ly { j4 with m := [v0] }) : Calls Try.prog 17 #[.pointer (some ⟨b, 0, none⟩), .int .i64 1] w fun e w' => (∃ v, e = .returned v ∧ w'.ownsRow w.heap.size 3 1 v 3 (ints (fun i => ((j4.x i).route 1).2.1.1) 3)) ∧ Below w.heap.size w w' := metrics_ok w h 1 (show 1 < j4.n by decide +kernel)
theorem q7 {base b : Nat} {ly : Lay} (v0 : MsgV) (w : World) (h : IsNet w base b ly { j4 with m := [v0] }) : Calls Try.prog 14 #[.pointer (some ⟨b, 0, none⟩)] w fun e w' => e = .returned (.int .i64 12) ∧ IsNet w' base b ly j5 ∧ After base w w' :=
  (settle_any w h).mono fun e w' ⟨he, hn, ha⟩ => ⟨by rw [he]; exact congrArg _ (congrArg (Value.int .i64) (congrArg Int.ofNat b3)), hn, ha⟩
theorem q8 {base b : Nat} {ly : Lay} (w : World) (h : IsNet w base b ly j5) : Calls Try.prog 17 #[.pointer (some ⟨b, 0, none⟩), .int .i64 2] w fun e w' => (∃ A c, e = .returned (.slice A 3 c) ∧ Ints w' A 3 (fun i => ((j5.x i).route 2).2.1.1)) ∧ Below w.heap.size w w' :=
  (metrics_ok w h 2 (by decide)).mono fun e w' ⟨⟨v, he, hv⟩, hb⟩ => by
    obtain ⟨A, c, rfl, hi, _⟩ := Net.own_row hv
    exact ⟨⟨A, c, he, hi⟩, hb⟩
theorem q9 {base b : Nat} {ly : Lay} (w : World) (h : IsNet w base b ly j5) : Calls Try.prog 19 #[.pointer (some ⟨b, 0, none⟩), .int .i64 2] w fun e w' => (∃ A c, e = .returned (.slice A 3 c) ∧ Ints w' A 3 (fun i => ((j5.x i).route 2).1)) ∧ Below w.heap.size w w' :=
  (next_ok w h 2 (by decide)).mono fun e w' ⟨⟨v, he, hv⟩, hb⟩ => by
    obtain ⟨A, c, rfl, hi, _⟩ := Net.own_row hv
    exact ⟨⟨A, c, he, hi⟩, hb⟩
theorem q10 {base b : Nat} {ly : Lay} (w : World) (h : IsNet w base b ly j5) : Calls Try.prog 18 #[.pointer (some ⟨b, 0, none⟩), .int .i64 2] w fun e w' => (∃ A c F, e = .returned (.slice A 3 c) ∧ Ints w' A 3 F ∧ F 0 = 3 ∧ F 1 = 2 ∧ F 2 = 0) ∧ Below w.heap.size w w' :=
  (far_any w h 2 (by decide)).mono fun e w' ⟨⟨gf, F, he, _, hf, hi⟩, hb⟩ => by
    have hu := hi.unique far5
    exact ⟨⟨_, 3, F, he, far_ints hf, hu 0 (by decide), hu 1 (by decide), hu 2 (by decide)⟩, hb⟩
theorem q11 {base b : Nat} {ly : Lay} (w : World) (h : IsNet w base b ly j5) : Calls Try.prog 13 #[.pointer (some ⟨b, 0, none⟩), .agg #[.int .i64 9, .int .i64 0, .int .i64 0, .int .i64 0]] w fun e w' => e = .returned (.int .i64 1) ∧ After base w w' :=
  (do_any 9 0 0 0 w h (by decide)).mono fun e w' ⟨x, S', he, hd, hn, ha⟩ => by
    unfold DoR at hd
    rw [if_neg (by decide), if_neg (by decide), if_neg (by decide)] at hd
    obtain ⟨rfl, rfl⟩ := hd
    exact ⟨he, ha⟩
theorem e0 : ((j4.x 0).route 1).2.1.1 = 65535 := by decide +kernel
theorem e1 : ((j4.x 1).route 1).2.1.1 = 0 := by decide +kernel
theorem e2 : ((j4.x 2).route 1).2.1.1 = 2 := by decide +kernel
theorem f0 : ((j5.x 0).route 2).2.1.1 = 3 := by decide +kernel
theorem f1' : ((j5.x 1).route 2).2.1.1 = 2 := by decide +kernel
theorem f2' : ((j5.x 2).route 2).2.1.1 = 0 := by decide +kernel
theorem g0 : ((j5.x 0).route 2).1 = 1 := by decide +kernel
theorem g1 : ((j5.x 1).route 2).1 = 2 := by decide +kernel
theorem g2 : ((j5.x 2).route 2).1 = -1 := by decide +kernel
theorem q12 {base b : Nat} {ly : Lay} (w : World) (h : IsNet w base b ly j5) : Calls Try.prog 20 #[.pointer (some ⟨b, 0, none⟩)] w fun e w' => e = .returned (.int .i64 0) ∧ w = w' := (way_len w h).mono fun e w' ⟨he, hw⟩ => ⟨by rw [he]; exact congrArg _ (congrArg (Value.int .i64) (show ((j5.m.length : Nat) : Int) = 0 by decide +kernel)), hw⟩
theorem q13 {base b : Nat} {ly : Lay} (w : World) (h : IsNet w base b ly j5) : Calls Try.prog 22 #[.pointer (some ⟨b, 0, none⟩)] w fun e w' => e = .returned (.int .i64 3) ∧ w = w' := (len_any w h).mono fun e w' ⟨he, hw⟩ => ⟨by rw [he]; exact congrArg _ (congrArg (Value.int .i64) (show ((j5.n : Nat) : Int) = 3 by decide +kernel)), hw⟩
theorem q14 {base b : Nat} {ly : Lay} (v0 v1 : MsgV) (w : World) (h : IsNet w base b ly { j3 with m := [v0, v1] }) : Calls Try.prog 20 #[.pointer (some ⟨b, 0, none⟩)] w fun e w' => e = .returned (.int .i64 2) ∧ w = w' := way_len w h
theorem q0 (w : World) : Calls Try.prog 11 #[.int .i64 3] w fun e w' => (∃ b ly, e = .returned (.tuple #[.pointer (some ⟨b, 0, none⟩), .int .i64 0]) ∧ IsNet w' w.heap.size b ly j0) ∧ Below w.heap.size w w' := new_any 3 w (by omega) (by omega)
attribute [local irreducible] j0 j1 j2 j3 j4 j5
set_option maxRecDepth 1000000 in
set_option maxHeartbeats 8000000 in
theorem awake_any (w : World) : Calls Try.prog 9 #[] w fun e w' => e = .returned (.bool true) ∧ Below w.heap.size w w' := by
  go_enter Try.func9, Try.ntmps9
  go_upto_region 5 with (first
    | (go_at_call 11; (with_reducible refine (q0 w).mono ?_); rintro e w1 ⟨⟨b, ly, rfl, hi⟩, hb⟩; have N1 := Lib.hid hi; have B1 := Lib.hid hb; clear hi hb)
    | (go_at_call 11; (with_reducible refine (new_bad 0 w1 (by omega)).mono ?_); rintro e w2 ⟨rfl, rfl⟩))
  go_upto_region 6 with (go_at_call 13; (with_reducible refine (q1 w1 N1.out).mono ?_); rintro e w2 ⟨rfl, hi, ha⟩; have N2 := Lib.hid hi; have B2 := Lib.hid (B1.out.trans ha.bel); clear hi ha)
  go_upto_region 7 with (go_at_call 13; (with_reducible refine (q2 w2 N2.out).mono ?_); rintro e w3 ⟨rfl, hi, ha⟩; have N3 := Lib.hid hi; have B3 := Lib.hid (B2.out.trans ha.bel); clear hi ha)
  go_upto_region 8 with (go_at_call 13; (with_reducible refine (q3 w3 N3.out).mono ?_); rintro e w4 ⟨rfl, hi, ha⟩; have N4 := Lib.hid hi; have B4 := Lib.hid (B3.out.trans ha.bel); clear hi ha)
  go_upto_region 9 with (go_at_call 13; (with_reducible refine (q4 w4 N4.out).mono ?_); rintro e w5 ⟨rfl, ⟨v0, v1, hv, hi⟩, ha⟩; have V := Lib.hid hv; have N5 := Lib.hid hi; have B5 := Lib.hid (B4.out.trans ha.bel); clear hi ha hv)
  go_upto_region 10 with (go_at_call 20; (with_reducible refine (q14 v0 v1 w5 N5.out).mono ?_); rintro e w6 ⟨rfl, rfl⟩)
  go_upto_region 11 with (go_at_call 13; (with_reducible refine (q5 v0 v1 w5 V.out N5.out).mono ?_); rintro e w6 ⟨rfl, hi, ha⟩; have N6 := Lib.hid hi; have B6 := Lib.hid (B5.out.trans ha.bel); clear hi ha)
  go_upto_region 12 with (go_at_call 17; (with_reducible refine (q6 v0 w6 N6.out).mono ?_); rintro e w7 ⟨⟨v, rfl, hr⟩, hb⟩; have R7 := Lib.hid hr; have N7 := Lib.hid (N6.out.below hb); have B7 := Lib.hid (B6.out.trans (hb.mono B6.out.size)); clear hr hb)
  go_upto_region 13 with (go_at_call 14; (with_reducible refine (q7 v0 w7 N7.out).mono ?_); rintro e w8 ⟨rfl, hi, ha⟩; have N8 := Lib.hid hi; obtain ⟨A8, c8, rfl, hi8, _⟩ := Net.own_row (ha.typ.own R7.out (by unfold netT; decide)); have I8 := Lib.hid hi8; have B8 := Lib.hid (B7.out.trans ha.bel); clear hi ha hi8)
  go_wp2_with (first
    | (go_at_call 16; (with_reducible refine (sm3 65535 0 2 A8 c8 _ w8 I8.out e0 e1 e2).mono ?_); rintro e w9 ⟨rfl, hb⟩; have N9 := Lib.hid (N8.out.below hb); have B9 := Lib.hid (B8.out.trans (hb.mono B8.out.size)); clear hb)
    | (go_at_call 17; (with_reducible refine (q8 w9 N9.out).mono ?_); rintro e w10 ⟨⟨A10, c10, rfl, hi⟩, hb⟩; have I10 := Lib.hid hi; have N10 := Lib.hid (N9.out.below hb); have B10 := Lib.hid (B9.out.trans (hb.mono B9.out.size)); clear hi hb)
    | (go_at_call 16; (with_reducible refine (sm3 3 2 0 A10 c10 _ w10 I10.out f0 f1' f2').mono ?_); rintro e w11 ⟨rfl, hb⟩; have N11 := Lib.hid (N10.out.below hb); have B11 := Lib.hid (B10.out.trans (hb.mono B10.out.size)); clear hb)
    | (go_at_call 19; (with_reducible refine (q9 w11 N11.out).mono ?_); rintro e w12 ⟨⟨A12, c12, rfl, hi⟩, hb⟩; have I12 := Lib.hid hi; have N12 := Lib.hid (N11.out.below hb); have B12 := Lib.hid (B11.out.trans (hb.mono B11.out.size)); clear hi hb)
    | (go_at_call 16; (with_reducible refine (sm3 1 2 (-1) A12 c12 _ w12 I12.out g0 g1 g2).mono ?_); rintro e w13 ⟨rfl, hb⟩; have N13 := Lib.hid (N12.out.below hb); have B13 := Lib.hid (B12.out.trans (hb.mono B12.out.size)); clear hb)
    | (go_at_call 18; (with_reducible refine (q10 w13 N13.out).mono ?_); rintro e w14 ⟨⟨A14, c14, F14, rfl, hi, hf⟩, hb⟩; have I14 := Lib.hid hi; have F14' := Lib.hid hf; have N14 := Lib.hid (N13.out.below hb); have B14 := Lib.hid (B13.out.trans (hb.mono B13.out.size)); clear hi hb hf)
    | (go_at_call 16; (with_reducible refine (sm3 3 2 0 A14 c14 _ w14 I14.out F14'.out.1 F14'.out.2.1 F14'.out.2.2).mono ?_); rintro e w15 ⟨rfl, hb⟩; have N15 := Lib.hid (N14.out.below hb); have B15 := Lib.hid (B14.out.trans (hb.mono B14.out.size)); clear hb)
    | (go_at_call 20; (with_reducible refine (q12 w15 N15.out).mono ?_); rintro e w16 ⟨rfl, rfl⟩)
    | (go_at_call 22; (with_reducible refine (q13 w15 N15.out).mono ?_); rintro e w16 ⟨rfl, rfl⟩)
    | (go_at_call 13; (with_reducible refine (q11 w15 N15.out).mono ?_); rintro e w16 ⟨rfl, ha⟩; have B16 := Lib.hid (B15.out.trans ha.bel); clear ha))
  go_ret
  exact ⟨rfl, B16.out⟩
set_option maxRecDepth 1000000 in
set_option maxHeartbeats 8000000 in
theorem few_any (A : Option Addr) (n cap : Nat) (w : World) (hn : n ≤ maxLen) : Calls Try.prog 10 #[.slice A n cap] w fun e w' => e = .returned (.bool (decide (n ≤ 300))) ∧ w = w' := by
  unfold maxLen at hn
  by_cases h : n ≤ 300
  · rw [decide_eq_true h]
    have h' : (n : Int) ≤ 300 := by omega
    go_enter Try.func10, Try.ntmps10
    go_wp2
    go_ret
    exact ⟨rfl, rfl⟩
  · rw [decide_eq_false h]
    have h' : ¬ (n : Int) ≤ 300 := by omega
    go_enter Try.func10, Try.ntmps10
    go_wp2
    go_ret
    exact ⟨rfl, rfl⟩
end Net
end Go.Proofs.Ytebkpjefdaieaaa
