/-
  The walk of the law BitsLow. Conditions: none.
-/
import Derived.Test.YteinpdjenplnnaaBitsS
import Derived.Deep.DeepCutAuto
import Derived.Deep.CutBlock
namespace Go.Proofs.Yteinpdjenplnnaa
open Go.RowKit
set_option linter.unusedVariables false
set_option linter.unusedSimpArgs false
namespace BitsLow
open BW
theorem and_one_wrap (y : Int) : Go.bits .and .i64 (IntKind.i64.wrap y) 1 = y % 2 := by
  rw [and_one_i64]
  have : IntKind.i64.wrap y = (y + 9223372036854775808) % 18446744073709551616 - 9223372036854775808 := by
    simp [IntKind.wrap, IntKind.signed, IntKind.bits]
    split <;> omega
  rw [this]
  omega
theorem mod65 (x : Int) : 0 ≤ wrap64 ((IntKind.u64.wrap x).tmod 65) ∧ wrap64 ((IntKind.u64.wrap x).tmod 65) ≤ 64 := by
  have h : 0 ≤ IntKind.u64.wrap x := by simp [IntKind.wrap, IntKind.bits, IntKind.signed]; omega
  rw [Int.tmod_eq_emod_of_nonneg h]
  have : wrap64 (IntKind.u64.wrap x % 65) = IntKind.u64.wrap x % 65 := by unfold wrap64; omega
  rw [this]
  omega
set_option maxRecDepth 100000 in
set_option maxHeartbeats 4000000 in
theorem walk (x a b : Int) (w : World) (hx : (Lit.int .u64 x).wf = true) (ha : (Lit.int .i64 a).wf = true) (hb : (Lit.int .i64 b).wf = true) : Calls Try.prog 7 #[.int .u64 x, .int .i64 a, .int .i64 b] w fun e w' => e = .returned (.bool true) ∧ Below w.heap.size w w' := by
  obtain ⟨hx0, hx1⟩ := bounds_u64 hx
  clear hx ha hb
  go_enter Try.func7, Try.ntmps7
  go_upto_region 2 with fail
  have hp := mod65 a
  have hq := mod65 b
  generalize wrap64 ((IntKind.u64.wrap a).tmod 65) = pa at hp ⊢
  generalize wrap64 ((IntKind.u64.wrap b).tmod 65) = qb at hq ⊢
  obtain ⟨p, rfl⟩ := Int.eq_ofNat_of_zero_le hp.1
  obtain ⟨q, rfl⟩ := Int.eq_ofNat_of_zero_le hq.1
  go_upto_region 3 with fail
  have i1 := new_isW w
  have b1 : Below w.heap.size w (w.alloc (.cells #[.slice none 0 0, .int .i64 0] 26)) := (Below.refl _ _).alloc (Nat.le_refl _) _
  generalize hW : w.alloc (.cells #[.slice none 0 0, .int .i64 0] 26) = W at i1 b1
  have hz : w.heap.size + 1 ≤ W.heap.size := by rw [← hW]; simp
  clear hW
  have I1 := Lib.hid i1
  have B1 := Lib.hid b1
  clear i1 b1
  have tp : (min (p : Int) 64).toNat = p := by omega
  have tq : (min (q : Int) 64).toNat = q := by omega
  go_upto_region 4 with (go_at_call 10; refine (bits_any w.heap.size (w.heap.size + 1) _ [] x p W hx0 hx1 (by simp) I1.out hz).mono ?_; rintro e w1 ⟨rfl, sv1, hw1, hg1⟩; rw [tp] at hw1; have I2 := Lib.hid hw1; have G2 := Lib.hid hg1; have hz1 := Nat.le_trans hz hg1.1.size; clear hw1 hg1)
  go_upto_region 5 with (go_at_call 10; refine (bits_any w.heap.size (w.heap.size + 1) _ _ x q w1 hx0 hx1 (by rw [List.nil_append, low_len]; omega) I2.out hz1).mono ?_; rintro e w2 ⟨rfl, sv2, hw2, hg2⟩; rw [tq] at hw2; have I3 := Lib.hid hw2; have B3 := Lib.hid (grew_below B1.out I1.out (Grew.trans G2.out hg2)); clear hw2 hg2)
  clear G2 I1 I2 hz hz1
  have hbs : [] ++ low x p ++ low x q = low x p ++ low x q := rfl
  have hlen : (low x p ++ low x q).length = p + q := by rw [List.length_append, low_len, low_len]
  have hget : ∀ k, k < p + q → (low x p ++ low x q).getD k false = decide (x / 2 ^ (if (p : Int) ≤ (k : Int) then k - p else k) % 2 = 1) := by
    intro k hk
    rw [List.getD_eq_getElem?_getD]
    split
    · rename_i h
      rw [List.getElem?_append_right (by rw [low_len]; omega), low_len, low_map x q, List.getElem?_map, List.getElem?_range (by omega)]
      rfl
    · rename_i h
      rw [List.getElem?_append_left (by rw [low_len]; omega), low_map x p, List.getElem?_map, List.getElem?_range (by omega)]
      rfl
  generalize hB : low x p ++ low x q = bs at hbs hlen hget
  rw [hbs] at I3
  have HG := Lib.hid hget
  have HLEN := Lib.hid hlen
  clear hget hB hbs
  have hsz := str_size bs
  rw [hlen] at hsz
  have HSZ := Lib.hid hsz
  clear hsz
  have hlenZ : (bs.length : Int) = (p : Int) + (q : Int) := by omega
  go_upto_region 6 with (go_at_call 15; refine (str_any w.heap.size (w.heap.size + 1) _ _ w2 I3.out).mono ?_; rintro e w4 ⟨rfl, rfl⟩; rw [show strOfNums (pk bs) = str bs from rfl])
  go_upto_region 7 with (go_at_call 14; refine (len_any w.heap.size (w.heap.size + 1) _ _ w2 I3.out).mono ?_; rintro e w4 ⟨rfl, rfl⟩; rw [hlenZ])
  go_loopw [27] (fun s27 wr => ∃ k : Nat, k ≤ p + q ∧ s27 = .int .i64 k ∧ Below w2.heap.size w2 wr) (fun s27 _ => 128 - (intOf s27).toNat)
  case atStart => exact ⟨0, by omega, rfl, Below.refl _ _⟩
  case round =>
    obtain ⟨k, hk, rfl, hb⟩ := hrel
    have HB := Lib.hid hb
    clear hb
    by_cases hlt : (k : Int) < (p : Int) + (q : Int)
    · obtain ⟨M, hM⟩ : ∃ M, k / 8 = M := ⟨_, rfl⟩
      obtain ⟨R, hR⟩ : ∃ R, k % 8 = R := ⟨_, rfl⟩
      have i0 : M < (str bs).size := by rw [HSZ.out]; omega
      have i1 : (0 : Int) ≤ (M : Int) := by omega
      have i2 : (M : Int) < ((str bs).size : Int) := by omega
      have j1 : (k : Int) / 8 = (M : Int) := by omega
      have j2 : (k : Int) % 8 = (R : Int) := by omega
      have j0 : (k : Int).tdiv 8 = (M : Int) := by rw [Int.tdiv_eq_ediv_of_nonneg (by omega)]; exact j1
      have j5 : (k : Int).tmod 8 = (R : Int) := by rw [Int.tmod_eq_emod_of_nonneg (by omega)]; exact j2
      have j3 : IntKind.i64.wrap (M : Int) = (M : Int) := IntWalk.i64_in _ (by omega)
      have j4 : IntKind.i64.wrap (R : Int) = (R : Int) := IntWalk.i64_in _ (by omega)
      have j9 : (0 : Int) ≤ (R : Int) := by omega
      have hR8 : R < 8 := by omega
      have hw := bit_walk bs k M R (by omega) hM hR i0
      rw [HG.out k (by omega)] at hw
      by_cases hpk : (p : Int) ≤ (k : Int)
      · rw [if_pos hpk] at hw
        obtain ⟨d, hd⟩ : ∃ d, k - p = d := ⟨_, rfl⟩
        rw [hd] at hw
        have hdz : (k : Int) - (p : Int) = (d : Int) := by omega
        have hd0 : (0 : Int) ≤ (d : Int) := by omega
        have hdm : min d 64 = d := by omega
        go_wp2_with fail
        refine wp_region_still_lit (by kernel_rfl) (by kernel_rfl) ?_
        change wpStill _ _ wr.drew _ _ _
        repeat still_step
        refine wpStill_nil ?_
        have eA := and_one_wrap (((str bs)[M].toNat : Int) / 2 ^ R)
        have eB := and_one_wrap (x / 2 ^ d)
        have eC : x / 2 ^ d % 2 = if decide (x / 2 ^ d % 2 = 1) = true then 1 else 0 := by
          by_cases h : x / 2 ^ d % 2 = 1
          · simp [h]
          · simp [h]; omega
        rw [hw] at eA
        rw [eC] at eB
        rw [eA, eB]
        generalize (if decide (x / 2 ^ d % 2 = 1) = true then (1 : Int) else 0) = bt
        clear eA eB eC
        go_wp2
        go_roundw
        case rel => exact ⟨k + 1, by omega, by go_num, HB.out.drew⟩
        case measure => simp [intOf]; omega
      · rw [if_neg hpk] at hw
        have hk0 : (0 : Int) ≤ (k : Int) := by omega
        have hdm : min k 64 = k := by omega
        go_wp2_with fail
        refine wp_region_still_lit (by kernel_rfl) (by kernel_rfl) ?_
        change wpStill _ _ wr.drew _ _ _
        repeat still_step
        refine wpStill_nil ?_
        have eA := and_one_wrap (((str bs)[M].toNat : Int) / 2 ^ R)
        have eB := and_one_wrap (x / 2 ^ k)
        have eC : x / 2 ^ k % 2 = if decide (x / 2 ^ k % 2 = 1) = true then 1 else 0 := by
          by_cases h : x / 2 ^ k % 2 = 1
          · simp [h]
          · simp [h]; omega
        rw [hw] at eA
        rw [eC] at eB
        rw [eA, eB]
        generalize (if decide (x / 2 ^ k % 2 = 1) = true then (1 : Int) else 0) = bt
        clear eA eB eC
        go_wp2
        go_roundw
        case rel => exact ⟨k + 1, by omega, by go_num, HB.out.drew⟩
        case measure => simp [intOf]; omega
    · obtain rfl : k = p + q := by omega
      have hfin : ((str bs).size : Int) = ((p : Int) + (q : Int) + 7).tdiv 8 := by rw [HSZ.out, Int.tdiv_eq_ediv_of_nonneg (by omega)]; omega
      have hfb : ((p : Int) + (q : Int) + 7).tdiv 8 ≤ 1000 ∧ 0 ≤ ((p : Int) + (q : Int) + 7).tdiv 8 := by rw [Int.tdiv_eq_ediv_of_nonneg (by omega)]; omega
      have I4 := Lib.hid (I3.keep HB.out)
      have B4 := Lib.hid (B3.out.trans (HB.out.mono B3.out.size))
      clear HB I3 B3 HG HSZ
      go_wp2_with (first
        | (go_at_call 9; refine (awake_any _).mono ?_; rintro e w5 ⟨rfl, hb5⟩; have I5 := Lib.hid (I4.out.keep hb5); have B5 := Lib.hid (B4.out.trans (hb5.mono B4.out.size)); clear hb5)
        | (go_at_call 14; refine (len_any w.heap.size (w.heap.size + 1) _ _ _ I5.out).mono ?_; rintro e w6 ⟨rfl, rfl⟩; rw [hlenZ]))
      go_ret
      exact ⟨rfl, B5.out⟩
end BitsLow
end Go.Proofs.Yteinpdjenplnnaa
