/-
  The walk of the law BitsCodes. Conditions: none.
-/
import Derived.Test.YteinpdjenplnnaaOpenU
import Derived.Deep.DeepCutAuto
import Derived.Deep.CutBlock
namespace Go.Proofs.Yteinpdjenplnnaa
open Go.RowKit
set_option linter.unusedVariables false
set_option linter.unusedSimpArgs false
namespace BitsCodes
open BW
theorem str_eq (bs : List Bool) : strOfNums (pk bs) = str bs := rfl
attribute [local irreducible] cd low str01 bitL cv rc rd str
set_option maxRecDepth 100000 in
set_option maxHeartbeats 8000000 in
theorem walk (v0 : Value) (w : World) (h0 : IsUs w v0) : Calls Try.prog 8 #[v0] w fun e w' => e = .returned (.bool true) ∧ Below w.heap.size w w' := by
  obtain ⟨A, n, cap, V, rfl, hn, hV⟩ := h0
  have HV := Lib.hid hV
  clear hV
  unfold maxLen at hn
  by_cases hbig : (100 : Int) < (n : Int)
  · go_enter Try.func8, Try.ntmps8
    go_upto_region 2 with (go_at_call 9; refine (awake_any _).mono ?_; rintro e w1 ⟨rfl, hb1⟩)
    go_wp2_with (go_at_call 9; refine (awake_any _).mono ?_; rintro e w2 ⟨rfl, hb2⟩)
    go_ret
    exact ⟨rfl, hb1.trans (hb2.mono hb1.size)⟩
  · go_enter Try.func8, Try.ntmps8
    go_upto_region 3 with (go_at_call 9; refine (awake_any _).mono ?_; rintro e w1 ⟨rfl, hb1⟩)
    have hb1' := Lib.hid hb1
    clear hb1
    go_upto_region 4 with fail
    have i1 := new_isW w1
    have b1 : Below w1.heap.size w1 (w1.alloc (.cells #[.slice none 0 0, .int .i64 0] 26)) := (Below.refl _ _).alloc (Nat.le_refl _) _
    generalize hW : w1.alloc (.cells #[.slice none 0 0, .int .i64 0] 26) = W at i1 b1
    have hz : w1.heap.size + 1 ≤ W.heap.size := by rw [← hW]; simp
    clear hW
    have I1 := Lib.hid i1
    have B1 := Lib.hid b1
    clear i1 b1
    obtain ⟨f, hf⟩ : ∃ f : Nat → List Bool, f = fun i => cd (V i) := ⟨_, rfl⟩
    have hfl : ∀ i, i < n → (f i).length ≤ 127 := fun i hi => by
      have h := (HV.out i hi).1
      have h2 := (ck_spec (V i) h).2.1
      rw [hf]
      simp only
      rw [cd_len]
      omega
    have HF := Lib.hid hf
    have HFL := Lib.hid hfl
    clear hf hfl
    go_upto_region 5 with fail
    go_loopw [20] (fun s20 wr => ∃ k : Nat, k ≤ n ∧ s20 = .int .i64 k ∧ ∃ sv, IsW wr (w1.heap.size + 1) w1.heap.size sv (cat f k) ∧ Below w1.heap.size w1 wr ∧ w1.heap.size + 1 ≤ wr.heap.size) (fun s20 _ => n - (intOf s20).toNat)
    case atStart => exact ⟨0, by omega, rfl, _, I1.out, B1.out, hz⟩
    case round =>
      obtain ⟨k, hk, rfl, sv, hw, hb, hzr⟩ := hrel
      have HW := Lib.hid hw
      have HB := Lib.hid hb
      clear hw hb
      by_cases hlt : k < n
      · have hlt' : (k : Int) < (n : Int) := by omega
        have k0 : (0 : Int) ≤ (k : Int) := by omega
        obtain ⟨hv0, hv1, b, o, rfl, hbl, hcell⟩ := HV.out k hlt
        have d0 : wr.cell? ⟨b, o + k, none⟩ = some (.int .u64 (V k)) := later (hb1'.out.trans (HB.out.mono hb1'.out.size)) hcell
        have hcl := cat_len f 127 k (fun i hi => HFL.out i (by omega))
        have hfk : f k = cd (V k) := by rw [HF.out]
        have hlen : (cat f k ++ cd (V k)).length = (cat f k).length + (2 * ck (V k) + 1) := by rw [List.length_append, cd_len]
        obtain ⟨L, hL⟩ : ∃ L, (cat f k).length = L := ⟨_, rfl⟩
        obtain ⟨q, hq⟩ : ∃ q, ck (V k) = q := ⟨_, rfl⟩
        have hq63 := (ck_spec (V k) hv0).2.1
        rw [hL, hq] at hlen
        rw [hL] at hcl
        rw [hq] at hq63
        have hs1 : (str01 (cd (V k))).size = 2 * q + 1 := by rw [str01_size, cd_len, hq]
        have x1 : IntKind.i64.wrap (((L + (2 * q + 1) : Nat) : Int) - (L : Int)) = 2 * (q : Int) + 1 := by rw [IntWalk.i64_in _ (by omega)]; omega
        have x2 : (2 * (q : Int) + 1).tmod 2 = 1 := by rw [Int.tmod_eq_emod_of_nonneg (by omega)]; omega
        have x3 : (((str01 (cd (V k))).size : Nat) : Int) = 2 * (q : Int) + 1 := by omega
        have HQ := Lib.hid (And.intro hL (And.intro hq (And.intro hlen hs1)))
        have HFK := Lib.hid hfk
        clear hL hq hlen hs1 hfk
        go_upto_region 8 with (go_at_call 14; refine (len_any w1.heap.size (w1.heap.size + 1) sv _ wr HW.out).mono ?_; rintro e w' ⟨rfl, rfl⟩; rw [HQ.out.1])
        go_upto_region 9 with (go_at_call 12; refine (code_any w1.heap.size (w1.heap.size + 1) sv _ (V k) wr hv0 hv1 (by rw [HQ.out.1]; omega) HW.out hzr).mono ?_; rintro e w2 ⟨rfl, sv2, hw2, hg2⟩; have HW2 := Lib.hid hw2; have HB2 := Lib.hid (grew_below HB.out HW.out hg2); have hz2 := Nat.le_trans hzr hg2.1.size; clear hw2 hg2)
        go_wp2_with (first
          | (go_at_call 14; with_reducible refine (len_any w1.heap.size (w1.heap.size + 1) sv2 _ w2 HW2.out).mono ?_; rintro e w' ⟨rfl, rfl⟩; rw [HQ.out.2.2.1])
          | (go_at_call 13; refine (refcode_any (V k) w2 hv0 hv1).mono ?_; rintro e w3 ⟨rfl, hb3⟩; have HW3 := Lib.hid (HW2.out.keep hb3); have HB3 := Lib.hid (HB2.out.trans (hb3.mono HB2.out.size)); have hz3 := Nat.le_trans hz2 hb3.size; clear hb3)
          | (go_at_call 14; with_reducible refine (len_any w1.heap.size (w1.heap.size + 1) sv2 _ w3 HW3.out).mono ?_; rintro e w' ⟨rfl, rfl⟩; rw [HQ.out.2.2.1]))
        go_roundw
        case rel => exact ⟨k + 1, by omega, by go_num, sv2, by rw [cat, HFK.out]; exact HW3.out, HB3.out, hz3⟩
        case measure => simp [intOf]; omega
      · obtain rfl : k = n := by omega
        obtain ⟨u, hu⟩ : ∃ u, u = wr := ⟨_, rfl⟩
        subst hu
        have hcl := cat_len f 127 k (fun i hi => HFL.out i hi)
        have hsz := str_size (cat f k)
        have hS : (str (cat f k)).size ≤ 1000000 := by omega
        have HSZ := Lib.hid hsz
        clear hsz
        go_upto_region 13 with (first
          | (go_at_call 15; refine (str_any w1.heap.size (w1.heap.size + 1) sv _ u HW.out).mono ?_; rintro e w4 ⟨rfl, rfl⟩; rw [str_eq])
          | (go_at_call 17; refine (new_any (str (cat f k)) u).mono ?_; rintro e w5 ⟨rfl, hw5⟩; have R0 := Lib.hid (show IsR w5 u.heap.size (str (cat f k)) 0 0 from hw5 ▸ new_isR u _); have C0 := Lib.hid (show Below u.heap.size u w5 from hw5 ▸ (Below.refl _ _).alloc (Nat.le_refl _) _); clear hw5))
        go_upto_region 14 with fail
        go_loopw [46] (fun s46 wr => ∃ j : Nat, j ≤ k ∧ s46 = .int .i64 j ∧ IsR wr u.heap.size (str (cat f k)) (cat f j).length 0 ∧ Below u.heap.size u wr) (fun s46 _ => k - (intOf s46).toNat)
        case atStart => exact ⟨0, by omega, rfl, R0.out, C0.out⟩
        case round =>
          obtain ⟨j, hj, rfl, hr, hbx⟩ := hrel
          have HR := Lib.hid hr
          have HX := Lib.hid hbx
          clear hr hbx
          by_cases hlt : j < k
          · have hlt' : (j : Int) < (k : Int) := by omega
            have k0 : (0 : Int) ≤ (j : Int) := by omega
            obtain ⟨hv0, hv1, b, o, rfl, hbl, hcell⟩ := HV.out j hlt
            have d0 : wr.cell? ⟨b, o + j, none⟩ = some (.int .u64 (V j)) := later ((hb1'.out.trans (HB.out.mono hb1'.out.size)).trans (HX.out.mono (Nat.le_trans hb1'.out.size HB.out.size))) hcell
            obtain ⟨post, hpost⟩ := cat_split f k j hlt
            have hfj : f j = cd (V j) := by rw [HF.out]
            have hrc := rc_str (cat f j) post (V j) hv0
            rw [← hfj, ← hpost] at hrc
            have hle : (cat f j).length ≤ 8 * (str (cat f k)).size := by
              have := congrArg List.length hpost
              simp only [List.length_append] at this
              rw [HSZ.out]; omega
            have HRC := Lib.hid hrc
            clear hrc hpost
            have hne : (min (V j) 9223372036854775808 != min (V j) 9223372036854775808) = false := by simp
            go_wp2_with (go_at_call 20; refine (rcode_any u.heap.size (str (cat f k)) (cat f j).length 0 wr HR.out hS hle).mono ?_; rw [HRC.out]; rintro e w5 ⟨rfl, hr5, ho5⟩; have R5 := Lib.hid hr5; have C5 := Lib.hid (only_below HX.out (Nat.le_refl _) ho5); clear hr5 ho5)
            go_roundw
            case rel => exact ⟨j + 1, by omega, by go_num, by rw [cat, List.length_append]; exact R5.out, C5.out⟩
            case measure => simp [intOf]; omega
          · obtain rfl : j = k := by omega
            have HRD := Lib.hid (rd_str (cat f j))
            have hle : (cat f j).length ≤ 8 * (str (cat f j)).size := by rw [HSZ.out]; omega
            obtain ⟨L, hL⟩ : ∃ L, (cat f j).length = L := ⟨_, rfl⟩
            have x3 : (((str (cat f j)).size : Nat) : Int) = ((L : Int) + 7).tdiv 8 := by rw [HSZ.out, hL, Int.tdiv_eq_ediv_of_nonneg (by omega)]; omega
            have x4 : 0 ≤ ((L : Int) + 7).tdiv 8 ∧ ((L : Int) + 7).tdiv 8 ≤ 100000 := by rw [Int.tdiv_eq_ediv_of_nonneg (by omega)]; omega
            have x5 : (L : Int) ≤ 100000 := by omega
            have HL := Lib.hid hL
            clear hL
            go_wp2_with (first
              | (go_at_call 21; refine (done_any u.heap.size (str (cat f j)) (cat f j).length 0 wr HR.out hS hle).mono ?_; rw [HRD.out]; rintro e w6 ⟨rfl, hb6⟩; have C6 := Lib.hid (HX.out.trans (hb6.mono HX.out.size)); have W6 := Lib.hid (HW.out.keep C6.out); clear hb6)
              | (go_at_call 15; refine (str_any w1.heap.size (w1.heap.size + 1) sv _ _ W6.out).mono ?_; rintro e w7 ⟨rfl, rfl⟩; rw [str_eq])
              | (go_at_call 14; refine (len_any w1.heap.size (w1.heap.size + 1) sv _ _ W6.out).mono ?_; rintro e w7 ⟨rfl, rfl⟩; rw [HL.out]))
            go_ret
            exact ⟨rfl, hb1'.out.trans ((HB.out.trans (C6.out.mono HB.out.size)).mono hb1'.out.size)⟩
end BitsCodes
end Go.Proofs.Yteinpdjenplnnaa
