/-
  The walk of the law BitsWrites. Conditions: none.
-/
import Derived.Test.YteinpdjenplnnaaOpen04
import Derived.Test.YteinpdjenplnnaaBitsB
import Derived.Deep.DeepCutAuto
import Derived.Deep.CutBlock
import Derived.Test.YteinpdjenplnnaaHeld
namespace Go.Proofs.Yteinpdjenplnnaa
open Go.RowKit
set_option linter.unusedVariables false
set_option linter.unusedSimpArgs false
namespace BitsWrites
open BW
theorem str_eq (bs : List Bool) : strOfNums (pk bs) = str bs := rfl
theorem str01_nil : str01 [] = ⟨#[]⟩ := rfl
/-- the bits of one item -/
def itm (K N V : Nat → Int) (i : Nat) : List Bool := if K i = 1 then low (V i) (min (N i) 64).toNat else cd (V i)
theorem own_ne {w : World} {base g : Nat} {sv : Value} {bs : List Bool} (h : IsW w base g sv bs) : ¬ Ws g sv w.heap.size := by
  rintro (e | e)
  · have := blk_lt h.blk; omega
  · have := (own_lt h.own e).2; omega
attribute [local irreducible] cd low str01 bitL cv rc rb rd str val
set_option maxRecDepth 100000 in
set_option maxHeartbeats 16000000 in
theorem walk (v0 : Value) (w : World) (h0 : IsOps w v0) : Calls Try.prog 3 #[v0] w fun e w' => e = .returned (.bool true) ∧ Below w.heap.size w w' := by
  obtain ⟨A, n, cap, K, N, V, rfl, hn, hV⟩ := h0
  have HV := Lib.hid hV
  clear hV
  unfold maxLen at hn
  by_cases hbig : (100 : Int) < (n : Int)
  · go_enter Try.func3, Try.ntmps3
    go_upto_region 2 with (go_at_call 9; refine (awake_any _).mono ?_; rintro e w1 ⟨rfl, hb1⟩)
    go_wp2_with (go_at_call 9; refine (awake_any _).mono ?_; rintro e w2 ⟨rfl, hb2⟩)
    go_ret
    exact ⟨rfl, hb1.trans (hb2.mono hb1.size)⟩
  · go_enter Try.func3, Try.ntmps3
    go_upto_region 3 with (go_at_call 9; refine (awake_any _).mono ?_; rintro e w1 ⟨rfl, hb1⟩)
    have hb1' := Lib.hid hb1
    clear hb1
    go_upto_region 4 with fail
    have i1 := new_isW w1
    have b1 : Below w1.heap.size w1 (w1.alloc (.cells #[.slice none 0 0, .int .i64 0] 26)) := (Below.refl _ _).alloc (Nat.le_refl _) _
    generalize hW : w1.alloc (.cells #[.slice none 0 0, .int .i64 0] 26) = W at i1 b1
    have hz : w1.heap.size + 1 ≤ W.heap.size := by rw [← hW]; simp
    clear hW
    have I1 := Lib.hid i1
    have B1 := Lib.hid b1
    clear i1 b1
    obtain ⟨f, hf⟩ : ∃ f : Nat → List Bool, f = itm K N V := ⟨_, rfl⟩
    have hfl : ∀ i, i < n → (f i).length ≤ 127 := fun i hi => by
      have h := (HV.out i hi).1
      have h2 := (ck_spec (V i) h).2.1
      rw [hf]
      unfold itm
      split
      · rw [low_len]; omega
      · rw [cd_len]; omega
    have HF := Lib.hid hf
    have HFL := Lib.hid hfl
    clear hf hfl
    go_upto_region 6 with fail
    go_loopw [4, 21] (fun s4 s21 wr => ∃ k : Nat, k ≤ n ∧ s21 = .int .i64 k ∧ s4 = .string (str01 (cat f k)) ∧ ∃ sv, IsW wr (w1.heap.size + 1) w1.heap.size sv (cat f k) ∧ Below w1.heap.size w1 wr ∧ w1.heap.size + 1 ≤ wr.heap.size) (fun s4 s21 _ => n - (intOf s21).toNat)
    case atStart => exact ⟨0, by omega, rfl, by rw [cat, str01_nil], _, I1.out, B1.out, hz⟩
    case round =>
      obtain ⟨k, hk, rfl, rfl, sv, hw, hb, hzr⟩ := hrel
      have HW := Lib.hid hw
      have HB := Lib.hid hb
      clear hw hb
      by_cases hlt : k < n
      · have hlt' : (k : Int) < (n : Int) := by omega
        have k0 : (0 : Int) ≤ (k : Int) := by omega
        obtain ⟨hv0, hv1, b, o, rfl, hbl, hc0, hc1, hc2⟩ := HV.out k hlt
        have hbw := hb1'.out.trans (HB.out.mono hb1'.out.size)
        have d0 : wr.cell? ⟨b, o + k * 3, none⟩ = some (.int .i64 (K k)) := later hbw hc0
        have d1 : wr.cell? ⟨b, o + k * 3 + 1, none⟩ = some (.int .i64 (N k)) := later hbw hc1
        have d2 : wr.cell? ⟨b, o + k * 3 + 2, none⟩ = some (.int .u64 (V k)) := later hbw hc2
        clear hc0 hc1 hc2 hbw
        have hcl := cat_len f 127 k (fun i hi => HFL.out i (by omega))
        have hfl := HFL.out k hlt
        have hs1 : (str01 (cat f k)).size ≤ 12700 := by rw [str01_size]; omega
        have hs2 : (str01 (f k)).size ≤ 127 := by rw [str01_size]; exact hfl
        have hadd : ¬ 9223372036854775807 < (str01 (cat f k)).size + (str01 (f k)).size := by omega
        go_upto_region 8 with fail
        have hnW := own_ne HW.out
        have bal : Below wr.heap.size wr (wr.alloc (.cells #[.int .i64 (K k), .int .i64 (N k), .int .u64 (V k)] 29)) := (Below.refl _ _).alloc (Nat.le_refl _) _
        have hblk := alloc_new wr (.cells #[.int .i64 (K k), .int .i64 (N k), .int .u64 (V k)] 29)
        generalize wr.alloc (.cells #[.int .i64 (K k), .int .i64 (N k), .int .u64 (V k)] 29) = wo at bal hblk ⊢
        have e0 := blk_cell hblk 0
        have e1 := blk_cell hblk 1
        have e2 := blk_cell hblk 2
        simp at e0 e1 e2
        have HWo := Lib.hid (HW.out.keep bal)
        have HBo := Lib.hid (HB.out.trans (bal.mono HB.out.size))
        have hzo := Nat.le_trans hzr bal.size
        have hfk : f k = itm K N V k := by rw [HF.out]
        unfold itm at hfk
        clear bal hblk d0 d1 d2
        by_cases hK : K k = 1
        · rw [if_pos hK] at hfk
          have hKb : (K k == 1) = true := by simp [hK]
          have hadd' := hadd
          rw [hfk] at hadd'
          have HFK := Lib.hid hfk
          clear hfk
          go_wp2_with (first
            | (go_at_call 10; refine (bits_any w1.heap.size (w1.heap.size + 1) sv (cat f k) (V k) (N k) wo hv0 hv1 (by omega) HWo.out hzo).mono ?_; rintro e w2 ⟨rfl, sv2, hw2, hg2⟩; have q1 := hg2.1.cell e1 hnW; have q2 := hg2.1.cell e2 hnW; have HW2 := Lib.hid hw2; have HB2 := Lib.hid (grew_below HBo.out HWo.out hg2); have hz2 := Nat.le_trans hzo hg2.1.size; clear hw2 hg2)
            | (go_at_call 11; refine (refbits_any (V k) (N k) w2 hv0 hv1).mono ?_; rintro e w3 ⟨rfl, hb3⟩; have HW3 := Lib.hid (HW2.out.keep hb3); have HB3 := Lib.hid (HB2.out.trans (hb3.mono HB2.out.size)); have hz3 := Nat.le_trans hz2 hb3.size; clear hb3))
          go_roundw
          case rel => exact ⟨k + 1, by omega, by go_num, by rw [cat, HFK.out, str01_append], sv2, by rw [cat, HFK.out]; exact HW3.out, HB3.out, hz3⟩
          case measure => simp [intOf]; omega
        · rw [if_neg hK] at hfk
          have hKb : (K k == 1) = false := by simp [hK]
          have hadd' := hadd
          rw [hfk] at hadd'
          have HFK := Lib.hid hfk
          clear hfk
          go_wp2_with (first
            | (go_at_call 12; refine (code_any w1.heap.size (w1.heap.size + 1) sv (cat f k) (V k) wo hv0 hv1 (by omega) HWo.out hzo).mono ?_; rintro e w2 ⟨rfl, sv2, hw2, hg2⟩; have q1 := hg2.1.cell e1 hnW; have q2 := hg2.1.cell e2 hnW; have HW2 := Lib.hid hw2; have HB2 := Lib.hid (grew_below HBo.out HWo.out hg2); have hz2 := Nat.le_trans hzo hg2.1.size; clear hw2 hg2)
            | (go_at_call 13; refine (refcode_any (V k) w2 hv0 hv1).mono ?_; rintro e w3 ⟨rfl, hb3⟩; have HW3 := Lib.hid (HW2.out.keep hb3); have HB3 := Lib.hid (HB2.out.trans (hb3.mono HB2.out.size)); have hz3 := Nat.le_trans hz2 hb3.size; clear hb3))
          go_roundw
          case rel => exact ⟨k + 1, by omega, by go_num, by rw [cat, HFK.out, str01_append], sv2, by rw [cat, HFK.out]; exact HW3.out, HB3.out, hz3⟩
          case measure => simp [intOf]; omega
      · obtain rfl : k = n := by omega
        obtain ⟨u, hu⟩ : ∃ u, u = wr := ⟨_, rfl⟩
        subst hu
        have hcl := cat_len f 127 k (fun i hi => HFL.out i hi)
        have hsz := str_size (cat f k)
        have hS : (str (cat f k)).size ≤ 1000000 := by omega
        have hse : (str01 (cat f k)).size = (cat f k).length := str01_size _
        have HSZ := Lib.hid hsz
        clear hsz
        go_upto_region 16 with (first
          | (go_at_call 14; refine (len_any w1.heap.size (w1.heap.size + 1) sv _ u HW.out).mono ?_; rintro e w4 ⟨rfl, rfl⟩)
          | (go_at_call 15; refine (str_any w1.heap.size (w1.heap.size + 1) sv _ u HW.out).mono ?_; rintro e w4 ⟨rfl, rfl⟩; rw [str_eq])
          | (go_at_call 16; refine (refbytes_any (cat f k) u (by omega)).mono ?_; rintro e w4 ⟨rfl, hb4⟩; rw [str_eq]; have HW4 := Lib.hid (HW.out.keep hb4); have HB4 := Lib.hid (HB.out.trans (hb4.mono HB.out.size)); clear hb4))
        go_upto_region 18 with (first
          | (go_at_call 15; refine (str_any w1.heap.size (w1.heap.size + 1) sv _ w4 HW4.out).mono ?_; rintro e w5 ⟨rfl, rfl⟩; rw [str_eq])
          | (go_at_call 17; refine (new_any (str (cat f k)) w4).mono ?_; rintro e w5 ⟨rfl, hw5⟩; have R0 := Lib.hid (show IsR w5 w4.heap.size (str (cat f k)) 0 0 from hw5 ▸ new_isR w4 _); have C0 := Lib.hid (show Below w4.heap.size w4 w5 from hw5 ▸ (Below.refl _ _).alloc (Nat.le_refl _) _); clear hw5))
        go_loopw [63] (fun s63 wr => ∃ j : Nat, j ≤ k ∧ s63 = .int .i64 j ∧ IsR wr w4.heap.size (str (cat f k)) (cat f j).length 0 ∧ Below w4.heap.size w4 wr) (fun s63 _ => k - (intOf s63).toNat)
        case atStart => exact ⟨0, by omega, rfl, R0.out, C0.out⟩
        case round =>
          obtain ⟨j, hj, rfl, hr, hbx⟩ := hrel
          have HR := Lib.hid hr
          have HX := Lib.hid hbx
          clear hr hbx
          by_cases hlt : j < k
          · have hlt' : (j : Int) < (k : Int) := by omega
            have k0 : (0 : Int) ≤ (j : Int) := by omega
            obtain ⟨hv0, hv1, b, o, rfl, hbl, hc0, hc1, hc2⟩ := HV.out j hlt
            have hbw := (hb1'.out.trans (HB4.out.mono hb1'.out.size)).trans (HX.out.mono (Nat.le_trans hb1'.out.size HB4.out.size))
            have d0 : wr.cell? ⟨b, o + j * 3, none⟩ = some (.int .i64 (K j)) := later hbw hc0
            have d1 : wr.cell? ⟨b, o + j * 3 + 1, none⟩ = some (.int .i64 (N j)) := later hbw hc1
            have d2 : wr.cell? ⟨b, o + j * 3 + 2, none⟩ = some (.int .u64 (V j)) := later hbw hc2
            clear hc0 hc1 hc2 hbw
            obtain ⟨post, hpost⟩ := cat_split f k j hlt
            have hfj : f j = itm K N V j := by rw [HF.out]
            unfold itm at hfj
            have hle : (cat f j).length ≤ 8 * (str (cat f k)).size := by
              have := congrArg List.length hpost
              simp only [List.length_append] at this
              rw [HSZ.out]; omega
            go_upto_region 20 with fail
            have bal : Below wr.heap.size wr (wr.alloc (.cells #[.int .i64 (K j), .int .i64 (N j), .int .u64 (V j)] 29)) := (Below.refl _ _).alloc (Nat.le_refl _) _
            have hblk := alloc_new wr (.cells #[.int .i64 (K j), .int .i64 (N j), .int .u64 (V j)] 29)
            have hgne : w4.heap.size ≠ wr.heap.size := Nat.ne_of_lt (blk_lt HR.out)
            generalize wr.alloc (.cells #[.int .i64 (K j), .int .i64 (N j), .int .u64 (V j)] 29) = wo at bal hblk ⊢
            have e0 := blk_cell hblk 0
            have e1 := blk_cell hblk 1
            have e2 := blk_cell hblk 2
            simp at e0 e1 e2
            have HRo := Lib.hid (HR.out.keep bal)
            have HXo := Lib.hid (HX.out.trans (bal.mono HX.out.size))
            clear bal hblk d0 d1 d2
            go_upto_region 21 with fail
            obtain ⟨M, hMd⟩ : ∃ M, (min (N j) 64).toNat = M := ⟨_, rfl⟩
            have hM : min (max (N j) 0) 64 = (M : Int) := by omega
            have hM64 : M ≤ 64 := by omega
            rw [hMd] at hfj
            rw [hM]
            clear hMd hM
            have e0 : wo.drew.cell? ⟨wr.heap.size, 0, none⟩ = some (.int .i64 (K j)) := e0
            have e2 : wo.drew.cell? ⟨wr.heap.size, 2, none⟩ = some (.int .u64 (V j)) := e2
            have HRd := Lib.hid (show IsR wo.drew w4.heap.size (str (cat f k)) (cat f j).length 0 from HRo.out)
            have HXd := Lib.hid (show Below w4.heap.size w4 wo.drew from ⟨HXo.out.os, HXo.out.tape, HXo.out.output, HXo.out.size, HXo.out.block⟩)
            clear HRo HXo
            by_cases hK : K j = 1
            · rw [if_pos hK] at hfj
              have hKb : (K j == 1) = true := by simp [hK]
              have hKn : (K j != 1) = false := by simp [hK]
              have hrb := rb_str (cat f j) post (V j) M hv0 hM64
              rw [← hfj, ← hpost] at hrb
              have hfl : (f j).length = M := by rw [hfj, low_len]
              have hll : (low (V j) M).length ≤ 64 := by rw [low_len]; exact hM64
              have hval := val_low (V j) M hv0
              obtain ⟨X, hX⟩ : ∃ X, V j % 2 ^ M = X := ⟨_, rfl⟩
              rw [hX] at hrb hval
              have hMM : (min (M : Int) 64).toNat = M := by omega
              have HRB := Lib.hid hrb
              have HVAL := Lib.hid hval
              have HMM := Lib.hid hMM
              have HFJ := Lib.hid hfl
              clear hrb hval hMM hX hpost hfj hfl e1
              refine wp_region_held_drew (S := (fun w' => w'.cell? ⟨wr.heap.size, 0, none⟩ = some (.int .i64 (K j)) ∧ w'.cell? ⟨wr.heap.size, 2, none⟩ = some (.int .u64 (V j)))) (by kernel_rfl) ⟨e0, e2⟩ (fun _ => ?_)
              refine held_take 0 71 (v := ?_) rfl rfl (by kernel_rfl) (by kernel_rfl) (by kernel_rfl) (fun _ _ _ h => h) (by rfl) ?_ ⟨e0, e2⟩ ?_
              rotate_left
              focus (intro w hSw; (try dsimp only at hSw); simp only [List.getElem_toArray, List.getElem_cons_zero, List.getElem_cons_succ]; go_simp; try (with_reducible rfl))
              simp only [List.setIfInBounds_toArray, List.set_cons_zero, List.set_cons_succ]
              refine held_take 1 72 (v := ?_) rfl rfl (by kernel_rfl) (by kernel_rfl) (by kernel_rfl) (fun _ _ _ h => h) (by rfl) ?_ ⟨e0, e2⟩ ?_
              rotate_left
              focus (intro w hSw; (try dsimp only at hSw); simp only [List.getElem_toArray, List.getElem_cons_zero, List.getElem_cons_succ]; go_simp; try (with_reducible rfl))
              simp only [List.setIfInBounds_toArray, List.set_cons_zero, List.set_cons_succ]
              refine held_take 2 73 (v := ?_) rfl rfl (by kernel_rfl) (by kernel_rfl) (by kernel_rfl) (fun _ _ _ h => h) (by rfl) ?_ ⟨e0, e2⟩ ?_
              rotate_left
              focus (intro w hSw; (try dsimp only at hSw); simp only [List.getElem_toArray, List.getElem_cons_zero, List.getElem_cons_succ]; go_simp; try (with_reducible rfl))
              simp only [List.setIfInBounds_toArray, List.set_cons_zero, List.set_cons_succ]
              refine held_take 3 74 (v := ?_) rfl rfl (by kernel_rfl) (by kernel_rfl) (by kernel_rfl) (fun _ _ _ h => h) (by rfl) ?_ ⟨e0, e2⟩ ?_
              rotate_left
              focus (intro w hSw; (try dsimp only at hSw); simp only [List.getElem_toArray, List.getElem_cons_zero, List.getElem_cons_succ]; go_simp; try (with_reducible rfl))
              simp only [List.setIfInBounds_toArray, List.set_cons_zero, List.set_cons_succ]
              refine held_take 4 75 (v := ?_) rfl rfl (by kernel_rfl) (by kernel_rfl) (by kernel_rfl) (fun _ _ _ h => h) (by rfl) ?_ ⟨e0, e2⟩ ?_
              rotate_left
              focus (intro w hSw; (try dsimp only at hSw); simp only [List.getElem_toArray, List.getElem_cons_zero, List.getElem_cons_succ]; go_simp; try (with_reducible rfl))
              simp only [List.setIfInBounds_toArray, List.set_cons_zero, List.set_cons_succ]
              refine held_take 5 76 (v := ?_) rfl rfl (by kernel_rfl) (by kernel_rfl) (by kernel_rfl) (fun _ _ _ h => h) (by rfl) ?_ ⟨e0, e2⟩ ?_
              rotate_left
              focus (intro w hSw; (try dsimp only at hSw); simp only [List.getElem_toArray, List.getElem_cons_zero, List.getElem_cons_succ]; go_simp; try (with_reducible rfl))
              simp only [List.setIfInBounds_toArray, List.set_cons_zero, List.set_cons_succ]
              refine held_take 7 78 (v := ?_) rfl rfl (by kernel_rfl) (by kernel_rfl) (by kernel_rfl) (fun _ _ _ h => h) (by rfl) ?_ ⟨e0, e2⟩ ?_
              rotate_left
              focus (intro w hSw; (try dsimp only at hSw); simp only [List.getElem_toArray, List.getElem_cons_zero, List.getElem_cons_succ]; go_simp; try (with_reducible rfl))
              simp only [List.setIfInBounds_toArray, List.set_cons_zero, List.set_cons_succ]
              refine held_take 8 79 (v := ?_) rfl rfl (by kernel_rfl) (by kernel_rfl) (by kernel_rfl) (fun _ _ _ h => h) (by rfl) ?_ ⟨e0, e2⟩ ?_
              rotate_left
              focus (intro w hSw; (try dsimp only at hSw); simp only [List.getElem_toArray, List.getElem_cons_zero, List.getElem_cons_succ]; go_simp; try (with_reducible rfl))
              simp only [List.setIfInBounds_toArray, List.set_cons_zero, List.set_cons_succ]
              refine held_take 9 80 (v := ?_) rfl rfl (by kernel_rfl) (by kernel_rfl) (by kernel_rfl) (fun _ _ _ h => h) (by rfl) ?_ ⟨e0, e2⟩ ?_
              rotate_left
              focus (intro w hSw; (try dsimp only at hSw); simp only [List.getElem_toArray, List.getElem_cons_zero, List.getElem_cons_succ]; go_simp; try (with_reducible rfl))
              simp only [List.setIfInBounds_toArray, List.set_cons_zero, List.set_cons_succ]
              refine held_call 6 77 rfl rfl (by kernel_rfl) (by rfl) (fun K hK => ?_)
              simp only [List.getElem_toArray, List.getElem_cons_zero, List.getElem_cons_succ]
              go_simp
              (go_at_call 18; refine (rbits_any w4.heap.size (str (cat f k)) (cat f j).length 0 M _ HRd.out hS hle).mono ?_; rw [HRB.out]; rintro e w5 ⟨rfl, hr5, ho5⟩; have e0 := ho5.cell e0 hgne.symm; have e2 := ho5.cell e2 hgne.symm; have HRd := Lib.hid hr5; have HXd := Lib.hid (only_below HXd.out (Nat.le_refl _) ho5); clear hr5 ho5)
              try go_wp2_with fail
              try simp only [Act.put, List.setIfInBounds_toArray, List.set_cons_zero, List.set_cons_succ]
              refine hK.out _ _ _ ⟨e0, e2⟩ ?_
              clear hK K
              refine held_call 10 81 rfl rfl (by kernel_rfl) (by rfl) (fun K hK => ?_)
              simp only [List.getElem_toArray, List.getElem_cons_zero, List.getElem_cons_succ]
              go_simp
              (go_at_call 11; refine (refbits_any (V j) M _ hv0 hv1).mono ?_; rw [HMM.out]; rintro e w6 ⟨rfl, hb5⟩; have e0 := later hb5 e0; have e2 := later hb5 e2; have HRd := Lib.hid (HRd.out.keep hb5); have HXd := Lib.hid (HXd.out.trans (hb5.mono HXd.out.size)); clear hb5)
              try go_wp2_with fail
              try simp only [Act.put, List.setIfInBounds_toArray, List.set_cons_zero, List.set_cons_succ]
              refine hK.out _ _ _ ⟨e0, e2⟩ ?_
              clear hK K
              refine held_call 11 82 rfl rfl (by kernel_rfl) (by rfl) (fun K hK => ?_)
              simp only [List.getElem_toArray, List.getElem_cons_zero, List.getElem_cons_succ]
              go_simp
              (go_at_call 19; refine (refvalue_any (low (V j) M) _ hll).mono ?_; rw [HVAL.out]; rintro e w7 ⟨rfl, rfl⟩)
              try go_wp2_with fail
              try simp only [Act.put, List.setIfInBounds_toArray, List.set_cons_zero, List.set_cons_succ]
              refine hK.out _ _ _ ⟨e0, e2⟩ ?_
              clear hK K
              refine held_take 12 83 (v := ?_) rfl rfl (by kernel_rfl) (by kernel_rfl) (by kernel_rfl) (fun _ _ _ h => h) (by rfl) ?_ ⟨e0, e2⟩ ?_
              rotate_left
              focus (intro w hSw; (try dsimp only at hSw); simp only [List.getElem_toArray, List.getElem_cons_zero, List.getElem_cons_succ]; go_simp; try (with_reducible rfl))
              simp only [List.setIfInBounds_toArray, List.set_cons_zero, List.set_cons_succ]
              refine held_take 13 84 (v := ?_) rfl rfl (by kernel_rfl) (by kernel_rfl) (by kernel_rfl) (fun _ _ _ h => h) (by rfl) ?_ ⟨e0, e2⟩ ?_
              rotate_left
              focus (intro w hSw; (try dsimp only at hSw); simp only [List.getElem_toArray, List.getElem_cons_zero, List.getElem_cons_succ]; go_simp; try (with_reducible rfl))
              simp only [List.setIfInBounds_toArray, List.set_cons_zero, List.set_cons_succ]
              refine held_take 14 85 (v := ?_) rfl rfl (by kernel_rfl) (by kernel_rfl) (by kernel_rfl) (fun _ _ _ h => h) (by rfl) ?_ ⟨e0, e2⟩ ?_
              rotate_left
              focus (intro w hSw; (try dsimp only at hSw); simp only [List.getElem_toArray, List.getElem_cons_zero, List.getElem_cons_succ]; go_simp; try (with_reducible rfl))
              simp only [List.setIfInBounds_toArray, List.set_cons_zero, List.set_cons_succ]
              refine held_take 15 86 (v := ?_) rfl rfl (by kernel_rfl) (by kernel_rfl) (by kernel_rfl) (fun _ _ _ h => h) (by rfl) ?_ ⟨e0, e2⟩ ?_
              rotate_left
              focus (intro w hSw; (try dsimp only at hSw); simp only [List.getElem_toArray, List.getElem_cons_zero, List.getElem_cons_succ]; go_simp; try (with_reducible rfl))
              simp only [List.setIfInBounds_toArray, List.set_cons_zero, List.set_cons_succ]
              refine held_take 16 87 (v := ?_) rfl rfl (by kernel_rfl) (by kernel_rfl) (by kernel_rfl) (fun _ _ _ h => h) (by rfl) ?_ ⟨e0, e2⟩ ?_
              rotate_left
              focus (intro w hSw; (try dsimp only at hSw); simp only [List.getElem_toArray, List.getElem_cons_zero, List.getElem_cons_succ]; go_simp; try (with_reducible rfl))
              simp only [List.setIfInBounds_toArray, List.set_cons_zero, List.set_cons_succ]
              refine held_take 17 88 (v := ?_) rfl rfl (by kernel_rfl) (by kernel_rfl) (by kernel_rfl) (fun _ _ _ h => h) (by rfl) ?_ ⟨e0, e2⟩ ?_
              rotate_left
              focus (intro w hSw; (try dsimp only at hSw); simp only [List.getElem_toArray, List.getElem_cons_zero, List.getElem_cons_succ]; go_simp; try (with_reducible rfl))
              simp only [List.setIfInBounds_toArray, List.set_cons_zero, List.set_cons_succ]
              refine held_take 18 89 (v := ?_) rfl rfl (by kernel_rfl) (by kernel_rfl) (by kernel_rfl) (fun _ _ _ h => h) (by rfl) ?_ ⟨e0, e2⟩ ?_
              rotate_left
              focus (intro w hSw; (try dsimp only at hSw); simp only [List.getElem_toArray, List.getElem_cons_zero, List.getElem_cons_succ]; go_simp; try (with_reducible rfl))
              simp only [List.setIfInBounds_toArray, List.set_cons_zero, List.set_cons_succ]
              refine held_skip 19 90 rfl rfl (by kernel_rfl) (by kernel_rfl) (by kernel_rfl) (fun _ _ _ h => h) (by rfl) ⟨e0, e2⟩ ?_
              simp only [List.setIfInBounds_toArray, List.set_cons_zero, List.set_cons_succ]
              refine held_skip 21 92 rfl rfl (by kernel_rfl) (by kernel_rfl) (by kernel_rfl) (fun _ _ _ h => h) (by rfl) ⟨e0, e2⟩ ?_
              simp only [List.setIfInBounds_toArray, List.set_cons_zero, List.set_cons_succ]
              refine held_skip 22 93 rfl rfl (by kernel_rfl) (by kernel_rfl) (by kernel_rfl) (fun _ _ _ h => h) (by rfl) ⟨e0, e2⟩ ?_
              simp only [List.setIfInBounds_toArray, List.set_cons_zero, List.set_cons_succ]
              refine held_skip 23 94 rfl rfl (by kernel_rfl) (by kernel_rfl) (by kernel_rfl) (fun _ _ _ h => h) (by rfl) ⟨e0, e2⟩ ?_
              simp only [List.setIfInBounds_toArray, List.set_cons_zero, List.set_cons_succ]
              refine held_pass 20 91 rfl rfl (by kernel_rfl) (by rfl) ⟨e0, e2⟩ ?_
              simp only [List.setIfInBounds_toArray, List.set_cons_zero, List.set_cons_succ]
              refine held_skip 24 95 rfl rfl (by kernel_rfl) (by kernel_rfl) (by kernel_rfl) (fun _ _ _ h => h) (by rfl) ⟨e0, e2⟩ ?_
              simp only [List.setIfInBounds_toArray, List.set_cons_zero, List.set_cons_succ]
              refine held_take 25 96 (v := ?_) rfl rfl (by kernel_rfl) (by kernel_rfl) (by kernel_rfl) (fun _ _ _ h => h) (by rfl) ?_ ⟨e0, e2⟩ ?_
              rotate_left
              focus (intro w hSw; (try dsimp only at hSw); simp only [List.getElem_toArray, List.getElem_cons_zero, List.getElem_cons_succ]; go_simp; try (with_reducible rfl))
              simp only [List.setIfInBounds_toArray, List.set_cons_zero, List.set_cons_succ]
              refine held_take 26 97 (v := ?_) rfl rfl (by kernel_rfl) (by kernel_rfl) (by kernel_rfl) (fun _ _ _ h => h) (by rfl) ?_ ⟨e0, e2⟩ ?_
              rotate_left
              focus (intro w hSw; (try dsimp only at hSw); simp only [List.getElem_toArray, List.getElem_cons_zero, List.getElem_cons_succ]; go_simp; try (with_reducible rfl))
              simp only [List.setIfInBounds_toArray, List.set_cons_zero, List.set_cons_succ]
              refine wpAnyH_done (by kernel_rfl) ?_ _
              go_wp2
              go_roundw
              case rel => exact ⟨j + 1, by omega, by go_num, by rw [cat, List.length_append, HFJ.out]; exact HRd.out, HXd.out⟩
              case measure => simp [intOf]; omega
            · rw [if_neg hK] at hfj
              have hKb : (K j == 1) = false := by simp [hK]
              have hKn : (K j != 1) = true := by simp [hK]
              have hrc := rc_str (cat f j) post (V j) hv0
              rw [← hfj, ← hpost] at hrc
              have HRC := Lib.hid hrc
              clear hrc hpost hfj e1
              refine wp_region_held_drew (S := (fun w' => w'.cell? ⟨wr.heap.size, 0, none⟩ = some (.int .i64 (K j)) ∧ w'.cell? ⟨wr.heap.size, 2, none⟩ = some (.int .u64 (V j)))) (by kernel_rfl) ⟨e0, e2⟩ (fun _ => ?_)
              refine held_take 0 71 (v := ?_) rfl rfl (by kernel_rfl) (by kernel_rfl) (by kernel_rfl) (fun _ _ _ h => h) (by rfl) ?_ ⟨e0, e2⟩ ?_
              rotate_left
              focus (intro w hSw; (try dsimp only at hSw); simp only [List.getElem_toArray, List.getElem_cons_zero, List.getElem_cons_succ]; go_simp; try (with_reducible rfl))
              simp only [List.setIfInBounds_toArray, List.set_cons_zero, List.set_cons_succ]
              refine held_take 1 72 (v := ?_) rfl rfl (by kernel_rfl) (by kernel_rfl) (by kernel_rfl) (fun _ _ _ h => h) (by rfl) ?_ ⟨e0, e2⟩ ?_
              rotate_left
              focus (intro w hSw; (try dsimp only at hSw); simp only [List.getElem_toArray, List.getElem_cons_zero, List.getElem_cons_succ]; go_simp; try (with_reducible rfl))
              simp only [List.setIfInBounds_toArray, List.set_cons_zero, List.set_cons_succ]
              refine held_take 2 73 (v := ?_) rfl rfl (by kernel_rfl) (by kernel_rfl) (by kernel_rfl) (fun _ _ _ h => h) (by rfl) ?_ ⟨e0, e2⟩ ?_
              rotate_left
              focus (intro w hSw; (try dsimp only at hSw); simp only [List.getElem_toArray, List.getElem_cons_zero, List.getElem_cons_succ]; go_simp; try (with_reducible rfl))
              simp only [List.setIfInBounds_toArray, List.set_cons_zero, List.set_cons_succ]
              refine held_take 3 74 (v := ?_) rfl rfl (by kernel_rfl) (by kernel_rfl) (by kernel_rfl) (fun _ _ _ h => h) (by rfl) ?_ ⟨e0, e2⟩ ?_
              rotate_left
              focus (intro w hSw; (try dsimp only at hSw); simp only [List.getElem_toArray, List.getElem_cons_zero, List.getElem_cons_succ]; go_simp; try (with_reducible rfl))
              simp only [List.setIfInBounds_toArray, List.set_cons_zero, List.set_cons_succ]
              refine held_skip 4 75 rfl rfl (by kernel_rfl) (by kernel_rfl) (by kernel_rfl) (fun _ _ _ h => h) (by rfl) ⟨e0, e2⟩ ?_
              simp only [List.setIfInBounds_toArray, List.set_cons_zero, List.set_cons_succ]
              refine held_skip 5 76 rfl rfl (by kernel_rfl) (by kernel_rfl) (by kernel_rfl) (fun _ _ _ h => h) (by rfl) ⟨e0, e2⟩ ?_
              simp only [List.setIfInBounds_toArray, List.set_cons_zero, List.set_cons_succ]
              refine held_skip 7 78 rfl rfl (by kernel_rfl) (by kernel_rfl) (by kernel_rfl) (fun _ _ _ h => h) (by rfl) ⟨e0, e2⟩ ?_
              simp only [List.setIfInBounds_toArray, List.set_cons_zero, List.set_cons_succ]
              refine held_skip 8 79 rfl rfl (by kernel_rfl) (by kernel_rfl) (by kernel_rfl) (fun _ _ _ h => h) (by rfl) ⟨e0, e2⟩ ?_
              simp only [List.setIfInBounds_toArray, List.set_cons_zero, List.set_cons_succ]
              refine held_skip 9 80 rfl rfl (by kernel_rfl) (by kernel_rfl) (by kernel_rfl) (fun _ _ _ h => h) (by rfl) ⟨e0, e2⟩ ?_
              simp only [List.setIfInBounds_toArray, List.set_cons_zero, List.set_cons_succ]
              refine held_pass 6 77 rfl rfl (by kernel_rfl) (by rfl) ⟨e0, e2⟩ ?_
              simp only [List.setIfInBounds_toArray, List.set_cons_zero, List.set_cons_succ]
              refine held_pass 10 81 rfl rfl (by kernel_rfl) (by rfl) ⟨e0, e2⟩ ?_
              simp only [List.setIfInBounds_toArray, List.set_cons_zero, List.set_cons_succ]
              refine held_pass 11 82 rfl rfl (by kernel_rfl) (by rfl) ⟨e0, e2⟩ ?_
              simp only [List.setIfInBounds_toArray, List.set_cons_zero, List.set_cons_succ]
              refine held_skip 12 83 rfl rfl (by kernel_rfl) (by kernel_rfl) (by kernel_rfl) (fun _ _ _ h => h) (by rfl) ⟨e0, e2⟩ ?_
              simp only [List.setIfInBounds_toArray, List.set_cons_zero, List.set_cons_succ]
              refine held_take 13 84 (v := ?_) rfl rfl (by kernel_rfl) (by kernel_rfl) (by kernel_rfl) (fun _ _ _ h => h) (by rfl) ?_ ⟨e0, e2⟩ ?_
              rotate_left
              focus (intro w hSw; (try dsimp only at hSw); simp only [List.getElem_toArray, List.getElem_cons_zero, List.getElem_cons_succ]; go_simp; try (with_reducible rfl))
              simp only [List.setIfInBounds_toArray, List.set_cons_zero, List.set_cons_succ]
              refine held_take 14 85 (v := ?_) rfl rfl (by kernel_rfl) (by kernel_rfl) (by kernel_rfl) (fun _ _ _ h => h) (by rfl) ?_ ⟨e0, e2⟩ ?_
              rotate_left
              focus (intro w hSw; (try dsimp only at hSw); simp only [List.getElem_toArray, List.getElem_cons_zero, List.getElem_cons_succ]; go_simp; try (with_reducible rfl))
              simp only [List.setIfInBounds_toArray, List.set_cons_zero, List.set_cons_succ]
              refine held_take 15 86 (v := ?_) rfl rfl (by kernel_rfl) (by kernel_rfl) (by kernel_rfl) (fun _ _ _ h => h) (by rfl) ?_ ⟨e0, e2⟩ ?_
              rotate_left
              focus (intro w hSw; (try dsimp only at hSw); simp only [List.getElem_toArray, List.getElem_cons_zero, List.getElem_cons_succ]; go_simp; try (with_reducible rfl))
              simp only [List.setIfInBounds_toArray, List.set_cons_zero, List.set_cons_succ]
              refine held_take 16 87 (v := ?_) rfl rfl (by kernel_rfl) (by kernel_rfl) (by kernel_rfl) (fun _ _ _ h => h) (by rfl) ?_ ⟨e0, e2⟩ ?_
              rotate_left
              focus (intro w hSw; (try dsimp only at hSw); simp only [List.getElem_toArray, List.getElem_cons_zero, List.getElem_cons_succ]; go_simp; try (with_reducible rfl))
              simp only [List.setIfInBounds_toArray, List.set_cons_zero, List.set_cons_succ]
              refine held_take 17 88 (v := ?_) rfl rfl (by kernel_rfl) (by kernel_rfl) (by kernel_rfl) (fun _ _ _ h => h) (by rfl) ?_ ⟨e0, e2⟩ ?_
              rotate_left
              focus (intro w hSw; (try dsimp only at hSw); simp only [List.getElem_toArray, List.getElem_cons_zero, List.getElem_cons_succ]; go_simp; try (with_reducible rfl))
              simp only [List.setIfInBounds_toArray, List.set_cons_zero, List.set_cons_succ]
              refine held_take 18 89 (v := ?_) rfl rfl (by kernel_rfl) (by kernel_rfl) (by kernel_rfl) (fun _ _ _ h => h) (by rfl) ?_ ⟨e0, e2⟩ ?_
              rotate_left
              focus (intro w hSw; (try dsimp only at hSw); simp only [List.getElem_toArray, List.getElem_cons_zero, List.getElem_cons_succ]; go_simp; try (with_reducible rfl))
              simp only [List.setIfInBounds_toArray, List.set_cons_zero, List.set_cons_succ]
              refine held_take 19 90 (v := ?_) rfl rfl (by kernel_rfl) (by kernel_rfl) (by kernel_rfl) (fun _ _ _ h => h) (by rfl) ?_ ⟨e0, e2⟩ ?_
              rotate_left
              focus (intro w hSw; (try dsimp only at hSw); simp only [List.getElem_toArray, List.getElem_cons_zero, List.getElem_cons_succ]; go_simp; try (with_reducible rfl))
              simp only [List.setIfInBounds_toArray, List.set_cons_zero, List.set_cons_succ]
              refine held_take 21 92 (v := ?_) rfl rfl (by kernel_rfl) (by kernel_rfl) (by kernel_rfl) (fun _ _ _ h => h) (by rfl) ?_ ⟨e0, e2⟩ ?_
              rotate_left
              focus (intro w hSw; (try dsimp only at hSw); simp only [List.getElem_toArray, List.getElem_cons_zero, List.getElem_cons_succ]; go_simp; try (with_reducible rfl))
              simp only [List.setIfInBounds_toArray, List.set_cons_zero, List.set_cons_succ]
              refine held_take 22 93 (v := ?_) rfl rfl (by kernel_rfl) (by kernel_rfl) (by kernel_rfl) (fun _ _ _ h => h) (by rfl) ?_ ⟨e0, e2⟩ ?_
              rotate_left
              focus (intro w hSw; (try dsimp only at hSw); simp only [List.getElem_toArray, List.getElem_cons_zero, List.getElem_cons_succ]; go_simp; try (with_reducible rfl))
              simp only [List.setIfInBounds_toArray, List.set_cons_zero, List.set_cons_succ]
              refine held_take 23 94 (v := ?_) rfl rfl (by kernel_rfl) (by kernel_rfl) (by kernel_rfl) (fun _ _ _ h => h) (by rfl) ?_ ⟨e0, e2⟩ ?_
              rotate_left
              focus (intro w hSw; (try dsimp only at hSw); simp only [List.getElem_toArray, List.getElem_cons_zero, List.getElem_cons_succ]; go_simp; try (with_reducible rfl))
              simp only [List.setIfInBounds_toArray, List.set_cons_zero, List.set_cons_succ]
              refine held_call 20 91 rfl rfl (by kernel_rfl) (by rfl) (fun K hK => ?_)
              simp only [List.getElem_toArray, List.getElem_cons_zero, List.getElem_cons_succ]
              go_simp
              (go_at_call 20; refine (rcode_any w4.heap.size (str (cat f k)) (cat f j).length 0 _ HRd.out hS hle).mono ?_; rw [HRC.out]; rintro e w5 ⟨rfl, hr5, ho5⟩; have e0 := ho5.cell e0 hgne.symm; have e2 := ho5.cell e2 hgne.symm; have HRd := Lib.hid hr5; have HXd := Lib.hid (only_below HXd.out (Nat.le_refl _) ho5); clear hr5 ho5)
              try go_wp2_with fail
              try simp only [Act.put, List.setIfInBounds_toArray, List.set_cons_zero, List.set_cons_succ]
              refine hK.out _ _ _ ⟨e0, e2⟩ ?_
              clear hK K
              refine held_take 24 95 (v := ?_) rfl rfl (by kernel_rfl) (by kernel_rfl) (by kernel_rfl) (fun _ _ _ h => h) (by rfl) ?_ ⟨e0, e2⟩ ?_
              rotate_left
              focus (intro w hSw; (try dsimp only at hSw); simp only [List.getElem_toArray, List.getElem_cons_zero, List.getElem_cons_succ]; go_simp; try (with_reducible rfl))
              simp only [List.setIfInBounds_toArray, List.set_cons_zero, List.set_cons_succ]
              refine held_take 25 96 (v := ?_) rfl rfl (by kernel_rfl) (by kernel_rfl) (by kernel_rfl) (fun _ _ _ h => h) (by rfl) ?_ ⟨e0, e2⟩ ?_
              rotate_left
              focus (intro w hSw; (try dsimp only at hSw); simp only [List.getElem_toArray, List.getElem_cons_zero, List.getElem_cons_succ]; go_simp; try (with_reducible rfl))
              simp only [List.setIfInBounds_toArray, List.set_cons_zero, List.set_cons_succ]
              refine held_take 26 97 (v := ?_) rfl rfl (by kernel_rfl) (by kernel_rfl) (by kernel_rfl) (fun _ _ _ h => h) (by rfl) ?_ ⟨e0, e2⟩ ?_
              rotate_left
              focus (intro w hSw; (try dsimp only at hSw); simp only [List.getElem_toArray, List.getElem_cons_zero, List.getElem_cons_succ]; go_simp; try (with_reducible rfl))
              simp only [List.setIfInBounds_toArray, List.set_cons_zero, List.set_cons_succ]
              refine wpAnyH_done (by kernel_rfl) ?_ _
              go_wp2
              go_roundw
              case rel => exact ⟨j + 1, by omega, by go_num, by rw [cat, List.length_append]; exact HRd.out, HXd.out⟩
              case measure => simp [intOf]; omega
          · obtain rfl : j = k := by omega
            have HRD := Lib.hid (rd_str (cat f j))
            have hle : (cat f j).length ≤ 8 * (str (cat f j)).size := by rw [HSZ.out]; omega
            go_wp2_with (go_at_call 21; refine (done_any w4.heap.size (str (cat f j)) (cat f j).length 0 wr HR.out hS hle).mono ?_; rw [HRD.out]; rintro e w6 ⟨rfl, hb6⟩; have C6 := Lib.hid (HX.out.trans (hb6.mono HX.out.size)); clear hb6)
            go_ret
            exact ⟨rfl, hb1'.out.trans ((HB4.out.trans (C6.out.mono HB4.out.size)).mono hb1'.out.size)⟩
end BitsWrites
end Go.Proofs.Yteinpdjenplnnaa
