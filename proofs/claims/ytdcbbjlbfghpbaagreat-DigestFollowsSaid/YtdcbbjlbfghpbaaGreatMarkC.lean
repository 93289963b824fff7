/-
  A route's mark: the document's, walked. Conditions: those that each theorem names.
-/
import Derived.Test.YtdcbbjlbfghpbaaGreatDe
import Derived.Test.YtdcbbjlbfghpbaaGreatDi
namespace Go.Proofs.YtdcbbjlbfghpbaaGreat
open Go Go.RowKit H2
set_option linter.unusedVariables false
set_option linter.unusedSimpArgs false
namespace Dig
open Tab Byt
theorem str_idx (bs : List UInt8) (i : Nat) (h : i < bs.length) (w : World) : Sem.run Tryz.prog (Instr.index 9 (.string (str bs)) (.int .i64 (i : Int))) w = .ok (.int .u8 ((bs[i]).toNat : Int)) w := by
  rw [run_index_string (P := Tryz.prog) (w := w) _ _ _ _ Tryz.underlying9, dif_pos (show 0 ≤ (i : Int) ∧ (i : Int) < (str bs).size by rw [str_size]; omega)]
  simp [str, ByteArray.getElem_eq_getElem_data]
set_option maxRecDepth 100000 in
set_option maxHeartbeats 16000000 in
theorem refMark_any (r : Rt) (w : World) : Calls Tryz.prog 38 #[.agg (encR r).toArray] w fun e w' => e = .returned (.int .u64 (mk r)) ∧ Below w.heap.size w w' := by
  obtain ⟨M, hM⟩ : ∃ M, IntKind.u64.wrap r.metric = M := ⟨_, rfl⟩
  obtain ⟨S, hS⟩ : ∃ S, IntKind.u64.wrap r.seq = S := ⟨_, rfl⟩
  obtain ⟨PB, hPB⟩ : ∃ l, pbs r.to = l := ⟨_, rfl⟩
  have hap1 : str (be8 M) ++ str (be8 S) = str (num16 r) := by rw [str_app]; unfold num16; rw [hM, hS]
  have hap2 : str PB ++ str (num16 r) = str (mby r) := by rw [str_app]; unfold mby; rw [hPB]
  have hs1 : ¬ 9223372036854775807 < (str (be8 M)).size + (str (be8 S)).size := by rw [str_size, str_size, be8_len, be8_len]; omega
  have hs2 : ¬ 9223372036854775807 < (str PB).size + (str (num16 r)).size := by rw [str_size, str_size, num16_len, ← hPB]; have := pbs_len r.to; omega
  have HML := Lib.hid (mby_len r)
  have HMS := Lib.hid (fun i (hi : i < (mby r).length) => mixes_step hi)
  obtain ⟨m, hm⟩ : ∃ m, (mby r).length = m := ⟨_, rfl⟩
  have HMM := Lib.hid hm
  have hsz : (str (mby r)).size = m := by rw [str_size]; exact hm
  have hm33 : m ≤ 33 := by rw [← hm]; exact HML.out
  clear hm
  by_cases hr : rightP r.to = true
  · have HRB := Lib.hid (fun V => refBytes_any r.to hr V)
    have HPP := Lib.hid (show pb r.to = PB by rw [← hPB]; unfold pbs; rw [if_pos hr])
    rw [HPP.out] at HRB
    have HV := Lib.hid hr
    clear hr hPB
    go_enter Tryz.func38, Tryz.ntmps38
    go_upto_region 1 with fail
    have H := Lib.hid (rAt_new w r 36 (0, 0))
    have hb := Lib.hid (show Below w.heap.size w (w.alloc (.cells (encR r).toArray 36 (0, 0))) from (Below.refl _ _).alloc (Nat.le_refl _) _)
    generalize w.alloc _ = W at H hb ⊢
    generalize w.heap.size = B at H ⊢
    have c0 := H.out.to.all.load (k := n18) (encP_n _) Tryz.prog
    go_upto_region 4 with (first
      | (go_at_call 69; (with_reducible refine (refRightP_any _ _).mono ?_); rintro e w3 ⟨rfl, h1⟩; rw [HV.out]; have H := Lib.hid (H.out.below h1); have hb := Lib.hid (hb.out.trans (h1.mono hb.out.size)); clear h1 c0; have c0 := H.out.to.all.load (k := n18) (encP_n _) Tryz.prog)
      | (go_at_call 70; (with_reducible refine (HRB.out _).mono ?_); rintro e w4 ⟨rfl, h1⟩; have H := Lib.hid (H.out.below h1); have hb := Lib.hid (hb.out.trans (h1.mono hb.out.size)); clear h1 c0))
    have H := Lib.hid H.out.drew
    have hb := Lib.hid hb.out.drew
    refine wp_region_held_drew (S := (fun w' => RAt w' B 0 r)) (by kernel_rfl) H.out (fun _ => ?_)
    refine held_take 0 12 (v := ?_) rfl rfl (by kernel_rfl) (by kernel_rfl) (by kernel_rfl) (fun _ _ _ h => h) (by rfl) ?_ H.out ?_
    rotate_left
    · (intro w hSw; (try dsimp only at hSw); have a0 := hSw.met; have a1 := hSw.seq; clear hSw;try simp only [List.getElem_toArray, List.getElem_cons_zero, List.getElem_cons_succ]; go_simp; try (with_reducible rfl))
    try simp only [List.setIfInBounds_toArray, List.set_cons_zero, List.set_cons_succ]
    refine held_take 1 13 (v := ?_) rfl rfl (by kernel_rfl) (by kernel_rfl) (by kernel_rfl) (fun _ _ _ h => h) (by rfl) ?_ H.out ?_
    rotate_left
    · (intro w hSw; (try dsimp only at hSw); have a0 := hSw.met; have a1 := hSw.seq; clear hSw;try simp only [List.getElem_toArray, List.getElem_cons_zero, List.getElem_cons_succ]; go_simp; try (with_reducible rfl))
    try simp only [List.setIfInBounds_toArray, List.set_cons_zero, List.set_cons_succ]
    refine held_take 2 14 (v := ?_) rfl rfl (by kernel_rfl) (by kernel_rfl) (by kernel_rfl) (fun _ _ _ h => h) (by rfl) ?_ H.out ?_
    rotate_left
    · (intro w hSw; (try dsimp only at hSw); have a0 := hSw.met; have a1 := hSw.seq; clear hSw;try simp only [List.getElem_toArray, List.getElem_cons_zero, List.getElem_cons_succ]; go_simp; try (with_reducible rfl))
    try simp only [List.setIfInBounds_toArray, List.set_cons_zero, List.set_cons_succ]
    refine held_take 3 15 (v := ?_) rfl rfl (by kernel_rfl) (by kernel_rfl) (by kernel_rfl) (fun _ _ _ h => h) (by rfl) ?_ H.out ?_
    rotate_left
    · (intro w hSw; (try dsimp only at hSw); have a0 := hSw.met; have a1 := hSw.seq; clear hSw;try simp only [List.getElem_toArray, List.getElem_cons_zero, List.getElem_cons_succ]; go_simp; try (with_reducible rfl))
    try simp only [List.setIfInBounds_toArray, List.set_cons_zero, List.set_cons_succ]
    refine held_take 5 17 (v := ?_) rfl rfl (by kernel_rfl) (by kernel_rfl) (by kernel_rfl) (fun _ _ _ h => h) (by rfl) ?_ H.out ?_
    rotate_left
    · (intro w hSw; (try dsimp only at hSw); have a0 := hSw.met; have a1 := hSw.seq; clear hSw;try simp only [List.getElem_toArray, List.getElem_cons_zero, List.getElem_cons_succ]; go_simp; try (with_reducible rfl))
    try simp only [List.setIfInBounds_toArray, List.set_cons_zero, List.set_cons_succ]
    refine held_take 6 18 (v := ?_) rfl rfl (by kernel_rfl) (by kernel_rfl) (by kernel_rfl) (fun _ _ _ h => h) (by rfl) ?_ H.out ?_
    rotate_left
    · (intro w hSw; (try dsimp only at hSw); have a0 := hSw.met; have a1 := hSw.seq; clear hSw;try simp only [List.getElem_toArray, List.getElem_cons_zero, List.getElem_cons_succ]; go_simp; try (with_reducible rfl))
    try simp only [List.setIfInBounds_toArray, List.set_cons_zero, List.set_cons_succ]
    refine held_take 7 19 (v := ?_) rfl rfl (by kernel_rfl) (by kernel_rfl) (by kernel_rfl) (fun _ _ _ h => h) (by rfl) ?_ H.out ?_
    rotate_left
    · (intro w hSw; (try dsimp only at hSw); have a0 := hSw.met; have a1 := hSw.seq; clear hSw;try simp only [List.getElem_toArray, List.getElem_cons_zero, List.getElem_cons_succ]; go_simp; try (with_reducible rfl))
    try simp only [List.setIfInBounds_toArray, List.set_cons_zero, List.set_cons_succ]
    refine held_call 4 16 rfl rfl (by kernel_rfl) (by rfl) (fun K hK => ?_)
    try simp only [List.getElem_toArray, List.getElem_cons_zero, List.getElem_cons_succ]
    go_simp
    (go_at_call 71; (with_reducible refine (eight_any _ _).mono ?_); rintro e w5 ⟨rfl, h1⟩; have H := Lib.hid (H.out.below h1); have hb := Lib.hid (hb.out.trans (h1.mono hb.out.size)); clear h1)
    try go_wp2_with fail
    try simp only [Act.put, List.setIfInBounds_toArray, List.set_cons_zero, List.set_cons_succ]
    refine hK.out _ _ _ H.out ?_
    clear hK K
    refine held_call 8 20 rfl rfl (by kernel_rfl) (by rfl) (fun K hK => ?_)
    try simp only [List.getElem_toArray, List.getElem_cons_zero, List.getElem_cons_succ]
    go_simp
    (go_at_call 71; (with_reducible refine (eight_any _ _).mono ?_); rintro e w6 ⟨rfl, h1⟩; have H := Lib.hid (H.out.below h1); have hb := Lib.hid (hb.out.trans (h1.mono hb.out.size)); clear h1)
    try go_wp2_with fail
    try simp only [Act.put, List.setIfInBounds_toArray, List.set_cons_zero, List.set_cons_succ]
    refine hK.out _ _ _ H.out ?_
    clear hK K
    refine held_take 9 21 (v := ?_) rfl rfl (by kernel_rfl) (by kernel_rfl) (by kernel_rfl) (fun _ _ _ h => h) (by rfl) ?_ H.out ?_
    rotate_left
    · (intro w hSw; (try dsimp only at hSw); have a0 := hSw.met; have a1 := hSw.seq; clear hSw;try simp only [List.getElem_toArray, List.getElem_cons_zero, List.getElem_cons_succ]; go_simp; try (with_reducible rfl))
    try simp only [List.setIfInBounds_toArray, List.set_cons_zero, List.set_cons_succ]
    refine held_take 10 22 (v := ?_) rfl rfl (by kernel_rfl) (by kernel_rfl) (by kernel_rfl) (fun _ _ _ h => h) (by rfl) ?_ H.out ?_
    rotate_left
    · (intro w hSw; (try dsimp only at hSw); have a0 := hSw.met; have a1 := hSw.seq; clear hSw;try simp only [List.getElem_toArray, List.getElem_cons_zero, List.getElem_cons_succ]; go_simp; try (with_reducible rfl))
    try simp only [List.setIfInBounds_toArray, List.set_cons_zero, List.set_cons_succ]
    refine held_take 11 3 (v := ?_) rfl rfl (by kernel_rfl) (by kernel_rfl) (by kernel_rfl) (fun _ _ _ h => h) (by rfl) ?_ H.out ?_
    rotate_left
    · (intro w hSw; (try dsimp only at hSw); have a0 := hSw.met; have a1 := hSw.seq; clear hSw;try simp only [List.getElem_toArray, List.getElem_cons_zero, List.getElem_cons_succ]; go_simp; try (with_reducible rfl))
    try simp only [List.setIfInBounds_toArray, List.set_cons_zero, List.set_cons_succ]
    refine wpAnyH_done (by kernel_rfl) ?_ _
    rename World => wa
    clear H
    go_wp2
    go_loopw [4, 5] (fun s4 s5 wr => ∃ i : Nat, i ≤ m ∧ s5 = .int .i64 i ∧ s4 = .int .u64 (mixes ((mby r).take i)) ∧ Below wa.heap.size wa wr) (fun _ s5 _ => m - (intOf s5).toNat)
    case atStart => exact ⟨0, by omega, rfl, by rw [List.take_zero]; rfl, Below.refl _ _⟩
    case round =>
      obtain ⟨i, hi, rfl, rfl, hww⟩ := hrel
      have HW := Lib.hid hww
      clear hww
      by_cases hlt : i < m
      · have hlt' : (i : Int) < (m : Int) := by omega
        have i0 : (0 : Int) ≤ (i : Int) := by omega
        have hil : i < (mby r).length := by rw [HMM.out]; exact hlt
        have HX := Lib.hid (HMS.out i hil)
        have hix := str_idx (mby r) i hil wr
        generalize (mby r)[i] = c at HX hix
        have hc64 : IntKind.u64.wrap (c.toNat : Int) = (c.toNat : Int) := by have := c.toNat_lt; simp [IntKind.wrap, IntKind.bits, IntKind.signed]; omega
        generalize mixes ((mby r).take i) = x at HX ⊢
        clear hil
        go_wp2_with (go_at_call 72; (with_reducible refine (refMix_any _ _).mono ?_); rintro e w9 ⟨rfl, rfl⟩)
        go_roundw
        case rel => exact ⟨i + 1, by omega, by go_num, by rw [HX.out], HW.out⟩
        case measure => simp [intOf]; omega
      · obtain rfl : i = m := by omega
        have hii : ¬ (i : Int) < (i : Int) := by omega
        have HZ := Lib.hid (show mixes ((mby r).take i) = mk r by unfold mk; rw [List.take_of_length_le (by rw [HMM.out]; exact Nat.le_refl _)])
        generalize mixes ((mby r).take i) = x at HZ ⊢
        go_wp2
        go_ret
        rw [HZ.out]
        exact ⟨rfl, hb.out.trans (HW.out.mono hb.out.size)⟩
  · have hr' : rightP r.to = false := by simpa using hr
    have HV := Lib.hid hr'
    have HPE := Lib.hid (show PB = [] by rw [← hPB]; unfold pbs; rw [if_neg hr])
    clear hr hr' hPB
    go_enter Tryz.func38, Tryz.ntmps38
    go_upto_region 1 with fail
    have H := Lib.hid (rAt_new w r 36 (0, 0))
    have hb := Lib.hid (show Below w.heap.size w (w.alloc (.cells (encR r).toArray 36 (0, 0))) from (Below.refl _ _).alloc (Nat.le_refl _) _)
    generalize w.alloc _ = W at H hb ⊢
    generalize w.heap.size = B at H ⊢
    have c0 := H.out.to.all.load (k := n18) (encP_n _) Tryz.prog
    go_upto_region 4 with (first
      | (go_at_call 69; (with_reducible refine (refRightP_any _ _).mono ?_); rintro e w3 ⟨rfl, h1⟩; rw [HV.out]; have H := Lib.hid (H.out.below h1); have hb := Lib.hid (hb.out.trans (h1.mono hb.out.size)); clear h1 c0))
    rw [show ({ data := #[] } : ByteArray) = str PB by rw [HPE.out]; rfl]
    have H := Lib.hid H.out.drew
    have hb := Lib.hid hb.out.drew
    refine wp_region_held_drew (S := (fun w' => RAt w' B 0 r)) (by kernel_rfl) H.out (fun _ => ?_)
    refine held_take 0 12 (v := ?_) rfl rfl (by kernel_rfl) (by kernel_rfl) (by kernel_rfl) (fun _ _ _ h => h) (by rfl) ?_ H.out ?_
    rotate_left
    · (intro w hSw; (try dsimp only at hSw); have a0 := hSw.met; have a1 := hSw.seq; clear hSw;try simp only [List.getElem_toArray, List.getElem_cons_zero, List.getElem_cons_succ]; go_simp; try (with_reducible rfl))
    try simp only [List.setIfInBounds_toArray, List.set_cons_zero, List.set_cons_succ]
    refine held_take 1 13 (v := ?_) rfl rfl (by kernel_rfl) (by kernel_rfl) (by kernel_rfl) (fun _ _ _ h => h) (by rfl) ?_ H.out ?_
    rotate_left
    · (intro w hSw; (try dsimp only at hSw); have a0 := hSw.met; have a1 := hSw.seq; clear hSw;try simp only [List.getElem_toArray, List.getElem_cons_zero, List.getElem_cons_succ]; go_simp; try (with_reducible rfl))
    try simp only [List.setIfInBounds_toArray, List.set_cons_zero, List.set_cons_succ]
    refine held_take 2 14 (v := ?_) rfl rfl (by kernel_rfl) (by kernel_rfl) (by kernel_rfl) (fun _ _ _ h => h) (by rfl) ?_ H.out ?_
    rotate_left
    · (intro w hSw; (try dsimp only at hSw); have a0 := hSw.met; have a1 := hSw.seq; clear hSw;try simp only [List.getElem_toArray, List.getElem_cons_zero, List.getElem_cons_succ]; go_simp; try (with_reducible rfl))
    try simp only [List.setIfInBounds_toArray, List.set_cons_zero, List.set_cons_succ]
    refine held_take 3 15 (v := ?_) rfl rfl (by kernel_rfl) (by kernel_rfl) (by kernel_rfl) (fun _ _ _ h => h) (by rfl) ?_ H.out ?_
    rotate_left
    · (intro w hSw; (try dsimp only at hSw); have a0 := hSw.met; have a1 := hSw.seq; clear hSw;try simp only [List.getElem_toArray, List.getElem_cons_zero, List.getElem_cons_succ]; go_simp; try (with_reducible rfl))
    try simp only [List.setIfInBounds_toArray, List.set_cons_zero, List.set_cons_succ]
    refine held_take 5 17 (v := ?_) rfl rfl (by kernel_rfl) (by kernel_rfl) (by kernel_rfl) (fun _ _ _ h => h) (by rfl) ?_ H.out ?_
    rotate_left
    · (intro w hSw; (try dsimp only at hSw); have a0 := hSw.met; have a1 := hSw.seq; clear hSw;try simp only [List.getElem_toArray, List.getElem_cons_zero, List.getElem_cons_succ]; go_simp; try (with_reducible rfl))
    try simp only [List.setIfInBounds_toArray, List.set_cons_zero, List.set_cons_succ]
    refine held_take 6 18 (v := ?_) rfl rfl (by kernel_rfl) (by kernel_rfl) (by kernel_rfl) (fun _ _ _ h => h) (by rfl) ?_ H.out ?_
    rotate_left
    · (intro w hSw; (try dsimp only at hSw); have a0 := hSw.met; have a1 := hSw.seq; clear hSw;try simp only [List.getElem_toArray, List.getElem_cons_zero, List.getElem_cons_succ]; go_simp; try (with_reducible rfl))
    try simp only [List.setIfInBounds_toArray, List.set_cons_zero, List.set_cons_succ]
    refine held_take 7 19 (v := ?_) rfl rfl (by kernel_rfl) (by kernel_rfl) (by kernel_rfl) (fun _ _ _ h => h) (by rfl) ?_ H.out ?_
    rotate_left
    · (intro w hSw; (try dsimp only at hSw); have a0 := hSw.met; have a1 := hSw.seq; clear hSw;try simp only [List.getElem_toArray, List.getElem_cons_zero, List.getElem_cons_succ]; go_simp; try (with_reducible rfl))
    try simp only [List.setIfInBounds_toArray, List.set_cons_zero, List.set_cons_succ]
    refine held_call 4 16 rfl rfl (by kernel_rfl) (by rfl) (fun K hK => ?_)
    try simp only [List.getElem_toArray, List.getElem_cons_zero, List.getElem_cons_succ]
    go_simp
    (go_at_call 71; (with_reducible refine (eight_any _ _).mono ?_); rintro e w5 ⟨rfl, h1⟩; have H := Lib.hid (H.out.below h1); have hb := Lib.hid (hb.out.trans (h1.mono hb.out.size)); clear h1)
    try go_wp2_with fail
    try simp only [Act.put, List.setIfInBounds_toArray, List.set_cons_zero, List.set_cons_succ]
    refine hK.out _ _ _ H.out ?_
    clear hK K
    refine held_call 8 20 rfl rfl (by kernel_rfl) (by rfl) (fun K hK => ?_)
    try simp only [List.getElem_toArray, List.getElem_cons_zero, List.getElem_cons_succ]
    go_simp
    (go_at_call 71; (with_reducible refine (eight_any _ _).mono ?_); rintro e w6 ⟨rfl, h1⟩; have H := Lib.hid (H.out.below h1); have hb := Lib.hid (hb.out.trans (h1.mono hb.out.size)); clear h1)
    try go_wp2_with fail
    try simp only [Act.put, List.setIfInBounds_toArray, List.set_cons_zero, List.set_cons_succ]
    refine hK.out _ _ _ H.out ?_
    clear hK K
    refine held_take 9 21 (v := ?_) rfl rfl (by kernel_rfl) (by kernel_rfl) (by kernel_rfl) (fun _ _ _ h => h) (by rfl) ?_ H.out ?_
    rotate_left
    · (intro w hSw; (try dsimp only at hSw); have a0 := hSw.met; have a1 := hSw.seq; clear hSw;try simp only [List.getElem_toArray, List.getElem_cons_zero, List.getElem_cons_succ]; go_simp; try (with_reducible rfl))
    try simp only [List.setIfInBounds_toArray, List.set_cons_zero, List.set_cons_succ]
    refine held_take 10 22 (v := ?_) rfl rfl (by kernel_rfl) (by kernel_rfl) (by kernel_rfl) (fun _ _ _ h => h) (by rfl) ?_ H.out ?_
    rotate_left
    · (intro w hSw; (try dsimp only at hSw); have a0 := hSw.met; have a1 := hSw.seq; clear hSw;try simp only [List.getElem_toArray, List.getElem_cons_zero, List.getElem_cons_succ]; go_simp; try (with_reducible rfl))
    try simp only [List.setIfInBounds_toArray, List.set_cons_zero, List.set_cons_succ]
    refine held_take 11 3 (v := ?_) rfl rfl (by kernel_rfl) (by kernel_rfl) (by kernel_rfl) (fun _ _ _ h => h) (by rfl) ?_ H.out ?_
    rotate_left
    · (intro w hSw; (try dsimp only at hSw); have a0 := hSw.met; have a1 := hSw.seq; clear hSw;try simp only [List.getElem_toArray, List.getElem_cons_zero, List.getElem_cons_succ]; go_simp; try (with_reducible rfl))
    try simp only [List.setIfInBounds_toArray, List.set_cons_zero, List.set_cons_succ]
    refine wpAnyH_done (by kernel_rfl) ?_ _
    rename World => wa
    clear H
    go_wp2
    go_loopw [4, 5] (fun s4 s5 wr => ∃ i : Nat, i ≤ m ∧ s5 = .int .i64 i ∧ s4 = .int .u64 (mixes ((mby r).take i)) ∧ Below wa.heap.size wa wr) (fun _ s5 _ => m - (intOf s5).toNat)
    case atStart => exact ⟨0, by omega, rfl, by rw [List.take_zero]; rfl, Below.refl _ _⟩
    case round =>
      obtain ⟨i, hi, rfl, rfl, hww⟩ := hrel
      have HW := Lib.hid hww
      clear hww
      by_cases hlt : i < m
      · have hlt' : (i : Int) < (m : Int) := by omega
        have i0 : (0 : Int) ≤ (i : Int) := by omega
        have hil : i < (mby r).length := by rw [HMM.out]; exact hlt
        have HX := Lib.hid (HMS.out i hil)
        have hix := str_idx (mby r) i hil wr
        generalize (mby r)[i] = c at HX hix
        have hc64 : IntKind.u64.wrap (c.toNat : Int) = (c.toNat : Int) := by have := c.toNat_lt; simp [IntKind.wrap, IntKind.bits, IntKind.signed]; omega
        generalize mixes ((mby r).take i) = x at HX ⊢
        clear hil
        go_wp2_with (go_at_call 72; (with_reducible refine (refMix_any _ _).mono ?_); rintro e w9 ⟨rfl, rfl⟩)
        go_roundw
        case rel => exact ⟨i + 1, by omega, by go_num, by rw [HX.out], HW.out⟩
        case measure => simp [intOf]; omega
      · obtain rfl : i = m := by omega
        have hii : ¬ (i : Int) < (i : Int) := by omega
        have HZ := Lib.hid (show mixes ((mby r).take i) = mk r by unfold mk; rw [List.take_of_length_le (by rw [HMM.out]; exact Nat.le_refl _)])
        generalize mixes ((mby r).take i) = x at HZ ⊢
        go_wp2
        go_ret
        rw [HZ.out]
        exact ⟨rfl, hb.out.trans (HW.out.mono hb.out.size)⟩
end Dig
end Go.Proofs.YtdcbbjlbfghpbaaGreat
