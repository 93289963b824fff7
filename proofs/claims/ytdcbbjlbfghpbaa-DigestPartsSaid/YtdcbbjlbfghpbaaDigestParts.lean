/-
  DigestParts: the walk. Conditions: none.
-/
import Derived.Test.YtdcbbjlbfghpbaaDk
namespace Go.Proofs.Ytdcbbjlbfghpbaa.DigestParts
open Go Go.RowKit H2 Tab Dig
set_option linter.unusedVariables false
set_option linter.unusedSimpArgs false
set_option maxRecDepth 100000 in
set_option maxHeartbeats 40000000 in
theorem walk (v0 : Value) (W : World) (w0 : Tab.IsRs W v0) : Calls Try.prog 5 #[v0] W fun e w' => e = .returned (.bool true) ∧ Below W.heap.size W w' := by
  obtain ⟨A, cap, L, rfl, hl, hr⟩ := w0
  have HR := Lib.hid hr
  obtain ⟨n, hn⟩ : ∃ n, L.length = n := ⟨_, rfl⟩
  have HN := Lib.hid hn
  rw [hn] at hl ⊢
  unfold maxLen at hl
  have hl := Nat.le_trans hl.1 hl.2
  clear hr hn
  have n0 : (0 : Int) ≤ (n : Int) := by omega
  have hb := Lib.hid (Below.refl W.heap.size W)
  by_cases hbig : (300 : Int) < (n : Int)
  · have hbd : decide ((300 : Int) < (n : Int)) = true := decide_eq_true hbig
    go_enter Try.func5, Try.ntmps5
    go_wp2_with (first
      | (go_at_call 8; (with_reducible refine (Dig.awake_any _).mono ?_); rintro e w1 ⟨rfl, h1⟩; have hb := Lib.hid (hb.out.trans (h1.mono hb.out.size)); clear h1))
    go_ret
    exact ⟨rfl, hb.out⟩
  have hbd : decide ((300 : Int) < (n : Int)) = false := decide_eq_false hbig
  have hn3 : n ≤ 300 := by omega
  have HNI := Lib.hid (Dig.rd_nil HR.out)
  obtain ⟨ca, hca⟩ : ∃ c, newC L = c := ⟨_, rfl⟩
  have HCA := Lib.hid hca
  clear hca
  by_cases hca : ca = 0
  · subst hca
    obtain ⟨T, hT⟩ : ∃ T, fold L = T := ⟨_, rfl⟩
    have HTF := Lib.hid hT
    clear hT
    go_enter Try.func5, Try.ntmps5
    go_upto_region 6 with (first
      | (go_at_call 8; (with_reducible refine (Dig.awake_any _).mono ?_); rintro e w1 ⟨rfl, h1⟩; have hb := Lib.hid (hb.out.trans (h1.mono hb.out.size)); clear h1)
      | (refine wpList_row_run (o := ⟨some 21, .buildSlice 22 0 #[], _, _, _, _⟩) rfl 22 0 #[] rfl #[] (by simp) (row_R0 _) ?_)
      | (refine wpList_appR rfl (.tmp 21) (.tmp 22) rfl _ [] L A n cap HN.out rfl rfl (gr_zero w1) ((HR.out.below hb.out).below ((Below.refl _ _).alloc (Nat.le_refl _) _)) HNI.out (by have := HN.out; simp; omega) ?_; rintro v7 w7 h7 _; rw [List.nil_append] at h7; have hb := Lib.hid (hb.out.trans (h7.bel.mono hb.out.size)); obtain ⟨A7, c7, hv7⟩ := h7.rv; obtain rfl := hv7.eq; have HNW := Lib.hid (new_any A7 c7 L (by have := HN.out; omega) w7 hv7); clear h7 hv7)
      | (go_at_call 9; (with_reducible refine (HNW.out).mono ?_); rintro e w8 ⟨h8, h9⟩; obtain ⟨b8, v8, h10, h11⟩ := made_ok h8 HCA.out HTF.out; subst h10; have HT8 := Lib.hid h11; clear h11; have hb := Lib.hid (hb.out.trans (h9.mono hb.out.size)); clear h8 h9))
    have HTL := Lib.hid HT8.out.tok.len
    go_upto_region 7 with (go_at_call 18; (with_reducible refine (digAll_any _ HT8.out).mono ?_); rintro e w5 ⟨⟨g5, rfl, _, h1⟩, hb1⟩; have HD5 := Lib.hid h1; have HT5 := Lib.hid (HT8.out.below hb1); have hb := Lib.hid (hb.out.trans (hb1.mono hb.out.size)); clear h1 hb1)
    clear HT8
    have HPT := Lib.hid (fun (k : Nat) (V : World) (hb : Below w5.heap.size w5 V) => digPart_any (k : Int) V (HT5.out.below hb))
    have HLE := Lib.hid (fun (V : World) (hb : Below w5.heap.size w5 V) => len_any V (HT5.out.below hb))
    have HDF := Lib.hid (fun (V : World) (hb : Below w5.heap.size w5 V) => differ_any (some ⟨g5, 0, none⟩) (some ⟨g5, 0, none⟩) 17 17 17 17 (dgs T) (dgs T) V (HD5.out.below hb).rd (HD5.out.below hb).rd)
    have HDP := Lib.hid (fun k => dgs_part T k)
    have HCS := Lib.hid (fun k => cnt_succ T k)
    have HCL := Lib.hid (show cnt T 17 = T.length from cnt_all T)
    have HCM := Lib.hid (fun k => show cnt T k ≤ T.length from List.length_filter_le _ _)
    go_wp2
    go_loopw [6, 31] (fun s6 s31 wr => ∃ k : Nat, k ≤ 17 ∧ s31 = .int .i64 k ∧ s6 = .int .i64 (cnt T k) ∧ Below w5.heap.size w5 wr) (fun _ s31 _ => 17 - (intOf s31).toNat)
    case atStart => exact ⟨0, by omega, rfl, by rw [cnt_zero]; rfl, Below.refl _ _⟩
    case round =>
      obtain ⟨k, hk, rfl, rfl, hbb⟩ := hrel
      have HB := Lib.hid hbb
      clear hbb
      by_cases hlt : k < 17
      · have hlt' : (k : Int) < 17 := by omega
        have k0 : (0 : Int) ≤ (k : Int) := by omega
        go_upto_region 12 with (go_at_call 21; (with_reducible refine (HPT.out k _ HB.out).mono ?_); rintro e w12 ⟨v12, rfl, h1, hb1⟩; obtain ⟨A12, c12, hv12, _⟩ := own_rv h1; obtain rfl := hv12.eq; have HR12 := Lib.hid hv12.rd; have HB12 := Lib.hid (HB.out.trans (hb1.mono HB.out.size)); clear h1 hb1 hv12)
        obtain ⟨P, hP⟩ : ∃ P, T.filter (inK k) = P := ⟨_, rfl⟩
        have HPF := Lib.hid (fun r (h : r ∈ P) => show bk r.to = k by
          rw [← hP, List.mem_filter] at h
          have := of_decide_eq_true h.2
          omega)
        have HPL := Lib.hid (show P.length ≤ T.length by rw [← hP]; exact List.length_filter_le _ _)
        have HDK := Lib.hid (show dgs T k = ((P.length : Int), ms P 0) by rw [HDP.out, hP])
        have HCK := Lib.hid (show cnt T (k + 1) = cnt T k + P.length by rw [HCS.out, hP])
        rw [hP] at HR12 ⊢
        clear hP
        obtain ⟨m, hm⟩ : ∃ m, P.length = m := ⟨_, rfl⟩
        have HM := Lib.hid hm
        rw [hm] at HDK HCK HPL ⊢
        clear hm
        have hm3 : m ≤ 300 := Nat.le_trans HPL.out HTL.out
        go_wp2
        go_loopw [9, 39] (fun s9 s39 wq => ∃ i : Nat, i ≤ m ∧ s39 = .int .i64 i ∧ s9 = .int .u64 (ms (P.take i) 0) ∧ Below w12.heap.size w12 wq) (fun _ s39 _ => m - (intOf s39).toNat)
        case atStart => exact ⟨0, by omega, rfl, by rw [List.take_zero]; rfl, Below.refl _ _⟩
        case round =>
          obtain ⟨i, hi, rfl, rfl, hbq⟩ := hrel
          have HQ := Lib.hid hbq
          clear hbq
          rename World => wq
          by_cases hil : i < m
          · have hil' : (i : Int) < (m : Int) := by omega
            have i0 : (0 : Int) ≤ (i : Int) := by omega
            have hip : i < P.length := by rw [HM.out]; exact hil
            obtain ⟨g2, o, rfl, hx⟩ := HR12.out i hip
            have HX := Lib.hid (hx.below HQ.out)
            have HMT := Lib.hid (ms_take hip)
            have HBK := Lib.hid (HPF.out P[i] (List.getElem_mem hip))
            clear hx
            generalize P[i] = x at HX HMT HBK
            generalize ms (P.take i) 0 = S at HMT ⊢
            have hl1 : Sem.run Try.prog (loadCellsFrom ⟨g2, o + i * n20, none⟩ 0 n20 #[]) wq = .ok (encR x).toArray wq := HX.out.all.load (k := n20) (encR_n _) Try.prog
            have hst := store_row (o := 0) (vs := encR x) (heap_alloc_new wq (.cells (encR zR).toArray 37 (0, 0))) (by simp [encR_len]) (encR_one _) Try.prog
            rw [splice_whole (by simp [encR_len])] at hst
            go_upto_region 16 with fail
            have HBX := Lib.hid (setRow_heap (wq.alloc (.cells (encR zR).toArray 37 (0, 0))) wq.heap.size _ (encR x).toArray 37 (0, 0) (heap_alloc_new wq _))
            have hbx := Lib.hid (below_setRow ((Below.refl wq.heap.size wq).alloc (Nat.le_refl _) (.cells (encR zR).toArray 37 (0, 0))) (Nat.le_refl _) (encR x).toArray)
            clear hst hl1 HX
            have HQ := Lib.hid (HQ.out.trans (hbx.out.mono HQ.out.size))
            clear hbx
            generalize (World.alloc _ _).setRow _ _ = W5 at HBX HQ ⊢
            generalize wq.heap.size = B5 at HBX ⊢
            have HX5 := Lib.hid (show RAt W5 B5 0 x from ⟨at_row HBX.out⟩)
            clear HBX
            have c0 := HX5.out.to.all.load (k := n18) (encP_n _) Try.prog
            go_upto_region 18 with (go_at_call 15; (with_reducible refine (bucket_any _ _).mono ?_); rintro e w6 ⟨rfl, h1⟩; rw [HBK.out]; have HX6 := Lib.hid (HX5.out.below h1); have HQ := Lib.hid (HQ.out.trans (h1.mono HQ.out.size)); clear h1 c0)
            have c0 := HX6.out.all.load (k := n20) (encR_n _) Try.prog
            go_wp2_with (go_at_call 13; (with_reducible refine (mark_any _ _).mono ?_); rintro e w7 ⟨rfl, h1⟩; have HQ := Lib.hid (HQ.out.trans (h1.mono HQ.out.size)); clear h1 c0)
            go_roundw
            case rel => exact ⟨i + 1, by omega, by go_num, by rw [HMT.out], HQ.out⟩
            case measure => simp [intOf]; omega
          · have him : i = m := by omega
            have hin : ¬ (i : Int) < (m : Int) := by omega
            have HE := Lib.hid (show ms (P.take i) 0 = ms P 0 by rw [List.take_of_length_le (by rw [HM.out]; omega)])
            rw [HE.out]
            clear HE
            generalize ms P 0 = S at HDK ⊢
            have HD := Lib.hid ((HD5.out.below HB12.out).below HQ.out)
            obtain ⟨z1, _⟩ := HD.out.n hlt
            obtain ⟨z2, _⟩ := HD.out.s hlt
            rw [HDK.out] at z1 z2
            have hcm : cnt T k + m ≤ 300 := by rw [← HCK.out]; exact Nat.le_trans (HCM.out _) HTL.out
            have hcw : IntKind.i64.wrap ((cnt T k : Int) + (m : Int)) = (cnt T k : Int) + (m : Int) := IntWalk.i64_in _ (by omega)
            clear him
            go_wp2
            go_roundw
            case rel => exact ⟨k + 1, by omega, by go_num, by rw [HCK.out]; go_num, HB12.out.trans (HQ.out.mono HB12.out.size)⟩
            case measure => simp [intOf]; omega
      · obtain rfl : k = 17 := by omega
        rename World => wr
        rw [show ((17 : Nat) : Int) = 17 from rfl, HCL.out]
        have HB2 := HB
        go_wp2_with (first
          | (go_at_call 25; (with_reducible refine (HLE.out _ HB.out).mono ?_); rintro e w14 ⟨rfl, rfl⟩)
          | (go_at_call 23; (with_reducible refine (HDF.out _ HB.out).mono ?_); rintro e w24 ⟨v24, rfl, h1⟩; rw [difs_self] at h1; obtain ⟨A24, c24, hv24, _⟩ := gn_rd h1; subst hv24; have HB2 := Lib.hid (HB.out.trans (h1.bel.mono HB.out.size)); clear h1))
        go_ret
        exact ⟨rfl, hb.out.trans (HB2.out.mono hb.out.size)⟩
  · have hca' : (ca == 0) = false := by simpa using hca
    have hca2 : decide (¬ ca = 0) = true := decide_eq_true hca
    have hca3 : (ca != 0) = true := by simpa using hca
    go_enter Try.func5, Try.ntmps5
    go_wp2_with (first
      | (go_at_call 8; (with_reducible refine (Dig.awake_any _).mono ?_); rintro e w1 ⟨rfl, h1⟩; have hb := Lib.hid (hb.out.trans (h1.mono hb.out.size)); clear h1)
      | (refine wpList_row_run (o := ⟨some 21, .buildSlice 22 0 #[], _, _, _, _⟩) rfl 22 0 #[] rfl #[] (by simp) (row_R0 _) ?_)
      | (refine wpList_appR rfl (.tmp 21) (.tmp 22) rfl _ [] L A n cap HN.out rfl rfl (gr_zero w1) ((HR.out.below hb.out).below ((Below.refl _ _).alloc (Nat.le_refl _) _)) HNI.out (by have := HN.out; simp; omega) ?_; rintro v7 w7 h7 _; rw [List.nil_append] at h7; have hb := Lib.hid (hb.out.trans (h7.bel.mono hb.out.size)); obtain ⟨A7, c7, hv7⟩ := h7.rv; obtain rfl := hv7.eq; have HNW := Lib.hid (new_any A7 c7 L (by have := HN.out; omega) w7 hv7); clear h7 hv7)
      | (go_at_call 9; (with_reducible refine (HNW.out).mono ?_); rintro e w8 ⟨h8, h9⟩; have h10 := made_no h8 HCA.out hca; subst h10; have hb := Lib.hid (hb.out.trans (h9.mono hb.out.size)); clear h8 h9))
    go_ret
    exact ⟨rfl, hb.out⟩
end Go.Proofs.Ytdcbbjlbfghpbaa.DigestParts
