/-
  TableBetween: the walk. Conditions: none.
-/
import Derived.Test.YtbeoclcnajfjcaaLawP
import Derived.Test.YtbeoclcnajfjcaaOpenL
namespace Go.Proofs.Ytbeoclcnajfjcaa.TableBetween
open Go Go.RowKit H2 Tab
set_option linter.unusedVariables false
set_option linter.unusedSimpArgs false
set_option maxRecDepth 100000 in
set_option maxHeartbeats 40000000 in
theorem walk (v0 v1 v2 : Value) (W : World) (w0 : Tab.IsRs W v0) (w1 : Tab.IsP W v1) (w2 : Tab.IsP W v2) : Calls Try.prog 9 #[v0, v1, v2] W fun e w' => e = .returned (.bool true) ∧ Below W.heap.size W w' := by
  obtain ⟨A, cap, L, rfl, hl, hr⟩ := w0
  obtain ⟨p, rfl⟩ := w1
  obtain ⟨q, rfl⟩ := w2
  have HR := Lib.hid hr
  obtain ⟨n, hn⟩ : ∃ n, L.length = n := ⟨_, rfl⟩
  have HN := Lib.hid hn
  rw [hn] at hl ⊢
  unfold maxLen at hl
  have hl := Nat.le_trans hl.1 hl.2
  clear hr hn
  have n0 : (0 : Int) ≤ (n : Int) := by omega
  by_cases hbig : (200 : Int) < (n : Int)
  · have hbd : decide ((200 : Int) < (n : Int)) = true := decide_eq_true hbig
    go_enter Try.func9, Try.ntmps9
    go_upto_region 1 with fail
    have HP := Lib.hid ((((Below.refl (W.alloc (.cells (encP p).toArray 25 (0, 0))).heap.size _).alloc (Nat.le_refl _) (.cells (encP q).toArray 25 (0, 0))).block W.heap.size (by simp)).trans (heap_alloc_new W (.cells (encP p).toArray 25 (0, 0))))
    have HQ := Lib.hid (heap_alloc_new (W.alloc (.cells (encP p).toArray 25 (0, 0))) (.cells (encP q).toArray 25 (0, 0)))
    rw [show (W.alloc (.cells (encP p).toArray 25 (0, 0))).heap.size = W.heap.size + 1 by simp] at HQ
    have HB0 := Lib.hid (show Below W.heap.size W ((W.alloc (.cells (encP p).toArray 25 (0, 0))).alloc (.cells (encP q).toArray 25 (0, 0))) from (((Below.refl _ _).alloc (Nat.le_refl _) _).alloc (by simp) _))
    have HSZ := Lib.hid (show W.heap.size + 1 < ((W.alloc (.cells (encP p).toArray 25 (0, 0))).alloc (.cells (encP q).toArray 25 (0, 0))).heap.size by simp)
    generalize (W.alloc _).alloc _ = W0 at HP HQ HB0 HSZ ⊢
    have hb := Lib.hid (Below.refl W0.heap.size W0)
    obtain ⟨B2, hB2⟩ : ∃ b, W.heap.size + 1 = b := ⟨_, rfl⟩
    have HBB := Lib.hid (show W.heap.size < B2 ∧ W.heap.size ≤ B2 by omega)
    rw [hB2] at HQ HSZ ⊢
    obtain ⟨B, hB⟩ : ∃ b, W.heap.size = b := ⟨_, rfl⟩
    have HBL := Lib.hid (show W.heap.size ≤ B by omega)
    have HBB := Lib.hid (show B ≠ B2 ∧ W.heap.size ≤ B2 ∧ B < B2 by omega)
    rw [hB] at HP ⊢
    clear hB hB2
    go_wp2_with (first
      | (go_at_call 10; (with_reducible refine (awake_any _).mono ?_); rintro e w1 ⟨rfl, h1⟩; have hb := Lib.hid (hb.out.trans (h1.mono hb.out.size)); clear h1))
    go_ret
    exact ⟨rfl, HB0.out.trans (hb.out.mono HB0.out.size)⟩
  · have hbd : decide ((200 : Int) < (n : Int)) = false := decide_eq_false hbig
    go_enter Try.func9, Try.ntmps9
    go_upto_region 1 with fail
    have HP := Lib.hid ((((Below.refl (W.alloc (.cells (encP p).toArray 25 (0, 0))).heap.size _).alloc (Nat.le_refl _) (.cells (encP q).toArray 25 (0, 0))).block W.heap.size (by simp)).trans (heap_alloc_new W (.cells (encP p).toArray 25 (0, 0))))
    have HQ := Lib.hid (heap_alloc_new (W.alloc (.cells (encP p).toArray 25 (0, 0))) (.cells (encP q).toArray 25 (0, 0)))
    rw [show (W.alloc (.cells (encP p).toArray 25 (0, 0))).heap.size = W.heap.size + 1 by simp] at HQ
    have HB0 := Lib.hid (show Below W.heap.size W ((W.alloc (.cells (encP p).toArray 25 (0, 0))).alloc (.cells (encP q).toArray 25 (0, 0))) from (((Below.refl _ _).alloc (Nat.le_refl _) _).alloc (by simp) _))
    have HSZ := Lib.hid (show W.heap.size + 1 < ((W.alloc (.cells (encP p).toArray 25 (0, 0))).alloc (.cells (encP q).toArray 25 (0, 0))).heap.size by simp)
    generalize (W.alloc _).alloc _ = W0 at HP HQ HB0 HSZ ⊢
    have hb := Lib.hid (Below.refl W0.heap.size W0)
    obtain ⟨B2, hB2⟩ : ∃ b, W.heap.size + 1 = b := ⟨_, rfl⟩
    have HBB := Lib.hid (show W.heap.size < B2 ∧ W.heap.size ≤ B2 by omega)
    rw [hB2] at HQ HSZ ⊢
    obtain ⟨B, hB⟩ : ∃ b, W.heap.size = b := ⟨_, rfl⟩
    have HBL := Lib.hid (show W.heap.size ≤ B by omega)
    have HBB := Lib.hid (show B ≠ B2 ∧ W.heap.size ≤ B2 ∧ B < B2 by omega)
    rw [hB] at HP ⊢
    clear hB hB2
    go_wp2_with (first
      | (go_at_call 10; (with_reducible refine (awake_any _).mono ?_); rintro e w1 ⟨rfl, h1⟩; have hb := Lib.hid (hb.out.trans (h1.mono hb.out.size)); clear h1)
      | (go_at_call 11; (with_reducible refine (new_none _).mono ?_); rintro e w2 ⟨b, v, rfl, h1, h2⟩; have HT := Lib.hid h1; have HB := Lib.hid h2; clear h1 h2))
    have HP := Lib.hid ((hb.out.block B (by have := HSZ.out; have := HBB.out; omega)).trans HP.out)
    have HQ := Lib.hid ((hb.out.block B2 (by have := HSZ.out; omega)).trans HQ.out)
    have HSZ := Lib.hid (show B2 < w1.heap.size from Nat.lt_of_lt_of_le HSZ.out hb.out.size)
    go_loopw [29] (fun s29 wr => ∃ (k : Nat) (v : Value) (T : List Rt), k ≤ n ∧ s29 = .int .i64 k ∧ Tb w1.heap.size wr b v T ∧ Below w1.heap.size w1 wr) (fun s29 _ => n - (intOf s29).toNat)
    case atStart => exact ⟨0, v, [], by omega, rfl, HT.out, HB.out⟩
    case round =>
      obtain ⟨k, v, T, hk, rfl, ht, hbb⟩ := hrel
      have HT := Lib.hid ht
      have HB := Lib.hid hbb
      clear ht hbb
      by_cases hlt : k < n
      · have hlt' : (k : Int) < (n : Int) := by omega
        have k0 : (0 : Int) ≤ (k : Int) := by omega
        have hkl : k < L.length := by rw [HN.out]; exact hlt
        obtain ⟨g, o, rfl, hx⟩ := HR.out k hkl
        have HX := Lib.hid (((hx.below HB0.out).below hb.out).below HB.out)
        clear hx
        generalize L[k] = x at HX
        have hl1 : Sem.run Try.prog (loadCellsFrom ⟨g, o + k * n20, none⟩ 0 n20 #[]) wr = .ok (encR x).toArray wr := HX.out.all.load (k := n20) (encR_n _) Try.prog
        have hst := store_row (o := 0) (vs := encR x) (heap_alloc_new wr (.cells (encR zR).toArray 34 (0, 0))) (by simp [encR_len]) (encR_one _) Try.prog
        rw [splice_whole (by simp [encR_len])] at hst
        go_upto_region 7 with fail
        have HBX := Lib.hid (setRow_heap (wr.alloc (.cells (encR zR).toArray 34 (0, 0))) wr.heap.size _ (encR x).toArray 34 (0, 0) (heap_alloc_new wr _))
        have hbx := Lib.hid (below_setRow ((Below.refl wr.heap.size wr).alloc (Nat.le_refl _) (.cells (encR zR).toArray 34 (0, 0))) (Nat.le_refl _) (encR x).toArray)
        clear hst hl1
        generalize (wr.alloc _).setRow _ _ = W5 at HBX hbx ⊢
        have HT5 := Lib.hid (HT.out.below hbx.out)
        have HB5 := Lib.hid (HB.out.trans (hbx.out.mono HB.out.size))
        have c0 := (at_row HBX.out).load (k := n20) (encR_n _) Try.prog
        go_wp2_with (go_at_call 12; (with_reducible refine (tb_put x HT5.out HB5.out).mono ?_); rintro e w9 ⟨rfl, v9, h1, h2⟩; have HT9 := Lib.hid h1; have HB9 := Lib.hid h2; clear h1 h2 c0)
        go_roundw
        case rel => exact ⟨k + 1, v9, _, by omega, by go_num, HT9.out, HB9.out⟩
        case measure => simp [intOf]; omega
      · obtain rfl : k = n := by omega
        have hkk : ¬ (k : Int) < (k : Int) := by omega
        have HBW := Lib.hid (HB0.out.trans ((hb.out.mono HB0.out.size).trans (HB.out.mono (Nat.le_trans HB0.out.size hb.out.size))))
        have HPX := Lib.hid ((HB.out.block B (by have := HSZ.out; have := HBB.out; omega)).trans HP.out)
        have HQX := Lib.hid ((HB.out.block B2 HSZ.out).trans HQ.out)
        have HSX := Lib.hid HSZ.out
        have HTX := HT
        obtain ⟨c0, hc0⟩ : ∃ c, cmpP p q = c := ⟨_, rfl⟩
        have HC0 := Lib.hid hc0
        clear hlt hbd hbig hc0 HT HP HQ hb HR HN hl
        have cP := (at_row HPX.out).load (k := n18) (encP_n _) Try.prog
        have cQ := (at_row HQX.out).load (k := n18) (encP_n _) Try.prog
        by_cases hsw : 0 < c0
        · have hsd : decide (0 < c0) = true := decide_eq_true hsw
          have HCN := Lib.hid (show ¬ 0 < cmpP q p by have := cmp_neg p q; have := HC0.out; omega)
          go_upto_region 10 with (go_at_call 33; (with_reducible refine (refCompare_any _ _ _).mono ?_); rintro e w3 ⟨rfl, h1⟩; rw [HC0.out]; have HPX := Lib.hid ((h1.block B (blk_lt HPX.out)).trans HPX.out); have HQX := Lib.hid ((h1.block B2 (blk_lt HQX.out)).trans HQX.out); have HTX := Lib.hid (HTX.out.below h1); have HBW := Lib.hid (HBW.out.trans (h1.mono HBW.out.size)); clear h1 cP cQ)
          have cP := (at_row HPX.out).load (k := n18) (encP_n _) Try.prog
          have cQ := (at_row HQX.out).load (k := n18) (encP_n _) Try.prog
          have hst := store_row (o := 0) (vs := encP q) HPX.out (by simp [encP_len]) (encP_one _) Try.prog
          rw [splice_whole (by simp [encP_len])] at hst
          have HQ3 := Lib.hid ((setRow_other w3 B B2 (encP q).toArray HBB.out.1.symm).trans HQX.out)
          have hst2 := store_row (o := 0) (vs := encP p) HQ3.out (by simp [encP_len]) (encP_one _) Try.prog
          rw [splice_whole (by simp [encP_len])] at hst2
          go_upto_region 11 with fail
          have HTX := Lib.hid (HTX.out.only (swap_only (encP q).toArray (encP p).toArray (Nat.lt_trans HBB.out.2.2 HSX.out) HSX.out))
          have HPX := Lib.hid ((setRow_other (w3.setRow B (encP q).toArray) B2 B (encP p).toArray HBB.out.1).trans (setRow_heap w3 B _ (encP q).toArray 25 (0, 0) HPX.out))
          have HQX := Lib.hid (setRow_heap (w3.setRow B (encP q).toArray) B2 _ (encP p).toArray 25 (0, 0) HQ3.out)
          have HBW := Lib.hid (below_setRow (below_setRow HBW.out HBL.out (encP q).toArray) HBB.out.2.1 (encP p).toArray)
          clear cP cQ hst hst2 HQ3
          generalize (w3.setRow _ _).setRow _ _ = W4 at HTX HPX HQX HBW ⊢
          have HBE := Lib.hid (fun (V : World) (hb : Below W4.heap.size W4 V) => between_any q p V (HTX.out.below hb))
          have HBA := Lib.hid (fun (V : World) (hb : Below W4.heap.size W4 V) => between_any q q V (HTX.out.below hb))
          have HBC := Lib.hid (fun (V : World) (hb : Below W4.heap.size W4 V) => between_any p q V (HTX.out.below hb))
          have HAL := Lib.hid (fun (V : World) (hb : Below W4.heap.size W4 V) => all_any V (HTX.out.below hb))
          rw [btw_self] at HBA
          rw [btw_back HTX.out.tok.srt (show ¬ 0 < cmpP q p by have := HCN.out; omega)] at HBC
          rw [← btw_inB HTX.out.tok.srt] at HBE
          have HLP := Lib.hid (fun (V : World) (hb : Below W4.heap.size W4 V) => (at_row ((hb.block B (blk_lt HPX.out)).trans HPX.out)).load (k := n18) (encP_n q) Try.prog)
          have HLQ := Lib.hid (fun (V : World) (hb : Below W4.heap.size W4 V) => (at_row ((hb.block B2 (blk_lt HQX.out)).trans HQX.out)).load (k := n18) (encP_n p) Try.prog)
          generalize hD : T.filter (inB q p) = D at HBE
          have HDD := Lib.hid hD
          have HTL := Lib.hid HTX.out.tok.len
          clear hD HTX
          have HB := Lib.hid (Below.refl W4.heap.size W4)
          have cP := HLP.out _ HB.out
          have cQ := HLQ.out _ HB.out
          go_wp2_with (first
            | (go_at_call 23; (with_reducible refine (HBE.out _ HB.out).mono ?_); rintro e w6 ⟨v6, rfl, h1, h2⟩; obtain ⟨A6, c6, hv6, _⟩ := own_rv h1; obtain rfl := hv6.eq; have HR6 := Lib.hid hv6.rd; have HB := Lib.hid (HB.out.trans (h2.mono HB.out.size)); clear h1 h2 hv6 cP cQ)
            | (go_at_call 22; (with_reducible refine (HAL.out _ HB.out).mono ?_); rintro e w7 ⟨v7, rfl, h1, h2⟩; obtain ⟨A7, c7, hv7, _⟩ := own_rv h1; obtain rfl := hv7.eq; have HR7 := Lib.hid hv7.rd; have HR6 := Lib.hid (HR6.out.below h2); have HB := Lib.hid (HB.out.trans (h2.mono HB.out.size)); clear h1 h2 hv7))
          have HDL := Lib.hid (show D.length ≤ T.length by rw [← HDD.out]; exact List.length_filter_le _ _)
          go_loopw [12, 50] (fun s12 s50 wr => ∃ k j : Nat, k ≤ T.length ∧ s50 = .int .i64 k ∧ s12 = .int .i64 j ∧ j = ((T.take k).filter (inB q p)).length ∧ Below w7.heap.size w7 wr) (fun _ s50 _ => T.length - (intOf s50).toNat)
          case atStart => exact ⟨0, 0, by omega, rfl, rfl, by simp, Below.refl _ _⟩
          case round =>
            obtain ⟨k, j, hk, rfl, rfl, hj, hbb⟩ := hrel
            have HJ := Lib.hid hj
            have HB7 := Lib.hid hbb
            have htl := HTL.out
            have hdl := HDL.out
            clear hj hbb
            by_cases hlt : k < T.length
            · have hlt' : (k : Int) < (T.length : Int) := by omega
              have k0 : (0 : Int) ≤ (k : Int) := by omega
              have j0 : (0 : Int) ≤ (j : Int) := by omega
              obtain ⟨g7, o7, rfl, hx⟩ := HR7.out k hlt
              have HX0 := Lib.hid (hx.below HB7.out)
              have HFA := Lib.hid (fun h => filter_at hlt (inB q p) h)
              have HFS := Lib.hid (filter_step hlt (inB q p))
              rw [HDD.out] at HFA
              rw [← HJ.out] at HFA
              clear hx
              generalize T[k] = x at HX0 HFA HFS
              have hl1 : Sem.run Try.prog (loadCellsFrom ⟨g7, o7 + k * n20, none⟩ 0 n20 #[]) wr = .ok (encR x).toArray wr := HX0.out.all.load (k := n20) (encR_n _) Try.prog
              have hst := store_row (o := 0) (vs := encR x) (heap_alloc_new wr (.cells (encR zR).toArray 34 (0, 0))) (by simp [encR_len]) (encR_one _) Try.prog
              rw [splice_whole (by simp [encR_len])] at hst
              obtain ⟨c1, hc1⟩ : ∃ c, cmpP x.to q = c := ⟨_, rfl⟩
              have HC1 := Lib.hid hc1
              obtain ⟨c2, hc2⟩ : ∃ c, cmpP x.to p = c := ⟨_, rfl⟩
              have HC2 := Lib.hid hc2
              have HIN := Lib.hid (show inB q p x = (decide (¬ c1 < 0) && decide (c2 < 0)) by unfold inB; rw [hc1, hc2])
              clear hc1 hc2
              by_cases h1 : (0 : Int) ≤ c1
              · have h1' : decide (0 ≤ c1) = true := decide_eq_true h1
                by_cases h2 : c2 < 0
                · have h2' : decide (c2 < 0) = true := decide_eq_true h2
                  have hin : inB q p x = true := by rw [HIN.out, decide_eq_true (by omega), h2']; rfl
                  obtain ⟨hjd, hjx⟩ := HFA.out hin
                  have HFE := Lib.hid (show j + 1 = ((T.take (k + 1)).filter (inB q p)).length by rw [HFS.out, if_pos hin, List.length_append, ← HJ.out]; rfl)
                  obtain ⟨g6, o6, rfl, hx6⟩ := HR6.out j hjd
                  rw [hjx] at hx6
                  have HX6 := Lib.hid hx6
                  have hjd1 : (j : Int) < (D.length : Int) := by omega
                  have hjd2 : ¬ (D.length : Int) ≤ (j : Int) := by omega
                  have hjd3 : decide ((D.length : Int) ≤ (j : Int)) = false := decide_eq_false hjd2
                  have hjd4 : ¬ D.length ≤ j := by omega
                  have hjd5 : decide (D.length ≤ j) = false := decide_eq_false hjd4
                  clear hin hjx hx6
                  go_upto_region 16 with fail
                  have HBX := Lib.hid (setRow_heap (wr.alloc (.cells (encR zR).toArray 34 (0, 0))) wr.heap.size _ (encR x).toArray 34 (0, 0) (heap_alloc_new wr _))
                  have hbx := Lib.hid (below_setRow ((Below.refl wr.heap.size wr).alloc (Nat.le_refl _) (.cells (encR zR).toArray 34 (0, 0))) (Nat.le_refl _) (encR x).toArray)
                  clear hst hl1
                  generalize (wr.alloc _).setRow _ _ = W5 at HBX hbx ⊢
                  have HBSZ := Lib.hid HB7.out.size
                  generalize wr.heap.size = B5 at HBX hbx HBSZ ⊢
                  have HB5 := Lib.hid (Below.refl W5.heap.size W5)
                  have HB75 := Lib.hid (HB7.out.trans (hbx.out.mono HBSZ.out))
                  have HLX := Lib.hid (fun (V : World) (hb : Below W5.heap.size W5 V) => ((show RAt W5 B5 0 x from ⟨at_row HBX.out⟩).below hb).to.all.load (k := n18) (encP_n _) Try.prog)
                  have a0 := HLX.out _ HB5.out
                  have a1 := HLP.out _ (HB.out.trans (HB75.out.mono HB.out.size))
                  have a2 := HLQ.out _ (HB.out.trans (HB75.out.mono HB.out.size))
                  go_upto_region 17 with (first
                    | (go_at_call 33; (with_reducible refine (refCompare_any _ _ _).mono ?_); rintro e w4 ⟨rfl, h1⟩; (first | rw [HC1.out] | rw [HC2.out]); have HB5 := Lib.hid (HB5.out.trans (h1.mono HB5.out.size)); clear h1 a0 a1 a2; have a0 := HLX.out _ HB5.out; have a1 := HLP.out _ (HB.out.trans ((HB75.out.trans (HB5.out.mono HB75.out.size)).mono HB.out.size)); have a2 := HLQ.out _ (HB.out.trans ((HB75.out.trans (HB5.out.mono HB75.out.size)).mono HB.out.size))))
                  have HB9 := Lib.hid ((HB75.out.trans (HB5.out.mono HB75.out.size)).drew)
                  have HX9 := Lib.hid (HX6.out.below HB9.out)
                  have HX5 := Lib.hid (((show RAt W5 B5 0 x from ⟨at_row HBX.out⟩).below HB5.out).drew)
                  clear a0 a1 a2
                  refine wp_region_held_drew (S := (fun w' => RAt w' g6 (o6 + j * 20) x ∧ RAt w' B5 0 x)) (by kernel_rfl) ⟨HX9.out, HX5.out⟩ (fun _ => ?_)
                  refine held_take 0 66 (v := ?_) rfl rfl (by kernel_rfl) (by kernel_rfl) (by kernel_rfl) (fun _ _ _ h => h) (by rfl) ?_ ⟨HX9.out, HX5.out⟩ ?_
                  rotate_left
                  · (intro w hSw; (try dsimp only at hSw); have a0 : Sem.run Try.prog (loadCellsFrom ⟨g6, o6 + j * n20, none⟩ 0 n20 #[]) w = .ok (encR x).toArray w := hSw.1.all.load (k := n20) (encR_n _) Try.prog; have a1 := hSw.2.all.load (k := n20) (encR_n _) Try.prog; clear hSw;try simp only [List.getElem_toArray, List.getElem_cons_zero, List.getElem_cons_succ]; go_simp; try (with_reducible rfl))
                  try simp only [List.setIfInBounds_toArray, List.set_cons_zero, List.set_cons_succ]
                  refine held_take 1 67 (v := ?_) rfl rfl (by kernel_rfl) (by kernel_rfl) (by kernel_rfl) (fun _ _ _ h => h) (by rfl) ?_ ⟨HX9.out, HX5.out⟩ ?_
                  rotate_left
                  · (intro w hSw; (try dsimp only at hSw); have a0 : Sem.run Try.prog (loadCellsFrom ⟨g6, o6 + j * n20, none⟩ 0 n20 #[]) w = .ok (encR x).toArray w := hSw.1.all.load (k := n20) (encR_n _) Try.prog; have a1 := hSw.2.all.load (k := n20) (encR_n _) Try.prog; clear hSw;try simp only [List.getElem_toArray, List.getElem_cons_zero, List.getElem_cons_succ]; go_simp; try (with_reducible rfl))
                  try simp only [List.setIfInBounds_toArray, List.set_cons_zero, List.set_cons_succ]
                  refine held_call 2 68 rfl rfl (by kernel_rfl) (by rfl) (fun K hK => ?_)
                  try simp only [List.getElem_toArray, List.getElem_cons_zero, List.getElem_cons_succ]
                  (go_simp)
                  try simp only [Act.put, List.setIfInBounds_toArray, List.set_cons_zero, List.set_cons_succ]
                  refine hK.out _ _ _ ⟨HX9.out, HX5.out⟩ ?_
                  clear hK K
                  refine held_take 3 69 (v := ?_) rfl rfl (by kernel_rfl) (by kernel_rfl) (by kernel_rfl) (fun _ _ _ h => h) (by rfl) ?_ ⟨HX9.out, HX5.out⟩ ?_
                  rotate_left
                  · (intro w hSw; (try dsimp only at hSw); have a0 : Sem.run Try.prog (loadCellsFrom ⟨g6, o6 + j * n20, none⟩ 0 n20 #[]) w = .ok (encR x).toArray w := hSw.1.all.load (k := n20) (encR_n _) Try.prog; have a1 := hSw.2.all.load (k := n20) (encR_n _) Try.prog; clear hSw;try simp only [List.getElem_toArray, List.getElem_cons_zero, List.getElem_cons_succ]; go_simp; try (with_reducible rfl))
                  try simp only [List.setIfInBounds_toArray, List.set_cons_zero, List.set_cons_succ]
                  refine held_take 4 70 (v := ?_) rfl rfl (by kernel_rfl) (by kernel_rfl) (by kernel_rfl) (fun _ _ _ h => h) (by rfl) ?_ ⟨HX9.out, HX5.out⟩ ?_
                  rotate_left
                  · (intro w hSw; (try dsimp only at hSw); have a0 : Sem.run Try.prog (loadCellsFrom ⟨g6, o6 + j * n20, none⟩ 0 n20 #[]) w = .ok (encR x).toArray w := hSw.1.all.load (k := n20) (encR_n _) Try.prog; have a1 := hSw.2.all.load (k := n20) (encR_n _) Try.prog; clear hSw;try simp only [List.getElem_toArray, List.getElem_cons_zero, List.getElem_cons_succ]; go_simp; try (with_reducible rfl))
                  try simp only [List.setIfInBounds_toArray, List.set_cons_zero, List.set_cons_succ]
                  refine held_take 5 71 (v := ?_) rfl rfl (by kernel_rfl) (by kernel_rfl) (by kernel_rfl) (fun _ _ _ h => h) (by rfl) ?_ ⟨HX9.out, HX5.out⟩ ?_
                  rotate_left
                  · (intro w hSw; (try dsimp only at hSw); have a0 : Sem.run Try.prog (loadCellsFrom ⟨g6, o6 + j * n20, none⟩ 0 n20 #[]) w = .ok (encR x).toArray w := hSw.1.all.load (k := n20) (encR_n _) Try.prog; have a1 := hSw.2.all.load (k := n20) (encR_n _) Try.prog; clear hSw;try simp only [List.getElem_toArray, List.getElem_cons_zero, List.getElem_cons_succ]; go_simp; try (with_reducible rfl))
                  try simp only [List.setIfInBounds_toArray, List.set_cons_zero, List.set_cons_succ]
                  refine held_take 6 72 (v := ?_) rfl rfl (by kernel_rfl) (by kernel_rfl) (by kernel_rfl) (fun _ _ _ h => h) (by rfl) ?_ ⟨HX9.out, HX5.out⟩ ?_
                  rotate_left
                  · (intro w hSw; (try dsimp only at hSw); have a0 : Sem.run Try.prog (loadCellsFrom ⟨g6, o6 + j * n20, none⟩ 0 n20 #[]) w = .ok (encR x).toArray w := hSw.1.all.load (k := n20) (encR_n _) Try.prog; have a1 := hSw.2.all.load (k := n20) (encR_n _) Try.prog; clear hSw;try simp only [List.getElem_toArray, List.getElem_cons_zero, List.getElem_cons_succ]; go_simp; try (with_reducible rfl))
                  try simp only [List.setIfInBounds_toArray, List.set_cons_zero, List.set_cons_succ]
                  refine held_take 7 73 (v := ?_) rfl rfl (by kernel_rfl) (by kernel_rfl) (by kernel_rfl) (fun _ _ _ h => h) (by rfl) ?_ ⟨HX9.out, HX5.out⟩ ?_
                  rotate_left
                  · (intro w hSw; (try dsimp only at hSw); have a0 : Sem.run Try.prog (loadCellsFrom ⟨g6, o6 + j * n20, none⟩ 0 n20 #[]) w = .ok (encR x).toArray w := hSw.1.all.load (k := n20) (encR_n _) Try.prog; have a1 := hSw.2.all.load (k := n20) (encR_n _) Try.prog; clear hSw;try simp only [List.getElem_toArray, List.getElem_cons_zero, List.getElem_cons_succ]; go_simp; try (with_reducible rfl))
                  try simp only [List.setIfInBounds_toArray, List.set_cons_zero, List.set_cons_succ]
                  refine held_take 8 74 (v := ?_) rfl rfl (by kernel_rfl) (by kernel_rfl) (by kernel_rfl) (fun _ _ _ h => h) (by rfl) ?_ ⟨HX9.out, HX5.out⟩ ?_
                  rotate_left
                  · (intro w hSw; (try dsimp only at hSw); have a0 : Sem.run Try.prog (loadCellsFrom ⟨g6, o6 + j * n20, none⟩ 0 n20 #[]) w = .ok (encR x).toArray w := hSw.1.all.load (k := n20) (encR_n _) Try.prog; have a1 := hSw.2.all.load (k := n20) (encR_n _) Try.prog; clear hSw;try simp only [List.getElem_toArray, List.getElem_cons_zero, List.getElem_cons_succ]; go_simp; try (with_reducible rfl))
                  try simp only [List.setIfInBounds_toArray, List.set_cons_zero, List.set_cons_succ]
                  refine held_take 9 75 (v := ?_) rfl rfl (by kernel_rfl) (by kernel_rfl) (by kernel_rfl) (fun _ _ _ h => h) (by rfl) ?_ ⟨HX9.out, HX5.out⟩ ?_
                  rotate_left
                  · (intro w hSw; (try dsimp only at hSw); have a0 : Sem.run Try.prog (loadCellsFrom ⟨g6, o6 + j * n20, none⟩ 0 n20 #[]) w = .ok (encR x).toArray w := hSw.1.all.load (k := n20) (encR_n _) Try.prog; have a1 := hSw.2.all.load (k := n20) (encR_n _) Try.prog; clear hSw;try simp only [List.getElem_toArray, List.getElem_cons_zero, List.getElem_cons_succ]; go_simp; try (with_reducible rfl))
                  try simp only [List.setIfInBounds_toArray, List.set_cons_zero, List.set_cons_succ]
                  refine held_take 10 76 (v := ?_) rfl rfl (by kernel_rfl) (by kernel_rfl) (by kernel_rfl) (fun _ _ _ h => h) (by rfl) ?_ ⟨HX9.out, HX5.out⟩ ?_
                  rotate_left
                  · (intro w hSw; (try dsimp only at hSw); have a0 : Sem.run Try.prog (loadCellsFrom ⟨g6, o6 + j * n20, none⟩ 0 n20 #[]) w = .ok (encR x).toArray w := hSw.1.all.load (k := n20) (encR_n _) Try.prog; have a1 := hSw.2.all.load (k := n20) (encR_n _) Try.prog; clear hSw;try simp only [List.getElem_toArray, List.getElem_cons_zero, List.getElem_cons_succ]; go_simp; try (with_reducible rfl))
                  try simp only [List.setIfInBounds_toArray, List.set_cons_zero, List.set_cons_succ]
                  refine held_take 11 77 (v := ?_) rfl rfl (by kernel_rfl) (by kernel_rfl) (by kernel_rfl) (fun _ _ _ h => h) (by rfl) ?_ ⟨HX9.out, HX5.out⟩ ?_
                  rotate_left
                  · (intro w hSw; (try dsimp only at hSw); have a0 : Sem.run Try.prog (loadCellsFrom ⟨g6, o6 + j * n20, none⟩ 0 n20 #[]) w = .ok (encR x).toArray w := hSw.1.all.load (k := n20) (encR_n _) Try.prog; have a1 := hSw.2.all.load (k := n20) (encR_n _) Try.prog; clear hSw;try simp only [List.getElem_toArray, List.getElem_cons_zero, List.getElem_cons_succ]; go_simp; try (with_reducible rfl))
                  try simp only [List.setIfInBounds_toArray, List.set_cons_zero, List.set_cons_succ]
                  refine wpAnyH_done (by kernel_rfl) ?_ _
                  go_wp2
                  go_roundw
                  case rel => exact ⟨k + 1, j + 1, by omega, by go_num, by go_num, HFE.out, HB9.out⟩
                  case measure => simp [intOf]; omega
                · have h2' : decide (c2 < 0) = false := decide_eq_false h2
                  have HFE := Lib.hid (show j = ((T.take (k + 1)).filter (inB q p)).length by rw [HFS.out, HIN.out, h2', Bool.and_false, if_neg (by simp), List.append_nil]; exact HJ.out)
                  go_upto_region 16 with fail
                  have HBX := Lib.hid (setRow_heap (wr.alloc (.cells (encR zR).toArray 34 (0, 0))) wr.heap.size _ (encR x).toArray 34 (0, 0) (heap_alloc_new wr _))
                  have hbx := Lib.hid (below_setRow ((Below.refl wr.heap.size wr).alloc (Nat.le_refl _) (.cells (encR zR).toArray 34 (0, 0))) (Nat.le_refl _) (encR x).toArray)
                  clear hst hl1
                  generalize (wr.alloc _).setRow _ _ = W5 at HBX hbx ⊢
                  have HBSZ := Lib.hid HB7.out.size
                  generalize wr.heap.size = B5 at HBX hbx HBSZ ⊢
                  have HB5 := Lib.hid (Below.refl W5.heap.size W5)
                  have HB75 := Lib.hid (HB7.out.trans (hbx.out.mono HBSZ.out))
                  have HLX := Lib.hid (fun (V : World) (hb : Below W5.heap.size W5 V) => ((show RAt W5 B5 0 x from ⟨at_row HBX.out⟩).below hb).to.all.load (k := n18) (encP_n _) Try.prog)
                  have a0 := HLX.out _ HB5.out
                  have a1 := HLP.out _ (HB.out.trans (HB75.out.mono HB.out.size))
                  have a2 := HLQ.out _ (HB.out.trans (HB75.out.mono HB.out.size))
                  go_wp2_with (first
                    | (go_at_call 33; (with_reducible refine (refCompare_any _ _ _).mono ?_); rintro e w4 ⟨rfl, h1⟩; (first | rw [HC1.out] | rw [HC2.out]); have HB5 := Lib.hid (HB5.out.trans (h1.mono HB5.out.size)); clear h1 a0 a1 a2; have a0 := HLX.out _ HB5.out; have a1 := HLP.out _ (HB.out.trans ((HB75.out.trans (HB5.out.mono HB75.out.size)).mono HB.out.size)); have a2 := HLQ.out _ (HB.out.trans ((HB75.out.trans (HB5.out.mono HB75.out.size)).mono HB.out.size))))
                  go_roundw
                  case rel => exact ⟨k + 1, j, by omega, by go_num, rfl, HFE.out, HB75.out.trans (HB5.out.mono HB75.out.size)⟩
                  case measure => simp [intOf]; omega
              · have h1' : decide (0 ≤ c1) = false := decide_eq_false h1
                have HFE := Lib.hid (show j = ((T.take (k + 1)).filter (inB q p)).length by rw [HFS.out, HIN.out, decide_eq_false (by omega), Bool.false_and, if_neg (by simp), List.append_nil]; exact HJ.out)
                go_upto_region 16 with fail
                have HBX := Lib.hid (setRow_heap (wr.alloc (.cells (encR zR).toArray 34 (0, 0))) wr.heap.size _ (encR x).toArray 34 (0, 0) (heap_alloc_new wr _))
                have hbx := Lib.hid (below_setRow ((Below.refl wr.heap.size wr).alloc (Nat.le_refl _) (.cells (encR zR).toArray 34 (0, 0))) (Nat.le_refl _) (encR x).toArray)
                clear hst hl1
                generalize (wr.alloc _).setRow _ _ = W5 at HBX hbx ⊢
                have HBSZ := Lib.hid HB7.out.size
                generalize wr.heap.size = B5 at HBX hbx HBSZ ⊢
                have HB5 := Lib.hid (Below.refl W5.heap.size W5)
                have HB75 := Lib.hid (HB7.out.trans (hbx.out.mono HBSZ.out))
                have HLX := Lib.hid (fun (V : World) (hb : Below W5.heap.size W5 V) => ((show RAt W5 B5 0 x from ⟨at_row HBX.out⟩).below hb).to.all.load (k := n18) (encP_n _) Try.prog)
                have a0 := HLX.out _ HB5.out
                have a1 := HLP.out _ (HB.out.trans (HB75.out.mono HB.out.size))
                have a2 := HLQ.out _ (HB.out.trans (HB75.out.mono HB.out.size))
                go_wp2_with (first
                    | (go_at_call 33; (with_reducible refine (refCompare_any _ _ _).mono ?_); rintro e w4 ⟨rfl, h1⟩; (first | rw [HC1.out] | rw [HC2.out]); have HB5 := Lib.hid (HB5.out.trans (h1.mono HB5.out.size)); clear h1 a0 a1 a2; have a0 := HLX.out _ HB5.out; have a1 := HLP.out _ (HB.out.trans ((HB75.out.trans (HB5.out.mono HB75.out.size)).mono HB.out.size)); have a2 := HLQ.out _ (HB.out.trans ((HB75.out.trans (HB5.out.mono HB75.out.size)).mono HB.out.size))))
                go_roundw
                case rel => exact ⟨k + 1, j, by omega, by go_num, rfl, HFE.out, HB75.out.trans (HB5.out.mono HB75.out.size)⟩
                case measure => simp [intOf]; omega
            · have hkt : k = T.length := by omega
              have hjt : j = D.length := by have := HJ.out; rw [hkt, List.take_length, HDD.out] at this; exact this
              subst hjt
              have hkk : ¬ (k : Int) < (T.length : Int) := by omega
              clear hlt hkt
              have HBz := Lib.hid (HB.out.trans (HB7.out.mono HB.out.size))
              have cP := HLP.out _ HBz.out
              have cQ := HLQ.out _ HBz.out
              go_wp2_with (first
                | (go_at_call 23; (with_reducible refine (HBA.out _ HBz.out).mono ?_); rintro e w8 ⟨v8, rfl, h1, h2⟩; obtain ⟨A8, c8, hv8, _⟩ := own_rv h1; obtain rfl := hv8.eq; rw [List.length_nil]; have HBz := Lib.hid (HBz.out.trans (h2.mono HBz.out.size)); clear h1 h2 hv8 cP cQ; have cP := HLP.out _ HBz.out; have cQ := HLQ.out _ HBz.out)
                | (go_at_call 23; (with_reducible refine (HBC.out _ HBz.out).mono ?_); rintro e w8 ⟨v8, rfl, h1, h2⟩; obtain ⟨A8, c8, hv8, _⟩ := own_rv h1; obtain rfl := hv8.eq; rw [List.length_nil]; have HBz := Lib.hid (HBz.out.trans (h2.mono HBz.out.size)); clear h1 h2 hv8 cP cQ))
              go_ret
              exact ⟨rfl, HBW.out.trans (HBz.out.mono HBW.out.size)⟩
        · have hsd : decide (0 < c0) = false := decide_eq_false hsw
          have HCN := Lib.hid (show ¬ 0 < cmpP p q by have := HC0.out; omega)
          go_upto_region 11 with (go_at_call 33; (with_reducible refine (refCompare_any _ _ _).mono ?_); rintro e w3 ⟨rfl, h1⟩; rw [HC0.out]; have HPX := Lib.hid ((h1.block B (blk_lt HPX.out)).trans HPX.out); have HQX := Lib.hid ((h1.block B2 (blk_lt HQX.out)).trans HQX.out); have HTX := Lib.hid (HTX.out.below h1); have HBW := Lib.hid (HBW.out.trans (h1.mono HBW.out.size)); clear h1 cP cQ)
          have HBE := Lib.hid (fun (V : World) (hb : Below w3.heap.size w3 V) => between_any p q V (HTX.out.below hb))
          have HBA := Lib.hid (fun (V : World) (hb : Below w3.heap.size w3 V) => between_any p p V (HTX.out.below hb))
          have HBC := Lib.hid (fun (V : World) (hb : Below w3.heap.size w3 V) => between_any q p V (HTX.out.below hb))
          have HAL := Lib.hid (fun (V : World) (hb : Below w3.heap.size w3 V) => all_any V (HTX.out.below hb))
          rw [btw_self] at HBA
          rw [btw_back HTX.out.tok.srt (show ¬ 0 < cmpP p q by have := HCN.out; omega)] at HBC
          rw [← btw_inB HTX.out.tok.srt] at HBE
          have HLP := Lib.hid (fun (V : World) (hb : Below w3.heap.size w3 V) => (at_row ((hb.block B (blk_lt HPX.out)).trans HPX.out)).load (k := n18) (encP_n p) Try.prog)
          have HLQ := Lib.hid (fun (V : World) (hb : Below w3.heap.size w3 V) => (at_row ((hb.block B2 (blk_lt HQX.out)).trans HQX.out)).load (k := n18) (encP_n q) Try.prog)
          generalize hD : T.filter (inB p q) = D at HBE
          have HDD := Lib.hid hD
          have HTL := Lib.hid HTX.out.tok.len
          clear hD HTX
          have HB := Lib.hid (Below.refl w3.heap.size w3)
          have cP := HLP.out _ HB.out
          have cQ := HLQ.out _ HB.out
          go_wp2_with (first
            | (go_at_call 23; (with_reducible refine (HBE.out _ HB.out).mono ?_); rintro e w6 ⟨v6, rfl, h1, h2⟩; obtain ⟨A6, c6, hv6, _⟩ := own_rv h1; obtain rfl := hv6.eq; have HR6 := Lib.hid hv6.rd; have HB := Lib.hid (HB.out.trans (h2.mono HB.out.size)); clear h1 h2 hv6 cP cQ)
            | (go_at_call 22; (with_reducible refine (HAL.out _ HB.out).mono ?_); rintro e w7 ⟨v7, rfl, h1, h2⟩; obtain ⟨A7, c7, hv7, _⟩ := own_rv h1; obtain rfl := hv7.eq; have HR7 := Lib.hid hv7.rd; have HR6 := Lib.hid (HR6.out.below h2); have HB := Lib.hid (HB.out.trans (h2.mono HB.out.size)); clear h1 h2 hv7))
          have HDL := Lib.hid (show D.length ≤ T.length by rw [← HDD.out]; exact List.length_filter_le _ _)
          go_loopw [12, 50] (fun s12 s50 wr => ∃ k j : Nat, k ≤ T.length ∧ s50 = .int .i64 k ∧ s12 = .int .i64 j ∧ j = ((T.take k).filter (inB p q)).length ∧ Below w7.heap.size w7 wr) (fun _ s50 _ => T.length - (intOf s50).toNat)
          case atStart => exact ⟨0, 0, by omega, rfl, rfl, by simp, Below.refl _ _⟩
          case round =>
            obtain ⟨k, j, hk, rfl, rfl, hj, hbb⟩ := hrel
            have HJ := Lib.hid hj
            have HB7 := Lib.hid hbb
            have htl := HTL.out
            have hdl := HDL.out
            clear hj hbb
            by_cases hlt : k < T.length
            · have hlt' : (k : Int) < (T.length : Int) := by omega
              have k0 : (0 : Int) ≤ (k : Int) := by omega
              have j0 : (0 : Int) ≤ (j : Int) := by omega
              obtain ⟨g7, o7, rfl, hx⟩ := HR7.out k hlt
              have HX0 := Lib.hid (hx.below HB7.out)
              have HFA := Lib.hid (fun h => filter_at hlt (inB p q) h)
              have HFS := Lib.hid (filter_step hlt (inB p q))
              rw [HDD.out] at HFA
              rw [← HJ.out] at HFA
              clear hx
              generalize T[k] = x at HX0 HFA HFS
              have hl1 : Sem.run Try.prog (loadCellsFrom ⟨g7, o7 + k * n20, none⟩ 0 n20 #[]) wr = .ok (encR x).toArray wr := HX0.out.all.load (k := n20) (encR_n _) Try.prog
              have hst := store_row (o := 0) (vs := encR x) (heap_alloc_new wr (.cells (encR zR).toArray 34 (0, 0))) (by simp [encR_len]) (encR_one _) Try.prog
              rw [splice_whole (by simp [encR_len])] at hst
              obtain ⟨c1, hc1⟩ : ∃ c, cmpP x.to p = c := ⟨_, rfl⟩
              have HC1 := Lib.hid hc1
              obtain ⟨c2, hc2⟩ : ∃ c, cmpP x.to q = c := ⟨_, rfl⟩
              have HC2 := Lib.hid hc2
              have HIN := Lib.hid (show inB p q x = (decide (¬ c1 < 0) && decide (c2 < 0)) by unfold inB; rw [hc1, hc2])
              clear hc1 hc2
              by_cases h1 : (0 : Int) ≤ c1
              · have h1' : decide (0 ≤ c1) = true := decide_eq_true h1
                by_cases h2 : c2 < 0
                · have h2' : decide (c2 < 0) = true := decide_eq_true h2
                  have hin : inB p q x = true := by rw [HIN.out, decide_eq_true (by omega), h2']; rfl
                  obtain ⟨hjd, hjx⟩ := HFA.out hin
                  have HFE := Lib.hid (show j + 1 = ((T.take (k + 1)).filter (inB p q)).length by rw [HFS.out, if_pos hin, List.length_append, ← HJ.out]; rfl)
                  obtain ⟨g6, o6, rfl, hx6⟩ := HR6.out j hjd
                  rw [hjx] at hx6
                  have HX6 := Lib.hid hx6
                  have hjd1 : (j : Int) < (D.length : Int) := by omega
                  have hjd2 : ¬ (D.length : Int) ≤ (j : Int) := by omega
                  have hjd3 : decide ((D.length : Int) ≤ (j : Int)) = false := decide_eq_false hjd2
                  have hjd4 : ¬ D.length ≤ j := by omega
                  have hjd5 : decide (D.length ≤ j) = false := decide_eq_false hjd4
                  clear hin hjx hx6
                  go_upto_region 16 with fail
                  have HBX := Lib.hid (setRow_heap (wr.alloc (.cells (encR zR).toArray 34 (0, 0))) wr.heap.size _ (encR x).toArray 34 (0, 0) (heap_alloc_new wr _))
                  have hbx := Lib.hid (below_setRow ((Below.refl wr.heap.size wr).alloc (Nat.le_refl _) (.cells (encR zR).toArray 34 (0, 0))) (Nat.le_refl _) (encR x).toArray)
                  clear hst hl1
                  generalize (wr.alloc _).setRow _ _ = W5 at HBX hbx ⊢
                  have HBSZ := Lib.hid HB7.out.size
                  generalize wr.heap.size = B5 at HBX hbx HBSZ ⊢
                  have HB5 := Lib.hid (Below.refl W5.heap.size W5)
                  have HB75 := Lib.hid (HB7.out.trans (hbx.out.mono HBSZ.out))
                  have HLX := Lib.hid (fun (V : World) (hb : Below W5.heap.size W5 V) => ((show RAt W5 B5 0 x from ⟨at_row HBX.out⟩).below hb).to.all.load (k := n18) (encP_n _) Try.prog)
                  have a0 := HLX.out _ HB5.out
                  have a1 := HLP.out _ (HB.out.trans (HB75.out.mono HB.out.size))
                  have a2 := HLQ.out _ (HB.out.trans (HB75.out.mono HB.out.size))
                  go_upto_region 17 with (first
                    | (go_at_call 33; (with_reducible refine (refCompare_any _ _ _).mono ?_); rintro e w4 ⟨rfl, h1⟩; (first | rw [HC1.out] | rw [HC2.out]); have HB5 := Lib.hid (HB5.out.trans (h1.mono HB5.out.size)); clear h1 a0 a1 a2; have a0 := HLX.out _ HB5.out; have a1 := HLP.out _ (HB.out.trans ((HB75.out.trans (HB5.out.mono HB75.out.size)).mono HB.out.size)); have a2 := HLQ.out _ (HB.out.trans ((HB75.out.trans (HB5.out.mono HB75.out.size)).mono HB.out.size))))
                  have HB9 := Lib.hid ((HB75.out.trans (HB5.out.mono HB75.out.size)).drew)
                  have HX9 := Lib.hid (HX6.out.below HB9.out)
                  have HX5 := Lib.hid (((show RAt W5 B5 0 x from ⟨at_row HBX.out⟩).below HB5.out).drew)
                  clear a0 a1 a2
                  refine wp_region_held_drew (S := (fun w' => RAt w' g6 (o6 + j * 20) x ∧ RAt w' B5 0 x)) (by kernel_rfl) ⟨HX9.out, HX5.out⟩ (fun _ => ?_)
                  refine held_take 0 66 (v := ?_) rfl rfl (by kernel_rfl) (by kernel_rfl) (by kernel_rfl) (fun _ _ _ h => h) (by rfl) ?_ ⟨HX9.out, HX5.out⟩ ?_
                  rotate_left
                  · (intro w hSw; (try dsimp only at hSw); have a0 : Sem.run Try.prog (loadCellsFrom ⟨g6, o6 + j * n20, none⟩ 0 n20 #[]) w = .ok (encR x).toArray w := hSw.1.all.load (k := n20) (encR_n _) Try.prog; have a1 := hSw.2.all.load (k := n20) (encR_n _) Try.prog; clear hSw;try simp only [List.getElem_toArray, List.getElem_cons_zero, List.getElem_cons_succ]; go_simp; try (with_reducible rfl))
                  try simp only [List.setIfInBounds_toArray, List.set_cons_zero, List.set_cons_succ]
                  refine held_take 1 67 (v := ?_) rfl rfl (by kernel_rfl) (by kernel_rfl) (by kernel_rfl) (fun _ _ _ h => h) (by rfl) ?_ ⟨HX9.out, HX5.out⟩ ?_
                  rotate_left
                  · (intro w hSw; (try dsimp only at hSw); have a0 : Sem.run Try.prog (loadCellsFrom ⟨g6, o6 + j * n20, none⟩ 0 n20 #[]) w = .ok (encR x).toArray w := hSw.1.all.load (k := n20) (encR_n _) Try.prog; have a1 := hSw.2.all.load (k := n20) (encR_n _) Try.prog; clear hSw;try simp only [List.getElem_toArray, List.getElem_cons_zero, List.getElem_cons_succ]; go_simp; try (with_reducible rfl))
                  try simp only [List.setIfInBounds_toArray, List.set_cons_zero, List.set_cons_succ]
                  refine held_call 2 68 rfl rfl (by kernel_rfl) (by rfl) (fun K hK => ?_)
                  try simp only [List.getElem_toArray, List.getElem_cons_zero, List.getElem_cons_succ]
                  (go_simp)
                  try simp only [Act.put, List.setIfInBounds_toArray, List.set_cons_zero, List.set_cons_succ]
                  refine hK.out _ _ _ ⟨HX9.out, HX5.out⟩ ?_
                  clear hK K
                  refine held_take 3 69 (v := ?_) rfl rfl (by kernel_rfl) (by kernel_rfl) (by kernel_rfl) (fun _ _ _ h => h) (by rfl) ?_ ⟨HX9.out, HX5.out⟩ ?_
                  rotate_left
                  · (intro w hSw; (try dsimp only at hSw); have a0 : Sem.run Try.prog (loadCellsFrom ⟨g6, o6 + j * n20, none⟩ 0 n20 #[]) w = .ok (encR x).toArray w := hSw.1.all.load (k := n20) (encR_n _) Try.prog; have a1 := hSw.2.all.load (k := n20) (encR_n _) Try.prog; clear hSw;try simp only [List.getElem_toArray, List.getElem_cons_zero, List.getElem_cons_succ]; go_simp; try (with_reducible rfl))
                  try simp only [List.setIfInBounds_toArray, List.set_cons_zero, List.set_cons_succ]
                  refine held_take 4 70 (v := ?_) rfl rfl (by kernel_rfl) (by kernel_rfl) (by kernel_rfl) (fun _ _ _ h => h) (by rfl) ?_ ⟨HX9.out, HX5.out⟩ ?_
                  rotate_left
                  · (intro w hSw; (try dsimp only at hSw); have a0 : Sem.run Try.prog (loadCellsFrom ⟨g6, o6 + j * n20, none⟩ 0 n20 #[]) w = .ok (encR x).toArray w := hSw.1.all.load (k := n20) (encR_n _) Try.prog; have a1 := hSw.2.all.load (k := n20) (encR_n _) Try.prog; clear hSw;try simp only [List.getElem_toArray, List.getElem_cons_zero, List.getElem_cons_succ]; go_simp; try (with_reducible rfl))
                  try simp only [List.setIfInBounds_toArray, List.set_cons_zero, List.set_cons_succ]
                  refine held_take 5 71 (v := ?_) rfl rfl (by kernel_rfl) (by kernel_rfl) (by kernel_rfl) (fun _ _ _ h => h) (by rfl) ?_ ⟨HX9.out, HX5.out⟩ ?_
                  rotate_left
                  · (intro w hSw; (try dsimp only at hSw); have a0 : Sem.run Try.prog (loadCellsFrom ⟨g6, o6 + j * n20, none⟩ 0 n20 #[]) w = .ok (encR x).toArray w := hSw.1.all.load (k := n20) (encR_n _) Try.prog; have a1 := hSw.2.all.load (k := n20) (encR_n _) Try.prog; clear hSw;try simp only [List.getElem_toArray, List.getElem_cons_zero, List.getElem_cons_succ]; go_simp; try (with_reducible rfl))
                  try simp only [List.setIfInBounds_toArray, List.set_cons_zero, List.set_cons_succ]
                  refine held_take 6 72 (v := ?_) rfl rfl (by kernel_rfl) (by kernel_rfl) (by kernel_rfl) (fun _ _ _ h => h) (by rfl) ?_ ⟨HX9.out, HX5.out⟩ ?_
                  rotate_left
                  · (intro w hSw; (try dsimp only at hSw); have a0 : Sem.run Try.prog (loadCellsFrom ⟨g6, o6 + j * n20, none⟩ 0 n20 #[]) w = .ok (encR x).toArray w := hSw.1.all.load (k := n20) (encR_n _) Try.prog; have a1 := hSw.2.all.load (k := n20) (encR_n _) Try.prog; clear hSw;try simp only [List.getElem_toArray, List.getElem_cons_zero, List.getElem_cons_succ]; go_simp; try (with_reducible rfl))
                  try simp only [List.setIfInBounds_toArray, List.set_cons_zero, List.set_cons_succ]
                  refine held_take 7 73 (v := ?_) rfl rfl (by kernel_rfl) (by kernel_rfl) (by kernel_rfl) (fun _ _ _ h => h) (by rfl) ?_ ⟨HX9.out, HX5.out⟩ ?_
                  rotate_left
                  · (intro w hSw; (try dsimp only at hSw); have a0 : Sem.run Try.prog (loadCellsFrom ⟨g6, o6 + j * n20, none⟩ 0 n20 #[]) w = .ok (encR x).toArray w := hSw.1.all.load (k := n20) (encR_n _) Try.prog; have a1 := hSw.2.all.load (k := n20) (encR_n _) Try.prog; clear hSw;try simp only [List.getElem_toArray, List.getElem_cons_zero, List.getElem_cons_succ]; go_simp; try (with_reducible rfl))
                  try simp only [List.setIfInBounds_toArray, List.set_cons_zero, List.set_cons_succ]
                  refine held_take 8 74 (v := ?_) rfl rfl (by kernel_rfl) (by kernel_rfl) (by kernel_rfl) (fun _ _ _ h => h) (by rfl) ?_ ⟨HX9.out, HX5.out⟩ ?_
                  rotate_left
                  · (intro w hSw; (try dsimp only at hSw); have a0 : Sem.run Try.prog (loadCellsFrom ⟨g6, o6 + j * n20, none⟩ 0 n20 #[]) w = .ok (encR x).toArray w := hSw.1.all.load (k := n20) (encR_n _) Try.prog; have a1 := hSw.2.all.load (k := n20) (encR_n _) Try.prog; clear hSw;try simp only [List.getElem_toArray, List.getElem_cons_zero, List.getElem_cons_succ]; go_simp; try (with_reducible rfl))
                  try simp only [List.setIfInBounds_toArray, List.set_cons_zero, List.set_cons_succ]
                  refine held_take 9 75 (v := ?_) rfl rfl (by kernel_rfl) (by kernel_rfl) (by kernel_rfl) (fun _ _ _ h => h) (by rfl) ?_ ⟨HX9.out, HX5.out⟩ ?_
                  rotate_left
                  · (intro w hSw; (try dsimp only at hSw); have a0 : Sem.run Try.prog (loadCellsFrom ⟨g6, o6 + j * n20, none⟩ 0 n20 #[]) w = .ok (encR x).toArray w := hSw.1.all.load (k := n20) (encR_n _) Try.prog; have a1 := hSw.2.all.load (k := n20) (encR_n _) Try.prog; clear hSw;try simp only [List.getElem_toArray, List.getElem_cons_zero, List.getElem_cons_succ]; go_simp; try (with_reducible rfl))
                  try simp only [List.setIfInBounds_toArray, List.set_cons_zero, List.set_cons_succ]
                  refine held_take 10 76 (v := ?_) rfl rfl (by kernel_rfl) (by kernel_rfl) (by kernel_rfl) (fun _ _ _ h => h) (by rfl) ?_ ⟨HX9.out, HX5.out⟩ ?_
                  rotate_left
                  · (intro w hSw; (try dsimp only at hSw); have a0 : Sem.run Try.prog (loadCellsFrom ⟨g6, o6 + j * n20, none⟩ 0 n20 #[]) w = .ok (encR x).toArray w := hSw.1.all.load (k := n20) (encR_n _) Try.prog; have a1 := hSw.2.all.load (k := n20) (encR_n _) Try.prog; clear hSw;try simp only [List.getElem_toArray, List.getElem_cons_zero, List.getElem_cons_succ]; go_simp; try (with_reducible rfl))
                  try simp only [List.setIfInBounds_toArray, List.set_cons_zero, List.set_cons_succ]
                  refine held_take 11 77 (v := ?_) rfl rfl (by kernel_rfl) (by kernel_rfl) (by kernel_rfl) (fun _ _ _ h => h) (by rfl) ?_ ⟨HX9.out, HX5.out⟩ ?_
                  rotate_left
                  · (intro w hSw; (try dsimp only at hSw); have a0 : Sem.run Try.prog (loadCellsFrom ⟨g6, o6 + j * n20, none⟩ 0 n20 #[]) w = .ok (encR x).toArray w := hSw.1.all.load (k := n20) (encR_n _) Try.prog; have a1 := hSw.2.all.load (k := n20) (encR_n _) Try.prog; clear hSw;try simp only [List.getElem_toArray, List.getElem_cons_zero, List.getElem_cons_succ]; go_simp; try (with_reducible rfl))
                  try simp only [List.setIfInBounds_toArray, List.set_cons_zero, List.set_cons_succ]
                  refine wpAnyH_done (by kernel_rfl) ?_ _
                  go_wp2
                  go_roundw
                  case rel => exact ⟨k + 1, j + 1, by omega, by go_num, by go_num, HFE.out, HB9.out⟩
                  case measure => simp [intOf]; omega
                · have h2' : decide (c2 < 0) = false := decide_eq_false h2
                  have HFE := Lib.hid (show j = ((T.take (k + 1)).filter (inB p q)).length by rw [HFS.out, HIN.out, h2', Bool.and_false, if_neg (by simp), List.append_nil]; exact HJ.out)
                  go_upto_region 16 with fail
                  have HBX := Lib.hid (setRow_heap (wr.alloc (.cells (encR zR).toArray 34 (0, 0))) wr.heap.size _ (encR x).toArray 34 (0, 0) (heap_alloc_new wr _))
                  have hbx := Lib.hid (below_setRow ((Below.refl wr.heap.size wr).alloc (Nat.le_refl _) (.cells (encR zR).toArray 34 (0, 0))) (Nat.le_refl _) (encR x).toArray)
                  clear hst hl1
                  generalize (wr.alloc _).setRow _ _ = W5 at HBX hbx ⊢
                  have HBSZ := Lib.hid HB7.out.size
                  generalize wr.heap.size = B5 at HBX hbx HBSZ ⊢
                  have HB5 := Lib.hid (Below.refl W5.heap.size W5)
                  have HB75 := Lib.hid (HB7.out.trans (hbx.out.mono HBSZ.out))
                  have HLX := Lib.hid (fun (V : World) (hb : Below W5.heap.size W5 V) => ((show RAt W5 B5 0 x from ⟨at_row HBX.out⟩).below hb).to.all.load (k := n18) (encP_n _) Try.prog)
                  have a0 := HLX.out _ HB5.out
                  have a1 := HLP.out _ (HB.out.trans (HB75.out.mono HB.out.size))
                  have a2 := HLQ.out _ (HB.out.trans (HB75.out.mono HB.out.size))
                  go_wp2_with (first
                    | (go_at_call 33; (with_reducible refine (refCompare_any _ _ _).mono ?_); rintro e w4 ⟨rfl, h1⟩; (first | rw [HC1.out] | rw [HC2.out]); have HB5 := Lib.hid (HB5.out.trans (h1.mono HB5.out.size)); clear h1 a0 a1 a2; have a0 := HLX.out _ HB5.out; have a1 := HLP.out _ (HB.out.trans ((HB75.out.trans (HB5.out.mono HB75.out.size)).mono HB.out.size)); have a2 := HLQ.out _ (HB.out.trans ((HB75.out.trans (HB5.out.mono HB75.out.size)).mono HB.out.size))))
                  go_roundw
                  case rel => exact ⟨k + 1, j, by omega, by go_num, rfl, HFE.out, HB75.out.trans (HB5.out.mono HB75.out.size)⟩
                  case measure => simp [intOf]; omega
              · have h1' : decide (0 ≤ c1) = false := decide_eq_false h1
                have HFE := Lib.hid (show j = ((T.take (k + 1)).filter (inB p q)).length by rw [HFS.out, HIN.out, decide_eq_false (by omega), Bool.false_and, if_neg (by simp), List.append_nil]; exact HJ.out)
                go_upto_region 16 with fail
                have HBX := Lib.hid (setRow_heap (wr.alloc (.cells (encR zR).toArray 34 (0, 0))) wr.heap.size _ (encR x).toArray 34 (0, 0) (heap_alloc_new wr _))
                have hbx := Lib.hid (below_setRow ((Below.refl wr.heap.size wr).alloc (Nat.le_refl _) (.cells (encR zR).toArray 34 (0, 0))) (Nat.le_refl _) (encR x).toArray)
                clear hst hl1
                generalize (wr.alloc _).setRow _ _ = W5 at HBX hbx ⊢
                have HBSZ := Lib.hid HB7.out.size
                generalize wr.heap.size = B5 at HBX hbx HBSZ ⊢
                have HB5 := Lib.hid (Below.refl W5.heap.size W5)
                have HB75 := Lib.hid (HB7.out.trans (hbx.out.mono HBSZ.out))
                have HLX := Lib.hid (fun (V : World) (hb : Below W5.heap.size W5 V) => ((show RAt W5 B5 0 x from ⟨at_row HBX.out⟩).below hb).to.all.load (k := n18) (encP_n _) Try.prog)
                have a0 := HLX.out _ HB5.out
                have a1 := HLP.out _ (HB.out.trans (HB75.out.mono HB.out.size))
                have a2 := HLQ.out _ (HB.out.trans (HB75.out.mono HB.out.size))
                go_wp2_with (first
                    | (go_at_call 33; (with_reducible refine (refCompare_any _ _ _).mono ?_); rintro e w4 ⟨rfl, h1⟩; (first | rw [HC1.out] | rw [HC2.out]); have HB5 := Lib.hid (HB5.out.trans (h1.mono HB5.out.size)); clear h1 a0 a1 a2; have a0 := HLX.out _ HB5.out; have a1 := HLP.out _ (HB.out.trans ((HB75.out.trans (HB5.out.mono HB75.out.size)).mono HB.out.size)); have a2 := HLQ.out _ (HB.out.trans ((HB75.out.trans (HB5.out.mono HB75.out.size)).mono HB.out.size))))
                go_roundw
                case rel => exact ⟨k + 1, j, by omega, by go_num, rfl, HFE.out, HB75.out.trans (HB5.out.mono HB75.out.size)⟩
                case measure => simp [intOf]; omega
            · have hkt : k = T.length := by omega
              have hjt : j = D.length := by have := HJ.out; rw [hkt, List.take_length, HDD.out] at this; exact this
              subst hjt
              have hkk : ¬ (k : Int) < (T.length : Int) := by omega
              clear hlt hkt
              have HBz := Lib.hid (HB.out.trans (HB7.out.mono HB.out.size))
              have cP := HLP.out _ HBz.out
              have cQ := HLQ.out _ HBz.out
              go_wp2_with (first
                | (go_at_call 23; (with_reducible refine (HBA.out _ HBz.out).mono ?_); rintro e w8 ⟨v8, rfl, h1, h2⟩; obtain ⟨A8, c8, hv8, _⟩ := own_rv h1; obtain rfl := hv8.eq; rw [List.length_nil]; have HBz := Lib.hid (HBz.out.trans (h2.mono HBz.out.size)); clear h1 h2 hv8 cP cQ; have cP := HLP.out _ HBz.out; have cQ := HLQ.out _ HBz.out)
                | (go_at_call 23; (with_reducible refine (HBC.out _ HBz.out).mono ?_); rintro e w8 ⟨v8, rfl, h1, h2⟩; obtain ⟨A8, c8, hv8, _⟩ := own_rv h1; obtain rfl := hv8.eq; rw [List.length_nil]; have HBz := Lib.hid (HBz.out.trans (h2.mono HBz.out.size)); clear h1 h2 hv8 cP cQ))
              go_ret
              exact ⟨rfl, HBW.out.trans (HBz.out.mono HBW.out.size)⟩
end Go.Proofs.Ytbeoclcnajfjcaa.TableBetween
