/-
  TableCopies: the walk. Conditions: none.
-/
import Derived.Test.YtbeoclcnajfjcaaLawP
import Derived.Test.YtbeoclcnajfjcaaLawQ
namespace Go.Proofs.Ytbeoclcnajfjcaa.TableCopies
open Go Go.RowKit H2 Tab
set_option linter.unusedVariables false
set_option linter.unusedSimpArgs false
set_option maxRecDepth 100000 in
set_option maxHeartbeats 40000000 in
theorem walk (v0 v1 : Value) (W : World) (w0 : Tab.IsOs W v0) (w1 : Tab.IsOs W v1) : Calls Try.prog 6 #[v0, v1] W fun e w' => e = .returned (.bool true) ∧ Below W.heap.size W w' := by
  obtain ⟨A, cap, L, rfl, hl, hr⟩ := w0
  obtain ⟨A', cap', L', rfl, hl', hr'⟩ := w1
  have HR := Lib.hid hr
  have HR' := Lib.hid hr'
  obtain ⟨n, hn⟩ : ∃ n, L.length = n := ⟨_, rfl⟩
  obtain ⟨m, hm⟩ : ∃ m, L'.length = m := ⟨_, rfl⟩
  have HN := Lib.hid hn
  have HM := Lib.hid hm
  rw [hn] at hl ⊢
  rw [hm] at hl' ⊢
  unfold maxLen at hl hl'
  have hl := Nat.le_trans hl.1 hl.2
  have hl' := Nat.le_trans hl'.1 hl'.2
  clear hr hr' hn hm
  have n0 : (0 : Int) ≤ (n : Int) := by omega
  have m0 : (0 : Int) ≤ (m : Int) := by omega
  have hb := Lib.hid (Below.refl W.heap.size W)
  obtain ⟨s, hs⟩ : ∃ s, IntKind.i64.wrap ((n : Int) + (m : Int)) = s := ⟨_, rfl⟩
  by_cases hbig : (200 : Int) < s
  · have hbd : decide ((200 : Int) < s) = true := decide_eq_true hbig
    go_enter Try.func6, Try.ntmps6
    go_wp2_with (first
      | (go_at_call 10; (with_reducible refine (awake_any _).mono ?_); rintro e w1 ⟨rfl, h1⟩; have hb := Lib.hid (hb.out.trans (h1.mono hb.out.size)); clear h1))
    go_ret
    exact ⟨rfl, hb.out⟩
  · have hbd : decide ((200 : Int) < s) = false := decide_eq_false hbig
    go_enter Try.func6, Try.ntmps6
    go_wp2_with (first
      | (go_at_call 10; (with_reducible refine (awake_any _).mono ?_); rintro e w1 ⟨rfl, h1⟩; have hb := Lib.hid (hb.out.trans (h1.mono hb.out.size)); clear h1)
      | (go_at_call 11; (with_reducible refine (new_none _).mono ?_); rintro e w2 ⟨b, v, rfl, h1, h2⟩; have HT := Lib.hid h1; have HB := Lib.hid h2; clear h1 h2))
    clear hbd hbig hs
    go_loopw [34] (fun s34 wr => ∃ (k : Nat) (v : Value) (T : List Rt), k ≤ n ∧ s34 = .int .i64 k ∧ Tb w1.heap.size wr b v T ∧ Below w1.heap.size w1 wr) (fun s34 _ => n - (intOf s34).toNat)
    case atStart => exact ⟨0, v, [], by omega, rfl, HT.out, HB.out⟩
    case round =>
      obtain ⟨k, v, T, hk, rfl, ht, hbb⟩ := hrel
      have HT := Lib.hid ht
      have HB := Lib.hid hbb
      clear ht hbb
      by_cases hlt : k < n
      · have hlt' : (k : Int) < (n : Int) := by omega
        have k0 : (0 : Int) ≤ (k : Int) := by omega
        have hkl : k < L.length := by rw [HN.out]; exact hlt
        obtain ⟨g, o, rfl, hx⟩ := HR.out k hkl
        have HX := Lib.hid ((hx.below hb.out).below HB.out)
        clear hx
        generalize L[k] = x at HX
        have hl1 : Sem.run Try.prog (loadCellsFrom ⟨g, o + k * n22, none⟩ 0 n22 #[]) wr = .ok (encO x).toArray wr := HX.out.all.load (k := n22) (encO_n _) Try.prog
        have hst := store_row (o := 0) (vs := encO x) (heap_alloc_new wr (.cells (encO zO).toArray 36 (0, 0))) (by simp [encO_len]) (encO_one _) Try.prog
        rw [splice_whole (by simp [encO_len])] at hst
        go_upto_region 7 with fail
        have HBX := Lib.hid (setRow_heap (wr.alloc (.cells (encO zO).toArray 36 (0, 0))) wr.heap.size _ (encO x).toArray 36 (0, 0) (heap_alloc_new wr _))
        have hbx := Lib.hid (below_setRow ((Below.refl wr.heap.size wr).alloc (Nat.le_refl _) (.cells (encO zO).toArray 36 (0, 0))) (Nat.le_refl _) (encO x).toArray)
        clear hst hl1
        generalize (wr.alloc _).setRow _ _ = W5 at HBX hbx ⊢
        have HNO := Lib.hid (tb_new_no HT.out (g := wr.heap.size) (Nat.le_refl _))
        have HT5 := Lib.hid (HT.out.below hbx.out)
        have HB5 := Lib.hid (HB.out.trans (hbx.out.mono HB.out.size))
        have HX5 := Lib.hid (show OAt W5 wr.heap.size 0 x from ⟨at_row HBX.out⟩)
        generalize wr.heap.size = B5 at HX5 HNO ⊢
        have c0 : Sem.run Try.prog (loadCellsFrom ⟨B5, 2, none⟩ 0 n20 #[]) W5 = .ok (encR x.rt).toArray W5 := HX5.out.rt.all.load (k := n20) (encR_n _) Try.prog
        clear HBX
        go_wp2_with (go_at_call 12; (with_reducible refine (tb_put x.rt HT5.out HB5.out).mono ?_); rintro e w9 ⟨rfl, v9, h1, h2⟩; have HT9 := Lib.hid h1; have HB9 := Lib.hid h2; clear h1 h2 c0)
        go_roundw
        case rel => exact ⟨k + 1, v9, _, by omega, by go_num, HT9.out, HB9.out⟩
        case measure => simp [intOf]; omega
      · rename World => wa
        obtain rfl : k = n := by omega
        have hkk : ¬ (k : Int) < (k : Int) := by omega
        have HWA := Lib.hid (hb.out.trans (HB.out.mono hb.out.size))
        have HTA := HT
        clear hlt HT HB hb HN HR hl n0
        go_wp2_with (first
          | (go_at_call 29; (with_reducible refine (copy_any _ HTA.out).mono ?_); rintro e w3 ⟨bc, vc, rfl, h1, h2⟩; have HTC := Lib.hid h1; have HBC := Lib.hid h2; have HA3 := Lib.hid (HTA.out.below h2); clear h1 h2)
          | (go_at_call 22; (with_reducible refine (all_any _ HA3.out).mono ?_); rintro e w4 ⟨v4, rfl, h1, h2⟩; obtain ⟨A4, c4, hv4, hf4⟩ := own_rv h1; obtain rfl := hv4.eq; have HAP := Lib.hid (ap_new HTC.out hv4 (fun g o e => (hf4 g o e).1)); have HTC4 := Lib.hid (HTC.out.below h2); have HBC4 := Lib.hid (HBC.out.trans (h2.mono HBC.out.size)); clear h1 h2 hv4 hf4))
        have HTL := Lib.hid HTA.out.tok.len
        go_loopw [49] (fun s49 wr => ∃ (k : Nat) (v : Value) (T2 : List Rt), k ≤ m ∧ s49 = .int .i64 k ∧ Tb wa.heap.size wr bc v T2 ∧ Below wa.heap.size wa wr ∧ Ap wr bc v (.slice A4 T.length c4) A4 c4 T) (fun s49 _ => m - (intOf s49).toNat)
        case atStart => exact ⟨0, vc, T, by omega, rfl, HTC4.out, HBC4.out, HAP.out⟩
        case round =>
          clear HTC HBC HA3 HTC4 HBC4 HAP
          obtain ⟨k, v, T2, hk, rfl, ht, hbb, hap⟩ := hrel
          have HT := Lib.hid ht
          have HB := Lib.hid hbb
          have HAP := Lib.hid hap
          clear ht hbb hap
          by_cases hlt : k < m
          · have hlt' : (k : Int) < (m : Int) := by omega
            have k0 : (0 : Int) ≤ (k : Int) := by omega
            have hkl : k < L'.length := by rw [HM.out]; exact hlt
            obtain ⟨g, o, rfl, hx⟩ := HR'.out k hkl
            have HX := Lib.hid ((hx.below HWA.out).below HB.out)
            clear hx
            generalize L'[k] = x at HX
            have hl1 : Sem.run Try.prog (loadCellsFrom ⟨g, o + k * n22, none⟩ 0 n22 #[]) wr = .ok (encO x).toArray wr := HX.out.all.load (k := n22) (encO_n _) Try.prog
            have hst := store_row (o := 0) (vs := encO x) (heap_alloc_new wr (.cells (encO zO).toArray 36 (0, 0))) (by simp [encO_len]) (encO_one _) Try.prog
            rw [splice_whole (by simp [encO_len])] at hst
            go_upto_region 14 with fail
            have HBX := Lib.hid (setRow_heap (wr.alloc (.cells (encO zO).toArray 36 (0, 0))) wr.heap.size _ (encO x).toArray 36 (0, 0) (heap_alloc_new wr _))
            have hbx := Lib.hid (below_setRow ((Below.refl wr.heap.size wr).alloc (Nat.le_refl _) (.cells (encO zO).toArray 36 (0, 0))) (Nat.le_refl _) (encO x).toArray)
            clear hst hl1
            generalize (wr.alloc _).setRow _ _ = W5 at HBX hbx ⊢
            have HNO := Lib.hid (tb_new_no HT.out (g := wr.heap.size) (Nat.le_refl _))
            have HT5 := Lib.hid (HT.out.below hbx.out)
            have HB5 := Lib.hid (HB.out.trans (hbx.out.mono HB.out.size))
            have HAP5 := Lib.hid (HAP.out.below hbx.out)
            have HX5 := Lib.hid (show OAt W5 wr.heap.size 0 x from ⟨at_row HBX.out⟩)
            generalize wr.heap.size = B5 at HX5 HNO ⊢
            have c0 : Sem.run Try.prog (loadCellsFrom ⟨B5, 2, none⟩ 0 n20 #[]) W5 = .ok (encR x.rt).toArray W5 := HX5.out.rt.all.load (k := n20) (encR_n _) Try.prog
            clear HBX
            go_wp2_with (first
              | (go_at_call 12; (with_reducible refine (put_anyK x.rt _ HT5.out).mono ?_); rintro e w6 ⟨v6, rfl, h1, h2, h3⟩; have HT6 := Lib.hid h1; have HB6 := Lib.hid (HB5.out.trans (tb_below HT5.out h2)); have HAP6 := Lib.hid (HAP5.out.step h2 h3); have HX6 := Lib.hid (HX5.out.only h2 HNO.out); clear h1 h2 h3 c0; have c0 : Sem.run Try.prog (loadCellsFrom ⟨B5, 2, none⟩ 0 n18 #[]) w6 = .ok (encP x.rt.to).toArray w6 := HX6.out.rt.to.all.load (k := n18) (encP_n _) Try.prog)
              | (go_at_call 14; (with_reducible refine (drop_anyK x.rt.to _ HT6.out).mono ?_); rintro e w7 ⟨v7, rfl, h1, h2, h3⟩; have HT7 := Lib.hid h1; have HB7 := Lib.hid (HB6.out.trans (tb_below HT6.out h2)); have HAP7 := Lib.hid (HAP6.out.step h2 h3); clear h1 h2 h3 c0))
            go_roundw
            case rel => exact ⟨k + 1, v7, _, by omega, by go_num, HT7.out, HB7.out, HAP7.out⟩
            case measure => simp [intOf]; omega
          · obtain rfl : k = m := by omega
            have hkk : ¬ (k : Int) < (k : Int) := by omega
            clear hlt hl' m0 HR' HM
            have HAL := Lib.hid (all_any _ HT.out)
            obtain ⟨n2, hn2⟩ : ∃ n, T2.length = n := ⟨_, rfl⟩
            have HN2 := Lib.hid hn2
            clear hn2
            go_wp2_with (go_at_call 22; (with_reducible refine (HAL.out).mono ?_); rintro e w8 ⟨v8, rfl, h1, h2⟩; obtain ⟨A8, c8, hv8, hf8⟩ := own_rv h1; obtain rfl := hv8.eq; have HAP8 := Lib.hid (ap_new HT.out hv8 (fun g o e => (hf8 g o e).1)); have HAP := Lib.hid (HAP.out.below h2); have HT8 := Lib.hid (HT.out.below h2); have HB8 := Lib.hid (HB.out.trans (h2.mono HB.out.size)); rw [HN2.out]; clear h1 h2 hv8 hf8)
            have hn3 := HT.out.tok.len
            rw [HN2.out] at hn3
            go_loopw [66] (fun s66 wr => ∃ (k : Nat) (v : Value), k ≤ n2 ∧ s66 = .int .i64 k ∧ Tb wa.heap.size wr bc v (T2.drop k) ∧ Below wa.heap.size wa wr ∧ Ap wr bc v (.slice A4 T.length c4) A4 c4 T ∧ Ap wr bc v (.slice A8 T2.length c8) A8 c8 T2) (fun s66 _ => n2 - (intOf s66).toNat)
            case atStart => exact ⟨0, v, by omega, rfl, by rw [List.drop_zero]; exact HT8.out, HB8.out, HAP.out, HAP8.out⟩
            case round =>
              have HSR := Lib.hid HT.out.tok.srt
              clear HT HB HAL HAP HAP8 HT8 HB8
              obtain ⟨k, v, hk, rfl, ht, hbb, hap, hap8⟩ := hrel
              have HT := Lib.hid ht
              have HB := Lib.hid hbb
              have HAP := Lib.hid hap
              have HAP8 := Lib.hid hap8
              clear ht hbb hap hap8
              by_cases hlt : k < n2
              · have hlt' : (k : Int) < (n2 : Int) := by omega
                have k0 : (0 : Int) ≤ (k : Int) := by omega
                have hkl : k < T2.length := by rw [HN2.out]; exact hlt
                obtain ⟨g, o, e8, hx⟩ := HAP8.out.rv.rd k hkl
                subst e8
                have HX := Lib.hid hx
                have HDL := Lib.hid (del_head HSR.out hkl)
                clear hx
                generalize T2[k] = x at HX HDL
                have hl1 : Sem.run Try.prog (loadCellsFrom ⟨g, o + k * n20, none⟩ 0 n20 #[]) wr = .ok (encR x).toArray wr := HX.out.all.load (k := n20) (encR_n _) Try.prog
                have hst := store_row (o := 0) (vs := encR x) (heap_alloc_new wr (.cells (encR zR).toArray 34 (0, 0))) (by simp [encR_len]) (encR_one _) Try.prog
                rw [splice_whole (by simp [encR_len])] at hst
                go_upto_region 20 with fail
                have HBX := Lib.hid (setRow_heap (wr.alloc (.cells (encR zR).toArray 34 (0, 0))) wr.heap.size _ (encR x).toArray 34 (0, 0) (heap_alloc_new wr _))
                have hbx := Lib.hid (below_setRow ((Below.refl wr.heap.size wr).alloc (Nat.le_refl _) (.cells (encR zR).toArray 34 (0, 0))) (Nat.le_refl _) (encR x).toArray)
                clear hst hl1
                generalize (wr.alloc _).setRow _ _ = W5 at HBX hbx ⊢
                have HT5 := Lib.hid (HT.out.below hbx.out)
                have HB5 := Lib.hid (HB.out.trans (hbx.out.mono HB.out.size))
                have HAP5 := Lib.hid (HAP.out.below hbx.out)
                have HAP85 := Lib.hid (HAP8.out.below hbx.out)
                have c0 := (show RAt W5 wr.heap.size 0 x from ⟨at_row HBX.out⟩).to.all.load (k := n18) (encP_n _) Try.prog
                clear HBX
                go_wp2_with (go_at_call 14; (with_reducible refine (drop_anyK x.to _ HT5.out).mono ?_); rintro e w7 ⟨v7, rfl, h1, h2, h3⟩; rw [HDL.out] at h1; have HT7 := Lib.hid h1; have HB7 := Lib.hid (HB5.out.trans (tb_below HT5.out h2)); have HAP7 := Lib.hid (HAP5.out.step h2 h3); have HAP87 := Lib.hid (HAP85.out.step h2 h3); clear h1 h2 h3 c0)
                go_roundw
                case rel => exact ⟨k + 1, v7, by omega, by go_num, HT7.out, HB7.out, HAP7.out, HAP87.out⟩
                case measure => simp [intOf]; omega
              · rename World => wb
                have hkk : k = n2 := by omega
                have hkk2 : ¬ (n2 : Int) < (n2 : Int) := by omega
                have HTE := Lib.hid (show Tb wa.heap.size wb bc v [] by have := HT.out; rwa [hkk, List.drop_of_length_le (by rw [HN2.out]; exact Nat.le_refl _)] at this)
                subst hkk
                have HTB := Lib.hid (HTA.out.below HB.out)
                have HRW := Lib.hid HAP.out.rv.rd
                have HWB := Lib.hid (HWA.out.trans (HB.out.mono HWA.out.size))
                clear hlt HT HAP HAP8 HSR HB HTA HWA
                have HAB := Lib.hid (all_any _ HTB.out)
                obtain ⟨n5, hn5⟩ : ∃ n, T.length = n := ⟨_, rfl⟩
                have HN5 := Lib.hid hn5
                clear hn5
                go_wp2_with (go_at_call 22; (with_reducible refine (HAB.out).mono ?_); rintro e w9 ⟨v9, rfl, h1, h2⟩; obtain ⟨A9, c9, e9, h9⟩ := own_lm h1; subst e9; have HLM := Lib.hid h9; have HB9 := Lib.hid h2; rw [HN5.out]; clear h1 h2 h9)
                have hn6 := HTL.out
                rw [HN5.out] at hn6 HLM
                go_loopw [79] (fun s79 wr => ∃ k : Nat, k ≤ n5 ∧ s79 = .int .i64 k ∧ Lm wr wb.heap.size A9 n5 ∧ Below wb.heap.size wb wr) (fun s79 _ => n5 - (intOf s79).toNat)
                case atStart => exact ⟨0, by omega, rfl, HLM.out, HB9.out⟩
                case round =>
                  clear HLM HB9 HAB
                  obtain ⟨k, hk, rfl, hlm, hbb⟩ := hrel
                  have HLM := Lib.hid hlm
                  have HB9 := Lib.hid hbb
                  clear hlm hbb
                  by_cases hlt : k < n5
                  · have hlt' : (k : Int) < (n5 : Int) := by omega
                    have k0 : (0 : Int) ≤ (k : Int) := by omega
                    obtain ⟨g, o, cur, rfl, hg, hh, mm, hmm⟩ := HLM.out k hlt
                    have e1 : wr.cell? ⟨g, o + k * n20 + 18, none⟩ = some (.int .i64 mm) := (blk_cell hh _).trans hmm
                    have e2 : wr.frozen? ⟨g, o + k * n20 + 18, none⟩ = false := blk_free hh _
                    have HG := Lib.hid hg
                    clear hh hmm hg
                    go_wp2
                    go_roundw
                    case rel => exact ⟨k + 1, by omega, by go_num, HLM.out.set k _, HB9.out.setCell HG.out _⟩
                    case measure => simp [intOf]; omega
                  · obtain rfl : k = n5 := by omega
                    have hkk : ¬ (k : Int) < (k : Int) := by omega
                    have HTE := Lib.hid (HTE.out.below HB9.out)
                    have HTB := Lib.hid (HTB.out.below HB9.out)
                    have HRW := Lib.hid (HRW.out.below HB9.out)
                    have HLN := Lib.hid (len_any _ HTE.out)
                    have HAZ := Lib.hid (all_any _ HTB.out)
                    go_wp2_with (first
                      | (go_at_call 20; (with_reducible refine (HLN.out).mono ?_); rintro e wx ⟨rfl, hw⟩; subst hw; rw [List.length_nil])
                      | (go_at_call 22; (with_reducible refine (HAZ.out).mono ?_); rintro e wy ⟨vy, rfl, h1, h2⟩; obtain ⟨Ay, cy, hvy, _⟩ := own_rv h1; obtain rfl := hvy.eq; have HSM := Lib.hid (refSame_any Ay A4 cy c4 T T (Nat.le_trans HTL.out (by decide)) (Nat.le_trans HTL.out (by decide)) wy hvy.rd (HRW.out.below h2)); rw [decide_eq_true rfl, HN5.out] at HSM; rw [HN5.out]; have HBY := Lib.hid (HB9.out.trans (h2.mono HB9.out.size)); clear h1 h2 hvy)
                      | (go_at_call 21; (with_reducible refine (HSM.out).mono ?_); rintro e wz ⟨rfl, h2⟩; have HBZ := Lib.hid (HBY.out.trans (h2.mono HBY.out.size)); clear h2))
                    go_ret
                    exact ⟨rfl, HWB.out.trans (HBZ.out.mono HWB.out.size)⟩
end Go.Proofs.Ytbeoclcnajfjcaa.TableCopies
