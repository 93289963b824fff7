/-
  TablePlays: the walk. Conditions: none.
-/
import Derived.Test.YtbeoclcnajfjcaaLawP
import Derived.Test.YtbeoclcnajfjcaaLawQ
import Derived.Test.YtbeoclcnajfjcaaRefD
import Derived.Test.YtbeoclcnajfjcaaRefE
namespace Go.Proofs.Ytbeoclcnajfjcaa.TablePlays
open Go Go.RowKit H2 Tab
set_option linter.unusedVariables false
set_option linter.unusedSimpArgs false
set_option maxRecDepth 100000 in
set_option maxHeartbeats 40000000 in
theorem walk (v0 v1 v2 : Value) (W : World) (w0 : Tab.IsOs W v0) (w1 : Tab.IsP W v1) (w2 : Tab.IsP W v2) : Calls Try.prog 3 #[v0, v1, v2] W fun e w' => e = .returned (.bool true) ∧ Below W.heap.size W w' := by
  obtain ⟨A, cap, L, rfl, hl, hr⟩ := w0
  obtain ⟨p, rfl⟩ := w1
  obtain ⟨q, rfl⟩ := w2
  have HR := Lib.hid hr
  obtain ⟨n, hn⟩ : ∃ n, L.length = n := ⟨_, rfl⟩
  have HN := Lib.hid hn
  rw [hn] at hl ⊢
  unfold maxLen at hl
  have hl := Nat.le_trans hl.1 hl.2
  clear hr hn
  have n0 : (0 : Int) ≤ (n : Int) := by omega
  by_cases hbig : (200 : Int) < (n : Int)
  · have hbd : decide ((200 : Int) < (n : Int)) = true := decide_eq_true hbig
    go_enter Try.func3, Try.ntmps3
    go_upto_region 1 with fail
    have HP := Lib.hid ((((Below.refl (W.alloc (.cells (encP p).toArray 25 (0, 0))).heap.size _).alloc (Nat.le_refl _) (.cells (encP q).toArray 25 (0, 0))).block W.heap.size (by simp)).trans (heap_alloc_new W (.cells (encP p).toArray 25 (0, 0))))
    have HQ := Lib.hid (heap_alloc_new (W.alloc (.cells (encP p).toArray 25 (0, 0))) (.cells (encP q).toArray 25 (0, 0)))
    rw [show (W.alloc (.cells (encP p).toArray 25 (0, 0))).heap.size = W.heap.size + 1 by simp] at HQ
    have HB0 := Lib.hid (show Below W.heap.size W ((W.alloc (.cells (encP p).toArray 25 (0, 0))).alloc (.cells (encP q).toArray 25 (0, 0))) from (((Below.refl _ _).alloc (Nat.le_refl _) _).alloc (by simp) _))
    generalize (W.alloc _).alloc _ = W0 at HP HQ HB0 ⊢
    have hb := Lib.hid (Below.refl W0.heap.size W0)
    obtain ⟨B2, hB2⟩ : ∃ b, W.heap.size + 1 = b := ⟨_, rfl⟩
    rw [hB2] at HQ ⊢
    obtain ⟨B, hB⟩ : ∃ b, W.heap.size = b := ⟨_, rfl⟩
    rw [hB] at HP ⊢
    have HPA := Lib.hid (show PAt W0 B 0 p from ⟨at_row HP.out⟩)
    have HQA := Lib.hid (show PAt W0 B2 0 q from ⟨at_row HQ.out⟩)
    clear hB hB2 HP HQ
    go_wp2_with (first
      | (go_at_call 10; (with_reducible refine (awake_any _).mono ?_); rintro e w1 ⟨rfl, h1⟩; have hb := Lib.hid (hb.out.trans (h1.mono hb.out.size)); clear h1))
    go_ret
    exact ⟨rfl, HB0.out.trans (hb.out.mono HB0.out.size)⟩
  · have hbd : decide ((200 : Int) < (n : Int)) = false := decide_eq_false hbig
    go_enter Try.func3, Try.ntmps3
    go_upto_region 1 with fail
    have HP := Lib.hid ((((Below.refl (W.alloc (.cells (encP p).toArray 25 (0, 0))).heap.size _).alloc (Nat.le_refl _) (.cells (encP q).toArray 25 (0, 0))).block W.heap.size (by simp)).trans (heap_alloc_new W (.cells (encP p).toArray 25 (0, 0))))
    have HQ := Lib.hid (heap_alloc_new (W.alloc (.cells (encP p).toArray 25 (0, 0))) (.cells (encP q).toArray 25 (0, 0)))
    rw [show (W.alloc (.cells (encP p).toArray 25 (0, 0))).heap.size = W.heap.size + 1 by simp] at HQ
    have HB0 := Lib.hid (show Below W.heap.size W ((W.alloc (.cells (encP p).toArray 25 (0, 0))).alloc (.cells (encP q).toArray 25 (0, 0))) from (((Below.refl _ _).alloc (Nat.le_refl _) _).alloc (by simp) _))
    generalize (W.alloc _).alloc _ = W0 at HP HQ HB0 ⊢
    have hb := Lib.hid (Below.refl W0.heap.size W0)
    obtain ⟨B2, hB2⟩ : ∃ b, W.heap.size + 1 = b := ⟨_, rfl⟩
    rw [hB2] at HQ ⊢
    obtain ⟨B, hB⟩ : ∃ b, W.heap.size = b := ⟨_, rfl⟩
    rw [hB] at HP ⊢
    have HPA := Lib.hid (show PAt W0 B 0 p from ⟨at_row HP.out⟩)
    have HQA := Lib.hid (show PAt W0 B2 0 q from ⟨at_row HQ.out⟩)
    clear hB hB2 HP HQ
    go_wp2_with (first
      | (go_at_call 10; (with_reducible refine (awake_any _).mono ?_); rintro e w1 ⟨rfl, h1⟩; have hb := Lib.hid (hb.out.trans (h1.mono hb.out.size)); clear h1)
      | (go_at_call 11; (with_reducible refine (new_none _).mono ?_); rintro e w2 ⟨b, v, rfl, h1, h2⟩; have HT := Lib.hid h1; have HB := Lib.hid h2; clear h1 h2))
    have HPA := Lib.hid (HPA.out.below hb.out)
    have HQA := Lib.hid (HQA.out.below hb.out)
    clear hbd hbig
    go_loopw [9, 34] (fun s9 s34 wr => ∃ (k : Nat) (v : Value) (A : Option Addr) (cap : Nat) (T : List Rt), k ≤ n ∧ s34 = .int .i64 k ∧ s9 = .slice A T.length cap ∧ Tb w1.heap.size wr b v T ∧ Below w1.heap.size w1 wr ∧ Ap wr b v (.slice A T.length cap) A cap T) (fun _ s34 _ => n - (intOf s34).toNat)
    case atStart => exact ⟨0, v, none, 0, [], by omega, rfl, rfl, HT.out, HB.out, ⟨⟨rfl, Nat.le_refl _, by decide, fun i hi => absurd hi (by simp), fun _ => rfl, fun a e => by cases e⟩, fun g o e => by cases e⟩⟩
    case round =>
      clear HT HB
      obtain ⟨k, v, A1, cap1, T, hk, rfl, rfl, ht, hbb, hap⟩ := hrel
      have HT := Lib.hid ht
      have HB := Lib.hid hbb
      have HAP := Lib.hid hap
      clear ht hbb hap
      by_cases hlt : k < n
      · have hlt' : (k : Int) < (n : Int) := by omega
        have k0 : (0 : Int) ≤ (k : Int) := by omega
        have hkl : k < L.length := by rw [HN.out]; exact hlt
        obtain ⟨g, o, rfl, hx⟩ := HR.out k hkl
        have HX := Lib.hid (((hx.below HB0.out).below hb.out).below HB.out)
        clear hx
        generalize L[k] = x at HX
        have hl1 : Sem.run Try.prog (loadCellsFrom ⟨g, o + k * n22, none⟩ 0 n22 #[]) wr = .ok (encO x).toArray wr := HX.out.all.load (k := n22) (encO_n _) Try.prog
        have hst := store_row (o := 0) (vs := encO x) (heap_alloc_new wr (.cells (encO zO).toArray 36 (0, 0))) (by simp [encO_len]) (encO_one _) Try.prog
        rw [splice_whole (by simp [encO_len])] at hst
        go_upto_region 12 with fail
        have HBX := Lib.hid (setRow_heap (wr.alloc (.cells (encO zO).toArray 36 (0, 0))) wr.heap.size _ (encO x).toArray 36 (0, 0) (heap_alloc_new wr _))
        have hbx := Lib.hid (below_setRow ((Below.refl wr.heap.size wr).alloc (Nat.le_refl _) (.cells (encO zO).toArray 36 (0, 0))) (Nat.le_refl _) (encO x).toArray)
        clear hst hl1
        generalize (wr.alloc _).setRow _ _ = W5 at HBX hbx ⊢
        have HNO := Lib.hid (tb_new_no HT.out (g := wr.heap.size) (Nat.le_refl _))
        have HT5 := Lib.hid (HT.out.below hbx.out)
        have HB5 := Lib.hid (HB.out.trans (hbx.out.mono HB.out.size))
        have HAP5 := Lib.hid (HAP.out.below hbx.out)
        have HX5 := Lib.hid (show OAt W5 wr.heap.size 0 x from ⟨at_row HBX.out⟩)
        generalize wr.heap.size = B5 at HX5 HNO ⊢
        clear HBX hbx HT HB HAP HX hkl
        obtain ⟨kk, ic, rt⟩ := x
        have z0 : W5.cell? ⟨B5, 0, none⟩ = some (.int .i64 kk) := HX5.out.kind
        iterate 10 go_step
        go_cut [9, 12, 13] (fun s9 s12 s13 wx => ∃ (c : Int) (v : Value) (A : Option Addr) (cap : Nat) (T : List Rt), s12 = .int .i64 c ∧ s13 = .int .i64 c ∧ s9 = .slice A T.length cap ∧ Tb w1.heap.size wx b v T ∧ Below w1.heap.size w1 wx ∧ Ap wx b v (.slice A T.length cap) A cap T ∧ OAt wx B5 0 ⟨kk, ic, rt⟩)
        case first =>
          have HTK := Lib.hid HT5.out.tok
          clear z0
          by_cases h1 : kk = 1
          · subst h1
            have c0 : Sem.run Try.prog (loadCellsFrom ⟨B5, 2, none⟩ 0 n20 #[]) W5 = .ok (encR rt).toArray W5 := HX5.out.rt.all.load (k := n20) (encR_n _) Try.prog
            go_wp2_with (first
              | (go_at_call 12; (with_reducible refine (put_anyK rt _ HT5.out).mono ?_); rintro e w6 ⟨v6, rfl, h1, h2, h3⟩; have HT6 := Lib.hid h1; have HB6 := Lib.hid (HB5.out.trans (tb_below HT5.out h2)); have HAP6 := Lib.hid (HAP5.out.step h2 h3); have HX6 := Lib.hid (HX5.out.only h2 HNO.out); clear h1 h2 h3 c0; have c0 : Sem.run Try.prog (loadCellsFrom ⟨B5, 2, none⟩ 0 n20 #[]) w6 = .ok (encR rt).toArray w6 := HX6.out.rt.all.load (k := n20) (encR_n _) Try.prog)
              | (go_at_call 13; (with_reducible refine (refPut_anyK A1 cap1 T HTK.out rt _ HAP6.out.rv).mono ?_); rintro e w7 ⟨⟨v7, A7, c7, rfl, h1, hf⟩, h2⟩; obtain rfl := h1.eq; have HAP7 := Lib.hid (ap_frm HAP6.out HT6.out h1 hf); have HT7 := Lib.hid (HT6.out.below h2); have HB7 := Lib.hid (HB6.out.trans (h2.mono HB6.out.size)); have HX7 := Lib.hid (HX6.out.below h2); clear h1 h2 hf c0))
            go_meet
            case rel => exact ⟨_, v6, A7, c7, _, rfl, rfl, rfl, HT7.out, HB7.out, HAP7.out, HX7.out⟩
          by_cases h2 : kk = 2
          · subst h2
            have c0 : Sem.run Try.prog (loadCellsFrom ⟨B5, 2, none⟩ 0 n18 #[]) W5 = .ok (encP rt.to).toArray W5 := HX5.out.rt.to.all.load (k := n18) (encP_n _) Try.prog
            go_wp2_with (first
              | (go_at_call 14; (with_reducible refine (drop_anyK rt.to _ HT5.out).mono ?_); rintro e w6 ⟨v6, rfl, h1, h2, h3⟩; have HT6 := Lib.hid h1; have HB6 := Lib.hid (HB5.out.trans (tb_below HT5.out h2)); have HAP6 := Lib.hid (HAP5.out.step h2 h3); have HX6 := Lib.hid (HX5.out.only h2 HNO.out); clear h1 h2 h3 c0; have c0 : Sem.run Try.prog (loadCellsFrom ⟨B5, 2, none⟩ 0 n18 #[]) w6 = .ok (encP rt.to).toArray w6 := HX6.out.rt.to.all.load (k := n18) (encP_n _) Try.prog)
              | (go_at_call 15; (with_reducible refine (refDrop_anyK A1 cap1 T HTK.out rt.to _ HAP6.out.rv).mono ?_); rintro e w7 ⟨⟨v7, A7, c7, rfl, h1, hf⟩, h2⟩; obtain rfl := h1.eq; have HAP7 := Lib.hid (ap_frm HAP6.out HT6.out h1 hf); have HT7 := Lib.hid (HT6.out.below h2); have HB7 := Lib.hid (HB6.out.trans (h2.mono HB6.out.size)); have HX7 := Lib.hid (HX6.out.below h2); clear h1 h2 hf c0))
            go_meet
            case rel => exact ⟨_, v6, A7, c7, _, rfl, rfl, rfl, HT7.out, HB7.out, HAP7.out, HX7.out⟩
          have e1 : (kk == 1) = false := by simpa using h1
          have e2 : (kk == 2) = false := by simpa using h2
          have c0 : Sem.run Try.prog (loadCellsFrom ⟨B5, 2, none⟩ 0 n20 #[]) W5 = .ok (encR rt).toArray W5 := HX5.out.rt.all.load (k := n20) (encR_n _) Try.prog
          have c1 : W5.cell? ⟨B5, 1, none⟩ = some (.int .i64 ic) := HX5.out.inc
          have hst := store_row (o := 0) (vs := Tab.encI ⟨ic, rt⟩) (heap_alloc_new W5 (.cells (Tab.encI zI).toArray 43 (0, 0))) (by simp [Tab.encI_len]) (Tab.encI_one _) Try.prog
          rw [splice_whole (by simp [Tab.encI_len])] at hst
          go_upto_region 14 with (first
            | (refine wpList_build_run (o := ⟨some 44, .build 43 #[(0, .tmp 41), (1, .tmp 43)], _, _, _, _⟩) rfl 43 #[(0, .tmp 41), (1, .tmp 43)] rfl #[(0, .int .i64 ic), (1, .agg (encR rt).toArray)] (by simp [Act.eval, Act.put]) (build_I _ _ _) ?_))
          have HIX := Lib.hid (setRow_heap (W5.alloc (.cells (Tab.encI zI).toArray 43 (0, 0))) W5.heap.size _ (Tab.encI ⟨ic, rt⟩).toArray 43 (0, 0) (heap_alloc_new W5 _))
          have hbi := Lib.hid (below_setRow ((Below.refl W5.heap.size W5).alloc (Nat.le_refl _) (.cells (Tab.encI zI).toArray 43 (0, 0))) (Nat.le_refl _) (Tab.encI ⟨ic, rt⟩).toArray)
          clear hst c0 c1
          have HNI := Lib.hid (tb_new_no HT5.out (g := W5.heap.size) (Nat.le_refl _))
          generalize (W5.alloc _).setRow _ _ = W4 at HIX hbi ⊢
          have HT4 := Lib.hid (HT5.out.below hbi.out)
          have HB4 := Lib.hid (HB5.out.trans (hbi.out.mono HB5.out.size))
          have HAP4 := Lib.hid (HAP5.out.below hbi.out)
          have HX4 := Lib.hid (HX5.out.below hbi.out)
          have HI4 := Lib.hid (show IAt W4 W5.heap.size 0 ⟨ic, rt⟩ from ⟨at_row HIX.out⟩)
          generalize W5.heap.size = B4 at HI4 HNI ⊢
          have c0 := HI4.out.all.load (k := n21) (Tab.encI_n _) Try.prog
          go_wp2_with (first
            | (go_at_call 16; (with_reducible refine (do_anyK ⟨ic, rt⟩ _ HT4.out).mono ?_); rintro e w6 ⟨v6, rfl, h1, h2, h3⟩; have HT6 := Lib.hid h1; have HB6 := Lib.hid (HB4.out.trans (tb_below HT4.out h2)); have HAP6 := Lib.hid (HAP4.out.step h2 h3); have HX6 := Lib.hid (HX4.out.only h2 HNO.out); have HI6 := Lib.hid (show IAt w6 B4 0 ⟨ic, rt⟩ from ⟨fun j u hj => h2.cell (HI4.out.all j u hj) HNI.out⟩); clear h1 h2 h3 c0; have c0 := HI6.out.all.load (k := n21) (Tab.encI_n _) Try.prog)
            | (go_at_call 17; (with_reducible refine (refDo_anyK A1 cap1 T HTK.out ⟨ic, rt⟩ _ HAP6.out.rv).mono ?_); rintro e w7 ⟨⟨v7, A7, c7, rfl, h1, hf⟩, h2⟩; obtain rfl := h1.eq; have HAP7 := Lib.hid (ap_frm HAP6.out HT6.out h1 hf); have HT7 := Lib.hid (HT6.out.below h2); have HB7 := Lib.hid (HB6.out.trans (h2.mono HB6.out.size)); have HX7 := Lib.hid (HX6.out.below h2); clear h1 h2 hf c0))
          go_meet
          case rel => exact ⟨_, v6, A7, c7, _, rfl, rfl, rfl, HT7.out, HB7.out, HAP7.out, HX7.out⟩
        case rest =>
          rename World => wx
          clear z0 HT5 HB5 HAP5 HX5 HNO
          obtain ⟨c, v2, A2, cap2, T2, rfl, rfl, rfl, ht, hbb, hap, hox⟩ := hcut
          have HT := Lib.hid ht
          have HB := Lib.hid hbb
          have HAP := Lib.hid hap
          have HX := Lib.hid hox
          clear ht hbb hap hox
          obtain ⟨pp, hpp⟩ : ∃ p, rt.to = p := ⟨_, rfl⟩
          have HXP := Lib.hid (show PAt wx B5 2 pp by rw [← hpp]; exact HX.out.rt.to)
          clear hpp HX
          have c0 := HXP.out.all.load (k := n18) (encP_n _) Try.prog
          have h300 := HT.out.tok.len
          obtain ⟨n2, hn2⟩ : ∃ n, T2.length = n := ⟨_, rfl⟩
          have HN2 := Lib.hid hn2
          have HFI := Lib.hid (fun (V : World) (hb : Below wx.heap.size wx V) => refFind_any A2 cap2 T2 (Nat.le_trans h300 (by decide)) pp V (HAP.out.rv.rd.below hb))
          have HGE := Lib.hid (get_any pp _ HT.out)
          by_cases hh : has T2 pp = true
          · obtain ⟨x0, g, o, h1, h2, h3, h4⟩ := get_place HAP.out.rv.rd HT.out.tok.srt hh
            rw [h1, hh, Option.getD_some] at HGE
            rw [fnd_srt HT.out.tok.srt hh] at HFI
            obtain ⟨y, hy⟩ : ∃ y, pos T2 pp = y := ⟨_, rfl⟩
            rw [hy] at HFI h3 h4
            rw [hn2] at h4 HFI h300 ⊢
            subst h2
            have HX0 := Lib.hid h3
            have y0 : (0 : Int) ≤ (y : Int) := by omega
            have y1 : (y : Int) < (n2 : Int) := by omega
            have hn2' := hn2
            clear h1 h3 hy hn2 hn2'
            go_upto_region 23 with (go_at_call 18; (with_reducible refine (HGE.out).mono ?_); rintro e w8 ⟨rfl, h1⟩; have hb8 := Lib.hid h1; clear h1 c0; have hst := store_row (o := 0) (vs := encR x0) (heap_alloc_new w8 (.cells (encR zR).toArray 34 (0, 0))) (by simp [encR_len]) (encR_one _) Try.prog; rw [splice_whole (by simp [encR_len])] at hst)
            clear hst
            have HBX := Lib.hid (setRow_heap (w8.alloc (.cells (encR zR).toArray 34 (0, 0))) w8.heap.size _ (encR x0).toArray 34 (0, 0) (heap_alloc_new w8 _))
            have hb9 := Lib.hid (hb8.out.trans ((below_setRow ((Below.refl w8.heap.size w8).alloc (Nat.le_refl _) (.cells (encR zR).toArray 34 (0, 0))) (Nat.le_refl _) (encR x0).toArray).mono hb8.out.size))
            generalize (w8.alloc _).setRow _ _ = W9 at HBX hb9 ⊢
            generalize w8.heap.size = B9 at HBX ⊢
            have HR9 := Lib.hid (show RAt W9 B9 0 x0 from ⟨at_row HBX.out⟩)
            clear HBX hb8
            have c0 : Sem.run Try.prog (loadCellsFrom ⟨B5, 2, none⟩ 0 n18 #[]) W9 = .ok (encP pp).toArray W9 := (HXP.out.below hb9.out).all.load (k := n18) (encP_n _) Try.prog
            go_upto_region 24 with (go_at_call 19; (with_reducible refine (HFI.out _ hb9.out).mono ?_); rintro e w10 ⟨rfl, h1⟩; have hbz := Lib.hid (hb9.out.trans (h1.mono hb9.out.size)).drew; have HRZ := Lib.hid (HR9.out.below h1).drew; clear h1 c0)
            have HTZ := Lib.hid (HT.out.below hbz.out)
            have HLN := Lib.hid (len_any _ HTZ.out)
            rw [HN2.out] at HLN
            have HXZ := Lib.hid (HX0.out.below hbz.out)
            refine wp_region_held_drew (S := (fun w' => RAt w' B9 0 x0 ∧ RAt w' g (o + y * 20) x0)) (by kernel_rfl) ⟨HRZ.out, HXZ.out⟩ (fun _ => ?_)
            refine held_take 0 95 (v := ?_) rfl rfl (by kernel_rfl) (by kernel_rfl) (by kernel_rfl) (fun _ _ _ h => h) (by rfl) ?_ ⟨HRZ.out, HXZ.out⟩ ?_
            rotate_left
            · (intro w hSw; (try dsimp only at hSw); have a0 := hSw.1.all.load (k := n20) (encR_n _) Try.prog; have a1 : Sem.run Try.prog (loadCellsFrom ⟨g, o + y * n20, none⟩ 0 n20 #[]) w = .ok (encR x0).toArray w := hSw.2.all.load (k := n20) (encR_n _) Try.prog; clear hSw;try simp only [List.getElem_toArray, List.getElem_cons_zero, List.getElem_cons_succ]; go_simp; try (with_reducible rfl))
            try simp only [List.setIfInBounds_toArray, List.set_cons_zero, List.set_cons_succ]
            refine held_take 1 96 (v := ?_) rfl rfl (by kernel_rfl) (by kernel_rfl) (by kernel_rfl) (fun _ _ _ h => h) (by rfl) ?_ ⟨HRZ.out, HXZ.out⟩ ?_
            rotate_left
            · (intro w hSw; (try dsimp only at hSw); have a0 := hSw.1.all.load (k := n20) (encR_n _) Try.prog; have a1 : Sem.run Try.prog (loadCellsFrom ⟨g, o + y * n20, none⟩ 0 n20 #[]) w = .ok (encR x0).toArray w := hSw.2.all.load (k := n20) (encR_n _) Try.prog; clear hSw;try simp only [List.getElem_toArray, List.getElem_cons_zero, List.getElem_cons_succ]; go_simp; try (with_reducible rfl))
            try simp only [List.setIfInBounds_toArray, List.set_cons_zero, List.set_cons_succ]
            refine held_take 2 97 (v := ?_) rfl rfl (by kernel_rfl) (by kernel_rfl) (by kernel_rfl) (fun _ _ _ h => h) (by rfl) ?_ ⟨HRZ.out, HXZ.out⟩ ?_
            rotate_left
            · (intro w hSw; (try dsimp only at hSw); have a0 := hSw.1.all.load (k := n20) (encR_n _) Try.prog; have a1 : Sem.run Try.prog (loadCellsFrom ⟨g, o + y * n20, none⟩ 0 n20 #[]) w = .ok (encR x0).toArray w := hSw.2.all.load (k := n20) (encR_n _) Try.prog; clear hSw;try simp only [List.getElem_toArray, List.getElem_cons_zero, List.getElem_cons_succ]; go_simp; try (with_reducible rfl))
            try simp only [List.setIfInBounds_toArray, List.set_cons_zero, List.set_cons_succ]
            refine held_take 3 98 (v := ?_) rfl rfl (by kernel_rfl) (by kernel_rfl) (by kernel_rfl) (fun _ _ _ h => h) (by rfl) ?_ ⟨HRZ.out, HXZ.out⟩ ?_
            rotate_left
            · (intro w hSw; (try dsimp only at hSw); have a0 := hSw.1.all.load (k := n20) (encR_n _) Try.prog; have a1 : Sem.run Try.prog (loadCellsFrom ⟨g, o + y * n20, none⟩ 0 n20 #[]) w = .ok (encR x0).toArray w := hSw.2.all.load (k := n20) (encR_n _) Try.prog; clear hSw;try simp only [List.getElem_toArray, List.getElem_cons_zero, List.getElem_cons_succ]; go_simp; try (with_reducible rfl))
            try simp only [List.setIfInBounds_toArray, List.set_cons_zero, List.set_cons_succ]
            refine held_take 4 99 (v := ?_) rfl rfl (by kernel_rfl) (by kernel_rfl) (by kernel_rfl) (fun _ _ _ h => h) (by rfl) ?_ ⟨HRZ.out, HXZ.out⟩ ?_
            rotate_left
            · (intro w hSw; (try dsimp only at hSw); have a0 := hSw.1.all.load (k := n20) (encR_n _) Try.prog; have a1 : Sem.run Try.prog (loadCellsFrom ⟨g, o + y * n20, none⟩ 0 n20 #[]) w = .ok (encR x0).toArray w := hSw.2.all.load (k := n20) (encR_n _) Try.prog; clear hSw;try simp only [List.getElem_toArray, List.getElem_cons_zero, List.getElem_cons_succ]; go_simp; try (with_reducible rfl))
            try simp only [List.setIfInBounds_toArray, List.set_cons_zero, List.set_cons_succ]
            refine held_take 6 101 (v := ?_) rfl rfl (by kernel_rfl) (by kernel_rfl) (by kernel_rfl) (fun _ _ _ h => h) (by rfl) ?_ ⟨HRZ.out, HXZ.out⟩ ?_
            rotate_left
            · (intro w hSw; (try dsimp only at hSw); have a0 := hSw.1.all.load (k := n20) (encR_n _) Try.prog; have a1 : Sem.run Try.prog (loadCellsFrom ⟨g, o + y * n20, none⟩ 0 n20 #[]) w = .ok (encR x0).toArray w := hSw.2.all.load (k := n20) (encR_n _) Try.prog; clear hSw;try simp only [List.getElem_toArray, List.getElem_cons_zero, List.getElem_cons_succ]; go_simp; try (with_reducible rfl))
            try simp only [List.setIfInBounds_toArray, List.set_cons_zero, List.set_cons_succ]
            refine Tab.held_two 5 7 rfl rfl (by kernel_rfl) (by rfl) (by rfl) (fun K hK => ?_) (fun K hK => ?_)
            · try simp only [List.getElem_toArray, List.getElem_cons_zero, List.getElem_cons_succ]
              go_simp
              (go_at_call 20; (with_reducible refine (HLN.out).mono ?_); rintro e w11 ⟨rfl, hw⟩; subst hw)
              try go_wp2_with fail
              try simp only [Act.put, List.setIfInBounds_toArray, List.set_cons_zero, List.set_cons_succ]
              refine hK.out _ _ _ ⟨HRZ.out, HXZ.out⟩ ?_
              clear hK K
              refine held_call 7 102 rfl rfl (by kernel_rfl) (by rfl) (fun K hK => ?_)
              try simp only [List.getElem_toArray, List.getElem_cons_zero, List.getElem_cons_succ]
              (go_simp)
              try simp only [Act.put, List.setIfInBounds_toArray, List.set_cons_zero, List.set_cons_succ]
              refine hK.out _ _ _ ⟨HRZ.out, HXZ.out⟩ ?_
              clear hK K
              refine held_take 8 103 (v := ?_) rfl rfl (by kernel_rfl) (by kernel_rfl) (by kernel_rfl) (fun _ _ _ h => h) (by rfl) ?_ ⟨HRZ.out, HXZ.out⟩ ?_
              rotate_left
              · (intro w hSw; (try dsimp only at hSw); have a0 := hSw.1.all.load (k := n20) (encR_n _) Try.prog; have a1 : Sem.run Try.prog (loadCellsFrom ⟨g, o + y * n20, none⟩ 0 n20 #[]) w = .ok (encR x0).toArray w := hSw.2.all.load (k := n20) (encR_n _) Try.prog; clear hSw;try simp only [List.getElem_toArray, List.getElem_cons_zero, List.getElem_cons_succ]; go_simp; try (with_reducible rfl))
              try simp only [List.setIfInBounds_toArray, List.set_cons_zero, List.set_cons_succ]
              refine held_take 9 104 (v := ?_) rfl rfl (by kernel_rfl) (by kernel_rfl) (by kernel_rfl) (fun _ _ _ h => h) (by rfl) ?_ ⟨HRZ.out, HXZ.out⟩ ?_
              rotate_left
              · (intro w hSw; (try dsimp only at hSw); have a0 := hSw.1.all.load (k := n20) (encR_n _) Try.prog; have a1 : Sem.run Try.prog (loadCellsFrom ⟨g, o + y * n20, none⟩ 0 n20 #[]) w = .ok (encR x0).toArray w := hSw.2.all.load (k := n20) (encR_n _) Try.prog; clear hSw;try simp only [List.getElem_toArray, List.getElem_cons_zero, List.getElem_cons_succ]; go_simp; try (with_reducible rfl))
              try simp only [List.setIfInBounds_toArray, List.set_cons_zero, List.set_cons_succ]
              refine held_take 10 105 (v := ?_) rfl rfl (by kernel_rfl) (by kernel_rfl) (by kernel_rfl) (fun _ _ _ h => h) (by rfl) ?_ ⟨HRZ.out, HXZ.out⟩ ?_
              rotate_left
              · (intro w hSw; (try dsimp only at hSw); have a0 := hSw.1.all.load (k := n20) (encR_n _) Try.prog; have a1 : Sem.run Try.prog (loadCellsFrom ⟨g, o + y * n20, none⟩ 0 n20 #[]) w = .ok (encR x0).toArray w := hSw.2.all.load (k := n20) (encR_n _) Try.prog; clear hSw;try simp only [List.getElem_toArray, List.getElem_cons_zero, List.getElem_cons_succ]; go_simp; try (with_reducible rfl))
              try simp only [List.setIfInBounds_toArray, List.set_cons_zero, List.set_cons_succ]
              refine held_take 11 106 (v := ?_) rfl rfl (by kernel_rfl) (by kernel_rfl) (by kernel_rfl) (fun _ _ _ h => h) (by rfl) ?_ ⟨HRZ.out, HXZ.out⟩ ?_
              rotate_left
              · (intro w hSw; (try dsimp only at hSw); have a0 := hSw.1.all.load (k := n20) (encR_n _) Try.prog; have a1 : Sem.run Try.prog (loadCellsFrom ⟨g, o + y * n20, none⟩ 0 n20 #[]) w = .ok (encR x0).toArray w := hSw.2.all.load (k := n20) (encR_n _) Try.prog; clear hSw;try simp only [List.getElem_toArray, List.getElem_cons_zero, List.getElem_cons_succ]; go_simp; try (with_reducible rfl))
              try simp only [List.setIfInBounds_toArray, List.set_cons_zero, List.set_cons_succ]
              refine held_take 12 107 (v := ?_) rfl rfl (by kernel_rfl) (by kernel_rfl) (by kernel_rfl) (fun _ _ _ h => h) (by rfl) ?_ ⟨HRZ.out, HXZ.out⟩ ?_
              rotate_left
              · (intro w hSw; (try dsimp only at hSw); have a0 := hSw.1.all.load (k := n20) (encR_n _) Try.prog; have a1 : Sem.run Try.prog (loadCellsFrom ⟨g, o + y * n20, none⟩ 0 n20 #[]) w = .ok (encR x0).toArray w := hSw.2.all.load (k := n20) (encR_n _) Try.prog; clear hSw;try simp only [List.getElem_toArray, List.getElem_cons_zero, List.getElem_cons_succ]; go_simp; try (with_reducible rfl))
              try simp only [List.setIfInBounds_toArray, List.set_cons_zero, List.set_cons_succ]
              refine held_take 13 108 (v := ?_) rfl rfl (by kernel_rfl) (by kernel_rfl) (by kernel_rfl) (fun _ _ _ h => h) (by rfl) ?_ ⟨HRZ.out, HXZ.out⟩ ?_
              rotate_left
              · (intro w hSw; (try dsimp only at hSw); have a0 := hSw.1.all.load (k := n20) (encR_n _) Try.prog; have a1 : Sem.run Try.prog (loadCellsFrom ⟨g, o + y * n20, none⟩ 0 n20 #[]) w = .ok (encR x0).toArray w := hSw.2.all.load (k := n20) (encR_n _) Try.prog; clear hSw;try simp only [List.getElem_toArray, List.getElem_cons_zero, List.getElem_cons_succ]; go_simp; try (with_reducible rfl))
              try simp only [List.setIfInBounds_toArray, List.set_cons_zero, List.set_cons_succ]
              refine held_take 14 109 (v := ?_) rfl rfl (by kernel_rfl) (by kernel_rfl) (by kernel_rfl) (fun _ _ _ h => h) (by rfl) ?_ ⟨HRZ.out, HXZ.out⟩ ?_
              rotate_left
              · (intro w hSw; (try dsimp only at hSw); have a0 := hSw.1.all.load (k := n20) (encR_n _) Try.prog; have a1 : Sem.run Try.prog (loadCellsFrom ⟨g, o + y * n20, none⟩ 0 n20 #[]) w = .ok (encR x0).toArray w := hSw.2.all.load (k := n20) (encR_n _) Try.prog; clear hSw;try simp only [List.getElem_toArray, List.getElem_cons_zero, List.getElem_cons_succ]; go_simp; try (with_reducible rfl))
              try simp only [List.setIfInBounds_toArray, List.set_cons_zero, List.set_cons_succ]
              refine held_take 15 110 (v := ?_) rfl rfl (by kernel_rfl) (by kernel_rfl) (by kernel_rfl) (fun _ _ _ h => h) (by rfl) ?_ ⟨HRZ.out, HXZ.out⟩ ?_
              rotate_left
              · (intro w hSw; (try dsimp only at hSw); have a0 := hSw.1.all.load (k := n20) (encR_n _) Try.prog; have a1 : Sem.run Try.prog (loadCellsFrom ⟨g, o + y * n20, none⟩ 0 n20 #[]) w = .ok (encR x0).toArray w := hSw.2.all.load (k := n20) (encR_n _) Try.prog; clear hSw;try simp only [List.getElem_toArray, List.getElem_cons_zero, List.getElem_cons_succ]; go_simp; try (with_reducible rfl))
              try simp only [List.setIfInBounds_toArray, List.set_cons_zero, List.set_cons_succ]
              refine held_take 16 111 (v := ?_) rfl rfl (by kernel_rfl) (by kernel_rfl) (by kernel_rfl) (fun _ _ _ h => h) (by rfl) ?_ ⟨HRZ.out, HXZ.out⟩ ?_
              rotate_left
              · (intro w hSw; (try dsimp only at hSw); have a0 := hSw.1.all.load (k := n20) (encR_n _) Try.prog; have a1 : Sem.run Try.prog (loadCellsFrom ⟨g, o + y * n20, none⟩ 0 n20 #[]) w = .ok (encR x0).toArray w := hSw.2.all.load (k := n20) (encR_n _) Try.prog; clear hSw;try simp only [List.getElem_toArray, List.getElem_cons_zero, List.getElem_cons_succ]; go_simp; try (with_reducible rfl))
              try simp only [List.setIfInBounds_toArray, List.set_cons_zero, List.set_cons_succ]
              refine held_take 17 112 (v := ?_) rfl rfl (by kernel_rfl) (by kernel_rfl) (by kernel_rfl) (fun _ _ _ h => h) (by rfl) ?_ ⟨HRZ.out, HXZ.out⟩ ?_
              rotate_left
              · (intro w hSw; (try dsimp only at hSw); have a0 := hSw.1.all.load (k := n20) (encR_n _) Try.prog; have a1 : Sem.run Try.prog (loadCellsFrom ⟨g, o + y * n20, none⟩ 0 n20 #[]) w = .ok (encR x0).toArray w := hSw.2.all.load (k := n20) (encR_n _) Try.prog; clear hSw;try simp only [List.getElem_toArray, List.getElem_cons_zero, List.getElem_cons_succ]; go_simp; try (with_reducible rfl))
              try simp only [List.setIfInBounds_toArray, List.set_cons_zero, List.set_cons_succ]
              refine held_take 18 113 (v := ?_) rfl rfl (by kernel_rfl) (by kernel_rfl) (by kernel_rfl) (fun _ _ _ h => h) (by rfl) ?_ ⟨HRZ.out, HXZ.out⟩ ?_
              rotate_left
              · (intro w hSw; (try dsimp only at hSw); have a0 := hSw.1.all.load (k := n20) (encR_n _) Try.prog; have a1 : Sem.run Try.prog (loadCellsFrom ⟨g, o + y * n20, none⟩ 0 n20 #[]) w = .ok (encR x0).toArray w := hSw.2.all.load (k := n20) (encR_n _) Try.prog; clear hSw;try simp only [List.getElem_toArray, List.getElem_cons_zero, List.getElem_cons_succ]; go_simp; try (with_reducible rfl))
              try simp only [List.setIfInBounds_toArray, List.set_cons_zero, List.set_cons_succ]
              refine held_take 19 114 (v := ?_) rfl rfl (by kernel_rfl) (by kernel_rfl) (by kernel_rfl) (fun _ _ _ h => h) (by rfl) ?_ ⟨HRZ.out, HXZ.out⟩ ?_
              rotate_left
              · (intro w hSw; (try dsimp only at hSw); have a0 := hSw.1.all.load (k := n20) (encR_n _) Try.prog; have a1 : Sem.run Try.prog (loadCellsFrom ⟨g, o + y * n20, none⟩ 0 n20 #[]) w = .ok (encR x0).toArray w := hSw.2.all.load (k := n20) (encR_n _) Try.prog; clear hSw;try simp only [List.getElem_toArray, List.getElem_cons_zero, List.getElem_cons_succ]; go_simp; try (with_reducible rfl))
              try simp only [List.setIfInBounds_toArray, List.set_cons_zero, List.set_cons_succ]
              refine held_take 20 115 (v := ?_) rfl rfl (by kernel_rfl) (by kernel_rfl) (by kernel_rfl) (fun _ _ _ h => h) (by rfl) ?_ ⟨HRZ.out, HXZ.out⟩ ?_
              rotate_left
              · (intro w hSw; (try dsimp only at hSw); have a0 := hSw.1.all.load (k := n20) (encR_n _) Try.prog; have a1 : Sem.run Try.prog (loadCellsFrom ⟨g, o + y * n20, none⟩ 0 n20 #[]) w = .ok (encR x0).toArray w := hSw.2.all.load (k := n20) (encR_n _) Try.prog; clear hSw;try simp only [List.getElem_toArray, List.getElem_cons_zero, List.getElem_cons_succ]; go_simp; try (with_reducible rfl))
              try simp only [List.setIfInBounds_toArray, List.set_cons_zero, List.set_cons_succ]
              refine held_take 21 116 (v := ?_) rfl rfl (by kernel_rfl) (by kernel_rfl) (by kernel_rfl) (fun _ _ _ h => h) (by rfl) ?_ ⟨HRZ.out, HXZ.out⟩ ?_
              rotate_left
              · (intro w hSw; (try dsimp only at hSw); have a0 := hSw.1.all.load (k := n20) (encR_n _) Try.prog; have a1 : Sem.run Try.prog (loadCellsFrom ⟨g, o + y * n20, none⟩ 0 n20 #[]) w = .ok (encR x0).toArray w := hSw.2.all.load (k := n20) (encR_n _) Try.prog; clear hSw;try simp only [List.getElem_toArray, List.getElem_cons_zero, List.getElem_cons_succ]; go_simp; try (with_reducible rfl))
              try simp only [List.setIfInBounds_toArray, List.set_cons_zero, List.set_cons_succ]
              refine held_take 22 117 (v := ?_) rfl rfl (by kernel_rfl) (by kernel_rfl) (by kernel_rfl) (fun _ _ _ h => h) (by rfl) ?_ ⟨HRZ.out, HXZ.out⟩ ?_
              rotate_left
              · (intro w hSw; (try dsimp only at hSw); have a0 := hSw.1.all.load (k := n20) (encR_n _) Try.prog; have a1 : Sem.run Try.prog (loadCellsFrom ⟨g, o + y * n20, none⟩ 0 n20 #[]) w = .ok (encR x0).toArray w := hSw.2.all.load (k := n20) (encR_n _) Try.prog; clear hSw;try simp only [List.getElem_toArray, List.getElem_cons_zero, List.getElem_cons_succ]; go_simp; try (with_reducible rfl))
              try simp only [List.setIfInBounds_toArray, List.set_cons_zero, List.set_cons_succ]
              refine held_take 23 118 (v := ?_) rfl rfl (by kernel_rfl) (by kernel_rfl) (by kernel_rfl) (fun _ _ _ h => h) (by rfl) ?_ ⟨HRZ.out, HXZ.out⟩ ?_
              rotate_left
              · (intro w hSw; (try dsimp only at hSw); have a0 := hSw.1.all.load (k := n20) (encR_n _) Try.prog; have a1 : Sem.run Try.prog (loadCellsFrom ⟨g, o + y * n20, none⟩ 0 n20 #[]) w = .ok (encR x0).toArray w := hSw.2.all.load (k := n20) (encR_n _) Try.prog; clear hSw;try simp only [List.getElem_toArray, List.getElem_cons_zero, List.getElem_cons_succ]; go_simp; try (with_reducible rfl))
              try simp only [List.setIfInBounds_toArray, List.set_cons_zero, List.set_cons_succ]
              refine held_take 24 119 (v := ?_) rfl rfl (by kernel_rfl) (by kernel_rfl) (by kernel_rfl) (fun _ _ _ h => h) (by rfl) ?_ ⟨HRZ.out, HXZ.out⟩ ?_
              rotate_left
              · (intro w hSw; (try dsimp only at hSw); have a0 := hSw.1.all.load (k := n20) (encR_n _) Try.prog; have a1 : Sem.run Try.prog (loadCellsFrom ⟨g, o + y * n20, none⟩ 0 n20 #[]) w = .ok (encR x0).toArray w := hSw.2.all.load (k := n20) (encR_n _) Try.prog; clear hSw;try simp only [List.getElem_toArray, List.getElem_cons_zero, List.getElem_cons_succ]; go_simp; try (with_reducible rfl))
              try simp only [List.setIfInBounds_toArray, List.set_cons_zero, List.set_cons_succ]
              refine held_take 25 120 (v := ?_) rfl rfl (by kernel_rfl) (by kernel_rfl) (by kernel_rfl) (fun _ _ _ h => h) (by rfl) ?_ ⟨HRZ.out, HXZ.out⟩ ?_
              rotate_left
              · (intro w hSw; (try dsimp only at hSw); have a0 := hSw.1.all.load (k := n20) (encR_n _) Try.prog; have a1 : Sem.run Try.prog (loadCellsFrom ⟨g, o + y * n20, none⟩ 0 n20 #[]) w = .ok (encR x0).toArray w := hSw.2.all.load (k := n20) (encR_n _) Try.prog; clear hSw;try simp only [List.getElem_toArray, List.getElem_cons_zero, List.getElem_cons_succ]; go_simp; try (with_reducible rfl))
              try simp only [List.setIfInBounds_toArray, List.set_cons_zero, List.set_cons_succ]
              refine held_take 26 121 (v := ?_) rfl rfl (by kernel_rfl) (by kernel_rfl) (by kernel_rfl) (fun _ _ _ h => h) (by rfl) ?_ ⟨HRZ.out, HXZ.out⟩ ?_
              rotate_left
              · (intro w hSw; (try dsimp only at hSw); have a0 := hSw.1.all.load (k := n20) (encR_n _) Try.prog; have a1 : Sem.run Try.prog (loadCellsFrom ⟨g, o + y * n20, none⟩ 0 n20 #[]) w = .ok (encR x0).toArray w := hSw.2.all.load (k := n20) (encR_n _) Try.prog; clear hSw;try simp only [List.getElem_toArray, List.getElem_cons_zero, List.getElem_cons_succ]; go_simp; try (with_reducible rfl))
              try simp only [List.setIfInBounds_toArray, List.set_cons_zero, List.set_cons_succ]
              refine held_take 27 122 (v := ?_) rfl rfl (by kernel_rfl) (by kernel_rfl) (by kernel_rfl) (fun _ _ _ h => h) (by rfl) ?_ ⟨HRZ.out, HXZ.out⟩ ?_
              rotate_left
              · (intro w hSw; (try dsimp only at hSw); have a0 := hSw.1.all.load (k := n20) (encR_n _) Try.prog; have a1 : Sem.run Try.prog (loadCellsFrom ⟨g, o + y * n20, none⟩ 0 n20 #[]) w = .ok (encR x0).toArray w := hSw.2.all.load (k := n20) (encR_n _) Try.prog; clear hSw;try simp only [List.getElem_toArray, List.getElem_cons_zero, List.getElem_cons_succ]; go_simp; try (with_reducible rfl))
              try simp only [List.setIfInBounds_toArray, List.set_cons_zero, List.set_cons_succ]
              refine held_take 28 123 (v := ?_) rfl rfl (by kernel_rfl) (by kernel_rfl) (by kernel_rfl) (fun _ _ _ h => h) (by rfl) ?_ ⟨HRZ.out, HXZ.out⟩ ?_
              rotate_left
              · (intro w hSw; (try dsimp only at hSw); have a0 := hSw.1.all.load (k := n20) (encR_n _) Try.prog; have a1 : Sem.run Try.prog (loadCellsFrom ⟨g, o + y * n20, none⟩ 0 n20 #[]) w = .ok (encR x0).toArray w := hSw.2.all.load (k := n20) (encR_n _) Try.prog; clear hSw;try simp only [List.getElem_toArray, List.getElem_cons_zero, List.getElem_cons_succ]; go_simp; try (with_reducible rfl))
              try simp only [List.setIfInBounds_toArray, List.set_cons_zero, List.set_cons_succ]
              refine held_take 29 124 (v := ?_) rfl rfl (by kernel_rfl) (by kernel_rfl) (by kernel_rfl) (fun _ _ _ h => h) (by rfl) ?_ ⟨HRZ.out, HXZ.out⟩ ?_
              rotate_left
              · (intro w hSw; (try dsimp only at hSw); have a0 := hSw.1.all.load (k := n20) (encR_n _) Try.prog; have a1 : Sem.run Try.prog (loadCellsFrom ⟨g, o + y * n20, none⟩ 0 n20 #[]) w = .ok (encR x0).toArray w := hSw.2.all.load (k := n20) (encR_n _) Try.prog; clear hSw;try simp only [List.getElem_toArray, List.getElem_cons_zero, List.getElem_cons_succ]; go_simp; try (with_reducible rfl))
              try simp only [List.setIfInBounds_toArray, List.set_cons_zero, List.set_cons_succ]
              refine held_take 30 125 (v := ?_) rfl rfl (by kernel_rfl) (by kernel_rfl) (by kernel_rfl) (fun _ _ _ h => h) (by rfl) ?_ ⟨HRZ.out, HXZ.out⟩ ?_
              rotate_left
              · (intro w hSw; (try dsimp only at hSw); have a0 := hSw.1.all.load (k := n20) (encR_n _) Try.prog; have a1 : Sem.run Try.prog (loadCellsFrom ⟨g, o + y * n20, none⟩ 0 n20 #[]) w = .ok (encR x0).toArray w := hSw.2.all.load (k := n20) (encR_n _) Try.prog; clear hSw;try simp only [List.getElem_toArray, List.getElem_cons_zero, List.getElem_cons_succ]; go_simp; try (with_reducible rfl))
              try simp only [List.setIfInBounds_toArray, List.set_cons_zero, List.set_cons_succ]
              refine held_skip 31 126 rfl rfl (by kernel_rfl) (by kernel_rfl) (by kernel_rfl) (fun _ _ _ h => h) (by rfl) ⟨HRZ.out, HXZ.out⟩ ?_
              try simp only [List.setIfInBounds_toArray, List.set_cons_zero, List.set_cons_succ]
              refine held_skip 32 127 rfl rfl (by kernel_rfl) (by kernel_rfl) (by kernel_rfl) (fun _ _ _ h => h) (by rfl) ⟨HRZ.out, HXZ.out⟩ ?_
              try simp only [List.setIfInBounds_toArray, List.set_cons_zero, List.set_cons_succ]
              refine held_skip 33 128 rfl rfl (by kernel_rfl) (by kernel_rfl) (by kernel_rfl) (fun _ _ _ h => h) (by rfl) ⟨HRZ.out, HXZ.out⟩ ?_
              try simp only [List.setIfInBounds_toArray, List.set_cons_zero, List.set_cons_succ]
              refine held_take 34 129 (v := ?_) rfl rfl (by kernel_rfl) (by kernel_rfl) (by kernel_rfl) (fun _ _ _ h => h) (by rfl) ?_ ⟨HRZ.out, HXZ.out⟩ ?_
              rotate_left
              · (intro w hSw; (try dsimp only at hSw); have a0 := hSw.1.all.load (k := n20) (encR_n _) Try.prog; have a1 : Sem.run Try.prog (loadCellsFrom ⟨g, o + y * n20, none⟩ 0 n20 #[]) w = .ok (encR x0).toArray w := hSw.2.all.load (k := n20) (encR_n _) Try.prog; clear hSw;try simp only [List.getElem_toArray, List.getElem_cons_zero, List.getElem_cons_succ]; go_simp; try (with_reducible rfl))
              try simp only [List.setIfInBounds_toArray, List.set_cons_zero, List.set_cons_succ]
              refine held_take 35 130 (v := ?_) rfl rfl (by kernel_rfl) (by kernel_rfl) (by kernel_rfl) (fun _ _ _ h => h) (by rfl) ?_ ⟨HRZ.out, HXZ.out⟩ ?_
              rotate_left
              · (intro w hSw; (try dsimp only at hSw); have a0 := hSw.1.all.load (k := n20) (encR_n _) Try.prog; have a1 : Sem.run Try.prog (loadCellsFrom ⟨g, o + y * n20, none⟩ 0 n20 #[]) w = .ok (encR x0).toArray w := hSw.2.all.load (k := n20) (encR_n _) Try.prog; clear hSw;try simp only [List.getElem_toArray, List.getElem_cons_zero, List.getElem_cons_succ]; go_simp; try (with_reducible rfl))
              try simp only [List.setIfInBounds_toArray, List.set_cons_zero, List.set_cons_succ]
              refine wpAnyH_done (by kernel_rfl) ?_ _
              go_wp2
              go_roundw
              case rel => exact ⟨k + 1, v2, _, cap2, T2, by omega, by go_num, by rw [HN2.out], HTZ.out, HB.out.trans (hbz.out.mono HB.out.size), HAP.out.below hbz.out⟩
              case measure => simp [intOf]; omega
            · try simp only [List.getElem_toArray, List.getElem_cons_zero, List.getElem_cons_succ]
              (go_simp)
              try simp only [Act.put, List.setIfInBounds_toArray, List.set_cons_zero, List.set_cons_succ]
              refine hK.out _ _ _ ⟨HRZ.out, HXZ.out⟩ ?_
              clear hK K
              refine held_call 5 100 rfl rfl (by kernel_rfl) (by rfl) (fun K hK => ?_)
              try simp only [List.getElem_toArray, List.getElem_cons_zero, List.getElem_cons_succ]
              go_simp
              (go_at_call 20; (with_reducible refine (HLN.out).mono ?_); rintro e w11 ⟨rfl, hw⟩; subst hw)
              try go_wp2_with fail
              try simp only [Act.put, List.setIfInBounds_toArray, List.set_cons_zero, List.set_cons_succ]
              refine hK.out _ _ _ ⟨HRZ.out, HXZ.out⟩ ?_
              clear hK K
              refine held_take 8 103 (v := ?_) rfl rfl (by kernel_rfl) (by kernel_rfl) (by kernel_rfl) (fun _ _ _ h => h) (by rfl) ?_ ⟨HRZ.out, HXZ.out⟩ ?_
              rotate_left
              · (intro w hSw; (try dsimp only at hSw); have a0 := hSw.1.all.load (k := n20) (encR_n _) Try.prog; have a1 : Sem.run Try.prog (loadCellsFrom ⟨g, o + y * n20, none⟩ 0 n20 #[]) w = .ok (encR x0).toArray w := hSw.2.all.load (k := n20) (encR_n _) Try.prog; clear hSw;try simp only [List.getElem_toArray, List.getElem_cons_zero, List.getElem_cons_succ]; go_simp; try (with_reducible rfl))
              try simp only [List.setIfInBounds_toArray, List.set_cons_zero, List.set_cons_succ]
              refine held_take 9 104 (v := ?_) rfl rfl (by kernel_rfl) (by kernel_rfl) (by kernel_rfl) (fun _ _ _ h => h) (by rfl) ?_ ⟨HRZ.out, HXZ.out⟩ ?_
              rotate_left
              · (intro w hSw; (try dsimp only at hSw); have a0 := hSw.1.all.load (k := n20) (encR_n _) Try.prog; have a1 : Sem.run Try.prog (loadCellsFrom ⟨g, o + y * n20, none⟩ 0 n20 #[]) w = .ok (encR x0).toArray w := hSw.2.all.load (k := n20) (encR_n _) Try.prog; clear hSw;try simp only [List.getElem_toArray, List.getElem_cons_zero, List.getElem_cons_succ]; go_simp; try (with_reducible rfl))
              try simp only [List.setIfInBounds_toArray, List.set_cons_zero, List.set_cons_succ]
              refine held_take 10 105 (v := ?_) rfl rfl (by kernel_rfl) (by kernel_rfl) (by kernel_rfl) (fun _ _ _ h => h) (by rfl) ?_ ⟨HRZ.out, HXZ.out⟩ ?_
              rotate_left
              · (intro w hSw; (try dsimp only at hSw); have a0 := hSw.1.all.load (k := n20) (encR_n _) Try.prog; have a1 : Sem.run Try.prog (loadCellsFrom ⟨g, o + y * n20, none⟩ 0 n20 #[]) w = .ok (encR x0).toArray w := hSw.2.all.load (k := n20) (encR_n _) Try.prog; clear hSw;try simp only [List.getElem_toArray, List.getElem_cons_zero, List.getElem_cons_succ]; go_simp; try (with_reducible rfl))
              try simp only [List.setIfInBounds_toArray, List.set_cons_zero, List.set_cons_succ]
              refine held_take 11 106 (v := ?_) rfl rfl (by kernel_rfl) (by kernel_rfl) (by kernel_rfl) (fun _ _ _ h => h) (by rfl) ?_ ⟨HRZ.out, HXZ.out⟩ ?_
              rotate_left
              · (intro w hSw; (try dsimp only at hSw); have a0 := hSw.1.all.load (k := n20) (encR_n _) Try.prog; have a1 : Sem.run Try.prog (loadCellsFrom ⟨g, o + y * n20, none⟩ 0 n20 #[]) w = .ok (encR x0).toArray w := hSw.2.all.load (k := n20) (encR_n _) Try.prog; clear hSw;try simp only [List.getElem_toArray, List.getElem_cons_zero, List.getElem_cons_succ]; go_simp; try (with_reducible rfl))
              try simp only [List.setIfInBounds_toArray, List.set_cons_zero, List.set_cons_succ]
              refine held_take 12 107 (v := ?_) rfl rfl (by kernel_rfl) (by kernel_rfl) (by kernel_rfl) (fun _ _ _ h => h) (by rfl) ?_ ⟨HRZ.out, HXZ.out⟩ ?_
              rotate_left
              · (intro w hSw; (try dsimp only at hSw); have a0 := hSw.1.all.load (k := n20) (encR_n _) Try.prog; have a1 : Sem.run Try.prog (loadCellsFrom ⟨g, o + y * n20, none⟩ 0 n20 #[]) w = .ok (encR x0).toArray w := hSw.2.all.load (k := n20) (encR_n _) Try.prog; clear hSw;try simp only [List.getElem_toArray, List.getElem_cons_zero, List.getElem_cons_succ]; go_simp; try (with_reducible rfl))
              try simp only [List.setIfInBounds_toArray, List.set_cons_zero, List.set_cons_succ]
              refine held_take 13 108 (v := ?_) rfl rfl (by kernel_rfl) (by kernel_rfl) (by kernel_rfl) (fun _ _ _ h => h) (by rfl) ?_ ⟨HRZ.out, HXZ.out⟩ ?_
              rotate_left
              · (intro w hSw; (try dsimp only at hSw); have a0 := hSw.1.all.load (k := n20) (encR_n _) Try.prog; have a1 : Sem.run Try.prog (loadCellsFrom ⟨g, o + y * n20, none⟩ 0 n20 #[]) w = .ok (encR x0).toArray w := hSw.2.all.load (k := n20) (encR_n _) Try.prog; clear hSw;try simp only [List.getElem_toArray, List.getElem_cons_zero, List.getElem_cons_succ]; go_simp; try (with_reducible rfl))
              try simp only [List.setIfInBounds_toArray, List.set_cons_zero, List.set_cons_succ]
              refine held_take 14 109 (v := ?_) rfl rfl (by kernel_rfl) (by kernel_rfl) (by kernel_rfl) (fun _ _ _ h => h) (by rfl) ?_ ⟨HRZ.out, HXZ.out⟩ ?_
              rotate_left
              · (intro w hSw; (try dsimp only at hSw); have a0 := hSw.1.all.load (k := n20) (encR_n _) Try.prog; have a1 : Sem.run Try.prog (loadCellsFrom ⟨g, o + y * n20, none⟩ 0 n20 #[]) w = .ok (encR x0).toArray w := hSw.2.all.load (k := n20) (encR_n _) Try.prog; clear hSw;try simp only [List.getElem_toArray, List.getElem_cons_zero, List.getElem_cons_succ]; go_simp; try (with_reducible rfl))
              try simp only [List.setIfInBounds_toArray, List.set_cons_zero, List.set_cons_succ]
              refine held_take 15 110 (v := ?_) rfl rfl (by kernel_rfl) (by kernel_rfl) (by kernel_rfl) (fun _ _ _ h => h) (by rfl) ?_ ⟨HRZ.out, HXZ.out⟩ ?_
              rotate_left
              · (intro w hSw; (try dsimp only at hSw); have a0 := hSw.1.all.load (k := n20) (encR_n _) Try.prog; have a1 : Sem.run Try.prog (loadCellsFrom ⟨g, o + y * n20, none⟩ 0 n20 #[]) w = .ok (encR x0).toArray w := hSw.2.all.load (k := n20) (encR_n _) Try.prog; clear hSw;try simp only [List.getElem_toArray, List.getElem_cons_zero, List.getElem_cons_succ]; go_simp; try (with_reducible rfl))
              try simp only [List.setIfInBounds_toArray, List.set_cons_zero, List.set_cons_succ]
              refine held_take 16 111 (v := ?_) rfl rfl (by kernel_rfl) (by kernel_rfl) (by kernel_rfl) (fun _ _ _ h => h) (by rfl) ?_ ⟨HRZ.out, HXZ.out⟩ ?_
              rotate_left
              · (intro w hSw; (try dsimp only at hSw); have a0 := hSw.1.all.load (k := n20) (encR_n _) Try.prog; have a1 : Sem.run Try.prog (loadCellsFrom ⟨g, o + y * n20, none⟩ 0 n20 #[]) w = .ok (encR x0).toArray w := hSw.2.all.load (k := n20) (encR_n _) Try.prog; clear hSw;try simp only [List.getElem_toArray, List.getElem_cons_zero, List.getElem_cons_succ]; go_simp; try (with_reducible rfl))
              try simp only [List.setIfInBounds_toArray, List.set_cons_zero, List.set_cons_succ]
              refine held_take 17 112 (v := ?_) rfl rfl (by kernel_rfl) (by kernel_rfl) (by kernel_rfl) (fun _ _ _ h => h) (by rfl) ?_ ⟨HRZ.out, HXZ.out⟩ ?_
              rotate_left
              · (intro w hSw; (try dsimp only at hSw); have a0 := hSw.1.all.load (k := n20) (encR_n _) Try.prog; have a1 : Sem.run Try.prog (loadCellsFrom ⟨g, o + y * n20, none⟩ 0 n20 #[]) w = .ok (encR x0).toArray w := hSw.2.all.load (k := n20) (encR_n _) Try.prog; clear hSw;try simp only [List.getElem_toArray, List.getElem_cons_zero, List.getElem_cons_succ]; go_simp; try (with_reducible rfl))
              try simp only [List.setIfInBounds_toArray, List.set_cons_zero, List.set_cons_succ]
              refine held_take 18 113 (v := ?_) rfl rfl (by kernel_rfl) (by kernel_rfl) (by kernel_rfl) (fun _ _ _ h => h) (by rfl) ?_ ⟨HRZ.out, HXZ.out⟩ ?_
              rotate_left
              · (intro w hSw; (try dsimp only at hSw); have a0 := hSw.1.all.load (k := n20) (encR_n _) Try.prog; have a1 : Sem.run Try.prog (loadCellsFrom ⟨g, o + y * n20, none⟩ 0 n20 #[]) w = .ok (encR x0).toArray w := hSw.2.all.load (k := n20) (encR_n _) Try.prog; clear hSw;try simp only [List.getElem_toArray, List.getElem_cons_zero, List.getElem_cons_succ]; go_simp; try (with_reducible rfl))
              try simp only [List.setIfInBounds_toArray, List.set_cons_zero, List.set_cons_succ]
              refine held_take 19 114 (v := ?_) rfl rfl (by kernel_rfl) (by kernel_rfl) (by kernel_rfl) (fun _ _ _ h => h) (by rfl) ?_ ⟨HRZ.out, HXZ.out⟩ ?_
              rotate_left
              · (intro w hSw; (try dsimp only at hSw); have a0 := hSw.1.all.load (k := n20) (encR_n _) Try.prog; have a1 : Sem.run Try.prog (loadCellsFrom ⟨g, o + y * n20, none⟩ 0 n20 #[]) w = .ok (encR x0).toArray w := hSw.2.all.load (k := n20) (encR_n _) Try.prog; clear hSw;try simp only [List.getElem_toArray, List.getElem_cons_zero, List.getElem_cons_succ]; go_simp; try (with_reducible rfl))
              try simp only [List.setIfInBounds_toArray, List.set_cons_zero, List.set_cons_succ]
              refine held_take 20 115 (v := ?_) rfl rfl (by kernel_rfl) (by kernel_rfl) (by kernel_rfl) (fun _ _ _ h => h) (by rfl) ?_ ⟨HRZ.out, HXZ.out⟩ ?_
              rotate_left
              · (intro w hSw; (try dsimp only at hSw); have a0 := hSw.1.all.load (k := n20) (encR_n _) Try.prog; have a1 : Sem.run Try.prog (loadCellsFrom ⟨g, o + y * n20, none⟩ 0 n20 #[]) w = .ok (encR x0).toArray w := hSw.2.all.load (k := n20) (encR_n _) Try.prog; clear hSw;try simp only [List.getElem_toArray, List.getElem_cons_zero, List.getElem_cons_succ]; go_simp; try (with_reducible rfl))
              try simp only [List.setIfInBounds_toArray, List.set_cons_zero, List.set_cons_succ]
              refine held_take 21 116 (v := ?_) rfl rfl (by kernel_rfl) (by kernel_rfl) (by kernel_rfl) (fun _ _ _ h => h) (by rfl) ?_ ⟨HRZ.out, HXZ.out⟩ ?_
              rotate_left
              · (intro w hSw; (try dsimp only at hSw); have a0 := hSw.1.all.load (k := n20) (encR_n _) Try.prog; have a1 : Sem.run Try.prog (loadCellsFrom ⟨g, o + y * n20, none⟩ 0 n20 #[]) w = .ok (encR x0).toArray w := hSw.2.all.load (k := n20) (encR_n _) Try.prog; clear hSw;try simp only [List.getElem_toArray, List.getElem_cons_zero, List.getElem_cons_succ]; go_simp; try (with_reducible rfl))
              try simp only [List.setIfInBounds_toArray, List.set_cons_zero, List.set_cons_succ]
              refine held_take 22 117 (v := ?_) rfl rfl (by kernel_rfl) (by kernel_rfl) (by kernel_rfl) (fun _ _ _ h => h) (by rfl) ?_ ⟨HRZ.out, HXZ.out⟩ ?_
              rotate_left
              · (intro w hSw; (try dsimp only at hSw); have a0 := hSw.1.all.load (k := n20) (encR_n _) Try.prog; have a1 : Sem.run Try.prog (loadCellsFrom ⟨g, o + y * n20, none⟩ 0 n20 #[]) w = .ok (encR x0).toArray w := hSw.2.all.load (k := n20) (encR_n _) Try.prog; clear hSw;try simp only [List.getElem_toArray, List.getElem_cons_zero, List.getElem_cons_succ]; go_simp; try (with_reducible rfl))
              try simp only [List.setIfInBounds_toArray, List.set_cons_zero, List.set_cons_succ]
              refine held_take 23 118 (v := ?_) rfl rfl (by kernel_rfl) (by kernel_rfl) (by kernel_rfl) (fun _ _ _ h => h) (by rfl) ?_ ⟨HRZ.out, HXZ.out⟩ ?_
              rotate_left
              · (intro w hSw; (try dsimp only at hSw); have a0 := hSw.1.all.load (k := n20) (encR_n _) Try.prog; have a1 : Sem.run Try.prog (loadCellsFrom ⟨g, o + y * n20, none⟩ 0 n20 #[]) w = .ok (encR x0).toArray w := hSw.2.all.load (k := n20) (encR_n _) Try.prog; clear hSw;try simp only [List.getElem_toArray, List.getElem_cons_zero, List.getElem_cons_succ]; go_simp; try (with_reducible rfl))
              try simp only [List.setIfInBounds_toArray, List.set_cons_zero, List.set_cons_succ]
              refine held_take 24 119 (v := ?_) rfl rfl (by kernel_rfl) (by kernel_rfl) (by kernel_rfl) (fun _ _ _ h => h) (by rfl) ?_ ⟨HRZ.out, HXZ.out⟩ ?_
              rotate_left
              · (intro w hSw; (try dsimp only at hSw); have a0 := hSw.1.all.load (k := n20) (encR_n _) Try.prog; have a1 : Sem.run Try.prog (loadCellsFrom ⟨g, o + y * n20, none⟩ 0 n20 #[]) w = .ok (encR x0).toArray w := hSw.2.all.load (k := n20) (encR_n _) Try.prog; clear hSw;try simp only [List.getElem_toArray, List.getElem_cons_zero, List.getElem_cons_succ]; go_simp; try (with_reducible rfl))
              try simp only [List.setIfInBounds_toArray, List.set_cons_zero, List.set_cons_succ]
              refine held_take 25 120 (v := ?_) rfl rfl (by kernel_rfl) (by kernel_rfl) (by kernel_rfl) (fun _ _ _ h => h) (by rfl) ?_ ⟨HRZ.out, HXZ.out⟩ ?_
              rotate_left
              · (intro w hSw; (try dsimp only at hSw); have a0 := hSw.1.all.load (k := n20) (encR_n _) Try.prog; have a1 : Sem.run Try.prog (loadCellsFrom ⟨g, o + y * n20, none⟩ 0 n20 #[]) w = .ok (encR x0).toArray w := hSw.2.all.load (k := n20) (encR_n _) Try.prog; clear hSw;try simp only [List.getElem_toArray, List.getElem_cons_zero, List.getElem_cons_succ]; go_simp; try (with_reducible rfl))
              try simp only [List.setIfInBounds_toArray, List.set_cons_zero, List.set_cons_succ]
              refine held_take 26 121 (v := ?_) rfl rfl (by kernel_rfl) (by kernel_rfl) (by kernel_rfl) (fun _ _ _ h => h) (by rfl) ?_ ⟨HRZ.out, HXZ.out⟩ ?_
              rotate_left
              · (intro w hSw; (try dsimp only at hSw); have a0 := hSw.1.all.load (k := n20) (encR_n _) Try.prog; have a1 : Sem.run Try.prog (loadCellsFrom ⟨g, o + y * n20, none⟩ 0 n20 #[]) w = .ok (encR x0).toArray w := hSw.2.all.load (k := n20) (encR_n _) Try.prog; clear hSw;try simp only [List.getElem_toArray, List.getElem_cons_zero, List.getElem_cons_succ]; go_simp; try (with_reducible rfl))
              try simp only [List.setIfInBounds_toArray, List.set_cons_zero, List.set_cons_succ]
              refine held_take 27 122 (v := ?_) rfl rfl (by kernel_rfl) (by kernel_rfl) (by kernel_rfl) (fun _ _ _ h => h) (by rfl) ?_ ⟨HRZ.out, HXZ.out⟩ ?_
              rotate_left
              · (intro w hSw; (try dsimp only at hSw); have a0 := hSw.1.all.load (k := n20) (encR_n _) Try.prog; have a1 : Sem.run Try.prog (loadCellsFrom ⟨g, o + y * n20, none⟩ 0 n20 #[]) w = .ok (encR x0).toArray w := hSw.2.all.load (k := n20) (encR_n _) Try.prog; clear hSw;try simp only [List.getElem_toArray, List.getElem_cons_zero, List.getElem_cons_succ]; go_simp; try (with_reducible rfl))
              try simp only [List.setIfInBounds_toArray, List.set_cons_zero, List.set_cons_succ]
              refine held_take 28 123 (v := ?_) rfl rfl (by kernel_rfl) (by kernel_rfl) (by kernel_rfl) (fun _ _ _ h => h) (by rfl) ?_ ⟨HRZ.out, HXZ.out⟩ ?_
              rotate_left
              · (intro w hSw; (try dsimp only at hSw); have a0 := hSw.1.all.load (k := n20) (encR_n _) Try.prog; have a1 : Sem.run Try.prog (loadCellsFrom ⟨g, o + y * n20, none⟩ 0 n20 #[]) w = .ok (encR x0).toArray w := hSw.2.all.load (k := n20) (encR_n _) Try.prog; clear hSw;try simp only [List.getElem_toArray, List.getElem_cons_zero, List.getElem_cons_succ]; go_simp; try (with_reducible rfl))
              try simp only [List.setIfInBounds_toArray, List.set_cons_zero, List.set_cons_succ]
              refine held_take 29 124 (v := ?_) rfl rfl (by kernel_rfl) (by kernel_rfl) (by kernel_rfl) (fun _ _ _ h => h) (by rfl) ?_ ⟨HRZ.out, HXZ.out⟩ ?_
              rotate_left
              · (intro w hSw; (try dsimp only at hSw); have a0 := hSw.1.all.load (k := n20) (encR_n _) Try.prog; have a1 : Sem.run Try.prog (loadCellsFrom ⟨g, o + y * n20, none⟩ 0 n20 #[]) w = .ok (encR x0).toArray w := hSw.2.all.load (k := n20) (encR_n _) Try.prog; clear hSw;try simp only [List.getElem_toArray, List.getElem_cons_zero, List.getElem_cons_succ]; go_simp; try (with_reducible rfl))
              try simp only [List.setIfInBounds_toArray, List.set_cons_zero, List.set_cons_succ]
              refine held_take 30 125 (v := ?_) rfl rfl (by kernel_rfl) (by kernel_rfl) (by kernel_rfl) (fun _ _ _ h => h) (by rfl) ?_ ⟨HRZ.out, HXZ.out⟩ ?_
              rotate_left
              · (intro w hSw; (try dsimp only at hSw); have a0 := hSw.1.all.load (k := n20) (encR_n _) Try.prog; have a1 : Sem.run Try.prog (loadCellsFrom ⟨g, o + y * n20, none⟩ 0 n20 #[]) w = .ok (encR x0).toArray w := hSw.2.all.load (k := n20) (encR_n _) Try.prog; clear hSw;try simp only [List.getElem_toArray, List.getElem_cons_zero, List.getElem_cons_succ]; go_simp; try (with_reducible rfl))
              try simp only [List.setIfInBounds_toArray, List.set_cons_zero, List.set_cons_succ]
              refine held_skip 31 126 rfl rfl (by kernel_rfl) (by kernel_rfl) (by kernel_rfl) (fun _ _ _ h => h) (by rfl) ⟨HRZ.out, HXZ.out⟩ ?_
              try simp only [List.setIfInBounds_toArray, List.set_cons_zero, List.set_cons_succ]
              refine held_skip 32 127 rfl rfl (by kernel_rfl) (by kernel_rfl) (by kernel_rfl) (fun _ _ _ h => h) (by rfl) ⟨HRZ.out, HXZ.out⟩ ?_
              try simp only [List.setIfInBounds_toArray, List.set_cons_zero, List.set_cons_succ]
              refine held_skip 33 128 rfl rfl (by kernel_rfl) (by kernel_rfl) (by kernel_rfl) (fun _ _ _ h => h) (by rfl) ⟨HRZ.out, HXZ.out⟩ ?_
              try simp only [List.setIfInBounds_toArray, List.set_cons_zero, List.set_cons_succ]
              refine held_take 34 129 (v := ?_) rfl rfl (by kernel_rfl) (by kernel_rfl) (by kernel_rfl) (fun _ _ _ h => h) (by rfl) ?_ ⟨HRZ.out, HXZ.out⟩ ?_
              rotate_left
              · (intro w hSw; (try dsimp only at hSw); have a0 := hSw.1.all.load (k := n20) (encR_n _) Try.prog; have a1 : Sem.run Try.prog (loadCellsFrom ⟨g, o + y * n20, none⟩ 0 n20 #[]) w = .ok (encR x0).toArray w := hSw.2.all.load (k := n20) (encR_n _) Try.prog; clear hSw;try simp only [List.getElem_toArray, List.getElem_cons_zero, List.getElem_cons_succ]; go_simp; try (with_reducible rfl))
              try simp only [List.setIfInBounds_toArray, List.set_cons_zero, List.set_cons_succ]
              refine held_take 35 130 (v := ?_) rfl rfl (by kernel_rfl) (by kernel_rfl) (by kernel_rfl) (fun _ _ _ h => h) (by rfl) ?_ ⟨HRZ.out, HXZ.out⟩ ?_
              rotate_left
              · (intro w hSw; (try dsimp only at hSw); have a0 := hSw.1.all.load (k := n20) (encR_n _) Try.prog; have a1 : Sem.run Try.prog (loadCellsFrom ⟨g, o + y * n20, none⟩ 0 n20 #[]) w = .ok (encR x0).toArray w := hSw.2.all.load (k := n20) (encR_n _) Try.prog; clear hSw;try simp only [List.getElem_toArray, List.getElem_cons_zero, List.getElem_cons_succ]; go_simp; try (with_reducible rfl))
              try simp only [List.setIfInBounds_toArray, List.set_cons_zero, List.set_cons_succ]
              refine wpAnyH_done (by kernel_rfl) ?_ _
              go_wp2
              go_roundw
              case rel => exact ⟨k + 1, v2, _, cap2, T2, by omega, by go_num, by rw [HN2.out], HTZ.out, HB.out.trans (hbz.out.mono HB.out.size), HAP.out.below hbz.out⟩
              case measure => simp [intOf]; omega
          · have hh' : has T2 pp = false := by simpa using hh
            have hgn : get T2 pp = none := by unfold has at hh'; simpa using hh'
            rw [hgn, hh', Option.getD_none] at HGE
            rw [fnd_no hh'] at HFI
            rw [hn2] at HFI h300 ⊢
            clear hh hh' hgn hn2
            go_upto_region 23 with (go_at_call 18; (with_reducible refine (HGE.out).mono ?_); rintro e w8 ⟨rfl, h1⟩; have hb8 := Lib.hid h1; clear h1 c0; have hst := store_row (o := 0) (vs := encR zR) (heap_alloc_new w8 (.cells (encR zR).toArray 34 (0, 0))) (by simp [encR_len]) (encR_one _) Try.prog; rw [splice_whole (by simp [encR_len])] at hst)
            clear hst
            have HBX := Lib.hid (setRow_heap (w8.alloc (.cells (encR zR).toArray 34 (0, 0))) w8.heap.size _ (encR zR).toArray 34 (0, 0) (heap_alloc_new w8 _))
            have hb9 := Lib.hid (hb8.out.trans ((below_setRow ((Below.refl w8.heap.size w8).alloc (Nat.le_refl _) (.cells (encR zR).toArray 34 (0, 0))) (Nat.le_refl _) (encR zR).toArray).mono hb8.out.size))
            generalize (w8.alloc _).setRow _ _ = W9 at HBX hb9 ⊢
            generalize w8.heap.size = B9 at HBX ⊢
            have HR9 := Lib.hid (show RAt W9 B9 0 zR from ⟨at_row HBX.out⟩)
            clear HBX hb8
            have c0 : Sem.run Try.prog (loadCellsFrom ⟨B5, 2, none⟩ 0 n18 #[]) W9 = .ok (encP pp).toArray W9 := (HXP.out.below hb9.out).all.load (k := n18) (encP_n _) Try.prog
            go_upto_region 24 with (go_at_call 19; (with_reducible refine (HFI.out _ hb9.out).mono ?_); rintro e w10 ⟨rfl, h1⟩; have hbz := Lib.hid (hb9.out.trans (h1.mono hb9.out.size)).drew; have HRZ := Lib.hid (HR9.out.below h1).drew; clear h1 c0)
            have HTZ := Lib.hid (HT.out.below hbz.out)
            have HLN := Lib.hid (len_any _ HTZ.out)
            rw [HN2.out] at HLN
            refine wp_region_held_drew (S := (fun w' => RAt w' B9 0 zR)) (by kernel_rfl) HRZ.out (fun _ => ?_)
            refine held_take 0 95 (v := ?_) rfl rfl (by kernel_rfl) (by kernel_rfl) (by kernel_rfl) (fun _ _ _ h => h) (by rfl) ?_ HRZ.out ?_
            rotate_left
            · (intro w hSw; (try dsimp only at hSw); have a0 := hSw.all.load (k := n20) (encR_n _) Try.prog; clear hSw;try simp only [List.getElem_toArray, List.getElem_cons_zero, List.getElem_cons_succ]; go_simp; try (with_reducible rfl))
            try simp only [List.setIfInBounds_toArray, List.set_cons_zero, List.set_cons_succ]
            refine held_take 1 96 (v := ?_) rfl rfl (by kernel_rfl) (by kernel_rfl) (by kernel_rfl) (fun _ _ _ h => h) (by rfl) ?_ HRZ.out ?_
            rotate_left
            · (intro w hSw; (try dsimp only at hSw); have a0 := hSw.all.load (k := n20) (encR_n _) Try.prog; clear hSw;try simp only [List.getElem_toArray, List.getElem_cons_zero, List.getElem_cons_succ]; go_simp; try (with_reducible rfl))
            try simp only [List.setIfInBounds_toArray, List.set_cons_zero, List.set_cons_succ]
            refine held_take 2 97 (v := ?_) rfl rfl (by kernel_rfl) (by kernel_rfl) (by kernel_rfl) (fun _ _ _ h => h) (by rfl) ?_ HRZ.out ?_
            rotate_left
            · (intro w hSw; (try dsimp only at hSw); have a0 := hSw.all.load (k := n20) (encR_n _) Try.prog; clear hSw;try simp only [List.getElem_toArray, List.getElem_cons_zero, List.getElem_cons_succ]; go_simp; try (with_reducible rfl))
            try simp only [List.setIfInBounds_toArray, List.set_cons_zero, List.set_cons_succ]
            refine held_take 3 98 (v := ?_) rfl rfl (by kernel_rfl) (by kernel_rfl) (by kernel_rfl) (fun _ _ _ h => h) (by rfl) ?_ HRZ.out ?_
            rotate_left
            · (intro w hSw; (try dsimp only at hSw); have a0 := hSw.all.load (k := n20) (encR_n _) Try.prog; clear hSw;try simp only [List.getElem_toArray, List.getElem_cons_zero, List.getElem_cons_succ]; go_simp; try (with_reducible rfl))
            try simp only [List.setIfInBounds_toArray, List.set_cons_zero, List.set_cons_succ]
            refine held_take 4 99 (v := ?_) rfl rfl (by kernel_rfl) (by kernel_rfl) (by kernel_rfl) (fun _ _ _ h => h) (by rfl) ?_ HRZ.out ?_
            rotate_left
            · (intro w hSw; (try dsimp only at hSw); have a0 := hSw.all.load (k := n20) (encR_n _) Try.prog; clear hSw;try simp only [List.getElem_toArray, List.getElem_cons_zero, List.getElem_cons_succ]; go_simp; try (with_reducible rfl))
            try simp only [List.setIfInBounds_toArray, List.set_cons_zero, List.set_cons_succ]
            refine held_take 6 101 (v := ?_) rfl rfl (by kernel_rfl) (by kernel_rfl) (by kernel_rfl) (fun _ _ _ h => h) (by rfl) ?_ HRZ.out ?_
            rotate_left
            · (intro w hSw; (try dsimp only at hSw); have a0 := hSw.all.load (k := n20) (encR_n _) Try.prog; clear hSw;try simp only [List.getElem_toArray, List.getElem_cons_zero, List.getElem_cons_succ]; go_simp; try (with_reducible rfl))
            try simp only [List.setIfInBounds_toArray, List.set_cons_zero, List.set_cons_succ]
            refine Tab.held_two 5 7 rfl rfl (by kernel_rfl) (by rfl) (by rfl) (fun K hK => ?_) (fun K hK => ?_)
            · try simp only [List.getElem_toArray, List.getElem_cons_zero, List.getElem_cons_succ]
              go_simp
              (go_at_call 20; (with_reducible refine (HLN.out).mono ?_); rintro e w11 ⟨rfl, hw⟩; subst hw)
              try go_wp2_with fail
              try simp only [Act.put, List.setIfInBounds_toArray, List.set_cons_zero, List.set_cons_succ]
              refine hK.out _ _ _ HRZ.out ?_
              clear hK K
              refine held_call 7 102 rfl rfl (by kernel_rfl) (by rfl) (fun K hK => ?_)
              try simp only [List.getElem_toArray, List.getElem_cons_zero, List.getElem_cons_succ]
              (go_simp)
              try simp only [Act.put, List.setIfInBounds_toArray, List.set_cons_zero, List.set_cons_succ]
              refine hK.out _ _ _ HRZ.out ?_
              clear hK K
              refine held_take 8 103 (v := ?_) rfl rfl (by kernel_rfl) (by kernel_rfl) (by kernel_rfl) (fun _ _ _ h => h) (by rfl) ?_ HRZ.out ?_
              rotate_left
              · (intro w hSw; (try dsimp only at hSw); have a0 := hSw.all.load (k := n20) (encR_n _) Try.prog; clear hSw;try simp only [List.getElem_toArray, List.getElem_cons_zero, List.getElem_cons_succ]; go_simp; try (with_reducible rfl))
              try simp only [List.setIfInBounds_toArray, List.set_cons_zero, List.set_cons_succ]
              refine held_take 9 104 (v := ?_) rfl rfl (by kernel_rfl) (by kernel_rfl) (by kernel_rfl) (fun _ _ _ h => h) (by rfl) ?_ HRZ.out ?_
              rotate_left
              · (intro w hSw; (try dsimp only at hSw); have a0 := hSw.all.load (k := n20) (encR_n _) Try.prog; clear hSw;try simp only [List.getElem_toArray, List.getElem_cons_zero, List.getElem_cons_succ]; go_simp; try (with_reducible rfl))
              try simp only [List.setIfInBounds_toArray, List.set_cons_zero, List.set_cons_succ]
              refine held_take 10 105 (v := ?_) rfl rfl (by kernel_rfl) (by kernel_rfl) (by kernel_rfl) (fun _ _ _ h => h) (by rfl) ?_ HRZ.out ?_
              rotate_left
              · (intro w hSw; (try dsimp only at hSw); have a0 := hSw.all.load (k := n20) (encR_n _) Try.prog; clear hSw;try simp only [List.getElem_toArray, List.getElem_cons_zero, List.getElem_cons_succ]; go_simp; try (with_reducible rfl))
              try simp only [List.setIfInBounds_toArray, List.set_cons_zero, List.set_cons_succ]
              refine held_take 11 106 (v := ?_) rfl rfl (by kernel_rfl) (by kernel_rfl) (by kernel_rfl) (fun _ _ _ h => h) (by rfl) ?_ HRZ.out ?_
              rotate_left
              · (intro w hSw; (try dsimp only at hSw); have a0 := hSw.all.load (k := n20) (encR_n _) Try.prog; clear hSw;try simp only [List.getElem_toArray, List.getElem_cons_zero, List.getElem_cons_succ]; go_simp; try (with_reducible rfl))
              try simp only [List.setIfInBounds_toArray, List.set_cons_zero, List.set_cons_succ]
              refine held_take 12 107 (v := ?_) rfl rfl (by kernel_rfl) (by kernel_rfl) (by kernel_rfl) (fun _ _ _ h => h) (by rfl) ?_ HRZ.out ?_
              rotate_left
              · (intro w hSw; (try dsimp only at hSw); have a0 := hSw.all.load (k := n20) (encR_n _) Try.prog; clear hSw;try simp only [List.getElem_toArray, List.getElem_cons_zero, List.getElem_cons_succ]; go_simp; try (with_reducible rfl))
              try simp only [List.setIfInBounds_toArray, List.set_cons_zero, List.set_cons_succ]
              refine held_take 13 108 (v := ?_) rfl rfl (by kernel_rfl) (by kernel_rfl) (by kernel_rfl) (fun _ _ _ h => h) (by rfl) ?_ HRZ.out ?_
              rotate_left
              · (intro w hSw; (try dsimp only at hSw); have a0 := hSw.all.load (k := n20) (encR_n _) Try.prog; clear hSw;try simp only [List.getElem_toArray, List.getElem_cons_zero, List.getElem_cons_succ]; go_simp; try (with_reducible rfl))
              try simp only [List.setIfInBounds_toArray, List.set_cons_zero, List.set_cons_succ]
              refine held_take 14 109 (v := ?_) rfl rfl (by kernel_rfl) (by kernel_rfl) (by kernel_rfl) (fun _ _ _ h => h) (by rfl) ?_ HRZ.out ?_
              rotate_left
              · (intro w hSw; (try dsimp only at hSw); have a0 := hSw.all.load (k := n20) (encR_n _) Try.prog; clear hSw;try simp only [List.getElem_toArray, List.getElem_cons_zero, List.getElem_cons_succ]; go_simp; try (with_reducible rfl))
              try simp only [List.setIfInBounds_toArray, List.set_cons_zero, List.set_cons_succ]
              refine held_take 15 110 (v := ?_) rfl rfl (by kernel_rfl) (by kernel_rfl) (by kernel_rfl) (fun _ _ _ h => h) (by rfl) ?_ HRZ.out ?_
              rotate_left
              · (intro w hSw; (try dsimp only at hSw); have a0 := hSw.all.load (k := n20) (encR_n _) Try.prog; clear hSw;try simp only [List.getElem_toArray, List.getElem_cons_zero, List.getElem_cons_succ]; go_simp; try (with_reducible rfl))
              try simp only [List.setIfInBounds_toArray, List.set_cons_zero, List.set_cons_succ]
              refine held_take 16 111 (v := ?_) rfl rfl (by kernel_rfl) (by kernel_rfl) (by kernel_rfl) (fun _ _ _ h => h) (by rfl) ?_ HRZ.out ?_
              rotate_left
              · (intro w hSw; (try dsimp only at hSw); have a0 := hSw.all.load (k := n20) (encR_n _) Try.prog; clear hSw;try simp only [List.getElem_toArray, List.getElem_cons_zero, List.getElem_cons_succ]; go_simp; try (with_reducible rfl))
              try simp only [List.setIfInBounds_toArray, List.set_cons_zero, List.set_cons_succ]
              refine held_take 17 112 (v := ?_) rfl rfl (by kernel_rfl) (by kernel_rfl) (by kernel_rfl) (fun _ _ _ h => h) (by rfl) ?_ HRZ.out ?_
              rotate_left
              · (intro w hSw; (try dsimp only at hSw); have a0 := hSw.all.load (k := n20) (encR_n _) Try.prog; clear hSw;try simp only [List.getElem_toArray, List.getElem_cons_zero, List.getElem_cons_succ]; go_simp; try (with_reducible rfl))
              try simp only [List.setIfInBounds_toArray, List.set_cons_zero, List.set_cons_succ]
              refine held_take 18 113 (v := ?_) rfl rfl (by kernel_rfl) (by kernel_rfl) (by kernel_rfl) (fun _ _ _ h => h) (by rfl) ?_ HRZ.out ?_
              rotate_left
              · (intro w hSw; (try dsimp only at hSw); have a0 := hSw.all.load (k := n20) (encR_n _) Try.prog; clear hSw;try simp only [List.getElem_toArray, List.getElem_cons_zero, List.getElem_cons_succ]; go_simp; try (with_reducible rfl))
              try simp only [List.setIfInBounds_toArray, List.set_cons_zero, List.set_cons_succ]
              refine held_skip 19 114 rfl rfl (by kernel_rfl) (by kernel_rfl) (by kernel_rfl) (fun _ _ _ h => h) (by rfl) HRZ.out ?_
              try simp only [List.setIfInBounds_toArray, List.set_cons_zero, List.set_cons_succ]
              refine held_skip 20 115 rfl rfl (by kernel_rfl) (by kernel_rfl) (by kernel_rfl) (fun _ _ _ h => h) (by rfl) HRZ.out ?_
              try simp only [List.setIfInBounds_toArray, List.set_cons_zero, List.set_cons_succ]
              refine held_skip 21 116 rfl rfl (by kernel_rfl) (by kernel_rfl) (by kernel_rfl) (fun _ _ _ h => h) (by rfl) HRZ.out ?_
              try simp only [List.setIfInBounds_toArray, List.set_cons_zero, List.set_cons_succ]
              refine held_skip 22 117 rfl rfl (by kernel_rfl) (by kernel_rfl) (by kernel_rfl) (fun _ _ _ h => h) (by rfl) HRZ.out ?_
              try simp only [List.setIfInBounds_toArray, List.set_cons_zero, List.set_cons_succ]
              refine held_skip 23 118 rfl rfl (by kernel_rfl) (by kernel_rfl) (by kernel_rfl) (fun _ _ _ h => h) (by rfl) HRZ.out ?_
              try simp only [List.setIfInBounds_toArray, List.set_cons_zero, List.set_cons_succ]
              refine held_skip 24 119 rfl rfl (by kernel_rfl) (by kernel_rfl) (by kernel_rfl) (fun _ _ _ h => h) (by rfl) HRZ.out ?_
              try simp only [List.setIfInBounds_toArray, List.set_cons_zero, List.set_cons_succ]
              refine held_take 25 120 (v := ?_) rfl rfl (by kernel_rfl) (by kernel_rfl) (by kernel_rfl) (fun _ _ _ h => h) (by rfl) ?_ HRZ.out ?_
              rotate_left
              · (intro w hSw; (try dsimp only at hSw); have a0 := hSw.all.load (k := n20) (encR_n _) Try.prog; clear hSw;try simp only [List.getElem_toArray, List.getElem_cons_zero, List.getElem_cons_succ]; go_simp; try (with_reducible rfl))
              try simp only [List.setIfInBounds_toArray, List.set_cons_zero, List.set_cons_succ]
              refine held_take 26 121 (v := ?_) rfl rfl (by kernel_rfl) (by kernel_rfl) (by kernel_rfl) (fun _ _ _ h => h) (by rfl) ?_ HRZ.out ?_
              rotate_left
              · (intro w hSw; (try dsimp only at hSw); have a0 := hSw.all.load (k := n20) (encR_n _) Try.prog; clear hSw;try simp only [List.getElem_toArray, List.getElem_cons_zero, List.getElem_cons_succ]; go_simp; try (with_reducible rfl))
              try simp only [List.setIfInBounds_toArray, List.set_cons_zero, List.set_cons_succ]
              refine held_take 27 122 (v := ?_) rfl rfl (by kernel_rfl) (by kernel_rfl) (by kernel_rfl) (fun _ _ _ h => h) (by rfl) ?_ HRZ.out ?_
              rotate_left
              · (intro w hSw; (try dsimp only at hSw); have a0 := hSw.all.load (k := n20) (encR_n _) Try.prog; clear hSw;try simp only [List.getElem_toArray, List.getElem_cons_zero, List.getElem_cons_succ]; go_simp; try (with_reducible rfl))
              try simp only [List.setIfInBounds_toArray, List.set_cons_zero, List.set_cons_succ]
              refine held_take 28 123 (v := ?_) rfl rfl (by kernel_rfl) (by kernel_rfl) (by kernel_rfl) (fun _ _ _ h => h) (by rfl) ?_ HRZ.out ?_
              rotate_left
              · (intro w hSw; (try dsimp only at hSw); have a0 := hSw.all.load (k := n20) (encR_n _) Try.prog; clear hSw;try simp only [List.getElem_toArray, List.getElem_cons_zero, List.getElem_cons_succ]; go_simp; try (with_reducible rfl))
              try simp only [List.setIfInBounds_toArray, List.set_cons_zero, List.set_cons_succ]
              refine held_take 29 124 (v := ?_) rfl rfl (by kernel_rfl) (by kernel_rfl) (by kernel_rfl) (fun _ _ _ h => h) (by rfl) ?_ HRZ.out ?_
              rotate_left
              · (intro w hSw; (try dsimp only at hSw); have a0 := hSw.all.load (k := n20) (encR_n _) Try.prog; clear hSw;try simp only [List.getElem_toArray, List.getElem_cons_zero, List.getElem_cons_succ]; go_simp; try (with_reducible rfl))
              try simp only [List.setIfInBounds_toArray, List.set_cons_zero, List.set_cons_succ]
              refine held_take 30 125 (v := ?_) rfl rfl (by kernel_rfl) (by kernel_rfl) (by kernel_rfl) (fun _ _ _ h => h) (by rfl) ?_ HRZ.out ?_
              rotate_left
              · (intro w hSw; (try dsimp only at hSw); have a0 := hSw.all.load (k := n20) (encR_n _) Try.prog; clear hSw;try simp only [List.getElem_toArray, List.getElem_cons_zero, List.getElem_cons_succ]; go_simp; try (with_reducible rfl))
              try simp only [List.setIfInBounds_toArray, List.set_cons_zero, List.set_cons_succ]
              refine held_take 31 126 (v := ?_) rfl rfl (by kernel_rfl) (by kernel_rfl) (by kernel_rfl) (fun _ _ _ h => h) (by rfl) ?_ HRZ.out ?_
              rotate_left
              · (intro w hSw; (try dsimp only at hSw); have a0 := hSw.all.load (k := n20) (encR_n _) Try.prog; clear hSw;try simp only [List.getElem_toArray, List.getElem_cons_zero, List.getElem_cons_succ]; go_simp; try (with_reducible rfl))
              try simp only [List.setIfInBounds_toArray, List.set_cons_zero, List.set_cons_succ]
              refine held_take 32 127 (v := ?_) rfl rfl (by kernel_rfl) (by kernel_rfl) (by kernel_rfl) (fun _ _ _ h => h) (by rfl) ?_ HRZ.out ?_
              rotate_left
              · (intro w hSw; (try dsimp only at hSw); have a0 := hSw.all.load (k := n20) (encR_n _) Try.prog; clear hSw;try simp only [List.getElem_toArray, List.getElem_cons_zero, List.getElem_cons_succ]; go_simp; try (with_reducible rfl))
              try simp only [List.setIfInBounds_toArray, List.set_cons_zero, List.set_cons_succ]
              refine held_take 33 128 (v := ?_) rfl rfl (by kernel_rfl) (by kernel_rfl) (by kernel_rfl) (fun _ _ _ h => h) (by rfl) ?_ HRZ.out ?_
              rotate_left
              · (intro w hSw; (try dsimp only at hSw); have a0 := hSw.all.load (k := n20) (encR_n _) Try.prog; clear hSw;try simp only [List.getElem_toArray, List.getElem_cons_zero, List.getElem_cons_succ]; go_simp; try (with_reducible rfl))
              try simp only [List.setIfInBounds_toArray, List.set_cons_zero, List.set_cons_succ]
              refine held_take 34 129 (v := ?_) rfl rfl (by kernel_rfl) (by kernel_rfl) (by kernel_rfl) (fun _ _ _ h => h) (by rfl) ?_ HRZ.out ?_
              rotate_left
              · (intro w hSw; (try dsimp only at hSw); have a0 := hSw.all.load (k := n20) (encR_n _) Try.prog; clear hSw;try simp only [List.getElem_toArray, List.getElem_cons_zero, List.getElem_cons_succ]; go_simp; try (with_reducible rfl))
              try simp only [List.setIfInBounds_toArray, List.set_cons_zero, List.set_cons_succ]
              refine held_take 35 130 (v := ?_) rfl rfl (by kernel_rfl) (by kernel_rfl) (by kernel_rfl) (fun _ _ _ h => h) (by rfl) ?_ HRZ.out ?_
              rotate_left
              · (intro w hSw; (try dsimp only at hSw); have a0 := hSw.all.load (k := n20) (encR_n _) Try.prog; clear hSw;try simp only [List.getElem_toArray, List.getElem_cons_zero, List.getElem_cons_succ]; go_simp; try (with_reducible rfl))
              try simp only [List.setIfInBounds_toArray, List.set_cons_zero, List.set_cons_succ]
              refine wpAnyH_done (by kernel_rfl) ?_ _
              go_wp2
              go_roundw
              case rel => exact ⟨k + 1, v2, _, cap2, T2, by omega, by go_num, by rw [HN2.out], HTZ.out, HB.out.trans (hbz.out.mono HB.out.size), HAP.out.below hbz.out⟩
              case measure => simp [intOf]; omega
            · try simp only [List.getElem_toArray, List.getElem_cons_zero, List.getElem_cons_succ]
              (go_simp)
              try simp only [Act.put, List.setIfInBounds_toArray, List.set_cons_zero, List.set_cons_succ]
              refine hK.out _ _ _ HRZ.out ?_
              clear hK K
              refine held_call 5 100 rfl rfl (by kernel_rfl) (by rfl) (fun K hK => ?_)
              try simp only [List.getElem_toArray, List.getElem_cons_zero, List.getElem_cons_succ]
              go_simp
              (go_at_call 20; (with_reducible refine (HLN.out).mono ?_); rintro e w11 ⟨rfl, hw⟩; subst hw)
              try go_wp2_with fail
              try simp only [Act.put, List.setIfInBounds_toArray, List.set_cons_zero, List.set_cons_succ]
              refine hK.out _ _ _ HRZ.out ?_
              clear hK K
              refine held_take 8 103 (v := ?_) rfl rfl (by kernel_rfl) (by kernel_rfl) (by kernel_rfl) (fun _ _ _ h => h) (by rfl) ?_ HRZ.out ?_
              rotate_left
              · (intro w hSw; (try dsimp only at hSw); have a0 := hSw.all.load (k := n20) (encR_n _) Try.prog; clear hSw;try simp only [List.getElem_toArray, List.getElem_cons_zero, List.getElem_cons_succ]; go_simp; try (with_reducible rfl))
              try simp only [List.setIfInBounds_toArray, List.set_cons_zero, List.set_cons_succ]
              refine held_take 9 104 (v := ?_) rfl rfl (by kernel_rfl) (by kernel_rfl) (by kernel_rfl) (fun _ _ _ h => h) (by rfl) ?_ HRZ.out ?_
              rotate_left
              · (intro w hSw; (try dsimp only at hSw); have a0 := hSw.all.load (k := n20) (encR_n _) Try.prog; clear hSw;try simp only [List.getElem_toArray, List.getElem_cons_zero, List.getElem_cons_succ]; go_simp; try (with_reducible rfl))
              try simp only [List.setIfInBounds_toArray, List.set_cons_zero, List.set_cons_succ]
              refine held_take 10 105 (v := ?_) rfl rfl (by kernel_rfl) (by kernel_rfl) (by kernel_rfl) (fun _ _ _ h => h) (by rfl) ?_ HRZ.out ?_
              rotate_left
              · (intro w hSw; (try dsimp only at hSw); have a0 := hSw.all.load (k := n20) (encR_n _) Try.prog; clear hSw;try simp only [List.getElem_toArray, List.getElem_cons_zero, List.getElem_cons_succ]; go_simp; try (with_reducible rfl))
              try simp only [List.setIfInBounds_toArray, List.set_cons_zero, List.set_cons_succ]
              refine held_take 11 106 (v := ?_) rfl rfl (by kernel_rfl) (by kernel_rfl) (by kernel_rfl) (fun _ _ _ h => h) (by rfl) ?_ HRZ.out ?_
              rotate_left
              · (intro w hSw; (try dsimp only at hSw); have a0 := hSw.all.load (k := n20) (encR_n _) Try.prog; clear hSw;try simp only [List.getElem_toArray, List.getElem_cons_zero, List.getElem_cons_succ]; go_simp; try (with_reducible rfl))
              try simp only [List.setIfInBounds_toArray, List.set_cons_zero, List.set_cons_succ]
              refine held_take 12 107 (v := ?_) rfl rfl (by kernel_rfl) (by kernel_rfl) (by kernel_rfl) (fun _ _ _ h => h) (by rfl) ?_ HRZ.out ?_
              rotate_left
              · (intro w hSw; (try dsimp only at hSw); have a0 := hSw.all.load (k := n20) (encR_n _) Try.prog; clear hSw;try simp only [List.getElem_toArray, List.getElem_cons_zero, List.getElem_cons_succ]; go_simp; try (with_reducible rfl))
              try simp only [List.setIfInBounds_toArray, List.set_cons_zero, List.set_cons_succ]
              refine held_take 13 108 (v := ?_) rfl rfl (by kernel_rfl) (by kernel_rfl) (by kernel_rfl) (fun _ _ _ h => h) (by rfl) ?_ HRZ.out ?_
              rotate_left
              · (intro w hSw; (try dsimp only at hSw); have a0 := hSw.all.load (k := n20) (encR_n _) Try.prog; clear hSw;try simp only [List.getElem_toArray, List.getElem_cons_zero, List.getElem_cons_succ]; go_simp; try (with_reducible rfl))
              try simp only [List.setIfInBounds_toArray, List.set_cons_zero, List.set_cons_succ]
              refine held_take 14 109 (v := ?_) rfl rfl (by kernel_rfl) (by kernel_rfl) (by kernel_rfl) (fun _ _ _ h => h) (by rfl) ?_ HRZ.out ?_
              rotate_left
              · (intro w hSw; (try dsimp only at hSw); have a0 := hSw.all.load (k := n20) (encR_n _) Try.prog; clear hSw;try simp only [List.getElem_toArray, List.getElem_cons_zero, List.getElem_cons_succ]; go_simp; try (with_reducible rfl))
              try simp only [List.setIfInBounds_toArray, List.set_cons_zero, List.set_cons_succ]
              refine held_take 15 110 (v := ?_) rfl rfl (by kernel_rfl) (by kernel_rfl) (by kernel_rfl) (fun _ _ _ h => h) (by rfl) ?_ HRZ.out ?_
              rotate_left
              · (intro w hSw; (try dsimp only at hSw); have a0 := hSw.all.load (k := n20) (encR_n _) Try.prog; clear hSw;try simp only [List.getElem_toArray, List.getElem_cons_zero, List.getElem_cons_succ]; go_simp; try (with_reducible rfl))
              try simp only [List.setIfInBounds_toArray, List.set_cons_zero, List.set_cons_succ]
              refine held_take 16 111 (v := ?_) rfl rfl (by kernel_rfl) (by kernel_rfl) (by kernel_rfl) (fun _ _ _ h => h) (by rfl) ?_ HRZ.out ?_
              rotate_left
              · (intro w hSw; (try dsimp only at hSw); have a0 := hSw.all.load (k := n20) (encR_n _) Try.prog; clear hSw;try simp only [List.getElem_toArray, List.getElem_cons_zero, List.getElem_cons_succ]; go_simp; try (with_reducible rfl))
              try simp only [List.setIfInBounds_toArray, List.set_cons_zero, List.set_cons_succ]
              refine held_take 17 112 (v := ?_) rfl rfl (by kernel_rfl) (by kernel_rfl) (by kernel_rfl) (fun _ _ _ h => h) (by rfl) ?_ HRZ.out ?_
              rotate_left
              · (intro w hSw; (try dsimp only at hSw); have a0 := hSw.all.load (k := n20) (encR_n _) Try.prog; clear hSw;try simp only [List.getElem_toArray, List.getElem_cons_zero, List.getElem_cons_succ]; go_simp; try (with_reducible rfl))
              try simp only [List.setIfInBounds_toArray, List.set_cons_zero, List.set_cons_succ]
              refine held_take 18 113 (v := ?_) rfl rfl (by kernel_rfl) (by kernel_rfl) (by kernel_rfl) (fun _ _ _ h => h) (by rfl) ?_ HRZ.out ?_
              rotate_left
              · (intro w hSw; (try dsimp only at hSw); have a0 := hSw.all.load (k := n20) (encR_n _) Try.prog; clear hSw;try simp only [List.getElem_toArray, List.getElem_cons_zero, List.getElem_cons_succ]; go_simp; try (with_reducible rfl))
              try simp only [List.setIfInBounds_toArray, List.set_cons_zero, List.set_cons_succ]
              refine held_skip 19 114 rfl rfl (by kernel_rfl) (by kernel_rfl) (by kernel_rfl) (fun _ _ _ h => h) (by rfl) HRZ.out ?_
              try simp only [List.setIfInBounds_toArray, List.set_cons_zero, List.set_cons_succ]
              refine held_skip 20 115 rfl rfl (by kernel_rfl) (by kernel_rfl) (by kernel_rfl) (fun _ _ _ h => h) (by rfl) HRZ.out ?_
              try simp only [List.setIfInBounds_toArray, List.set_cons_zero, List.set_cons_succ]
              refine held_skip 21 116 rfl rfl (by kernel_rfl) (by kernel_rfl) (by kernel_rfl) (fun _ _ _ h => h) (by rfl) HRZ.out ?_
              try simp only [List.setIfInBounds_toArray, List.set_cons_zero, List.set_cons_succ]
              refine held_skip 22 117 rfl rfl (by kernel_rfl) (by kernel_rfl) (by kernel_rfl) (fun _ _ _ h => h) (by rfl) HRZ.out ?_
              try simp only [List.setIfInBounds_toArray, List.set_cons_zero, List.set_cons_succ]
              refine held_skip 23 118 rfl rfl (by kernel_rfl) (by kernel_rfl) (by kernel_rfl) (fun _ _ _ h => h) (by rfl) HRZ.out ?_
              try simp only [List.setIfInBounds_toArray, List.set_cons_zero, List.set_cons_succ]
              refine held_skip 24 119 rfl rfl (by kernel_rfl) (by kernel_rfl) (by kernel_rfl) (fun _ _ _ h => h) (by rfl) HRZ.out ?_
              try simp only [List.setIfInBounds_toArray, List.set_cons_zero, List.set_cons_succ]
              refine held_take 25 120 (v := ?_) rfl rfl (by kernel_rfl) (by kernel_rfl) (by kernel_rfl) (fun _ _ _ h => h) (by rfl) ?_ HRZ.out ?_
              rotate_left
              · (intro w hSw; (try dsimp only at hSw); have a0 := hSw.all.load (k := n20) (encR_n _) Try.prog; clear hSw;try simp only [List.getElem_toArray, List.getElem_cons_zero, List.getElem_cons_succ]; go_simp; try (with_reducible rfl))
              try simp only [List.setIfInBounds_toArray, List.set_cons_zero, List.set_cons_succ]
              refine held_take 26 121 (v := ?_) rfl rfl (by kernel_rfl) (by kernel_rfl) (by kernel_rfl) (fun _ _ _ h => h) (by rfl) ?_ HRZ.out ?_
              rotate_left
              · (intro w hSw; (try dsimp only at hSw); have a0 := hSw.all.load (k := n20) (encR_n _) Try.prog; clear hSw;try simp only [List.getElem_toArray, List.getElem_cons_zero, List.getElem_cons_succ]; go_simp; try (with_reducible rfl))
              try simp only [List.setIfInBounds_toArray, List.set_cons_zero, List.set_cons_succ]
              refine held_take 27 122 (v := ?_) rfl rfl (by kernel_rfl) (by kernel_rfl) (by kernel_rfl) (fun _ _ _ h => h) (by rfl) ?_ HRZ.out ?_
              rotate_left
              · (intro w hSw; (try dsimp only at hSw); have a0 := hSw.all.load (k := n20) (encR_n _) Try.prog; clear hSw;try simp only [List.getElem_toArray, List.getElem_cons_zero, List.getElem_cons_succ]; go_simp; try (with_reducible rfl))
              try simp only [List.setIfInBounds_toArray, List.set_cons_zero, List.set_cons_succ]
              refine held_take 28 123 (v := ?_) rfl rfl (by kernel_rfl) (by kernel_rfl) (by kernel_rfl) (fun _ _ _ h => h) (by rfl) ?_ HRZ.out ?_
              rotate_left
              · (intro w hSw; (try dsimp only at hSw); have a0 := hSw.all.load (k := n20) (encR_n _) Try.prog; clear hSw;try simp only [List.getElem_toArray, List.getElem_cons_zero, List.getElem_cons_succ]; go_simp; try (with_reducible rfl))
              try simp only [List.setIfInBounds_toArray, List.set_cons_zero, List.set_cons_succ]
              refine held_take 29 124 (v := ?_) rfl rfl (by kernel_rfl) (by kernel_rfl) (by kernel_rfl) (fun _ _ _ h => h) (by rfl) ?_ HRZ.out ?_
              rotate_left
              · (intro w hSw; (try dsimp only at hSw); have a0 := hSw.all.load (k := n20) (encR_n _) Try.prog; clear hSw;try simp only [List.getElem_toArray, List.getElem_cons_zero, List.getElem_cons_succ]; go_simp; try (with_reducible rfl))
              try simp only [List.setIfInBounds_toArray, List.set_cons_zero, List.set_cons_succ]
              refine held_take 30 125 (v := ?_) rfl rfl (by kernel_rfl) (by kernel_rfl) (by kernel_rfl) (fun _ _ _ h => h) (by rfl) ?_ HRZ.out ?_
              rotate_left
              · (intro w hSw; (try dsimp only at hSw); have a0 := hSw.all.load (k := n20) (encR_n _) Try.prog; clear hSw;try simp only [List.getElem_toArray, List.getElem_cons_zero, List.getElem_cons_succ]; go_simp; try (with_reducible rfl))
              try simp only [List.setIfInBounds_toArray, List.set_cons_zero, List.set_cons_succ]
              refine held_take 31 126 (v := ?_) rfl rfl (by kernel_rfl) (by kernel_rfl) (by kernel_rfl) (fun _ _ _ h => h) (by rfl) ?_ HRZ.out ?_
              rotate_left
              · (intro w hSw; (try dsimp only at hSw); have a0 := hSw.all.load (k := n20) (encR_n _) Try.prog; clear hSw;try simp only [List.getElem_toArray, List.getElem_cons_zero, List.getElem_cons_succ]; go_simp; try (with_reducible rfl))
              try simp only [List.setIfInBounds_toArray, List.set_cons_zero, List.set_cons_succ]
              refine held_take 32 127 (v := ?_) rfl rfl (by kernel_rfl) (by kernel_rfl) (by kernel_rfl) (fun _ _ _ h => h) (by rfl) ?_ HRZ.out ?_
              rotate_left
              · (intro w hSw; (try dsimp only at hSw); have a0 := hSw.all.load (k := n20) (encR_n _) Try.prog; clear hSw;try simp only [List.getElem_toArray, List.getElem_cons_zero, List.getElem_cons_succ]; go_simp; try (with_reducible rfl))
              try simp only [List.setIfInBounds_toArray, List.set_cons_zero, List.set_cons_succ]
              refine held_take 33 128 (v := ?_) rfl rfl (by kernel_rfl) (by kernel_rfl) (by kernel_rfl) (fun _ _ _ h => h) (by rfl) ?_ HRZ.out ?_
              rotate_left
              · (intro w hSw; (try dsimp only at hSw); have a0 := hSw.all.load (k := n20) (encR_n _) Try.prog; clear hSw;try simp only [List.getElem_toArray, List.getElem_cons_zero, List.getElem_cons_succ]; go_simp; try (with_reducible rfl))
              try simp only [List.setIfInBounds_toArray, List.set_cons_zero, List.set_cons_succ]
              refine held_take 34 129 (v := ?_) rfl rfl (by kernel_rfl) (by kernel_rfl) (by kernel_rfl) (fun _ _ _ h => h) (by rfl) ?_ HRZ.out ?_
              rotate_left
              · (intro w hSw; (try dsimp only at hSw); have a0 := hSw.all.load (k := n20) (encR_n _) Try.prog; clear hSw;try simp only [List.getElem_toArray, List.getElem_cons_zero, List.getElem_cons_succ]; go_simp; try (with_reducible rfl))
              try simp only [List.setIfInBounds_toArray, List.set_cons_zero, List.set_cons_succ]
              refine held_take 35 130 (v := ?_) rfl rfl (by kernel_rfl) (by kernel_rfl) (by kernel_rfl) (fun _ _ _ h => h) (by rfl) ?_ HRZ.out ?_
              rotate_left
              · (intro w hSw; (try dsimp only at hSw); have a0 := hSw.all.load (k := n20) (encR_n _) Try.prog; clear hSw;try simp only [List.getElem_toArray, List.getElem_cons_zero, List.getElem_cons_succ]; go_simp; try (with_reducible rfl))
              try simp only [List.setIfInBounds_toArray, List.set_cons_zero, List.set_cons_succ]
              refine wpAnyH_done (by kernel_rfl) ?_ _
              go_wp2
              go_roundw
              case rel => exact ⟨k + 1, v2, _, cap2, T2, by omega, by go_num, by rw [HN2.out], HTZ.out, HB.out.trans (hbz.out.mono HB.out.size), HAP.out.below hbz.out⟩
              case measure => simp [intOf]; omega
      · obtain rfl : k = n := by omega
        have hkk : ¬ (k : Int) < (k : Int) := by omega
        have HWZ := Lib.hid (HB0.out.trans ((hb.out.trans (HB.out.mono hb.out.size)).mono HB0.out.size))
        have HPZ := Lib.hid (HPA.out.below HB.out).drew
        have HQZ := Lib.hid (HQA.out.below HB.out).drew
        clear hlt hl n0 HR HN HPA HQA HB hb HB0
        go_upto_region 27 with fail
        have HT := Lib.hid (HT.out.below (Below.refl _ _).drew)
        have HAP := Lib.hid (HAP.out.below (Below.refl _ _).drew)
        have HWZ := Lib.hid HWZ.out.drew
        have h3 := Lib.hid (show T.length ≤ 1000000 from Nat.le_trans HT.out.tok.len (by decide))
        have h4 := Lib.hid (show (btw T p q).length ≤ 1000000 from Nat.le_trans (by unfold btw; rw [List.length_drop, List.length_take]; omega) h3.out)
        refine wp_region_held_drew (S := (fun w' => PAt w' B 0 p ∧ PAt w' B2 0 q)) (by kernel_rfl) ⟨HPZ.out, HQZ.out⟩ (fun _ => ?_)
        refine held_take 0 132 (v := ?_) rfl rfl (by kernel_rfl) (by kernel_rfl) (by kernel_rfl) (fun _ _ _ h => h) (by rfl) ?_ ⟨HPZ.out, HQZ.out⟩ ?_
        rotate_left
        · (intro w hSw; (try dsimp only at hSw); have a0 := hSw.1.all.load (k := n18) (encP_n _) Try.prog; have a1 := hSw.2.all.load (k := n18) (encP_n _) Try.prog; clear hSw;try simp only [List.getElem_toArray, List.getElem_cons_zero, List.getElem_cons_succ]; go_simp; try (with_reducible rfl))
        try simp only [List.setIfInBounds_toArray, List.set_cons_zero, List.set_cons_succ]
        refine held_take 2 134 (v := ?_) rfl rfl (by kernel_rfl) (by kernel_rfl) (by kernel_rfl) (fun _ _ _ h => h) (by rfl) ?_ ⟨HPZ.out, HQZ.out⟩ ?_
        rotate_left
        · (intro w hSw; (try dsimp only at hSw); have a0 := hSw.1.all.load (k := n18) (encP_n _) Try.prog; have a1 := hSw.2.all.load (k := n18) (encP_n _) Try.prog; clear hSw;try simp only [List.getElem_toArray, List.getElem_cons_zero, List.getElem_cons_succ]; go_simp; try (with_reducible rfl))
        try simp only [List.setIfInBounds_toArray, List.set_cons_zero, List.set_cons_succ]
        refine held_call 1 133 rfl rfl (by kernel_rfl) (by rfl) (fun K hK => ?_)
        try simp only [List.getElem_toArray, List.getElem_cons_zero, List.getElem_cons_succ]
        go_simp
        (go_at_call 22; (with_reducible refine (all_any _ HT.out).mono ?_); rintro e w3 ⟨v3, rfl, h1, h2⟩; obtain ⟨A3, c3, hv3, _⟩ := own_rv h1; obtain rfl := hv3.eq; have HSM := Lib.hid (refSame_any A3 A1 c3 cap1 T T h3.out h3.out w3 hv3.rd (HAP.out.rv.rd.below h2)); rw [decide_eq_true rfl] at HSM; have HT := Lib.hid (HT.out.below h2); have HAP := Lib.hid (HAP.out.below h2); have HWZ := Lib.hid (HWZ.out.trans (h2.mono HWZ.out.size)); have HPZ := Lib.hid (HPZ.out.below h2); have HQZ := Lib.hid (HQZ.out.below h2); clear h1 h2 hv3)
        try go_wp2_with fail
        try simp only [Act.put, List.setIfInBounds_toArray, List.set_cons_zero, List.set_cons_succ]
        refine hK.out _ _ _ ⟨HPZ.out, HQZ.out⟩ ?_
        clear hK K
        refine held_call 3 135 rfl rfl (by kernel_rfl) (by rfl) (fun K hK => ?_)
        try simp only [List.getElem_toArray, List.getElem_cons_zero, List.getElem_cons_succ]
        go_simp
        (go_at_call 21; (with_reducible refine (HSM.out).mono ?_); rintro e w4 ⟨rfl, h2⟩; have HT := Lib.hid (HT.out.below h2); have HAP := Lib.hid (HAP.out.below h2); have HWZ := Lib.hid (HWZ.out.trans (h2.mono HWZ.out.size)); have HPZ := Lib.hid (HPZ.out.below h2); have HQZ := Lib.hid (HQZ.out.below h2); clear h2)
        try go_wp2_with fail
        try simp only [Act.put, List.setIfInBounds_toArray, List.set_cons_zero, List.set_cons_succ]
        refine hK.out _ _ _ ⟨HPZ.out, HQZ.out⟩ ?_
        clear hK K
        refine held_take 4 136 (v := ?_) rfl rfl (by kernel_rfl) (by kernel_rfl) (by kernel_rfl) (fun _ _ _ h => h) (by rfl) ?_ ⟨HPZ.out, HQZ.out⟩ ?_
        rotate_left
        · (intro w hSw; (try dsimp only at hSw); have a0 := hSw.1.all.load (k := n18) (encP_n _) Try.prog; have a1 := hSw.2.all.load (k := n18) (encP_n _) Try.prog; clear hSw;try simp only [List.getElem_toArray, List.getElem_cons_zero, List.getElem_cons_succ]; go_simp; try (with_reducible rfl))
        try simp only [List.setIfInBounds_toArray, List.set_cons_zero, List.set_cons_succ]
        refine held_take 5 137 (v := ?_) rfl rfl (by kernel_rfl) (by kernel_rfl) (by kernel_rfl) (fun _ _ _ h => h) (by rfl) ?_ ⟨HPZ.out, HQZ.out⟩ ?_
        rotate_left
        · (intro w hSw; (try dsimp only at hSw); have a0 := hSw.1.all.load (k := n18) (encP_n _) Try.prog; have a1 := hSw.2.all.load (k := n18) (encP_n _) Try.prog; clear hSw;try simp only [List.getElem_toArray, List.getElem_cons_zero, List.getElem_cons_succ]; go_simp; try (with_reducible rfl))
        try simp only [List.setIfInBounds_toArray, List.set_cons_zero, List.set_cons_succ]
        refine held_take 6 138 (v := ?_) rfl rfl (by kernel_rfl) (by kernel_rfl) (by kernel_rfl) (fun _ _ _ h => h) (by rfl) ?_ ⟨HPZ.out, HQZ.out⟩ ?_
        rotate_left
        · (intro w hSw; (try dsimp only at hSw); have a0 := hSw.1.all.load (k := n18) (encP_n _) Try.prog; have a1 := hSw.2.all.load (k := n18) (encP_n _) Try.prog; clear hSw;try simp only [List.getElem_toArray, List.getElem_cons_zero, List.getElem_cons_succ]; go_simp; try (with_reducible rfl))
        try simp only [List.setIfInBounds_toArray, List.set_cons_zero, List.set_cons_succ]
        refine held_take 7 139 (v := ?_) rfl rfl (by kernel_rfl) (by kernel_rfl) (by kernel_rfl) (fun _ _ _ h => h) (by rfl) ?_ ⟨HPZ.out, HQZ.out⟩ ?_
        rotate_left
        · (intro w hSw; (try dsimp only at hSw); have a0 := hSw.1.all.load (k := n18) (encP_n _) Try.prog; have a1 := hSw.2.all.load (k := n18) (encP_n _) Try.prog; clear hSw;try simp only [List.getElem_toArray, List.getElem_cons_zero, List.getElem_cons_succ]; go_simp; try (with_reducible rfl))
        try simp only [List.setIfInBounds_toArray, List.set_cons_zero, List.set_cons_succ]
        refine held_take 9 141 (v := ?_) rfl rfl (by kernel_rfl) (by kernel_rfl) (by kernel_rfl) (fun _ _ _ h => h) (by rfl) ?_ ⟨HPZ.out, HQZ.out⟩ ?_
        rotate_left
        · (intro w hSw; (try dsimp only at hSw); have a0 := hSw.1.all.load (k := n18) (encP_n _) Try.prog; have a1 := hSw.2.all.load (k := n18) (encP_n _) Try.prog; clear hSw;try simp only [List.getElem_toArray, List.getElem_cons_zero, List.getElem_cons_succ]; go_simp; try (with_reducible rfl))
        try simp only [List.setIfInBounds_toArray, List.set_cons_zero, List.set_cons_succ]
        refine held_take 10 142 (v := ?_) rfl rfl (by kernel_rfl) (by kernel_rfl) (by kernel_rfl) (fun _ _ _ h => h) (by rfl) ?_ ⟨HPZ.out, HQZ.out⟩ ?_
        rotate_left
        · (intro w hSw; (try dsimp only at hSw); have a0 := hSw.1.all.load (k := n18) (encP_n _) Try.prog; have a1 := hSw.2.all.load (k := n18) (encP_n _) Try.prog; clear hSw;try simp only [List.getElem_toArray, List.getElem_cons_zero, List.getElem_cons_succ]; go_simp; try (with_reducible rfl))
        try simp only [List.setIfInBounds_toArray, List.set_cons_zero, List.set_cons_succ]
        refine held_take 11 143 (v := ?_) rfl rfl (by kernel_rfl) (by kernel_rfl) (by kernel_rfl) (fun _ _ _ h => h) (by rfl) ?_ ⟨HPZ.out, HQZ.out⟩ ?_
        rotate_left
        · (intro w hSw; (try dsimp only at hSw); have a0 := hSw.1.all.load (k := n18) (encP_n _) Try.prog; have a1 := hSw.2.all.load (k := n18) (encP_n _) Try.prog; clear hSw;try simp only [List.getElem_toArray, List.getElem_cons_zero, List.getElem_cons_succ]; go_simp; try (with_reducible rfl))
        try simp only [List.setIfInBounds_toArray, List.set_cons_zero, List.set_cons_succ]
        refine held_call 8 140 rfl rfl (by kernel_rfl) (by rfl) (fun K hK => ?_)
        try simp only [List.getElem_toArray, List.getElem_cons_zero, List.getElem_cons_succ]
        go_simp
        (go_at_call 23; (with_reducible refine (between_any p q _ HT.out).mono ?_); rintro e w5 ⟨v5, rfl, h1, h2⟩; obtain ⟨A5, c5, hv5, _⟩ := own_rv h1; obtain rfl := hv5.eq; have HR5 := Lib.hid hv5.rd; have HT := Lib.hid (HT.out.below h2); have HAP := Lib.hid (HAP.out.below h2); have HWZ := Lib.hid (HWZ.out.trans (h2.mono HWZ.out.size)); have HPZ := Lib.hid (HPZ.out.below h2); have HQZ := Lib.hid (HQZ.out.below h2); clear h1 h2 hv5)
        try go_wp2_with fail
        try simp only [Act.put, List.setIfInBounds_toArray, List.set_cons_zero, List.set_cons_succ]
        refine hK.out _ _ _ ⟨HPZ.out, HQZ.out⟩ ?_
        clear hK K
        refine held_call 12 144 rfl rfl (by kernel_rfl) (by rfl) (fun K hK => ?_)
        try simp only [List.getElem_toArray, List.getElem_cons_zero, List.getElem_cons_succ]
        go_simp
        (go_at_call 24; (with_reducible refine (refBetween_any A1 cap1 T HT.out.tok p q _ HAP.out.rv).mono ?_); rintro e w6 ⟨⟨v6, A6, c6, rfl, h1⟩, h2⟩; obtain rfl := h1.eq; have HS2 := Lib.hid (refSame_any A5 A6 c5 c6 (btw T p q) (btw T p q) h4.out h4.out w6 (HR5.out.below h2) h1.rd); rw [decide_eq_true rfl] at HS2; have HWZ := Lib.hid (HWZ.out.trans (h2.mono HWZ.out.size)); have HPZ := Lib.hid (HPZ.out.below h2); have HQZ := Lib.hid (HQZ.out.below h2); clear h1 h2)
        try go_wp2_with fail
        try simp only [Act.put, List.setIfInBounds_toArray, List.set_cons_zero, List.set_cons_succ]
        refine hK.out _ _ _ ⟨HPZ.out, HQZ.out⟩ ?_
        clear hK K
        refine held_call 13 145 rfl rfl (by kernel_rfl) (by rfl) (fun K hK => ?_)
        try simp only [List.getElem_toArray, List.getElem_cons_zero, List.getElem_cons_succ]
        go_simp
        (go_at_call 21; (with_reducible refine (HS2.out).mono ?_); rintro e w7 ⟨rfl, h2⟩; have HWZ := Lib.hid (HWZ.out.trans (h2.mono HWZ.out.size)); have HPZ := Lib.hid (HPZ.out.below h2); have HQZ := Lib.hid (HQZ.out.below h2); clear h2)
        try go_wp2_with fail
        try simp only [Act.put, List.setIfInBounds_toArray, List.set_cons_zero, List.set_cons_succ]
        refine hK.out _ _ _ ⟨HPZ.out, HQZ.out⟩ ?_
        clear hK K
        refine held_take 14 146 (v := ?_) rfl rfl (by kernel_rfl) (by kernel_rfl) (by kernel_rfl) (fun _ _ _ h => h) (by rfl) ?_ ⟨HPZ.out, HQZ.out⟩ ?_
        rotate_left
        · (intro w hSw; (try dsimp only at hSw); have a0 := hSw.1.all.load (k := n18) (encP_n _) Try.prog; have a1 := hSw.2.all.load (k := n18) (encP_n _) Try.prog; clear hSw;try simp only [List.getElem_toArray, List.getElem_cons_zero, List.getElem_cons_succ]; go_simp; try (with_reducible rfl))
        try simp only [List.setIfInBounds_toArray, List.set_cons_zero, List.set_cons_succ]
        refine held_take 15 6 (v := ?_) rfl rfl (by kernel_rfl) (by kernel_rfl) (by kernel_rfl) (fun _ _ _ h => h) (by rfl) ?_ ⟨HPZ.out, HQZ.out⟩ ?_
        rotate_left
        · (intro w hSw; (try dsimp only at hSw); have a0 := hSw.1.all.load (k := n18) (encP_n _) Try.prog; have a1 := hSw.2.all.load (k := n18) (encP_n _) Try.prog; clear hSw;try simp only [List.getElem_toArray, List.getElem_cons_zero, List.getElem_cons_succ]; go_simp; try (with_reducible rfl))
        try simp only [List.setIfInBounds_toArray, List.set_cons_zero, List.set_cons_succ]
        refine wpAnyH_done (by kernel_rfl) ?_ _
        go_wp2
        go_ret
        exact ⟨rfl, HWZ.out⟩
end Go.Proofs.Ytbeoclcnajfjcaa.TablePlays
