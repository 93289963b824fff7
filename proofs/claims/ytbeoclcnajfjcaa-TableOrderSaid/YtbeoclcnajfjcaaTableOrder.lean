/-
  TableOrder: the walk. Conditions: none.
-/
import Derived.Test.YtbeoclcnajfjcaaLawP
import Derived.Test.YtbeoclcnajfjcaaOpenW
namespace Go.Proofs.Ytbeoclcnajfjcaa.TableOrder
open Go Go.RowKit H2 Tab
set_option linter.unusedVariables false
set_option linter.unusedSimpArgs false
attribute [local go_sem] run_makeMap
set_option maxRecDepth 100000 in
set_option maxHeartbeats 40000000 in
theorem walk (v0 v1 : Value) (W : World) (w0 : Tab.IsRs W v0) (w1 : Tab.IsPw W v1) : Calls Try.prog 8 #[v0, v1] W fun e w' => e = .returned (.bool true) ∧ Below W.heap.size W w' := by
  obtain ⟨A, cap, L, rfl, hl, hr⟩ := w0
  obtain ⟨p, rfl, hpw⟩ := w1
  have HPW := Lib.hid hpw
  have HR := Lib.hid hr
  obtain ⟨n, hn⟩ : ∃ n, L.length = n := ⟨_, rfl⟩
  have HN := Lib.hid hn
  rw [hn] at hl ⊢
  unfold maxLen at hl
  have hl := Nat.le_trans hl.1 hl.2
  clear hr hn hpw
  have n0 : (0 : Int) ≤ (n : Int) := by omega
  by_cases hbig : (200 : Int) < (n : Int)
  · have hbd : decide ((200 : Int) < (n : Int)) = true := decide_eq_true hbig
    go_enter Try.func8, Try.ntmps8
    go_upto_region 1 with fail
    have HB0 := Lib.hid (show Below W.heap.size W (W.alloc (.cells (encP p).toArray 25 (0, 0))) from (Below.refl _ _).alloc (Nat.le_refl _) _)
    generalize W.alloc _ = W0 at HB0 ⊢
    have hb := Lib.hid (Below.refl W0.heap.size W0)
    go_wp2_with (first
      | (go_at_call 10; (with_reducible refine (awake_any _).mono ?_); rintro e w1 ⟨rfl, h1⟩; have hb := Lib.hid (hb.out.trans (h1.mono hb.out.size)); clear h1))
    go_ret
    exact ⟨rfl, HB0.out.trans (hb.out.mono HB0.out.size)⟩
  · have hbd : decide ((200 : Int) < (n : Int)) = false := decide_eq_false hbig
    go_enter Try.func8, Try.ntmps8
    go_upto_region 1 with fail
    have HPA := Lib.hid (PAt.mk (at_new W (encP p) 25 (0, 0)))
    have HB0 := Lib.hid (show Below W.heap.size W (W.alloc (.cells (encP p).toArray 25 (0, 0))) from (Below.refl _ _).alloc (Nat.le_refl _) _)
    generalize W.alloc _ = W0 at HPA HB0 ⊢
    have hb := Lib.hid (Below.refl W0.heap.size W0)
    obtain ⟨B, hB⟩ : ∃ b, W.heap.size = b := ⟨_, rfl⟩
    rw [hB] at HPA ⊢
    clear hB
    go_upto_region 5 with (first
      | (go_at_call 10; (with_reducible refine (awake_any _).mono ?_); rintro e w1 ⟨rfl, h1⟩; have hb := Lib.hid (hb.out.trans (h1.mono hb.out.size)); clear h1)
      | (go_at_call 11; (with_reducible refine (new_none _).mono ?_); rintro e w2 ⟨b, v, rfl, h1, h2⟩; have HT := Lib.hid h1; have HB := Lib.hid h2; clear h1 h2))
    have HPA := Lib.hid (HPA.out.below hb.out)
    have HM := Lib.hid (MapR.made w2)
    have HT := Lib.hid (HT.out.below ((Below.refl w2.heap.size w2).alloc (Nat.le_refl _) (.map #[] 0)))
    have HML := Lib.hid HB.out.size
    have HB := Lib.hid (HB.out.alloc HB.out.size (.map #[] 0))
    generalize w2.alloc _ = W3 at HM HT HB ⊢
    generalize w2.heap.size = bm at HM HML ⊢
    have hn200 : n ≤ 200 := by omega
    clear hbd hbig
    go_wp2
    go_loopw [32] (fun s32 wr => ∃ (k : Nat) (v : Value) (T : List Rt), k ≤ n ∧ s32 = .int .i64 k ∧ Tb w1.heap.size wr b v T ∧ Below w1.heap.size w1 wr ∧ MapR.Mp wr bm k T) (fun s32 _ => n - (intOf s32).toNat)
    case atStart => exact ⟨0, v, [], by omega, rfl, HT.out, HB.out, HM.out⟩
    case round =>
      clear HT HB HM
      obtain ⟨k, v, T, hk, rfl, ht, hbb, hmm⟩ := hrel
      have HT := Lib.hid ht
      have HB := Lib.hid hbb
      have HM := Lib.hid hmm
      clear ht hbb hmm
      by_cases hlt : k < n
      · have hlt' : (k : Int) < (n : Int) := by omega
        have k0 : (0 : Int) ≤ (k : Int) := by omega
        have hkl : k < L.length := by rw [HN.out]; exact hlt
        obtain ⟨g, o, rfl, hx⟩ := HR.out k hkl
        have HX := Lib.hid (((hx.below HB0.out).below hb.out).below HB.out)
        clear hx
        generalize L[k] = x at HX
        have hl1 : Sem.run Try.prog (loadCellsFrom ⟨g, o + k * n20, none⟩ 0 n20 #[]) wr = .ok (encR x).toArray wr := HX.out.all.load (k := n20) (encR_n _) Try.prog
        have hst := store_row (o := 0) (vs := encR x) (heap_alloc_new wr (.cells (encR zR).toArray 34 (0, 0))) (by simp [encR_len]) (encR_one _) Try.prog
        rw [splice_whole (by simp [encR_len])] at hst
        go_upto_region 8 with fail
        have HBX := Lib.hid (setRow_heap (wr.alloc (.cells (encR zR).toArray 34 (0, 0))) wr.heap.size _ (encR x).toArray 34 (0, 0) (heap_alloc_new wr _))
        have hbx := Lib.hid (below_setRow ((Below.refl wr.heap.size wr).alloc (Nat.le_refl _) (.cells (encR zR).toArray 34 (0, 0))) (Nat.le_refl _) (encR x).toArray)
        clear hst hl1
        generalize (wr.alloc _).setRow _ _ = W5 at HBX hbx ⊢
        have HNO := Lib.hid (tb_new_no HT.out (g := wr.heap.size) (Nat.le_refl _))
        have HT5 := Lib.hid (HT.out.below hbx.out)
        have HB5 := Lib.hid (HB.out.trans (hbx.out.mono HB.out.size))
        have HM5 := Lib.hid (HM.out.below hbx.out)
        have HX5 := Lib.hid (show RAt W5 wr.heap.size 0 x from ⟨at_row HBX.out⟩)
        generalize wr.heap.size = B5 at HX5 HNO ⊢
        clear HBX hbx HT HB HM HX hkl
        have HTK := Lib.hid HT5.out.tok.srt
        have c0 := HX5.out.all.load (k := n20) (encR_n _) Try.prog
        obtain ⟨c, hc⟩ : ∃ c, putC T x = c := ⟨_, rfl⟩
        have HC := Lib.hid hc
        clear hc
        by_cases hc0 : c = 0
        · subst hc0
          have HRT := Lib.hid (putT_zero HC.out)
          go_upto_region 9 with (go_at_call 12; (with_reducible refine (put_any x _ HT5.out).mono ?_); rintro e w6 ⟨v6, rfl, h1, h2⟩; rw [HC.out]; rw [HRT.out.2] at h1; have HT6 := Lib.hid h1; have HB6 := Lib.hid (HB5.out.trans (tb_below HT5.out h2)); have HM6 := Lib.hid (HM5.out.only h2 (mp_no HT5.out HM5.out)); have HX6 := Lib.hid (HX5.out.only h2 HNO.out); clear h1 h2 c0)
          obtain ⟨w7, hup, hm7, hg7⟩ := HM6.out.put HTK.out (show k < maxLen by unfold maxLen; omega) (wf_right HRT.out.1)
          have HM7 := Lib.hid hm7
          have HT7 := Lib.hid (mp_tb HT6.out HM6.out hg7)
          have HB7 := Lib.hid (mp_bel HB6.out hg7 HML.out)
          clear hm7 hg7
          have c0 := HX6.out.all.load (k := n20) (encR_n _) Try.prog
          have c1 := HX6.out.to.all.load (k := n18) (encP_n _) Try.prog
          go_wp2
          go_roundw
          case rel => exact ⟨k + 1, v6, _, by omega, by go_num, HT7.out, HB7.out, HM7.out⟩
          case measure => simp [intOf]; omega
        · have hc1 : (c == 0) = false := by simpa using hc0
          have hc2 : decide (c = 0) = false := decide_eq_false hc0
          have HNT := Lib.hid (putT_not (show putC T x ≠ 0 by rw [HC.out]; exact hc0))
          go_wp2_with (go_at_call 12; (with_reducible refine (put_any x _ HT5.out).mono ?_); rintro e w6 ⟨v6, rfl, h1, h2⟩; rw [HC.out]; rw [HNT.out] at h1; have HT6 := Lib.hid h1; have HB6 := Lib.hid (HB5.out.trans (tb_below HT5.out h2)); have HM6 := Lib.hid (HM5.out.only h2 (mp_no HT5.out HM5.out)); clear h1 h2 c0)
          go_roundw
          case rel => exact ⟨k + 1, v6, T, by omega, by go_num, HT6.out, HB6.out, by
            obtain ⟨D, hD, hF⟩ := HM6.out
            exact ⟨D, hD.mono (Nat.le_succ _), hF⟩⟩
          case measure => simp [intOf]; omega
      · rename World => wa
        obtain rfl : k = n := by omega
        have hkk : ¬ (k : Int) < (k : Int) := by omega
        have HWA := Lib.hid (HB0.out.trans ((hb.out.trans (HB.out.mono hb.out.size)).mono HB0.out.size))
        have HPX := Lib.hid (HPA.out.below HB.out)
        have HAL := Lib.hid (all_any _ HT.out)
        have HSR := Lib.hid HT.out.tok
        have h300 := HT.out.tok.len
        obtain ⟨m, hm⟩ : ∃ m, T.length = m := ⟨_, rfl⟩
        have HTL := Lib.hid hm
        clear hlt hl n0 HR HN hb HB HB0 HPA HML
        go_wp2_with (go_at_call 22; (with_reducible refine (HAL.out).mono ?_); rintro e w7 ⟨v7, rfl, h1, h2⟩; obtain ⟨A7, c7, hv7, _⟩ := own_rv h1; obtain rfl := hv7.eq; have HR7 := Lib.hid hv7.rd; have HB := Lib.hid h2; rw [hm]; clear h1 h2 hv7)
        have hm3 : m ≤ 300 := by omega
        clear hm h300
        go_loopw [49] (fun s49 wr => ∃ j : Nat, j ≤ m ∧ s49 = .int .i64 j ∧ Below w7.heap.size w7 wr) (fun s49 _ => m - (intOf s49).toNat)
        case atStart => exact ⟨0, by omega, rfl, Below.refl _ _⟩
        case round =>
          obtain ⟨j, hj, rfl, hbb⟩ := hrel
          have HB7 := Lib.hid hbb
          clear hbb
          have HBW := Lib.hid (HB.out.trans (HB7.out.mono HB.out.size))
          by_cases hlt : j < m
          · have hlt' : (j : Int) < (m : Int) := by omega
            have j0 : (0 : Int) ≤ (j : Int) := by omega
            have hjl : j < T.length := by rw [HTL.out]; exact hlt
            obtain ⟨g, o, rfl, hx⟩ := HR7.out j hjl
            have HX := Lib.hid (hx.below HB7.out)
            have HGX := Lib.hid (mem_get HSR.out.srt (List.getElem_mem hjl))
            have HWX := Lib.hid (wf_right (HSR.out.ok _ (List.getElem_mem hjl)))
            have HPV := Lib.hid (fun (i : Nat) (e : j = i + 1) => show ∃ y, RAt wr g (o + i * 20) y ∧ cmpP y.to T[j].to < 0 from by
              have hi : i < T.length := by omega
              obtain ⟨g', o', e', hy⟩ := HR7.out i hi
              cases e'
              exact ⟨T[i], hy.below HB7.out, List.pairwise_iff_getElem.1 HSR.out.srt i j hi hjl (by omega)⟩)
            clear hx
            generalize T[j] = x at HX HGX HWX HPV
            have hl1 : Sem.run Try.prog (loadCellsFrom ⟨g, o + j * n20, none⟩ 0 n20 #[]) wr = .ok (encR x).toArray wr := HX.out.all.load (k := n20) (encR_n _) Try.prog
            have hst := store_row (o := 0) (vs := encR x) (heap_alloc_new wr (.cells (encR zR).toArray 34 (0, 0))) (by simp [encR_len]) (encR_one _) Try.prog
            rw [splice_whole (by simp [encR_len])] at hst
            go_upto_region 15 with fail
            have HBX := Lib.hid (setRow_heap (wr.alloc (.cells (encR zR).toArray 34 (0, 0))) wr.heap.size _ (encR x).toArray 34 (0, 0) (heap_alloc_new wr _))
            have hbx := Lib.hid (below_setRow ((Below.refl wr.heap.size wr).alloc (Nat.le_refl _) (.cells (encR zR).toArray 34 (0, 0))) (Nat.le_refl _) (encR x).toArray)
            clear hst hl1
            generalize (wr.alloc _).setRow _ _ = W5 at HBX hbx ⊢
            have hbd := Lib.hid hbx.out.drew
            have HX5 := Lib.hid (show RAt W5 wr.heap.size 0 x from ⟨at_row HBX.out⟩).drew
            generalize wr.heap.size = B5 at HX5 ⊢
            have HM5 := Lib.hid (HM.out.below (HBW.out.trans (hbd.out.mono HBW.out.size)))
            have HB5 := Lib.hid (HB7.out.trans (hbd.out.mono HB7.out.size))
            clear HBX hbx
            rcases Nat.eq_zero_or_pos j with hj0 | hj0
            · have hz : ((0 : Int) < (j : Int)) = False := by simp; omega
              have hz2 : decide ((0 : Int) < (j : Int)) = false := by simp; omega
              have hz3 : ¬ 0 < j := by omega
              refine wp_region_held_drew (S := (fun w' => RAt w' B5 0 x ∧ MapR.Mp w' bm k T)) (by kernel_rfl) ⟨HX5.out, HM5.out⟩ (fun _ => ?_)
              refine held_take 0 54 (v := ?_) rfl rfl (by kernel_rfl) (by kernel_rfl) (by kernel_rfl) (fun _ _ _ h => h) (by rfl) ?_ ⟨HX5.out, HM5.out⟩ ?_
              rotate_left
              · (intro w hSw; (try dsimp only at hSw); have a0 := hSw.1.all.load (k := n20) (encR_n _) Try.prog; have a1 := hSw.1.to.all.load (k := n18) (encP_n _) Try.prog; have a2 := hSw.2.look HWX.out; rw [HGX.out, Option.getD_some] at a2; clear hSw;try simp only [List.getElem_toArray, List.getElem_cons_zero, List.getElem_cons_succ]; go_simp; try (with_reducible rfl))
              try simp only [List.setIfInBounds_toArray, List.set_cons_zero, List.set_cons_succ]
              refine held_take 1 55 (v := ?_) rfl rfl (by kernel_rfl) (by kernel_rfl) (by kernel_rfl) (fun _ _ _ h => h) (by rfl) ?_ ⟨HX5.out, HM5.out⟩ ?_
              rotate_left
              · (intro w hSw; (try dsimp only at hSw); have a0 := hSw.1.all.load (k := n20) (encR_n _) Try.prog; have a1 := hSw.1.to.all.load (k := n18) (encP_n _) Try.prog; have a2 := hSw.2.look HWX.out; rw [HGX.out, Option.getD_some] at a2; clear hSw;try simp only [List.getElem_toArray, List.getElem_cons_zero, List.getElem_cons_succ]; go_simp; try (with_reducible rfl))
              try simp only [List.setIfInBounds_toArray, List.set_cons_zero, List.set_cons_succ]
              refine held_take 2 56 (v := ?_) rfl rfl (by kernel_rfl) (by kernel_rfl) (by kernel_rfl) (fun _ _ _ h => h) (by rfl) ?_ ⟨HX5.out, HM5.out⟩ ?_
              rotate_left
              · (intro w hSw; (try dsimp only at hSw); have a0 := hSw.1.all.load (k := n20) (encR_n _) Try.prog; have a1 := hSw.1.to.all.load (k := n18) (encP_n _) Try.prog; have a2 := hSw.2.look HWX.out; rw [HGX.out, Option.getD_some] at a2; clear hSw;try simp only [List.getElem_toArray, List.getElem_cons_zero, List.getElem_cons_succ]; go_simp; try (with_reducible rfl))
              try simp only [List.setIfInBounds_toArray, List.set_cons_zero, List.set_cons_succ]
              refine held_skip 3 57 rfl rfl (by kernel_rfl) (by kernel_rfl) (by kernel_rfl) (fun _ _ _ h => h) (by rfl) ⟨HX5.out, HM5.out⟩ ?_
              try simp only [List.setIfInBounds_toArray, List.set_cons_zero, List.set_cons_succ]
              refine held_skip 4 58 rfl rfl (by kernel_rfl) (by kernel_rfl) (by kernel_rfl) (fun _ _ _ h => h) (by rfl) ⟨HX5.out, HM5.out⟩ ?_
              try simp only [List.setIfInBounds_toArray, List.set_cons_zero, List.set_cons_succ]
              refine held_skip 5 59 rfl rfl (by kernel_rfl) (by kernel_rfl) (by kernel_rfl) (fun _ _ _ h => h) (by rfl) ⟨HX5.out, HM5.out⟩ ?_
              try simp only [List.setIfInBounds_toArray, List.set_cons_zero, List.set_cons_succ]
              refine held_skip 6 60 rfl rfl (by kernel_rfl) (by kernel_rfl) (by kernel_rfl) (fun _ _ _ h => h) (by rfl) ⟨HX5.out, HM5.out⟩ ?_
              try simp only [List.setIfInBounds_toArray, List.set_cons_zero, List.set_cons_succ]
              refine held_skip 7 61 rfl rfl (by kernel_rfl) (by kernel_rfl) (by kernel_rfl) (fun _ _ _ h => h) (by rfl) ⟨HX5.out, HM5.out⟩ ?_
              try simp only [List.setIfInBounds_toArray, List.set_cons_zero, List.set_cons_succ]
              refine held_skip 8 62 rfl rfl (by kernel_rfl) (by kernel_rfl) (by kernel_rfl) (fun _ _ _ h => h) (by rfl) ⟨HX5.out, HM5.out⟩ ?_
              try simp only [List.setIfInBounds_toArray, List.set_cons_zero, List.set_cons_succ]
              refine held_skip 9 63 rfl rfl (by kernel_rfl) (by kernel_rfl) (by kernel_rfl) (fun _ _ _ h => h) (by rfl) ⟨HX5.out, HM5.out⟩ ?_
              try simp only [List.setIfInBounds_toArray, List.set_cons_zero, List.set_cons_succ]
              refine held_skip 10 64 rfl rfl (by kernel_rfl) (by kernel_rfl) (by kernel_rfl) (fun _ _ _ h => h) (by rfl) ⟨HX5.out, HM5.out⟩ ?_
              try simp only [List.setIfInBounds_toArray, List.set_cons_zero, List.set_cons_succ]
              refine held_skip 11 65 rfl rfl (by kernel_rfl) (by kernel_rfl) (by kernel_rfl) (fun _ _ _ h => h) (by rfl) ⟨HX5.out, HM5.out⟩ ?_
              try simp only [List.setIfInBounds_toArray, List.set_cons_zero, List.set_cons_succ]
              refine held_skip 12 66 rfl rfl (by kernel_rfl) (by kernel_rfl) (by kernel_rfl) (fun _ _ _ h => h) (by rfl) ⟨HX5.out, HM5.out⟩ ?_
              try simp only [List.setIfInBounds_toArray, List.set_cons_zero, List.set_cons_succ]
              refine held_take 13 67 (v := ?_) rfl rfl (by kernel_rfl) (by kernel_rfl) (by kernel_rfl) (fun _ _ _ h => h) (by rfl) ?_ ⟨HX5.out, HM5.out⟩ ?_
              rotate_left
              · (intro w hSw; (try dsimp only at hSw); have a0 := hSw.1.all.load (k := n20) (encR_n _) Try.prog; have a1 := hSw.1.to.all.load (k := n18) (encP_n _) Try.prog; have a2 := hSw.2.look HWX.out; rw [HGX.out, Option.getD_some] at a2; clear hSw;try simp only [List.getElem_toArray, List.getElem_cons_zero, List.getElem_cons_succ]; go_simp; try (with_reducible rfl))
              try simp only [List.setIfInBounds_toArray, List.set_cons_zero, List.set_cons_succ]
              refine held_take 14 68 (v := ?_) rfl rfl (by kernel_rfl) (by kernel_rfl) (by kernel_rfl) (fun _ _ _ h => h) (by rfl) ?_ ⟨HX5.out, HM5.out⟩ ?_
              rotate_left
              · (intro w hSw; (try dsimp only at hSw); have a0 := hSw.1.all.load (k := n20) (encR_n _) Try.prog; have a1 := hSw.1.to.all.load (k := n18) (encP_n _) Try.prog; have a2 := hSw.2.look HWX.out; rw [HGX.out, Option.getD_some] at a2; clear hSw;try simp only [List.getElem_toArray, List.getElem_cons_zero, List.getElem_cons_succ]; go_simp; try (with_reducible rfl))
              try simp only [List.setIfInBounds_toArray, List.set_cons_zero, List.set_cons_succ]
              refine held_take 15 69 (v := ?_) rfl rfl (by kernel_rfl) (by kernel_rfl) (by kernel_rfl) (fun _ _ _ h => h) (by rfl) ?_ ⟨HX5.out, HM5.out⟩ ?_
              rotate_left
              · (intro w hSw; (try dsimp only at hSw); have a0 := hSw.1.all.load (k := n20) (encR_n _) Try.prog; have a1 := hSw.1.to.all.load (k := n18) (encP_n _) Try.prog; have a2 := hSw.2.look HWX.out; rw [HGX.out, Option.getD_some] at a2; clear hSw;try simp only [List.getElem_toArray, List.getElem_cons_zero, List.getElem_cons_succ]; go_simp; try (with_reducible rfl))
              try simp only [List.setIfInBounds_toArray, List.set_cons_zero, List.set_cons_succ]
              refine held_take 16 70 (v := ?_) rfl rfl (by kernel_rfl) (by kernel_rfl) (by kernel_rfl) (fun _ _ _ h => h) (by rfl) ?_ ⟨HX5.out, HM5.out⟩ ?_
              rotate_left
              · (intro w hSw; (try dsimp only at hSw); have a0 := hSw.1.all.load (k := n20) (encR_n _) Try.prog; have a1 := hSw.1.to.all.load (k := n18) (encP_n _) Try.prog; have a2 := hSw.2.look HWX.out; rw [HGX.out, Option.getD_some] at a2; clear hSw;try simp only [List.getElem_toArray, List.getElem_cons_zero, List.getElem_cons_succ]; go_simp; try (with_reducible rfl))
              try simp only [List.setIfInBounds_toArray, List.set_cons_zero, List.set_cons_succ]
              refine held_take 17 71 (v := ?_) rfl rfl (by kernel_rfl) (by kernel_rfl) (by kernel_rfl) (fun _ _ _ h => h) (by rfl) ?_ ⟨HX5.out, HM5.out⟩ ?_
              rotate_left
              · (intro w hSw; (try dsimp only at hSw); have a0 := hSw.1.all.load (k := n20) (encR_n _) Try.prog; have a1 := hSw.1.to.all.load (k := n18) (encP_n _) Try.prog; have a2 := hSw.2.look HWX.out; rw [HGX.out, Option.getD_some] at a2; clear hSw;try simp only [List.getElem_toArray, List.getElem_cons_zero, List.getElem_cons_succ]; go_simp; try (with_reducible rfl))
              try simp only [List.setIfInBounds_toArray, List.set_cons_zero, List.set_cons_succ]
              refine held_take 18 72 (v := ?_) rfl rfl (by kernel_rfl) (by kernel_rfl) (by kernel_rfl) (fun _ _ _ h => h) (by rfl) ?_ ⟨HX5.out, HM5.out⟩ ?_
              rotate_left
              · (intro w hSw; (try dsimp only at hSw); have a0 := hSw.1.all.load (k := n20) (encR_n _) Try.prog; have a1 := hSw.1.to.all.load (k := n18) (encP_n _) Try.prog; have a2 := hSw.2.look HWX.out; rw [HGX.out, Option.getD_some] at a2; clear hSw;try simp only [List.getElem_toArray, List.getElem_cons_zero, List.getElem_cons_succ]; go_simp; try (with_reducible rfl))
              try simp only [List.setIfInBounds_toArray, List.set_cons_zero, List.set_cons_succ]
              refine held_take 19 73 (v := ?_) rfl rfl (by kernel_rfl) (by kernel_rfl) (by kernel_rfl) (fun _ _ _ h => h) (by rfl) ?_ ⟨HX5.out, HM5.out⟩ ?_
              rotate_left
              · (intro w hSw; (try dsimp only at hSw); have a0 := hSw.1.all.load (k := n20) (encR_n _) Try.prog; have a1 := hSw.1.to.all.load (k := n18) (encP_n _) Try.prog; have a2 := hSw.2.look HWX.out; rw [HGX.out, Option.getD_some] at a2; clear hSw;try simp only [List.getElem_toArray, List.getElem_cons_zero, List.getElem_cons_succ]; go_simp; try (with_reducible rfl))
              try simp only [List.setIfInBounds_toArray, List.set_cons_zero, List.set_cons_succ]
              refine held_take 20 74 (v := ?_) rfl rfl (by kernel_rfl) (by kernel_rfl) (by kernel_rfl) (fun _ _ _ h => h) (by rfl) ?_ ⟨HX5.out, HM5.out⟩ ?_
              rotate_left
              · (intro w hSw; (try dsimp only at hSw); have a0 := hSw.1.all.load (k := n20) (encR_n _) Try.prog; have a1 := hSw.1.to.all.load (k := n18) (encP_n _) Try.prog; have a2 := hSw.2.look HWX.out; rw [HGX.out, Option.getD_some] at a2; clear hSw;try simp only [List.getElem_toArray, List.getElem_cons_zero, List.getElem_cons_succ]; go_simp; try (with_reducible rfl))
              try simp only [List.setIfInBounds_toArray, List.set_cons_zero, List.set_cons_succ]
              refine held_take 21 75 (v := ?_) rfl rfl (by kernel_rfl) (by kernel_rfl) (by kernel_rfl) (fun _ _ _ h => h) (by rfl) ?_ ⟨HX5.out, HM5.out⟩ ?_
              rotate_left
              · (intro w hSw; (try dsimp only at hSw); have a0 := hSw.1.all.load (k := n20) (encR_n _) Try.prog; have a1 := hSw.1.to.all.load (k := n18) (encP_n _) Try.prog; have a2 := hSw.2.look HWX.out; rw [HGX.out, Option.getD_some] at a2; clear hSw;try simp only [List.getElem_toArray, List.getElem_cons_zero, List.getElem_cons_succ]; go_simp; try (with_reducible rfl))
              try simp only [List.setIfInBounds_toArray, List.set_cons_zero, List.set_cons_succ]
              refine wpAnyH_done (by kernel_rfl) ?_ _
              go_wp2
              go_roundw
              case rel => exact ⟨j + 1, by omega, by go_num, HB5.out⟩
              case measure => simp [intOf]; omega
            · obtain ⟨i, hji⟩ : ∃ i, j = i + 1 := ⟨j - 1, by omega⟩
              obtain ⟨y, hy, hcy⟩ := HPV.out i hji
              have HY := Lib.hid hy
              obtain ⟨c, hc⟩ : ∃ c, cmpP y.to x.to = c := ⟨_, rfl⟩
              have HC := Lib.hid hc
              rw [hc] at hcy
              have hc2 : ¬ 0 ≤ c := by omega
              have hc3 : decide (0 ≤ c) = false := decide_eq_false hc2
              have hi1 : (0 : Int) < (j : Int) := by omega
              have hi2 : decide ((0 : Int) < (j : Int)) = true := decide_eq_true hi1
              have hi3 : IntKind.i64.wrap ((j : Int) - 1) = (i : Int) := by rw [show (j : Int) - 1 = (i : Int) by omega]; exact IntWalk.i64_in _ (by omega)
              have hi5 : (0 : Int) ≤ (i : Int) := by omega
              have hi6 : (i : Int) < (m : Int) := by omega
              have hi7 : i < m := by omega
              clear hy hc HPV hji
              have HY5 := Lib.hid (HY.out.below hbd.out)
              refine wp_region_held_drew (S := (fun w' => RAt w' B5 0 x ∧ MapR.Mp w' bm k T ∧ RAt w' g (o + i * 20) y)) (by kernel_rfl) ⟨HX5.out, HM5.out, HY5.out⟩ (fun _ => ?_)
              refine held_take 0 54 (v := ?_) rfl rfl (by kernel_rfl) (by kernel_rfl) (by kernel_rfl) (fun _ _ _ h => h) (by rfl) ?_ ⟨HX5.out, HM5.out, HY5.out⟩ ?_
              rotate_left
              · (intro w hSw; (try dsimp only at hSw); have a0 := hSw.1.all.load (k := n20) (encR_n _) Try.prog; have a1 := hSw.1.to.all.load (k := n18) (encP_n _) Try.prog; have a2 := hSw.2.1.look HWX.out; rw [HGX.out, Option.getD_some] at a2; have a3 : Sem.run Try.prog (loadCellsFrom ⟨g, o + i * n20, none⟩ 0 n18 #[]) w = .ok (encP y.to).toArray w := hSw.2.2.to.all.load (k := n18) (encP_n _) Try.prog; clear hSw;try simp only [List.getElem_toArray, List.getElem_cons_zero, List.getElem_cons_succ]; go_simp; try (with_reducible rfl))
              try simp only [List.setIfInBounds_toArray, List.set_cons_zero, List.set_cons_succ]
              refine held_take 1 55 (v := ?_) rfl rfl (by kernel_rfl) (by kernel_rfl) (by kernel_rfl) (fun _ _ _ h => h) (by rfl) ?_ ⟨HX5.out, HM5.out, HY5.out⟩ ?_
              rotate_left
              · (intro w hSw; (try dsimp only at hSw); have a0 := hSw.1.all.load (k := n20) (encR_n _) Try.prog; have a1 := hSw.1.to.all.load (k := n18) (encP_n _) Try.prog; have a2 := hSw.2.1.look HWX.out; rw [HGX.out, Option.getD_some] at a2; have a3 : Sem.run Try.prog (loadCellsFrom ⟨g, o + i * n20, none⟩ 0 n18 #[]) w = .ok (encP y.to).toArray w := hSw.2.2.to.all.load (k := n18) (encP_n _) Try.prog; clear hSw;try simp only [List.getElem_toArray, List.getElem_cons_zero, List.getElem_cons_succ]; go_simp; try (with_reducible rfl))
              try simp only [List.setIfInBounds_toArray, List.set_cons_zero, List.set_cons_succ]
              refine held_take 2 56 (v := ?_) rfl rfl (by kernel_rfl) (by kernel_rfl) (by kernel_rfl) (fun _ _ _ h => h) (by rfl) ?_ ⟨HX5.out, HM5.out, HY5.out⟩ ?_
              rotate_left
              · (intro w hSw; (try dsimp only at hSw); have a0 := hSw.1.all.load (k := n20) (encR_n _) Try.prog; have a1 := hSw.1.to.all.load (k := n18) (encP_n _) Try.prog; have a2 := hSw.2.1.look HWX.out; rw [HGX.out, Option.getD_some] at a2; have a3 : Sem.run Try.prog (loadCellsFrom ⟨g, o + i * n20, none⟩ 0 n18 #[]) w = .ok (encP y.to).toArray w := hSw.2.2.to.all.load (k := n18) (encP_n _) Try.prog; clear hSw;try simp only [List.getElem_toArray, List.getElem_cons_zero, List.getElem_cons_succ]; go_simp; try (with_reducible rfl))
              try simp only [List.setIfInBounds_toArray, List.set_cons_zero, List.set_cons_succ]
              refine held_take 3 57 (v := ?_) rfl rfl (by kernel_rfl) (by kernel_rfl) (by kernel_rfl) (fun _ _ _ h => h) (by rfl) ?_ ⟨HX5.out, HM5.out, HY5.out⟩ ?_
              rotate_left
              · (intro w hSw; (try dsimp only at hSw); have a0 := hSw.1.all.load (k := n20) (encR_n _) Try.prog; have a1 := hSw.1.to.all.load (k := n18) (encP_n _) Try.prog; have a2 := hSw.2.1.look HWX.out; rw [HGX.out, Option.getD_some] at a2; have a3 : Sem.run Try.prog (loadCellsFrom ⟨g, o + i * n20, none⟩ 0 n18 #[]) w = .ok (encP y.to).toArray w := hSw.2.2.to.all.load (k := n18) (encP_n _) Try.prog; clear hSw;try simp only [List.getElem_toArray, List.getElem_cons_zero, List.getElem_cons_succ]; go_simp; try (with_reducible rfl))
              try simp only [List.setIfInBounds_toArray, List.set_cons_zero, List.set_cons_succ]
              refine held_take 4 58 (v := ?_) rfl rfl (by kernel_rfl) (by kernel_rfl) (by kernel_rfl) (fun _ _ _ h => h) (by rfl) ?_ ⟨HX5.out, HM5.out, HY5.out⟩ ?_
              rotate_left
              · (intro w hSw; (try dsimp only at hSw); have a0 := hSw.1.all.load (k := n20) (encR_n _) Try.prog; have a1 := hSw.1.to.all.load (k := n18) (encP_n _) Try.prog; have a2 := hSw.2.1.look HWX.out; rw [HGX.out, Option.getD_some] at a2; have a3 : Sem.run Try.prog (loadCellsFrom ⟨g, o + i * n20, none⟩ 0 n18 #[]) w = .ok (encP y.to).toArray w := hSw.2.2.to.all.load (k := n18) (encP_n _) Try.prog; clear hSw;try simp only [List.getElem_toArray, List.getElem_cons_zero, List.getElem_cons_succ]; go_simp; try (with_reducible rfl))
              try simp only [List.setIfInBounds_toArray, List.set_cons_zero, List.set_cons_succ]
              refine held_take 5 59 (v := ?_) rfl rfl (by kernel_rfl) (by kernel_rfl) (by kernel_rfl) (fun _ _ _ h => h) (by rfl) ?_ ⟨HX5.out, HM5.out, HY5.out⟩ ?_
              rotate_left
              · (intro w hSw; (try dsimp only at hSw); have a0 := hSw.1.all.load (k := n20) (encR_n _) Try.prog; have a1 := hSw.1.to.all.load (k := n18) (encP_n _) Try.prog; have a2 := hSw.2.1.look HWX.out; rw [HGX.out, Option.getD_some] at a2; have a3 : Sem.run Try.prog (loadCellsFrom ⟨g, o + i * n20, none⟩ 0 n18 #[]) w = .ok (encP y.to).toArray w := hSw.2.2.to.all.load (k := n18) (encP_n _) Try.prog; clear hSw;try simp only [List.getElem_toArray, List.getElem_cons_zero, List.getElem_cons_succ]; go_simp; try (with_reducible rfl))
              try simp only [List.setIfInBounds_toArray, List.set_cons_zero, List.set_cons_succ]
              refine held_take 6 60 (v := ?_) rfl rfl (by kernel_rfl) (by kernel_rfl) (by kernel_rfl) (fun _ _ _ h => h) (by rfl) ?_ ⟨HX5.out, HM5.out, HY5.out⟩ ?_
              rotate_left
              · (intro w hSw; (try dsimp only at hSw); have a0 := hSw.1.all.load (k := n20) (encR_n _) Try.prog; have a1 := hSw.1.to.all.load (k := n18) (encP_n _) Try.prog; have a2 := hSw.2.1.look HWX.out; rw [HGX.out, Option.getD_some] at a2; have a3 : Sem.run Try.prog (loadCellsFrom ⟨g, o + i * n20, none⟩ 0 n18 #[]) w = .ok (encP y.to).toArray w := hSw.2.2.to.all.load (k := n18) (encP_n _) Try.prog; clear hSw;try simp only [List.getElem_toArray, List.getElem_cons_zero, List.getElem_cons_succ]; go_simp; try (with_reducible rfl))
              try simp only [List.setIfInBounds_toArray, List.set_cons_zero, List.set_cons_succ]
              refine held_take 7 61 (v := ?_) rfl rfl (by kernel_rfl) (by kernel_rfl) (by kernel_rfl) (fun _ _ _ h => h) (by rfl) ?_ ⟨HX5.out, HM5.out, HY5.out⟩ ?_
              rotate_left
              · (intro w hSw; (try dsimp only at hSw); have a0 := hSw.1.all.load (k := n20) (encR_n _) Try.prog; have a1 := hSw.1.to.all.load (k := n18) (encP_n _) Try.prog; have a2 := hSw.2.1.look HWX.out; rw [HGX.out, Option.getD_some] at a2; have a3 : Sem.run Try.prog (loadCellsFrom ⟨g, o + i * n20, none⟩ 0 n18 #[]) w = .ok (encP y.to).toArray w := hSw.2.2.to.all.load (k := n18) (encP_n _) Try.prog; clear hSw;try simp only [List.getElem_toArray, List.getElem_cons_zero, List.getElem_cons_succ]; go_simp; try (with_reducible rfl))
              try simp only [List.setIfInBounds_toArray, List.set_cons_zero, List.set_cons_succ]
              refine held_take 8 62 (v := ?_) rfl rfl (by kernel_rfl) (by kernel_rfl) (by kernel_rfl) (fun _ _ _ h => h) (by rfl) ?_ ⟨HX5.out, HM5.out, HY5.out⟩ ?_
              rotate_left
              · (intro w hSw; (try dsimp only at hSw); have a0 := hSw.1.all.load (k := n20) (encR_n _) Try.prog; have a1 := hSw.1.to.all.load (k := n18) (encP_n _) Try.prog; have a2 := hSw.2.1.look HWX.out; rw [HGX.out, Option.getD_some] at a2; have a3 : Sem.run Try.prog (loadCellsFrom ⟨g, o + i * n20, none⟩ 0 n18 #[]) w = .ok (encP y.to).toArray w := hSw.2.2.to.all.load (k := n18) (encP_n _) Try.prog; clear hSw;try simp only [List.getElem_toArray, List.getElem_cons_zero, List.getElem_cons_succ]; go_simp; try (with_reducible rfl))
              try simp only [List.setIfInBounds_toArray, List.set_cons_zero, List.set_cons_succ]
              refine held_take 9 63 (v := ?_) rfl rfl (by kernel_rfl) (by kernel_rfl) (by kernel_rfl) (fun _ _ _ h => h) (by rfl) ?_ ⟨HX5.out, HM5.out, HY5.out⟩ ?_
              rotate_left
              · (intro w hSw; (try dsimp only at hSw); have a0 := hSw.1.all.load (k := n20) (encR_n _) Try.prog; have a1 := hSw.1.to.all.load (k := n18) (encP_n _) Try.prog; have a2 := hSw.2.1.look HWX.out; rw [HGX.out, Option.getD_some] at a2; have a3 : Sem.run Try.prog (loadCellsFrom ⟨g, o + i * n20, none⟩ 0 n18 #[]) w = .ok (encP y.to).toArray w := hSw.2.2.to.all.load (k := n18) (encP_n _) Try.prog; clear hSw;try simp only [List.getElem_toArray, List.getElem_cons_zero, List.getElem_cons_succ]; go_simp; try (with_reducible rfl))
              try simp only [List.setIfInBounds_toArray, List.set_cons_zero, List.set_cons_succ]
              refine held_take 10 64 (v := ?_) rfl rfl (by kernel_rfl) (by kernel_rfl) (by kernel_rfl) (fun _ _ _ h => h) (by rfl) ?_ ⟨HX5.out, HM5.out, HY5.out⟩ ?_
              rotate_left
              · (intro w hSw; (try dsimp only at hSw); have a0 := hSw.1.all.load (k := n20) (encR_n _) Try.prog; have a1 := hSw.1.to.all.load (k := n18) (encP_n _) Try.prog; have a2 := hSw.2.1.look HWX.out; rw [HGX.out, Option.getD_some] at a2; have a3 : Sem.run Try.prog (loadCellsFrom ⟨g, o + i * n20, none⟩ 0 n18 #[]) w = .ok (encP y.to).toArray w := hSw.2.2.to.all.load (k := n18) (encP_n _) Try.prog; clear hSw;try simp only [List.getElem_toArray, List.getElem_cons_zero, List.getElem_cons_succ]; go_simp; try (with_reducible rfl))
              try simp only [List.setIfInBounds_toArray, List.set_cons_zero, List.set_cons_succ]
              refine held_call 11 65 rfl rfl (by kernel_rfl) (by rfl) (fun K hK => ?_)
              try simp only [List.getElem_toArray, List.getElem_cons_zero, List.getElem_cons_succ]
              go_simp
              (go_at_call 33; (with_reducible refine (refCompare_any _ _ _).mono ?_); rintro e w8 ⟨rfl, h1⟩; rw [HC.out]; have HX5 := Lib.hid (HX5.out.below h1); have HM5 := Lib.hid (HM5.out.below h1); have HY5 := Lib.hid (HY5.out.below h1); have HB5 := Lib.hid (HB5.out.trans (h1.mono HB5.out.size)); clear h1)
              try go_wp2_with fail
              try simp only [Act.put, List.setIfInBounds_toArray, List.set_cons_zero, List.set_cons_succ]
              refine hK.out _ _ _ ⟨HX5.out, HM5.out, HY5.out⟩ ?_
              clear hK K
              refine held_take 12 66 (v := ?_) rfl rfl (by kernel_rfl) (by kernel_rfl) (by kernel_rfl) (fun _ _ _ h => h) (by rfl) ?_ ⟨HX5.out, HM5.out, HY5.out⟩ ?_
              rotate_left
              · (intro w hSw; (try dsimp only at hSw); have a0 := hSw.1.all.load (k := n20) (encR_n _) Try.prog; have a1 := hSw.1.to.all.load (k := n18) (encP_n _) Try.prog; have a2 := hSw.2.1.look HWX.out; rw [HGX.out, Option.getD_some] at a2; have a3 : Sem.run Try.prog (loadCellsFrom ⟨g, o + i * n20, none⟩ 0 n18 #[]) w = .ok (encP y.to).toArray w := hSw.2.2.to.all.load (k := n18) (encP_n _) Try.prog; clear hSw;try simp only [List.getElem_toArray, List.getElem_cons_zero, List.getElem_cons_succ]; go_simp; try (with_reducible rfl))
              try simp only [List.setIfInBounds_toArray, List.set_cons_zero, List.set_cons_succ]
              refine held_take 13 67 (v := ?_) rfl rfl (by kernel_rfl) (by kernel_rfl) (by kernel_rfl) (fun _ _ _ h => h) (by rfl) ?_ ⟨HX5.out, HM5.out, HY5.out⟩ ?_
              rotate_left
              · (intro w hSw; (try dsimp only at hSw); have a0 := hSw.1.all.load (k := n20) (encR_n _) Try.prog; have a1 := hSw.1.to.all.load (k := n18) (encP_n _) Try.prog; have a2 := hSw.2.1.look HWX.out; rw [HGX.out, Option.getD_some] at a2; have a3 : Sem.run Try.prog (loadCellsFrom ⟨g, o + i * n20, none⟩ 0 n18 #[]) w = .ok (encP y.to).toArray w := hSw.2.2.to.all.load (k := n18) (encP_n _) Try.prog; clear hSw;try simp only [List.getElem_toArray, List.getElem_cons_zero, List.getElem_cons_succ]; go_simp; try (with_reducible rfl))
              try simp only [List.setIfInBounds_toArray, List.set_cons_zero, List.set_cons_succ]
              refine held_take 14 68 (v := ?_) rfl rfl (by kernel_rfl) (by kernel_rfl) (by kernel_rfl) (fun _ _ _ h => h) (by rfl) ?_ ⟨HX5.out, HM5.out, HY5.out⟩ ?_
              rotate_left
              · (intro w hSw; (try dsimp only at hSw); have a0 := hSw.1.all.load (k := n20) (encR_n _) Try.prog; have a1 := hSw.1.to.all.load (k := n18) (encP_n _) Try.prog; have a2 := hSw.2.1.look HWX.out; rw [HGX.out, Option.getD_some] at a2; have a3 : Sem.run Try.prog (loadCellsFrom ⟨g, o + i * n20, none⟩ 0 n18 #[]) w = .ok (encP y.to).toArray w := hSw.2.2.to.all.load (k := n18) (encP_n _) Try.prog; clear hSw;try simp only [List.getElem_toArray, List.getElem_cons_zero, List.getElem_cons_succ]; go_simp; try (with_reducible rfl))
              try simp only [List.setIfInBounds_toArray, List.set_cons_zero, List.set_cons_succ]
              refine held_take 15 69 (v := ?_) rfl rfl (by kernel_rfl) (by kernel_rfl) (by kernel_rfl) (fun _ _ _ h => h) (by rfl) ?_ ⟨HX5.out, HM5.out, HY5.out⟩ ?_
              rotate_left
              · (intro w hSw; (try dsimp only at hSw); have a0 := hSw.1.all.load (k := n20) (encR_n _) Try.prog; have a1 := hSw.1.to.all.load (k := n18) (encP_n _) Try.prog; have a2 := hSw.2.1.look HWX.out; rw [HGX.out, Option.getD_some] at a2; have a3 : Sem.run Try.prog (loadCellsFrom ⟨g, o + i * n20, none⟩ 0 n18 #[]) w = .ok (encP y.to).toArray w := hSw.2.2.to.all.load (k := n18) (encP_n _) Try.prog; clear hSw;try simp only [List.getElem_toArray, List.getElem_cons_zero, List.getElem_cons_succ]; go_simp; try (with_reducible rfl))
              try simp only [List.setIfInBounds_toArray, List.set_cons_zero, List.set_cons_succ]
              refine held_take 16 70 (v := ?_) rfl rfl (by kernel_rfl) (by kernel_rfl) (by kernel_rfl) (fun _ _ _ h => h) (by rfl) ?_ ⟨HX5.out, HM5.out, HY5.out⟩ ?_
              rotate_left
              · (intro w hSw; (try dsimp only at hSw); have a0 := hSw.1.all.load (k := n20) (encR_n _) Try.prog; have a1 := hSw.1.to.all.load (k := n18) (encP_n _) Try.prog; have a2 := hSw.2.1.look HWX.out; rw [HGX.out, Option.getD_some] at a2; have a3 : Sem.run Try.prog (loadCellsFrom ⟨g, o + i * n20, none⟩ 0 n18 #[]) w = .ok (encP y.to).toArray w := hSw.2.2.to.all.load (k := n18) (encP_n _) Try.prog; clear hSw;try simp only [List.getElem_toArray, List.getElem_cons_zero, List.getElem_cons_succ]; go_simp; try (with_reducible rfl))
              try simp only [List.setIfInBounds_toArray, List.set_cons_zero, List.set_cons_succ]
              refine held_take 17 71 (v := ?_) rfl rfl (by kernel_rfl) (by kernel_rfl) (by kernel_rfl) (fun _ _ _ h => h) (by rfl) ?_ ⟨HX5.out, HM5.out, HY5.out⟩ ?_
              rotate_left
              · (intro w hSw; (try dsimp only at hSw); have a0 := hSw.1.all.load (k := n20) (encR_n _) Try.prog; have a1 := hSw.1.to.all.load (k := n18) (encP_n _) Try.prog; have a2 := hSw.2.1.look HWX.out; rw [HGX.out, Option.getD_some] at a2; have a3 : Sem.run Try.prog (loadCellsFrom ⟨g, o + i * n20, none⟩ 0 n18 #[]) w = .ok (encP y.to).toArray w := hSw.2.2.to.all.load (k := n18) (encP_n _) Try.prog; clear hSw;try simp only [List.getElem_toArray, List.getElem_cons_zero, List.getElem_cons_succ]; go_simp; try (with_reducible rfl))
              try simp only [List.setIfInBounds_toArray, List.set_cons_zero, List.set_cons_succ]
              refine held_take 18 72 (v := ?_) rfl rfl (by kernel_rfl) (by kernel_rfl) (by kernel_rfl) (fun _ _ _ h => h) (by rfl) ?_ ⟨HX5.out, HM5.out, HY5.out⟩ ?_
              rotate_left
              · (intro w hSw; (try dsimp only at hSw); have a0 := hSw.1.all.load (k := n20) (encR_n _) Try.prog; have a1 := hSw.1.to.all.load (k := n18) (encP_n _) Try.prog; have a2 := hSw.2.1.look HWX.out; rw [HGX.out, Option.getD_some] at a2; have a3 : Sem.run Try.prog (loadCellsFrom ⟨g, o + i * n20, none⟩ 0 n18 #[]) w = .ok (encP y.to).toArray w := hSw.2.2.to.all.load (k := n18) (encP_n _) Try.prog; clear hSw;try simp only [List.getElem_toArray, List.getElem_cons_zero, List.getElem_cons_succ]; go_simp; try (with_reducible rfl))
              try simp only [List.setIfInBounds_toArray, List.set_cons_zero, List.set_cons_succ]
              refine held_take 19 73 (v := ?_) rfl rfl (by kernel_rfl) (by kernel_rfl) (by kernel_rfl) (fun _ _ _ h => h) (by rfl) ?_ ⟨HX5.out, HM5.out, HY5.out⟩ ?_
              rotate_left
              · (intro w hSw; (try dsimp only at hSw); have a0 := hSw.1.all.load (k := n20) (encR_n _) Try.prog; have a1 := hSw.1.to.all.load (k := n18) (encP_n _) Try.prog; have a2 := hSw.2.1.look HWX.out; rw [HGX.out, Option.getD_some] at a2; have a3 : Sem.run Try.prog (loadCellsFrom ⟨g, o + i * n20, none⟩ 0 n18 #[]) w = .ok (encP y.to).toArray w := hSw.2.2.to.all.load (k := n18) (encP_n _) Try.prog; clear hSw;try simp only [List.getElem_toArray, List.getElem_cons_zero, List.getElem_cons_succ]; go_simp; try (with_reducible rfl))
              try simp only [List.setIfInBounds_toArray, List.set_cons_zero, List.set_cons_succ]
              refine held_take 20 74 (v := ?_) rfl rfl (by kernel_rfl) (by kernel_rfl) (by kernel_rfl) (fun _ _ _ h => h) (by rfl) ?_ ⟨HX5.out, HM5.out, HY5.out⟩ ?_
              rotate_left
              · (intro w hSw; (try dsimp only at hSw); have a0 := hSw.1.all.load (k := n20) (encR_n _) Try.prog; have a1 := hSw.1.to.all.load (k := n18) (encP_n _) Try.prog; have a2 := hSw.2.1.look HWX.out; rw [HGX.out, Option.getD_some] at a2; have a3 : Sem.run Try.prog (loadCellsFrom ⟨g, o + i * n20, none⟩ 0 n18 #[]) w = .ok (encP y.to).toArray w := hSw.2.2.to.all.load (k := n18) (encP_n _) Try.prog; clear hSw;try simp only [List.getElem_toArray, List.getElem_cons_zero, List.getElem_cons_succ]; go_simp; try (with_reducible rfl))
              try simp only [List.setIfInBounds_toArray, List.set_cons_zero, List.set_cons_succ]
              refine held_take 21 75 (v := ?_) rfl rfl (by kernel_rfl) (by kernel_rfl) (by kernel_rfl) (fun _ _ _ h => h) (by rfl) ?_ ⟨HX5.out, HM5.out, HY5.out⟩ ?_
              rotate_left
              · (intro w hSw; (try dsimp only at hSw); have a0 := hSw.1.all.load (k := n20) (encR_n _) Try.prog; have a1 := hSw.1.to.all.load (k := n18) (encP_n _) Try.prog; have a2 := hSw.2.1.look HWX.out; rw [HGX.out, Option.getD_some] at a2; have a3 : Sem.run Try.prog (loadCellsFrom ⟨g, o + i * n20, none⟩ 0 n18 #[]) w = .ok (encP y.to).toArray w := hSw.2.2.to.all.load (k := n18) (encP_n _) Try.prog; clear hSw;try simp only [List.getElem_toArray, List.getElem_cons_zero, List.getElem_cons_succ]; go_simp; try (with_reducible rfl))
              try simp only [List.setIfInBounds_toArray, List.set_cons_zero, List.set_cons_succ]
              refine wpAnyH_done (by kernel_rfl) ?_ _
              go_wp2
              go_roundw
              case rel => exact ⟨j + 1, by omega, by go_num, HB5.out⟩
              case measure => simp [intOf]; omega
          · obtain rfl : j = m := by omega
            have hjj : ¬ (j : Int) < (j : Int) := by omega
            have HTW := Lib.hid (HT.out.below HBW.out)
            have HMW := Lib.hid (HM.out.below HBW.out)
            have HPW2 := Lib.hid (HPX.out.below HBW.out)
            have HWZ := Lib.hid (HWA.out.trans (HBW.out.mono HWA.out.size))
            have HGE := Lib.hid (get_any p _ HTW.out)
            obtain ⟨x0, hx0⟩ : ∃ x, (get T p).getD zR = x := ⟨_, rfl⟩
            obtain ⟨h, hh⟩ : ∃ h, has T p = h := ⟨_, rfl⟩
            rw [hx0, hh] at HGE
            have HX0 := Lib.hid hx0
            have HH := Lib.hid hh
            have c0 := HPW2.out.all.load (k := n18) (encP_n _) Try.prog
            clear hx0 hh
            go_upto_region 19 with (go_at_call 18; (with_reducible refine (HGE.out).mono ?_); rintro e w8 ⟨rfl, h1⟩; have hb8 := Lib.hid h1; clear h1 c0; have hst := store_row (o := 0) (vs := encR x0) (heap_alloc_new w8 (.cells (encR zR).toArray 34 (0, 0))) (by simp [encR_len]) (encR_one _) Try.prog; rw [splice_whole (by simp [encR_len])] at hst)
            clear hst
            have HBX := Lib.hid (setRow_heap (w8.alloc (.cells (encR zR).toArray 34 (0, 0))) w8.heap.size _ (encR x0).toArray 34 (0, 0) (heap_alloc_new w8 _))
            have hb9 := Lib.hid (hb8.out.trans ((below_setRow ((Below.refl w8.heap.size w8).alloc (Nat.le_refl _) (.cells (encR zR).toArray 34 (0, 0))) (Nat.le_refl _) (encR x0).toArray).mono hb8.out.size))
            generalize (w8.alloc _).setRow _ _ = W9 at HBX hb9 ⊢
            generalize w8.heap.size = B9 at HBX ⊢
            have HR9 := Lib.hid (show RAt W9 B9 0 x0 from ⟨at_row HBX.out⟩)
            have HM9 := Lib.hid (HMW.out.below hb9.out)
            have HP9 := Lib.hid (HPW2.out.below hb9.out)
            clear HBX hb8
            have c0 := HP9.out.all.load (k := n18) (encP_n _) Try.prog
            have hlk := HM9.out.look_ok HPW.out
            rw [HX0.out, HH.out] at hlk
            have hst := store_row (o := 0) (vs := encR x0) (heap_alloc_new W9 (.cells (encR zR).toArray 34 (0, 0))) (by simp [encR_len]) (encR_one _) Try.prog
            rw [splice_whole (by simp [encR_len])] at hst
            go_upto_region 20 with fail
            clear hst hlk c0
            have HBX := Lib.hid (setRow_heap (W9.alloc (.cells (encR zR).toArray 34 (0, 0))) W9.heap.size _ (encR x0).toArray 34 (0, 0) (heap_alloc_new W9 _))
            have hbx := Lib.hid (below_setRow ((Below.refl W9.heap.size W9).alloc (Nat.le_refl _) (.cells (encR zR).toArray 34 (0, 0))) (Nat.le_refl _) (encR x0).toArray)
            have HWF := Lib.hid (HWZ.out.trans ((hb9.out.trans (hbx.out.mono hb9.out.size)).mono HWZ.out.size))
            have HM10 := Lib.hid (HM9.out.below hbx.out)
            have HR10 := Lib.hid (HR9.out.below hbx.out)
            generalize (W9.alloc _).setRow _ _ = W10 at HBX HWF HM10 HR10 ⊢
            generalize W9.heap.size = B10 at HBX ⊢
            have HLN := Lib.hid (fun ty => HM10.out.len ty)
            rw [HTL.out] at HLN
            have a0 := HR10.out.all.load (k := n20) (encR_n _) Try.prog
            have a1 := (show RAt W10 B10 0 x0 from ⟨at_row HBX.out⟩).all.load (k := n20) (encR_n _) Try.prog
            go_wp2_with (refine wpList_len_run rfl (.tmp 91) 66 rfl _ rfl (HLN.out _) ?_)
            go_ret
            exact ⟨rfl, HWF.out⟩
end Go.Proofs.Ytbeoclcnajfjcaa.TableOrder
