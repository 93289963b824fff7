/-
  The document's Put. Conditions: those that each theorem names.
-/
import Derived.Test.YtdcbbjlbfghpbaaDi
namespace Go.Proofs.Ytdcbbjlbfghpbaa
open Go Go.RowKit H2
set_option linter.unusedVariables false
set_option linter.unusedSimpArgs false
namespace Tab
theorem part_step {T : List Rt} {k : Nat} (hk : k < T.length) : T.take k ++ [T[k]] = T.take (k + 1) := List.take_append_getElem hk
theorem part_drop {T : List Rt} {k q : Nat} (hk : k < T.length) (hq : q ≤ k) : (T.take k).drop q ++ [T[k]] = (T.take (k + 1)).drop q := by
  rw [← part_step hk, List.drop_append_of_le_length (by rw [List.length_take]; omega)]
set_option maxRecDepth 100000 in
set_option maxHeartbeats 16000000 in
theorem refPut_anyK (A : Option Addr) (cap : Nat) (T : List Rt) (hT : TOk T) (r : Rt) (w : World) (hv : Rv w (.slice A T.length cap) A cap T) :
    Calls Try.prog 75 #[.slice A T.length cap, .agg (encR r).toArray] w fun e w' => LstK w w' A (putT T r) (putC T r) e ∧ Below w.heap.size w w' := by
  have HV := Lib.hid (fun (W : World) (hb : Below w.heap.size w W) => hv.below hb)
  have HF := Lib.hid (fun (W : World) (hb : Below w.heap.size w W) => refFind_any A cap T (Nat.le_trans hT.len (by decide)) r.to W (hv.rd.below hb))
  have HT := Lib.hid hT
  have HNI := Lib.hid (show A = none → T = [] from fun e => List.length_eq_zero_iff.1 (by have := hv.nil e; have := hv.len; omega))
  clear hv hT
  obtain ⟨n, hn⟩ : ∃ n, T.length = n := ⟨_, rfl⟩
  have HN := Lib.hid hn
  have hn3 : n ≤ 300 := by rw [← hn]; exact HT.out.len
  rw [hn] at HV HF ⊢
  clear hn
  by_cases hr : right r = true
  · have HR := Lib.hid hr
    by_cases hh : has T r.to = true
    · have HC := Lib.hid (show putC T r = 0 ∧ putT T r = ins T r by unfold putC putT; rw [if_pos hr, if_pos hr, if_pos hh, if_pos hh]; exact ⟨rfl, rfl⟩)
      obtain ⟨x, hx⟩ : ∃ x, pos T r.to = x := ⟨_, rfl⟩
      have HFX := Lib.hid (show fnd T r.to = (x : Int) by rw [fnd_srt HT.out.srt hh, hx])
      have HI := Lib.hid (show T.set x r = ins T r by rw [← hx]; exact ins_has HT.out.srt hh)
      have hxn : x < n := by rw [← hx, ← HN.out]; exact ((pos_has HT.out.srt r.to).1 hh).1
      clear hr hh hx
      have x0 : (0 : Int) ≤ (x : Int) := by omega
      go_enter Try.func75, Try.ntmps75
      go_upto_region 1 with fail
      have H := Lib.hid (rAt_new w r 37 (0, 0))
      have hb := Lib.hid (show Below w.heap.size w (w.alloc (.cells (encR r).toArray 37 (0, 0))) from (Below.refl _ _).alloc (Nat.le_refl _) _)
      have HLT := Lib.hid (show w.heap.size < (w.alloc (.cells (encR r).toArray 37 (0, 0))).heap.size by simp)
      generalize w.alloc _ = W at H hb HLT ⊢
      obtain ⟨B, hB⟩ : ∃ b, w.heap.size = b := ⟨_, rfl⟩
      rw [hB] at H ⊢
      rw [hB] at HLT
      clear hB
      have c0 := H.out.all.load (k := n20) (encR_n _) Try.prog
      go_upto_region 3 with (go_at_call 30; (with_reducible refine (refR_any _ _).mono ?_); rintro e w2 ⟨rfl, hb2⟩; rw [HR.out]; have H := Lib.hid (H.out.below hb2); have HLT := Lib.hid (Nat.lt_of_lt_of_le HLT.out hb2.size); have hb := Lib.hid (hb.out.trans (hb2.mono hb.out.size)); clear hb2 c0)
      have c0 := H.out.to.all.load (k := n18) (encP_n _) Try.prog
      go_upto_region 4 with (go_at_call 74; (with_reducible refine (HF.out _ hb.out).mono ?_); rintro e w3 ⟨rfl, hb2⟩; rw [HFX.out]; have H := Lib.hid (H.out.below hb2); have HLT := Lib.hid (Nat.lt_of_lt_of_le HLT.out hb2.size); have hb := Lib.hid (hb.out.trans (hb2.mono hb.out.size)); clear hb2 c0)
      have HB3 := Lib.hid (show w.heap.size ≤ w3.heap.size from hb.out.size)
      go_upto_region 6 with (first
        | (refine wpList_row_run (o := ⟨some 21, .buildSlice 22 0 #[], _, _, _, _⟩) rfl 22 0 #[] rfl #[] (by simp) (row_R0 _) ?_)
        | (refine wpList_appR rfl (.tmp 21) (.tmp 22) rfl _ [] T A n cap HN.out rfl rfl (gr_zero w3) ((HV.out _ hb.out).rd.below ((Below.refl _ _).alloc (Nat.le_refl _) _)) HNI.out (by have := HN.out; simp; omega) ?_; rintro v7 w7 h7 ⟨x7, y7, z7, rfl⟩; rw [List.nil_append] at h7; have H := Lib.hid (H.out.below h7.bel); have hb := Lib.hid (hb.out.trans (h7.bel.mono hb.out.size)); have H7 := Lib.hid h7.own; clear h7))
      have h7 := H7.out
      rw [HN.out] at h7
      rcases h7.2 with ⟨h0, _⟩ | ⟨g, cap', cur, hve, hbg, hh0, hc, hm, hsz, ht⟩
      · exfalso; simp only [Value.slice.injEq] at h0; omega
      simp only [Value.slice.injEq] at hve
      obtain ⟨rfl, rfl, rfl⟩ := hve
      have hcap20 : y7 * 20 ≤ z7 * 20 := Nat.mul_le_mul_right 20 hc
      have hsp := splice_set cur T r x (by rw [HN.out]; exact hxn) (by rw [HN.out, hsz]; exact hcap20) (by rw [HN.out]; exact ht)
      have c0 := H.out.all.load (k := n20) (encR_n _) Try.prog
      have hst := store_row (o := x * n20) hh0 (vs := encR r) (by rw [encR_len, hsz]; show x * 20 + 20 ≤ _; omega) (encR_one r) Try.prog
      have hxn' : (x : Int) < (y7 : Int) := by omega
      have HG4 := Lib.hid (setRow_heap _ g cur (splice cur (x * n20) (encR r)) 37 (0, 0) hh0)
      have HOW := Lib.hid (row_own (base := w3.heap.size) HG4.out hbg (show (T.set x r).length = y7 by rw [List.length_set, HN.out]) hc hm (by show (splice cur (x * 20) (encR r)).size = _; rw [splice_size (by rw [encR_len, hsz]; omega), hsz]) (by rw [← HN.out]; exact hsp))
      have HBF := Lib.hid (show Below w.heap.size w (w7.setRow g (splice cur (x * n20) (encR r))) from below_setRow hb.out (Nat.le_trans HB3.out hbg) _)
      clear h7 ht hsp hcap20
      have HRV := Lib.hid (show ∃ A c, Rv (w7.setRow g (splice cur (x * n20) (encR r))) (.slice (some ⟨g, 0, none⟩) y7 z7) A c (ins T r) ∧ ∀ g o, A = some ⟨g, o, none⟩ → w.heap.size ≤ g by
        have h := HOW.out
        rw [HI.out] at h
        have e : (ins T r).length = y7 := by rw [← HI.out, List.length_set, HN.out]
        rw [← e] at h ⊢
        obtain ⟨A, c, hv, hf⟩ := own_rv h
        exact ⟨A, c, hv, fun g o e => Nat.le_trans HB3.out (hf g o e).1⟩)
      clear hbg hc hm hsz hh0
      go_wp2
      go_ret2
      rw [HC.out.1, HC.out.2]
      obtain ⟨A2, c2, hv2, hf2⟩ := HRV.out
      exact ⟨⟨_, A2, c2, rfl, hv2, .inr hf2⟩, HBF.out⟩
    · have hh' : has T r.to = false := by simpa using hh
      have HFX := Lib.hid (fnd_no hh')
      by_cases hl3 : n < 300
      · have HC := Lib.hid (show putC T r = 0 ∧ putT T r = ins T r by unfold putC putT; rw [HN.out, if_pos hr, if_pos hr, if_neg hh, if_neg hh, if_pos hl3, if_pos hl3]; exact ⟨rfl, rfl⟩)
        have HI := Lib.hid (ins_scan HT.out.srt hh')
        have HH := Lib.hid hh'
        have hl4 : ¬ (300 : Int) ≤ (n : Int) := by omega
        clear hr hh hh'
        obtain ⟨q, hq⟩ : ∃ q, pos T r.to = q := ⟨_, rfl⟩
        have HQ := Lib.hid hq
        have HQN := Lib.hid (show q ≤ n by rw [← hq, ← HN.out]; exact pos_le _ _)
        rw [hq] at HI
        clear hq
        go_enter Try.func75, Try.ntmps75
        go_upto_region 1 with fail
        have H := Lib.hid (rAt_new w r 37 (0, 0))
        have hb := Lib.hid (show Below w.heap.size w (w.alloc (.cells (encR r).toArray 37 (0, 0))) from (Below.refl _ _).alloc (Nat.le_refl _) _)
        have HLT := Lib.hid (show w.heap.size < (w.alloc (.cells (encR r).toArray 37 (0, 0))).heap.size by simp)
        generalize w.alloc _ = W at H hb HLT ⊢
        obtain ⟨B, hB⟩ : ∃ b, w.heap.size = b := ⟨_, rfl⟩
        rw [hB] at H ⊢
        rw [hB] at HLT
        clear hB
        have c0 := H.out.all.load (k := n20) (encR_n _) Try.prog
        go_upto_region 3 with (go_at_call 30; (with_reducible refine (refR_any _ _).mono ?_); rintro e w2 ⟨rfl, hb2⟩; rw [HR.out]; have H := Lib.hid (H.out.below hb2); have HLT := Lib.hid (Nat.lt_of_lt_of_le HLT.out hb2.size); have hb := Lib.hid (hb.out.trans (hb2.mono hb.out.size)); clear hb2 c0)
        have c0 := H.out.to.all.load (k := n18) (encP_n _) Try.prog
        go_upto_region 4 with (go_at_call 74; (with_reducible refine (HF.out _ hb.out).mono ?_); rintro e w3 ⟨rfl, hb2⟩; rw [HFX.out]; have H := Lib.hid (H.out.below hb2); have HLT := Lib.hid (Nat.lt_of_lt_of_le HLT.out hb2.size); have hb := Lib.hid (hb.out.trans (hb2.mono hb.out.size)); clear hb2 c0)
        have HAT := Lib.hid (HV.out _ hb.out)
        generalize hW0 : w3 = W0 at *
        clear hW0
        go_wp2
        go_loopw [8, 9, 10] (fun s8 s9 s10 wr => ∃ k : Nat, k ≤ n ∧ s10 = .int .i64 k ∧ s9 = .bool (decide (q < k)) ∧ Gr W0 wr s8 (if k ≤ q then T.take k else T.take q ++ r :: (T.take k).drop q) ∧ (∃ x y z, s8 = .slice x y z)) (fun s8 s9 s10 _ => n - (intOf s10).toNat)
        case atStart => exact ⟨0, by omega, rfl, by simp, by rw [if_pos (Nat.zero_le _), List.take_zero]; exact gr_nil W0, _, _, _, rfl⟩
        case round =>
          obtain ⟨k, hk, rfl, rfl, hg, x8, y8, z8, rfl⟩ := hrel
          have HG := Lib.hid hg
          clear hg
          by_cases hlt : k < n
          · have hlt' : (k : Int) < (n : Int) := by omega
            have k0 : (0 : Int) ≤ (k : Int) := by omega
            have hkl : k < T.length := by rw [HN.out]; exact hlt
            obtain ⟨b, o, rfl, hra⟩ := HAT.out.rd k hkl
            have HX0 := Lib.hid hra
            have H0 := Lib.hid H.out
            have HPS := Lib.hid (part_step hkl)
            have HPD := Lib.hid (fun (h : q ≤ k) => part_drop hkl h)
            have HCMP := Lib.hid (show (q ≤ k → cmpP r.to T[k].to < 0) ∧ (k < q → ¬ cmpP r.to T[k].to < 0) by
              have h1 := pos_lt HT.out.srt (p := r.to) hkl
              rw [HQ.out] at h1
              have h2 := has_false.1 HH.out _ (List.getElem_mem hkl)
              refine ⟨fun h => ?_, fun h => ?_⟩
              · rcases not_lt (fun e => absurd (h1.1 e) (by omega)) with e | e
                · exact absurd e h2
                · exact e
              · exact lt_asymm (h1.2 h))
            clear hra H
            generalize T[k] = t at HX0 HPS HPD HCMP
            by_cases hkq : k < q
            · have hdq : decide (q < k) = false := decide_eq_false (by omega)
              have HGK := Lib.hid (show Gr W0 wr (.slice x8 y8 z8) (T.take k) by have := HG.out; rwa [if_pos (by omega)] at this)
              obtain ⟨c, hc⟩ : ∃ c, cmpP r.to t.to = c := ⟨_, rfl⟩
              have HCV := Lib.hid hc
              have hc0 : ¬ c < 0 := by rw [← hc]; exact HCMP.out.2 hkq
              clear hc HG HCMP
              rw [hdq]
              go_upto_region 15 with fail
              have HG := Lib.hid HGK.out.drew
              have HX := Lib.hid (HX0.out.below HG.out.bel)
              have H := Lib.hid (H0.out.below HG.out.bel)
              refine wp_region_held_drew (S := (fun w' => RAt w' B 0 r ∧ RAt w' b (o + k * 20) t)) (by kernel_rfl) ⟨H.out, HX.out⟩ (fun _ => ?_)
              refine held_take 0 39 (v := ?_) rfl rfl (by kernel_rfl) (by kernel_rfl) (by kernel_rfl) (fun _ _ _ h => h) (by rfl) ?_ ⟨H.out, HX.out⟩ ?_
              rotate_left
              · (intro w hSw; (try dsimp only at hSw); have c0 := hSw.1.to.all.load (k := n18) (encP_n _) Try.prog; have c1 : Sem.run Try.prog (loadCellsFrom ⟨b, o + k * n20, none⟩ 0 n18 #[]) w = .ok (encP t.to).toArray w := hSw.2.to.all.load (k := n18) (encP_n _) Try.prog; clear hSw;try simp only [List.getElem_toArray, List.getElem_cons_zero, List.getElem_cons_succ]; go_simp; try (with_reducible rfl))
              try simp only [List.setIfInBounds_toArray, List.set_cons_zero, List.set_cons_succ]
              refine held_take 1 40 (v := ?_) rfl rfl (by kernel_rfl) (by kernel_rfl) (by kernel_rfl) (fun _ _ _ h => h) (by rfl) ?_ ⟨H.out, HX.out⟩ ?_
              rotate_left
              · (intro w hSw; (try dsimp only at hSw); have c0 := hSw.1.to.all.load (k := n18) (encP_n _) Try.prog; have c1 : Sem.run Try.prog (loadCellsFrom ⟨b, o + k * n20, none⟩ 0 n18 #[]) w = .ok (encP t.to).toArray w := hSw.2.to.all.load (k := n18) (encP_n _) Try.prog; clear hSw;try simp only [List.getElem_toArray, List.getElem_cons_zero, List.getElem_cons_succ]; go_simp; try (with_reducible rfl))
              try simp only [List.setIfInBounds_toArray, List.set_cons_zero, List.set_cons_succ]
              refine held_take 2 41 (v := ?_) rfl rfl (by kernel_rfl) (by kernel_rfl) (by kernel_rfl) (fun _ _ _ h => h) (by rfl) ?_ ⟨H.out, HX.out⟩ ?_
              rotate_left
              · (intro w hSw; (try dsimp only at hSw); have c0 := hSw.1.to.all.load (k := n18) (encP_n _) Try.prog; have c1 : Sem.run Try.prog (loadCellsFrom ⟨b, o + k * n20, none⟩ 0 n18 #[]) w = .ok (encP t.to).toArray w := hSw.2.to.all.load (k := n18) (encP_n _) Try.prog; clear hSw;try simp only [List.getElem_toArray, List.getElem_cons_zero, List.getElem_cons_succ]; go_simp; try (with_reducible rfl))
              try simp only [List.setIfInBounds_toArray, List.set_cons_zero, List.set_cons_succ]
              refine held_take 3 42 (v := ?_) rfl rfl (by kernel_rfl) (by kernel_rfl) (by kernel_rfl) (fun _ _ _ h => h) (by rfl) ?_ ⟨H.out, HX.out⟩ ?_
              rotate_left
              · (intro w hSw; (try dsimp only at hSw); have c0 := hSw.1.to.all.load (k := n18) (encP_n _) Try.prog; have c1 : Sem.run Try.prog (loadCellsFrom ⟨b, o + k * n20, none⟩ 0 n18 #[]) w = .ok (encP t.to).toArray w := hSw.2.to.all.load (k := n18) (encP_n _) Try.prog; clear hSw;try simp only [List.getElem_toArray, List.getElem_cons_zero, List.getElem_cons_succ]; go_simp; try (with_reducible rfl))
              try simp only [List.setIfInBounds_toArray, List.set_cons_zero, List.set_cons_succ]
              refine held_take 4 43 (v := ?_) rfl rfl (by kernel_rfl) (by kernel_rfl) (by kernel_rfl) (fun _ _ _ h => h) (by rfl) ?_ ⟨H.out, HX.out⟩ ?_
              rotate_left
              · (intro w hSw; (try dsimp only at hSw); have c0 := hSw.1.to.all.load (k := n18) (encP_n _) Try.prog; have c1 : Sem.run Try.prog (loadCellsFrom ⟨b, o + k * n20, none⟩ 0 n18 #[]) w = .ok (encP t.to).toArray w := hSw.2.to.all.load (k := n18) (encP_n _) Try.prog; clear hSw;try simp only [List.getElem_toArray, List.getElem_cons_zero, List.getElem_cons_succ]; go_simp; try (with_reducible rfl))
              try simp only [List.setIfInBounds_toArray, List.set_cons_zero, List.set_cons_succ]
              refine held_take 5 44 (v := ?_) rfl rfl (by kernel_rfl) (by kernel_rfl) (by kernel_rfl) (fun _ _ _ h => h) (by rfl) ?_ ⟨H.out, HX.out⟩ ?_
              rotate_left
              · (intro w hSw; (try dsimp only at hSw); have c0 := hSw.1.to.all.load (k := n18) (encP_n _) Try.prog; have c1 : Sem.run Try.prog (loadCellsFrom ⟨b, o + k * n20, none⟩ 0 n18 #[]) w = .ok (encP t.to).toArray w := hSw.2.to.all.load (k := n18) (encP_n _) Try.prog; clear hSw;try simp only [List.getElem_toArray, List.getElem_cons_zero, List.getElem_cons_succ]; go_simp; try (with_reducible rfl))
              try simp only [List.setIfInBounds_toArray, List.set_cons_zero, List.set_cons_succ]
              refine held_take 6 45 (v := ?_) rfl rfl (by kernel_rfl) (by kernel_rfl) (by kernel_rfl) (fun _ _ _ h => h) (by rfl) ?_ ⟨H.out, HX.out⟩ ?_
              rotate_left
              · (intro w hSw; (try dsimp only at hSw); have c0 := hSw.1.to.all.load (k := n18) (encP_n _) Try.prog; have c1 : Sem.run Try.prog (loadCellsFrom ⟨b, o + k * n20, none⟩ 0 n18 #[]) w = .ok (encP t.to).toArray w := hSw.2.to.all.load (k := n18) (encP_n _) Try.prog; clear hSw;try simp only [List.getElem_toArray, List.getElem_cons_zero, List.getElem_cons_succ]; go_simp; try (with_reducible rfl))
              try simp only [List.setIfInBounds_toArray, List.set_cons_zero, List.set_cons_succ]
              refine held_take 7 46 (v := ?_) rfl rfl (by kernel_rfl) (by kernel_rfl) (by kernel_rfl) (fun _ _ _ h => h) (by rfl) ?_ ⟨H.out, HX.out⟩ ?_
              rotate_left
              · (intro w hSw; (try dsimp only at hSw); have c0 := hSw.1.to.all.load (k := n18) (encP_n _) Try.prog; have c1 : Sem.run Try.prog (loadCellsFrom ⟨b, o + k * n20, none⟩ 0 n18 #[]) w = .ok (encP t.to).toArray w := hSw.2.to.all.load (k := n18) (encP_n _) Try.prog; clear hSw;try simp only [List.getElem_toArray, List.getElem_cons_zero, List.getElem_cons_succ]; go_simp; try (with_reducible rfl))
              try simp only [List.setIfInBounds_toArray, List.set_cons_zero, List.set_cons_succ]
              refine held_take 8 47 (v := ?_) rfl rfl (by kernel_rfl) (by kernel_rfl) (by kernel_rfl) (fun _ _ _ h => h) (by rfl) ?_ ⟨H.out, HX.out⟩ ?_
              rotate_left
              · (intro w hSw; (try dsimp only at hSw); have c0 := hSw.1.to.all.load (k := n18) (encP_n _) Try.prog; have c1 : Sem.run Try.prog (loadCellsFrom ⟨b, o + k * n20, none⟩ 0 n18 #[]) w = .ok (encP t.to).toArray w := hSw.2.to.all.load (k := n18) (encP_n _) Try.prog; clear hSw;try simp only [List.getElem_toArray, List.getElem_cons_zero, List.getElem_cons_succ]; go_simp; try (with_reducible rfl))
              try simp only [List.setIfInBounds_toArray, List.set_cons_zero, List.set_cons_succ]
              refine held_take 9 48 (v := ?_) rfl rfl (by kernel_rfl) (by kernel_rfl) (by kernel_rfl) (fun _ _ _ h => h) (by rfl) ?_ ⟨H.out, HX.out⟩ ?_
              rotate_left
              · (intro w hSw; (try dsimp only at hSw); have c0 := hSw.1.to.all.load (k := n18) (encP_n _) Try.prog; have c1 : Sem.run Try.prog (loadCellsFrom ⟨b, o + k * n20, none⟩ 0 n18 #[]) w = .ok (encP t.to).toArray w := hSw.2.to.all.load (k := n18) (encP_n _) Try.prog; clear hSw;try simp only [List.getElem_toArray, List.getElem_cons_zero, List.getElem_cons_succ]; go_simp; try (with_reducible rfl))
              try simp only [List.setIfInBounds_toArray, List.set_cons_zero, List.set_cons_succ]
              refine held_call 10 49 rfl rfl (by kernel_rfl) (by rfl) (fun K hK => ?_)
              try simp only [List.getElem_toArray, List.getElem_cons_zero, List.getElem_cons_succ]
              go_simp
              (go_at_call 91; (with_reducible refine (refCompare_any _ _ _).mono ?_); rintro e w4 ⟨rfl, hb3⟩; rw [HCV.out]; have HX := Lib.hid (HX.out.below hb3); have H := Lib.hid (H.out.below hb3); have HG := Lib.hid (HG.out.below hb3); clear hb3)
              try go_wp2_with fail
              try simp only [Act.put, List.setIfInBounds_toArray, List.set_cons_zero, List.set_cons_succ]
              refine hK.out _ _ _ ⟨H.out, HX.out⟩ ?_
              clear hK K
              refine held_take 11 50 (v := ?_) rfl rfl (by kernel_rfl) (by kernel_rfl) (by kernel_rfl) (fun _ _ _ h => h) (by rfl) ?_ ⟨H.out, HX.out⟩ ?_
              rotate_left
              · (intro w hSw; (try dsimp only at hSw); have c0 := hSw.1.to.all.load (k := n18) (encP_n _) Try.prog; have c1 : Sem.run Try.prog (loadCellsFrom ⟨b, o + k * n20, none⟩ 0 n18 #[]) w = .ok (encP t.to).toArray w := hSw.2.to.all.load (k := n18) (encP_n _) Try.prog; clear hSw;try simp only [List.getElem_toArray, List.getElem_cons_zero, List.getElem_cons_succ]; go_simp; try (with_reducible rfl))
              try simp only [List.setIfInBounds_toArray, List.set_cons_zero, List.set_cons_succ]
              refine held_take 12 51 (v := ?_) rfl rfl (by kernel_rfl) (by kernel_rfl) (by kernel_rfl) (fun _ _ _ h => h) (by rfl) ?_ ⟨H.out, HX.out⟩ ?_
              rotate_left
              · (intro w hSw; (try dsimp only at hSw); have c0 := hSw.1.to.all.load (k := n18) (encP_n _) Try.prog; have c1 : Sem.run Try.prog (loadCellsFrom ⟨b, o + k * n20, none⟩ 0 n18 #[]) w = .ok (encP t.to).toArray w := hSw.2.to.all.load (k := n18) (encP_n _) Try.prog; clear hSw;try simp only [List.getElem_toArray, List.getElem_cons_zero, List.getElem_cons_succ]; go_simp; try (with_reducible rfl))
              try simp only [List.setIfInBounds_toArray, List.set_cons_zero, List.set_cons_succ]
              refine wpAnyH_done (by kernel_rfl) ?_ _
              have c1 : Sem.run Try.prog (loadCellsFrom ⟨b, o + k * n20, none⟩ 0 n20 #[]) w4 = .ok (encR t).toArray w4 := HX.out.all.load (k := n20) (encR_n _) Try.prog
              go_wp2_with (first
                | (refine wpList_row_run (o := ⟨some 61, .buildSlice 22 1 #[(0, .tmp 60)], _, _, _, _⟩) rfl 22 1 #[(0, .tmp 60)] rfl #[(0, .agg (encR t).toArray)] (by simp [Act.eval, Act.put]) (row_R1 _ _) ?_)
                | (refine wpList_app1 rfl (.tmp 56) (.tmp 61) rfl _ t _ rfl rfl HG.out (by simp only [List.length_append, List.length_cons, List.length_drop, List.length_take, List.length_nil]; omega) ?_; rintro v7 w7 h7 ⟨x7, y7, z7, rfl⟩; have H7 := Lib.hid h7; clear h7))
              go_roundw
              case rel => exact ⟨k + 1, by omega, by go_num, by rw [decide_eq_false (by omega)], by rw [if_pos (by omega), ← HPS.out]; exact H7.out, _, _, _, rfl⟩
              case measure => simp [intOf]; omega
            · by_cases hkq2 : k = q
              · subst hkq2
                have hdq : decide (k < k) = false := decide_eq_false (by omega)
                have HGK := Lib.hid (show Gr W0 wr (.slice x8 y8 z8) (T.take k) by have := HG.out; rwa [if_pos (by omega)] at this)
                obtain ⟨c, hc⟩ : ∃ c, cmpP r.to t.to = c := ⟨_, rfl⟩
                have HCV := Lib.hid hc
                have hc0 : c < 0 := by rw [← hc]; exact HCMP.out.1 (Nat.le_refl _)
                have HFE := Lib.hid (show T.take k ++ [r] ++ [t] = T.take k ++ r :: (T.take (k + 1)).drop k by rw [← HPD.out (Nat.le_refl _), List.drop_of_length_le (by rw [List.length_take]; omega)]; simp)
                clear hc HG HCMP
                rw [hdq]
                go_upto_region 15 with fail
                have HG := Lib.hid HGK.out.drew
                have HX := Lib.hid (HX0.out.below HG.out.bel)
                have H := Lib.hid (H0.out.below HG.out.bel)
                refine wp_region_held_drew (S := (fun w' => RAt w' B 0 r ∧ RAt w' b (o + k * 20) t)) (by kernel_rfl) ⟨H.out, HX.out⟩ (fun _ => ?_)
                refine held_take 0 39 (v := ?_) rfl rfl (by kernel_rfl) (by kernel_rfl) (by kernel_rfl) (fun _ _ _ h => h) (by rfl) ?_ ⟨H.out, HX.out⟩ ?_
                rotate_left
                · (intro w hSw; (try dsimp only at hSw); have c0 := hSw.1.to.all.load (k := n18) (encP_n _) Try.prog; have c1 : Sem.run Try.prog (loadCellsFrom ⟨b, o + k * n20, none⟩ 0 n18 #[]) w = .ok (encP t.to).toArray w := hSw.2.to.all.load (k := n18) (encP_n _) Try.prog; clear hSw;try simp only [List.getElem_toArray, List.getElem_cons_zero, List.getElem_cons_succ]; go_simp; try (with_reducible rfl))
                try simp only [List.setIfInBounds_toArray, List.set_cons_zero, List.set_cons_succ]
                refine held_take 1 40 (v := ?_) rfl rfl (by kernel_rfl) (by kernel_rfl) (by kernel_rfl) (fun _ _ _ h => h) (by rfl) ?_ ⟨H.out, HX.out⟩ ?_
                rotate_left
                · (intro w hSw; (try dsimp only at hSw); have c0 := hSw.1.to.all.load (k := n18) (encP_n _) Try.prog; have c1 : Sem.run Try.prog (loadCellsFrom ⟨b, o + k * n20, none⟩ 0 n18 #[]) w = .ok (encP t.to).toArray w := hSw.2.to.all.load (k := n18) (encP_n _) Try.prog; clear hSw;try simp only [List.getElem_toArray, List.getElem_cons_zero, List.getElem_cons_succ]; go_simp; try (with_reducible rfl))
                try simp only [List.setIfInBounds_toArray, List.set_cons_zero, List.set_cons_succ]
                refine held_take 2 41 (v := ?_) rfl rfl (by kernel_rfl) (by kernel_rfl) (by kernel_rfl) (fun _ _ _ h => h) (by rfl) ?_ ⟨H.out, HX.out⟩ ?_
                rotate_left
                · (intro w hSw; (try dsimp only at hSw); have c0 := hSw.1.to.all.load (k := n18) (encP_n _) Try.prog; have c1 : Sem.run Try.prog (loadCellsFrom ⟨b, o + k * n20, none⟩ 0 n18 #[]) w = .ok (encP t.to).toArray w := hSw.2.to.all.load (k := n18) (encP_n _) Try.prog; clear hSw;try simp only [List.getElem_toArray, List.getElem_cons_zero, List.getElem_cons_succ]; go_simp; try (with_reducible rfl))
                try simp only [List.setIfInBounds_toArray, List.set_cons_zero, List.set_cons_succ]
                refine held_take 3 42 (v := ?_) rfl rfl (by kernel_rfl) (by kernel_rfl) (by kernel_rfl) (fun _ _ _ h => h) (by rfl) ?_ ⟨H.out, HX.out⟩ ?_
                rotate_left
                · (intro w hSw; (try dsimp only at hSw); have c0 := hSw.1.to.all.load (k := n18) (encP_n _) Try.prog; have c1 : Sem.run Try.prog (loadCellsFrom ⟨b, o + k * n20, none⟩ 0 n18 #[]) w = .ok (encP t.to).toArray w := hSw.2.to.all.load (k := n18) (encP_n _) Try.prog; clear hSw;try simp only [List.getElem_toArray, List.getElem_cons_zero, List.getElem_cons_succ]; go_simp; try (with_reducible rfl))
                try simp only [List.setIfInBounds_toArray, List.set_cons_zero, List.set_cons_succ]
                refine held_take 4 43 (v := ?_) rfl rfl (by kernel_rfl) (by kernel_rfl) (by kernel_rfl) (fun _ _ _ h => h) (by rfl) ?_ ⟨H.out, HX.out⟩ ?_
                rotate_left
                · (intro w hSw; (try dsimp only at hSw); have c0 := hSw.1.to.all.load (k := n18) (encP_n _) Try.prog; have c1 : Sem.run Try.prog (loadCellsFrom ⟨b, o + k * n20, none⟩ 0 n18 #[]) w = .ok (encP t.to).toArray w := hSw.2.to.all.load (k := n18) (encP_n _) Try.prog; clear hSw;try simp only [List.getElem_toArray, List.getElem_cons_zero, List.getElem_cons_succ]; go_simp; try (with_reducible rfl))
                try simp only [List.setIfInBounds_toArray, List.set_cons_zero, List.set_cons_succ]
                refine held_take 5 44 (v := ?_) rfl rfl (by kernel_rfl) (by kernel_rfl) (by kernel_rfl) (fun _ _ _ h => h) (by rfl) ?_ ⟨H.out, HX.out⟩ ?_
                rotate_left
                · (intro w hSw; (try dsimp only at hSw); have c0 := hSw.1.to.all.load (k := n18) (encP_n _) Try.prog; have c1 : Sem.run Try.prog (loadCellsFrom ⟨b, o + k * n20, none⟩ 0 n18 #[]) w = .ok (encP t.to).toArray w := hSw.2.to.all.load (k := n18) (encP_n _) Try.prog; clear hSw;try simp only [List.getElem_toArray, List.getElem_cons_zero, List.getElem_cons_succ]; go_simp; try (with_reducible rfl))
                try simp only [List.setIfInBounds_toArray, List.set_cons_zero, List.set_cons_succ]
                refine held_take 6 45 (v := ?_) rfl rfl (by kernel_rfl) (by kernel_rfl) (by kernel_rfl) (fun _ _ _ h => h) (by rfl) ?_ ⟨H.out, HX.out⟩ ?_
                rotate_left
                · (intro w hSw; (try dsimp only at hSw); have c0 := hSw.1.to.all.load (k := n18) (encP_n _) Try.prog; have c1 : Sem.run Try.prog (loadCellsFrom ⟨b, o + k * n20, none⟩ 0 n18 #[]) w = .ok (encP t.to).toArray w := hSw.2.to.all.load (k := n18) (encP_n _) Try.prog; clear hSw;try simp only [List.getElem_toArray, List.getElem_cons_zero, List.getElem_cons_succ]; go_simp; try (with_reducible rfl))
                try simp only [List.setIfInBounds_toArray, List.set_cons_zero, List.set_cons_succ]
                refine held_take 7 46 (v := ?_) rfl rfl (by kernel_rfl) (by kernel_rfl) (by kernel_rfl) (fun _ _ _ h => h) (by rfl) ?_ ⟨H.out, HX.out⟩ ?_
                rotate_left
                · (intro w hSw; (try dsimp only at hSw); have c0 := hSw.1.to.all.load (k := n18) (encP_n _) Try.prog; have c1 : Sem.run Try.prog (loadCellsFrom ⟨b, o + k * n20, none⟩ 0 n18 #[]) w = .ok (encP t.to).toArray w := hSw.2.to.all.load (k := n18) (encP_n _) Try.prog; clear hSw;try simp only [List.getElem_toArray, List.getElem_cons_zero, List.getElem_cons_succ]; go_simp; try (with_reducible rfl))
                try simp only [List.setIfInBounds_toArray, List.set_cons_zero, List.set_cons_succ]
                refine held_take 8 47 (v := ?_) rfl rfl (by kernel_rfl) (by kernel_rfl) (by kernel_rfl) (fun _ _ _ h => h) (by rfl) ?_ ⟨H.out, HX.out⟩ ?_
                rotate_left
                · (intro w hSw; (try dsimp only at hSw); have c0 := hSw.1.to.all.load (k := n18) (encP_n _) Try.prog; have c1 : Sem.run Try.prog (loadCellsFrom ⟨b, o + k * n20, none⟩ 0 n18 #[]) w = .ok (encP t.to).toArray w := hSw.2.to.all.load (k := n18) (encP_n _) Try.prog; clear hSw;try simp only [List.getElem_toArray, List.getElem_cons_zero, List.getElem_cons_succ]; go_simp; try (with_reducible rfl))
                try simp only [List.setIfInBounds_toArray, List.set_cons_zero, List.set_cons_succ]
                refine held_take 9 48 (v := ?_) rfl rfl (by kernel_rfl) (by kernel_rfl) (by kernel_rfl) (fun _ _ _ h => h) (by rfl) ?_ ⟨H.out, HX.out⟩ ?_
                rotate_left
                · (intro w hSw; (try dsimp only at hSw); have c0 := hSw.1.to.all.load (k := n18) (encP_n _) Try.prog; have c1 : Sem.run Try.prog (loadCellsFrom ⟨b, o + k * n20, none⟩ 0 n18 #[]) w = .ok (encP t.to).toArray w := hSw.2.to.all.load (k := n18) (encP_n _) Try.prog; clear hSw;try simp only [List.getElem_toArray, List.getElem_cons_zero, List.getElem_cons_succ]; go_simp; try (with_reducible rfl))
                try simp only [List.setIfInBounds_toArray, List.set_cons_zero, List.set_cons_succ]
                refine held_call 10 49 rfl rfl (by kernel_rfl) (by rfl) (fun K hK => ?_)
                try simp only [List.getElem_toArray, List.getElem_cons_zero, List.getElem_cons_succ]
                go_simp
                (go_at_call 91; (with_reducible refine (refCompare_any _ _ _).mono ?_); rintro e w4 ⟨rfl, hb3⟩; rw [HCV.out]; have HX := Lib.hid (HX.out.below hb3); have H := Lib.hid (H.out.below hb3); have HG := Lib.hid (HG.out.below hb3); clear hb3)
                try go_wp2_with fail
                try simp only [Act.put, List.setIfInBounds_toArray, List.set_cons_zero, List.set_cons_succ]
                refine hK.out _ _ _ ⟨H.out, HX.out⟩ ?_
                clear hK K
                refine held_take 11 50 (v := ?_) rfl rfl (by kernel_rfl) (by kernel_rfl) (by kernel_rfl) (fun _ _ _ h => h) (by rfl) ?_ ⟨H.out, HX.out⟩ ?_
                rotate_left
                · (intro w hSw; (try dsimp only at hSw); have c0 := hSw.1.to.all.load (k := n18) (encP_n _) Try.prog; have c1 : Sem.run Try.prog (loadCellsFrom ⟨b, o + k * n20, none⟩ 0 n18 #[]) w = .ok (encP t.to).toArray w := hSw.2.to.all.load (k := n18) (encP_n _) Try.prog; clear hSw;try simp only [List.getElem_toArray, List.getElem_cons_zero, List.getElem_cons_succ]; go_simp; try (with_reducible rfl))
                try simp only [List.setIfInBounds_toArray, List.set_cons_zero, List.set_cons_succ]
                refine held_take 12 51 (v := ?_) rfl rfl (by kernel_rfl) (by kernel_rfl) (by kernel_rfl) (fun _ _ _ h => h) (by rfl) ?_ ⟨H.out, HX.out⟩ ?_
                rotate_left
                · (intro w hSw; (try dsimp only at hSw); have c0 := hSw.1.to.all.load (k := n18) (encP_n _) Try.prog; have c1 : Sem.run Try.prog (loadCellsFrom ⟨b, o + k * n20, none⟩ 0 n18 #[]) w = .ok (encP t.to).toArray w := hSw.2.to.all.load (k := n18) (encP_n _) Try.prog; clear hSw;try simp only [List.getElem_toArray, List.getElem_cons_zero, List.getElem_cons_succ]; go_simp; try (with_reducible rfl))
                try simp only [List.setIfInBounds_toArray, List.set_cons_zero, List.set_cons_succ]
                refine wpAnyH_done (by kernel_rfl) ?_ _
                have c0 := H.out.all.load (k := n20) (encR_n _) Try.prog
                go_upto_region 17 with (first
                  | (refine wpList_row_run (o := ⟨some 54, .buildSlice 22 1 #[(0, .tmp 53)], _, _, _, _⟩) rfl 22 1 #[(0, .tmp 53)] rfl #[(0, .agg (encR r).toArray)] (by simp [Act.eval, Act.put]) (row_R1 _ _) ?_)
                  | (refine wpList_app1 rfl (.tmp 52) (.tmp 54) rfl _ r _ rfl rfl HG.out (by simp only [List.length_take]; omega) ?_; rintro v6 w6 h6 ⟨x6, y6, z6, rfl⟩; have HG := Lib.hid h6; clear h6))
                have c1 : Sem.run Try.prog (loadCellsFrom ⟨b, o + k * n20, none⟩ 0 n20 #[]) w6 = .ok (encR t).toArray w6 := (HX0.out.below HG.out.bel).all.load (k := n20) (encR_n _) Try.prog
                go_wp2_with (first
                  | (refine wpList_row_run (o := ⟨some 61, .buildSlice 22 1 #[(0, .tmp 60)], _, _, _, _⟩) rfl 22 1 #[(0, .tmp 60)] rfl #[(0, .agg (encR t).toArray)] (by simp [Act.eval, Act.put]) (row_R1 _ _) ?_)
                  | (refine wpList_app1 rfl (.tmp 56) (.tmp 61) rfl _ t _ rfl rfl HG.out (by simp only [List.length_append, List.length_cons, List.length_drop, List.length_take, List.length_nil]; omega) ?_; rintro v7 w7 h7 ⟨x7, y7, z7, rfl⟩; have H7 := Lib.hid h7; clear h7))
                go_roundw
                case rel => exact ⟨k + 1, by omega, by go_num, by rw [decide_eq_true (by omega)], by rw [if_neg (by omega), ← HFE.out]; exact H7.out, _, _, _, rfl⟩
                case measure => simp [intOf]; omega
              · have hdq : decide (q < k) = true := decide_eq_true (by omega)
                have HGK := Lib.hid (show Gr W0 wr (.slice x8 y8 z8) (T.take q ++ r :: (T.take k).drop q) by have := HG.out; rwa [if_neg (by omega)] at this)
                have HFE := Lib.hid (show (T.take q ++ r :: (T.take k).drop q) ++ [t] = T.take q ++ r :: (T.take (k + 1)).drop q by rw [← HPD.out (by omega)]; simp)
                clear HG HCMP
                rw [hdq]
                go_upto_region 15 with fail
                have HG := Lib.hid HGK.out.drew
                have HX := Lib.hid (HX0.out.below HG.out.bel)
                have H := Lib.hid (H0.out.below HG.out.bel)
                refine wp_region_held_drew (S := (fun w' => RAt w' B 0 r ∧ RAt w' b (o + k * 20) t)) (by kernel_rfl) ⟨H.out, HX.out⟩ (fun _ => ?_)
                refine held_take 0 39 (v := ?_) rfl rfl (by kernel_rfl) (by kernel_rfl) (by kernel_rfl) (fun _ _ _ h => h) (by rfl) ?_ ⟨H.out, HX.out⟩ ?_
                rotate_left
                · (intro w hSw; (try dsimp only at hSw); try simp only [List.getElem_toArray, List.getElem_cons_zero, List.getElem_cons_succ]; go_simp; try (with_reducible rfl))
                try simp only [List.setIfInBounds_toArray, List.set_cons_zero, List.set_cons_succ]
                refine held_take 1 40 (v := ?_) rfl rfl (by kernel_rfl) (by kernel_rfl) (by kernel_rfl) (fun _ _ _ h => h) (by rfl) ?_ ⟨H.out, HX.out⟩ ?_
                rotate_left
                · (intro w hSw; (try dsimp only at hSw); try simp only [List.getElem_toArray, List.getElem_cons_zero, List.getElem_cons_succ]; go_simp; try (with_reducible rfl))
                try simp only [List.setIfInBounds_toArray, List.set_cons_zero, List.set_cons_succ]
                refine held_take 2 41 (v := ?_) rfl rfl (by kernel_rfl) (by kernel_rfl) (by kernel_rfl) (fun _ _ _ h => h) (by rfl) ?_ ⟨H.out, HX.out⟩ ?_
                rotate_left
                · (intro w hSw; (try dsimp only at hSw); try simp only [List.getElem_toArray, List.getElem_cons_zero, List.getElem_cons_succ]; go_simp; try (with_reducible rfl))
                try simp only [List.setIfInBounds_toArray, List.set_cons_zero, List.set_cons_succ]
                refine held_skip 3 42 rfl rfl (by kernel_rfl) (by kernel_rfl) (by kernel_rfl) (fun _ _ _ h => h) (by rfl) ⟨H.out, HX.out⟩ ?_
                try simp only [List.setIfInBounds_toArray, List.set_cons_zero, List.set_cons_succ]
                refine held_skip 4 43 rfl rfl (by kernel_rfl) (by kernel_rfl) (by kernel_rfl) (fun _ _ _ h => h) (by rfl) ⟨H.out, HX.out⟩ ?_
                try simp only [List.setIfInBounds_toArray, List.set_cons_zero, List.set_cons_succ]
                refine held_skip 5 44 rfl rfl (by kernel_rfl) (by kernel_rfl) (by kernel_rfl) (fun _ _ _ h => h) (by rfl) ⟨H.out, HX.out⟩ ?_
                try simp only [List.setIfInBounds_toArray, List.set_cons_zero, List.set_cons_succ]
                refine held_skip 6 45 rfl rfl (by kernel_rfl) (by kernel_rfl) (by kernel_rfl) (fun _ _ _ h => h) (by rfl) ⟨H.out, HX.out⟩ ?_
                try simp only [List.setIfInBounds_toArray, List.set_cons_zero, List.set_cons_succ]
                refine held_skip 7 46 rfl rfl (by kernel_rfl) (by kernel_rfl) (by kernel_rfl) (fun _ _ _ h => h) (by rfl) ⟨H.out, HX.out⟩ ?_
                try simp only [List.setIfInBounds_toArray, List.set_cons_zero, List.set_cons_succ]
                refine held_skip 8 47 rfl rfl (by kernel_rfl) (by kernel_rfl) (by kernel_rfl) (fun _ _ _ h => h) (by rfl) ⟨H.out, HX.out⟩ ?_
                try simp only [List.setIfInBounds_toArray, List.set_cons_zero, List.set_cons_succ]
                refine held_skip 9 48 rfl rfl (by kernel_rfl) (by kernel_rfl) (by kernel_rfl) (fun _ _ _ h => h) (by rfl) ⟨H.out, HX.out⟩ ?_
                try simp only [List.setIfInBounds_toArray, List.set_cons_zero, List.set_cons_succ]
                refine held_skip 10 49 rfl rfl (by kernel_rfl) (by kernel_rfl) (by kernel_rfl) (fun _ _ _ h => h) (by rfl) ⟨H.out, HX.out⟩ ?_
                try simp only [List.setIfInBounds_toArray, List.set_cons_zero, List.set_cons_succ]
                refine held_skip 11 50 rfl rfl (by kernel_rfl) (by kernel_rfl) (by kernel_rfl) (fun _ _ _ h => h) (by rfl) ⟨H.out, HX.out⟩ ?_
                try simp only [List.setIfInBounds_toArray, List.set_cons_zero, List.set_cons_succ]
                refine held_take 12 51 (v := ?_) rfl rfl (by kernel_rfl) (by kernel_rfl) (by kernel_rfl) (fun _ _ _ h => h) (by rfl) ?_ ⟨H.out, HX.out⟩ ?_
                rotate_left
                · (intro w hSw; (try dsimp only at hSw); try simp only [List.getElem_toArray, List.getElem_cons_zero, List.getElem_cons_succ]; go_simp; try (with_reducible rfl))
                try simp only [List.setIfInBounds_toArray, List.set_cons_zero, List.set_cons_succ]
                refine wpAnyH_done (by kernel_rfl) ?_ _
                have c1 : Sem.run Try.prog (loadCellsFrom ⟨b, o + k * n20, none⟩ 0 n20 #[]) wr.drew = .ok (encR t).toArray wr.drew := HX.out.all.load (k := n20) (encR_n _) Try.prog
                go_wp2_with (first
                  | (refine wpList_row_run (o := ⟨some 61, .buildSlice 22 1 #[(0, .tmp 60)], _, _, _, _⟩) rfl 22 1 #[(0, .tmp 60)] rfl #[(0, .agg (encR t).toArray)] (by simp [Act.eval, Act.put]) (row_R1 _ _) ?_)
                  | (refine wpList_app1 rfl (.tmp 56) (.tmp 61) rfl _ t _ rfl rfl HG.out (by simp only [List.length_append, List.length_cons, List.length_drop, List.length_take, List.length_nil]; omega) ?_; rintro v7 w7 h7 ⟨x7, y7, z7, rfl⟩; have H7 := Lib.hid h7; clear h7))
                go_roundw
                case rel => exact ⟨k + 1, by omega, by go_num, by rw [decide_eq_true (by omega)], by rw [if_neg (by omega), ← HFE.out]; exact H7.out, _, _, _, rfl⟩
                case measure => simp [intOf]; omega
          · obtain rfl : k = n := by omega
            have HTK := Lib.hid (show T.take k = T from List.take_of_length_le (by rw [HN.out]; exact Nat.le_refl _))
            have hlt' : ¬ (k : Int) < (k : Int) := by omega
            by_cases hqk : q < k
            · have hdq : decide (q < k) = true := decide_eq_true hqk
              have HGK := Lib.hid (show Gr W0 wr (.slice x8 y8 z8) (ins T r) by have := HG.out; rw [if_neg (by omega), HTK.out, ← HI.out] at this; exact this)
              rw [hdq]
              go_wp2
              go_ret2
              rw [HC.out.1, HC.out.2]
              obtain ⟨A2, c2, hv2, hf2⟩ := HGK.out.rvK
              exact ⟨⟨_, A2, c2, rfl, hv2, .inr (fun g o e => Nat.le_trans hb.out.size (hf2 g o e))⟩, hb.out.trans (HGK.out.bel.mono hb.out.size)⟩
            · obtain rfl : q = k := by have := HQN.out; omega
              have hdq : decide (q < q) = false := decide_eq_false (by omega)
              have HGK := Lib.hid (show Gr W0 wr (.slice x8 y8 z8) (T.take q) by have := HG.out; rwa [if_pos (by omega)] at this)
              have HFE := Lib.hid (show T.take q ++ [r] = ins T r by rw [HI.out, List.drop_of_length_le (by rw [HN.out]; exact Nat.le_refl _)])
              have c0 := (H.out.below HG.out.bel).all.load (k := n20) (encR_n _) Try.prog
              rw [hdq]
              go_wp2_with (first
                | (refine wpList_row_run (o := ⟨some 67, .buildSlice 22 1 #[(0, .tmp 66)], _, _, _, _⟩) rfl 22 1 #[(0, .tmp 66)] rfl #[(0, .agg (encR r).toArray)] (by simp [Act.eval, Act.put]) (row_R1 _ _) ?_)
                | (refine wpList_app1 rfl (.tmp 65) (.tmp 67) rfl _ r _ rfl rfl HGK.out (by simp only [List.length_take]; omega) ?_; rintro v7 w7 h7 ⟨x7, y7, z7, rfl⟩; have H7 := Lib.hid h7; clear h7))
              go_ret2
              rw [HC.out.1, HC.out.2, ← HFE.out]
              obtain ⟨A2, c2, hv2, hf2⟩ := H7.out.rvK
              exact ⟨⟨_, A2, c2, rfl, hv2, .inr (fun g o e => Nat.le_trans hb.out.size (hf2 g o e))⟩, hb.out.trans (H7.out.bel.mono hb.out.size)⟩
      · have HC := Lib.hid (show putC T r = 7 ∧ putT T r = T by unfold putC putT; rw [HN.out, if_pos hr, if_pos hr, if_neg hh, if_neg hh, if_neg hl3, if_neg hl3]; exact ⟨rfl, rfl⟩)
        have hl4 : (300 : Int) ≤ (n : Int) := by omega
        clear hr hh hh'
        go_enter Try.func75, Try.ntmps75
        go_upto_region 1 with fail
        have H := Lib.hid (rAt_new w r 37 (0, 0))
        have hb := Lib.hid (show Below w.heap.size w (w.alloc (.cells (encR r).toArray 37 (0, 0))) from (Below.refl _ _).alloc (Nat.le_refl _) _)
        have HLT := Lib.hid (show w.heap.size < (w.alloc (.cells (encR r).toArray 37 (0, 0))).heap.size by simp)
        generalize w.alloc _ = W at H hb HLT ⊢
        obtain ⟨B, hB⟩ : ∃ b, w.heap.size = b := ⟨_, rfl⟩
        rw [hB] at H ⊢
        rw [hB] at HLT
        clear hB
        have c0 := H.out.all.load (k := n20) (encR_n _) Try.prog
        go_upto_region 3 with (go_at_call 30; (with_reducible refine (refR_any _ _).mono ?_); rintro e w2 ⟨rfl, hb2⟩; rw [HR.out]; have H := Lib.hid (H.out.below hb2); have HLT := Lib.hid (Nat.lt_of_lt_of_le HLT.out hb2.size); have hb := Lib.hid (hb.out.trans (hb2.mono hb.out.size)); clear hb2 c0)
        have c0 := H.out.to.all.load (k := n18) (encP_n _) Try.prog
        go_upto_region 4 with (go_at_call 74; (with_reducible refine (HF.out _ hb.out).mono ?_); rintro e w3 ⟨rfl, hb2⟩; rw [HFX.out]; have H := Lib.hid (H.out.below hb2); have HLT := Lib.hid (Nat.lt_of_lt_of_le HLT.out hb2.size); have hb := Lib.hid (hb.out.trans (hb2.mono hb.out.size)); clear hb2 c0)
        go_wp2
        go_ret2
        rw [HC.out.1, HC.out.2]
        exact ⟨⟨_, A, cap, rfl, HV.out _ hb.out, .inl rfl⟩, hb.out⟩
  · have HR := Lib.hid (show right r = false by simpa using hr)
    have HC := Lib.hid (show putC T r = 1 ∧ putT T r = T by unfold putC putT; rw [if_neg hr, if_neg hr]; exact ⟨rfl, rfl⟩)
    clear hr
    go_enter Try.func75, Try.ntmps75
    go_upto_region 1 with fail
    have H := Lib.hid (rAt_new w r 37 (0, 0))
    have hb := Lib.hid (show Below w.heap.size w (w.alloc (.cells (encR r).toArray 37 (0, 0))) from (Below.refl _ _).alloc (Nat.le_refl _) _)
    generalize w.alloc _ = W at H hb ⊢
    generalize w.heap.size = B at H ⊢
    have c0 := H.out.all.load (k := n20) (encR_n _) Try.prog
    go_wp2_with (go_at_call 30; (with_reducible refine (refR_any _ _).mono ?_); rintro e w2 ⟨rfl, hb2⟩; rw [HR.out]; have hb := Lib.hid (hb.out.trans (hb2.mono hb.out.size)); clear hb2 c0)
    go_ret2
    rw [HC.out.1, HC.out.2]
    exact ⟨⟨_, A, cap, rfl, HV.out _ hb.out, .inl rfl⟩, hb.out⟩
theorem refPut_any (A : Option Addr) (cap : Nat) (T : List Rt) (hT : TOk T) (r : Rt) (w : World) (hv : Rv w (.slice A T.length cap) A cap T) :
    Calls Try.prog 75 #[.slice A T.length cap, .agg (encR r).toArray] w fun e w' => Lst w w' (putT T r) (putC T r) e ∧ Below w.heap.size w w' :=
  (refPut_anyK A cap T hT r w hv).mono fun e w' ⟨h1, h2⟩ => ⟨h1.lst, h2⟩
end Tab
end Go.Proofs.Ytdcbbjlbfghpbaa
