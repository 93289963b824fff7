/-
  Table.Put. Conditions: those that each theorem names.
-/
import Derived.Test.YtdcbbjlbfghpbaaGreatDh
namespace Go.Proofs.YtdcbbjlbfghpbaaGreat
open Go Go.RowKit H2
set_option linter.unusedVariables false
set_option linter.unusedSimpArgs false
namespace Tab
set_option maxRecDepth 100000 in
set_option maxHeartbeats 8000000 in
theorem put_anyK {base : Nat} {b : Nat} {v : Value} {T : List Rt} (r : Rt) (w : World) (h : Tb base w b v T) :
    Calls Tryz.prog 35 #[.pointer (some ⟨b, 0, none⟩), .agg (encR r).toArray] w fun e w' => ∃ v', e = .returned (.int .i64 (putC T r)) ∧ Tb base w' b v' (putT T r) ∧ Only (fun k => k = b ∨ v.ownBlock = some k) w w' ∧ Kin w v v' := by
  have HT := Lib.hid h
  have HF := Lib.hid (fun (W : World) (hb : Below w.heap.size w W) => find_any r.to W (HT.out.below hb))
  have HTC := Lib.hid (fun (W : World) (hb : Below w.heap.size w W) => (HT.out.below hb).cell)
  have HO0 := Lib.hid (fun (W : World) (hb : Below w.heap.size w W) => (Only.refl (fun k => k = b ∨ v.ownBlock = some k) w).of_below hb)
  have HN := Lib.hid h.tok.len
  obtain ⟨A, cap, hv, _⟩ := own_rv h.own
  obtain rfl := hv.eq
  have HV := Lib.hid hv
  have HBW := Lib.hid h.lt
  clear hv h
  obtain ⟨n, hn⟩ : ∃ n, T.length = n := ⟨_, rfl⟩
  have HNN := Lib.hid hn
  rw [hn] at HTC HN HO0 ⊢
  clear hn
  obtain ⟨x, hx⟩ : ∃ x, pos T r.to = x := ⟨_, rfl⟩
  have HX := Lib.hid hx
  rw [hx] at HF
  clear hx
  by_cases hr : right r = true
  · have HR := Lib.hid hr
    by_cases hh : has T r.to = true
    · have HH := Lib.hid hh
      have HC := Lib.hid (show putC T r = 0 ∧ putT T r = ins T r by unfold putC putT; rw [if_pos hr, if_pos hr, if_pos hh, if_pos hh]; exact ⟨rfl, rfl⟩)
      have HI := Lib.hid (show T.set x r = ins T r by rw [← HX.out]; exact ins_has HT.out.tok.srt hh)
      have HTK := Lib.hid (tok_ins HT.out.tok hr (.inl hh))
      have hxn : x < n := by rw [← HX.out, ← HNN.out]; exact ((pos_has HT.out.tok.srt r.to).1 hh).1
      have hor := HT.out.own.2
      rw [HNN.out] at hor
      rcases hor with ⟨h0, _⟩ | ⟨g, cap', cur, hve, hbg, hh0, hc, hm, hsz, ht⟩
      · exfalso; simp only [Value.slice.injEq] at h0; omega
      simp only [Value.slice.injEq, true_and] at hve
      obtain ⟨rfl, rfl⟩ := hve
      have hcap20 : n * 20 ≤ cap * 20 := Nat.mul_le_mul_right 20 hc
      have HHG := Lib.hid hh0
      have HBG := Lib.hid hbg
      have hsp := splice_set cur T r x (by rw [HNN.out]; exact hxn) (by rw [HNN.out, hsz]; exact hcap20) (by rw [HNN.out]; exact ht)
      rw [HNN.out, HI.out] at hsp
      have HSP := Lib.hid hsp
      have HSS := Lib.hid (show (splice cur (x * 20) (encR r)).size = cap * 20 by rw [splice_size (by rw [encR_len, hsz]; omega), hsz])
      have HSZ := Lib.hid (show x * 20 + 20 ≤ cur.size by rw [hsz]; omega)
      have HCN := Lib.hid (And.intro hc hm)
      have HLEN := Lib.hid (show (ins T r).length = n by rw [← HI.out, List.length_set, HNN.out])
      have HGB := Lib.hid (show g ≠ b from fun e => own_ne HT.out.own HT.out.blk (by subst e; rfl))
      clear hr hh hh0 hbg hc hm hsz ht hcap20 hsp
      go_enter Tryz.func35, Tryz.ntmps35
      go_upto_region 1 with fail
      have H := Lib.hid (rAt_new w r 36 (0, 0))
      have hb := Lib.hid (show Below w.heap.size w (w.alloc (.cells (encR r).toArray 36 (0, 0))) from (Below.refl _ _).alloc (Nat.le_refl _) _)
      obtain ⟨B, hB⟩ : ∃ b, w.heap.size = b := ⟨_, rfl⟩
      have HBB := Lib.hid hB
      generalize w.alloc _ = W at H hb ⊢
      rw [hB] at H ⊢
      clear hB
      have c0 := H.out.to.all.load (k := n18) (encP_n _) Tryz.prog
      go_upto_region 3 with (go_at_call 32; (with_reducible refine (HF.out _ hb.out).mono ?_); rintro e w2 ⟨rfl, hb2⟩; rw [HH.out]; have H := Lib.hid (H.out.below hb2); have hb := Lib.hid (hb.out.trans (hb2.mono hb.out.size)); clear hb2 c0)
      have c0 := H.out.all.load (k := n20) (encR_n _) Tryz.prog
      go_upto_region 5 with fail
      go_upto_region 8 with (go_at_call 26; (with_reducible refine (right_any _ _).mono ?_); rintro e w3 ⟨rfl, hb3⟩; rw [HR.out]; have H := Lib.hid (H.out.below hb3); have hb := Lib.hid (hb.out.trans (hb3.mono hb.out.size)); clear hb3 c0)
      have H := Lib.hid H.out.drew
      have hb := Lib.hid hb.out.drew
      have d0 := Lib.hid (HTC.out _ hb.out)
      have HG3 := Lib.hid ((hb.out.block g (blk_lt HHG.out)).trans HHG.out)
      have HB3 := Lib.hid ((hb.out.block b HBW.out).trans HT.out.blk)
      have hxn' : (x : Int) < (n : Int) := by omega
      have x0 : (0 : Int) ≤ (x : Int) := by omega
      have HNB := Lib.hid (show g ≠ B from fun e => by have := blk_lt HHG.out; have := HBB.out; omega)
      refine wp_region_held_drew (S := (fun w' => RAt w' B 0 r ∧ w'.cell? ⟨b, 0, none⟩ = some (.slice (some ⟨g, 0, none⟩) n cap))) (by kernel_rfl) ⟨H.out, d0.out⟩ (fun _ => ?_)
      refine held_take 0 34 (v := ?_) rfl rfl (by kernel_rfl) (by kernel_rfl) (by kernel_rfl) (fun _ _ _ h => h) (by rfl) ?_ ⟨H.out, d0.out⟩ ?_
      rotate_left
      · (intro w hSw; (try dsimp only at hSw); have c0 := hSw.1.all.load (k := n20) (encR_n _) Tryz.prog; have e0 := hSw.2; clear hSw;try simp only [List.getElem_toArray, List.getElem_cons_zero, List.getElem_cons_succ]; go_simp; try (with_reducible rfl))
      try simp only [List.setIfInBounds_toArray, List.set_cons_zero, List.set_cons_succ]
      refine held_take 1 35 (v := ?_) rfl rfl (by kernel_rfl) (by kernel_rfl) (by kernel_rfl) (fun _ _ _ h => h) (by rfl) ?_ ⟨H.out, d0.out⟩ ?_
      rotate_left
      · (intro w hSw; (try dsimp only at hSw); have c0 := hSw.1.all.load (k := n20) (encR_n _) Tryz.prog; have e0 := hSw.2; clear hSw;try simp only [List.getElem_toArray, List.getElem_cons_zero, List.getElem_cons_succ]; go_simp; try (with_reducible rfl))
      try simp only [List.setIfInBounds_toArray, List.set_cons_zero, List.set_cons_succ]
      refine held_take 2 36 (v := ?_) rfl rfl (by kernel_rfl) (by kernel_rfl) (by kernel_rfl) (fun _ _ _ h => h) (by rfl) ?_ ⟨H.out, d0.out⟩ ?_
      rotate_left
      · (intro w hSw; (try dsimp only at hSw); have c0 := hSw.1.all.load (k := n20) (encR_n _) Tryz.prog; have e0 := hSw.2; clear hSw;try simp only [List.getElem_toArray, List.getElem_cons_zero, List.getElem_cons_succ]; go_simp; try (with_reducible rfl))
      try simp only [List.setIfInBounds_toArray, List.set_cons_zero, List.set_cons_succ]
      refine held_take 3 37 (v := ?_) rfl rfl (by kernel_rfl) (by kernel_rfl) (by kernel_rfl) (fun _ _ _ h => h) (by rfl) ?_ ⟨H.out, d0.out⟩ ?_
      rotate_left
      · (intro w hSw; (try dsimp only at hSw); have c0 := hSw.1.all.load (k := n20) (encR_n _) Tryz.prog; have e0 := hSw.2; clear hSw;try simp only [List.getElem_toArray, List.getElem_cons_zero, List.getElem_cons_succ]; go_simp; try (with_reducible rfl))
      try simp only [List.setIfInBounds_toArray, List.set_cons_zero, List.set_cons_succ]
      refine held_take 4 38 (v := ?_) rfl rfl (by kernel_rfl) (by kernel_rfl) (by kernel_rfl) (fun _ _ _ h => h) (by rfl) ?_ ⟨H.out, d0.out⟩ ?_
      rotate_left
      · (intro w hSw; (try dsimp only at hSw); have c0 := hSw.1.all.load (k := n20) (encR_n _) Tryz.prog; have e0 := hSw.2; clear hSw;try simp only [List.getElem_toArray, List.getElem_cons_zero, List.getElem_cons_succ]; go_simp; try (with_reducible rfl))
      try simp only [List.setIfInBounds_toArray, List.set_cons_zero, List.set_cons_succ]
      refine held_take 5 39 (v := ?_) rfl rfl (by kernel_rfl) (by kernel_rfl) (by kernel_rfl) (fun _ _ _ h => h) (by rfl) ?_ ⟨H.out, d0.out⟩ ?_
      rotate_left
      · (intro w hSw; (try dsimp only at hSw); have c0 := hSw.1.all.load (k := n20) (encR_n _) Tryz.prog; have e0 := hSw.2; clear hSw;try simp only [List.getElem_toArray, List.getElem_cons_zero, List.getElem_cons_succ]; go_simp; try (with_reducible rfl))
      try simp only [List.setIfInBounds_toArray, List.set_cons_zero, List.set_cons_succ]
      refine held_take 6 40 (v := ?_) rfl rfl (by kernel_rfl) (by kernel_rfl) (by kernel_rfl) (fun _ _ _ h => h) (by rfl) ?_ ⟨H.out, d0.out⟩ ?_
      rotate_left
      · (intro w hSw; (try dsimp only at hSw); have c0 := hSw.1.all.load (k := n20) (encR_n _) Tryz.prog; have e0 := hSw.2; clear hSw;try simp only [List.getElem_toArray, List.getElem_cons_zero, List.getElem_cons_succ]; go_simp; try (with_reducible rfl))
      try simp only [List.setIfInBounds_toArray, List.set_cons_zero, List.set_cons_succ]
      refine held_do 7 rfl (by kernel_rfl) (by rfl) (fun K hK => ?_)
      try simp only [List.getElem_toArray, List.getElem_cons_zero, List.getElem_cons_succ]
      (have hst := store_row (o := x * n20) HG3.out (vs := encR r) (by rw [encR_len]; exact HSZ.out) (encR_one r) Tryz.prog; go_simp; have H := Lib.hid (H.out.blk (setRow_other _ g B (splice cur (x * n20) (encR r)) HNB.out.symm)); have d0 := Lib.hid ((cell_blk (setRow_other _ g b (splice cur (x * n20) (encR r)) HGB.out.symm)).trans d0.out); clear hst)
      try simp only [Act.put, List.setIfInBounds_toArray, List.set_cons_zero, List.set_cons_succ]
      refine hK.out _ _ _ ⟨H.out, d0.out⟩ ?_
      clear hK K
      refine wpAnyH_done (by kernel_rfl) ?_ _
      go_wp2
      go_ret
      have HG4 := setRow_heap _ g cur (splice cur (x * n20) (encR r)) 36 (0, 0) HG3.out
      rw [HC.out.1, HC.out.2]
      have HB4 := HB3.out
      rw [HNN.out] at HB4
      exact ⟨_, rfl, ⟨(setRow_other _ g b _ HGB.out.symm).trans HB4, (by rw [HLEN.out]; exact row_own HG4 HBG.out HLEN.out HCN.out.1 HCN.out.2 HSS.out HSP.out), HT.out.lo, HTK.out⟩, Tab.Only.setRow (HO0.out _ hb.out) (fun _ => .inr rfl) _, fun k e => .inl e⟩
    · have hh' : has T r.to = false := by simpa using hh
      have HH := Lib.hid hh'
      by_cases hn3 : n < 300
      · have HC := Lib.hid (show putC T r = 0 ∧ putT T r = ins T r by unfold putC putT; rw [HNN.out, if_pos hr, if_pos hr, if_neg hh, if_neg hh, if_pos hn3, if_pos hn3]; exact ⟨rfl, rfl⟩)
        have HI := Lib.hid (show T.insertIdx x r = ins T r by rw [← HX.out]; exact ins_not HT.out.tok.srt hh')
        have HTK := Lib.hid (tok_ins HT.out.tok hr (.inr (by rw [HNN.out]; exact hn3)))
        have hxn : x ≤ n := by rw [← HX.out, ← HNN.out]; exact pos_le T r.to
        have hn4 : ¬ (300 : Int) ≤ (n : Int) := by omega
        have HINS := Lib.hid (fun (W : World) (hb : Below w.heap.size w W) (bv : Nat) (hbv : W.heap[bv]? = some (.cells (encR r).toArray 36 (0, 0))) (hne : bv ≥ w.heap.size) => insert_any W base (.slice A n cap) T r bv x (by have := (HT.out.below hb).own; rw [HNN.out] at this ⊢; exact this) (by rw [HNN.out]; exact hxn) (by rw [HNN.out]; omega) hbv (fun e => by have := own_lt HT.out.own (by rw [HNN.out]; exact e); omega) (Nat.le_trans (Nat.le_trans HT.out.lo (Nat.le_of_lt HBW.out)) hb.size))
        clear hr hh hh'
        go_enter Tryz.func35, Tryz.ntmps35
        go_upto_region 1 with fail
        have H := Lib.hid (rAt_new w r 36 (0, 0))
        have hb := Lib.hid (show Below w.heap.size w (w.alloc (.cells (encR r).toArray 36 (0, 0))) from (Below.refl _ _).alloc (Nat.le_refl _) _)
        obtain ⟨B, hB⟩ : ∃ b, w.heap.size = b := ⟨_, rfl⟩
        have HBB := Lib.hid hB
        generalize w.alloc _ = W at H hb ⊢
        rw [hB] at H ⊢
        clear hB
        have c0 := H.out.to.all.load (k := n18) (encP_n _) Tryz.prog
        go_upto_region 3 with (go_at_call 32; (with_reducible refine (HF.out _ hb.out).mono ?_); rintro e w2 ⟨rfl, hb2⟩; rw [HH.out]; have H := Lib.hid (H.out.below hb2); have hb := Lib.hid (hb.out.trans (hb2.mono hb.out.size)); clear hb2 c0)
        have c0 := H.out.all.load (k := n20) (encR_n _) Tryz.prog
        go_upto_region 5 with fail
        go_upto_region 9 with (go_at_call 26; (with_reducible refine (right_any _ _).mono ?_); rintro e w3 ⟨rfl, hb3⟩; rw [HR.out]; have H := Lib.hid (H.out.below hb3); have hb := Lib.hid (hb.out.trans (hb3.mono hb.out.size)); clear hb3 c0)
        have d0 := HTC.out _ hb.out
        go_upto_region 2 with fail
        clear d0
        have HBV := Lib.hid (show (w3.alloc (.cells (encR r).toArray 36 (0, 0))).drew.heap[w3.heap.size]? = _ from heap_alloc_new w3 (.cells (encR r).toArray 36 (0, 0)))
        have hb5 := Lib.hid (hb.out.alloc hb.out.size (.cells (encR r).toArray 36 (0, 0))).drew
        have H5 := Lib.hid (H.out.below ((Below.refl _ _).alloc (Nat.le_refl _) (.cells (encR r).toArray 36 (0, 0)))).drew
        have d5 := Lib.hid (HTC.out _ hb5.out)
        have H := Lib.hid H.out.drew
        have hb := Lib.hid hb.out.drew
        have d0 := Lib.hid (HTC.out _ hb.out)
        have HGE := Lib.hid (show w3.heap.size ≥ w.heap.size from hb.out.size)
        have HOB := Lib.hid (fun k (e : (Value.slice A n cap).ownBlock = some k) => own_lt (base := base) (xs := flat T) (n := n) (by have := HT.out.own; rw [HNN.out] at this; exact this) e)
        have HNB := Lib.hid (fun (e : (Value.slice A n cap).ownBlock = some b) => own_ne (base := base) (xs := flat T) (n := n) (by have := HT.out.own; rw [HNN.out] at this; exact this) HT.out.blk e)
        refine wp_region_held_drew (S := (fun w' => RAt w' B 0 r)) (by kernel_rfl) H.out (fun _ => ?_)
        refine held_take 0 14 (v := ?_) rfl rfl (by kernel_rfl) (by kernel_rfl) (by kernel_rfl) (fun _ _ _ h => h) (by rfl) ?_ H.out ?_
        rotate_left
        · (intro w hSw; (try dsimp only at hSw); have c0 := hSw.all.load (k := n20) (encR_n _) Tryz.prog; clear hSw;try simp only [List.getElem_toArray, List.getElem_cons_zero, List.getElem_cons_succ]; go_simp; try (with_reducible rfl))
        try simp only [List.setIfInBounds_toArray, List.set_cons_zero, List.set_cons_succ]
        refine held_take 1 15 (v := ?_) rfl rfl (by kernel_rfl) (by kernel_rfl) (by kernel_rfl) (fun _ _ _ h => h) (by rfl) ?_ H.out ?_
        rotate_left
        · (intro w hSw; (try dsimp only at hSw); have c0 := hSw.all.load (k := n20) (encR_n _) Tryz.prog; clear hSw;try simp only [List.getElem_toArray, List.getElem_cons_zero, List.getElem_cons_succ]; go_simp; try (with_reducible rfl))
        try simp only [List.setIfInBounds_toArray, List.set_cons_zero, List.set_cons_succ]
        refine held_take 2 16 (v := ?_) rfl rfl (by kernel_rfl) (by kernel_rfl) (by kernel_rfl) (fun _ _ _ h => h) (by rfl) ?_ H.out ?_
        rotate_left
        · (intro w hSw; (try dsimp only at hSw); have c0 := hSw.all.load (k := n20) (encR_n _) Tryz.prog; clear hSw;try simp only [List.getElem_toArray, List.getElem_cons_zero, List.getElem_cons_succ]; go_simp; try (with_reducible rfl))
        try simp only [List.setIfInBounds_toArray, List.set_cons_zero, List.set_cons_succ]
        refine held_take 3 17 (v := ?_) rfl rfl (by kernel_rfl) (by kernel_rfl) (by kernel_rfl) (fun _ _ _ h => h) (by rfl) ?_ H.out ?_
        rotate_left
        · (intro w hSw; (try dsimp only at hSw); have c0 := hSw.all.load (k := n20) (encR_n _) Tryz.prog; clear hSw;try simp only [List.getElem_toArray, List.getElem_cons_zero, List.getElem_cons_succ]; go_simp; try (with_reducible rfl))
        try simp only [List.setIfInBounds_toArray, List.set_cons_zero, List.set_cons_succ]
        refine held_take 5 19 (v := ?_) rfl rfl (by kernel_rfl) (by kernel_rfl) (by kernel_rfl) (fun _ _ _ h => h) (by rfl) ?_ H.out ?_
        rotate_left
        · (intro w hSw; (try dsimp only at hSw); have c0 := hSw.all.load (k := n20) (encR_n _) Tryz.prog; clear hSw;try simp only [List.getElem_toArray, List.getElem_cons_zero, List.getElem_cons_succ]; go_simp; try (with_reducible rfl))
        try simp only [List.setIfInBounds_toArray, List.set_cons_zero, List.set_cons_succ]
        refine held_take 6 20 (v := ?_) rfl rfl (by kernel_rfl) (by kernel_rfl) (by kernel_rfl) (fun _ _ _ h => h) (by rfl) ?_ H.out ?_
        rotate_left
        · (intro w hSw; (try dsimp only at hSw); have c0 := hSw.all.load (k := n20) (encR_n _) Tryz.prog; clear hSw;try simp only [List.getElem_toArray, List.getElem_cons_zero, List.getElem_cons_succ]; go_simp; try (with_reducible rfl))
        try simp only [List.setIfInBounds_toArray, List.set_cons_zero, List.set_cons_succ]
        refine held_two 4 7 rfl rfl (by kernel_rfl) (by rfl) (by rfl) (fun K hK => ?_) (fun K hK => ?_)
        · try simp only [List.getElem_toArray, List.getElem_cons_zero, List.getElem_cons_succ]
          have e0 := d0.out
          go_simp
          clear e0
          try simp only [Act.put, List.setIfInBounds_toArray, List.set_cons_zero, List.set_cons_succ]
          refine hK.out _ _ _ H.out ?_
          clear hK K
          refine held_call 7 21 rfl rfl (by kernel_rfl) (by rfl) (fun K hK => ?_)
          try simp only [List.getElem_toArray, List.getElem_cons_zero, List.getElem_cons_succ]
          refine wp_row_run 22 1 #[(0, .tmp 20)] rfl #[(0, .agg (encR r).toArray)] (by simp [Act.eval]) (row_R1 r _) ?_
          try simp only [Act.put, List.setIfInBounds_toArray, List.set_cons_zero, List.set_cons_succ]
          refine hK.out _ _ _ H5.out ?_
          clear hK K
          have H := H5
          refine held_call 8 22 rfl rfl (by kernel_rfl) (by rfl) (fun K hK => ?_)
          try simp only [List.getElem_toArray, List.getElem_cons_zero, List.getElem_cons_succ]
          go_simp
          (go_at_call 67; (with_reducible refine (HINS.out _ hb5.out _ HBV.out HGE.out).mono ?_); rintro e w6 ⟨v', rfl, h1, h2, hk6⟩; rw [HI.out] at h1; obtain ⟨A', cap', hv', _⟩ := own_rv h1; obtain rfl := hv'.eq; have HK6 := Lib.hid (hk6.up hb5.out.size); clear hk6; have HO6 := Lib.hid h1; have HB6 := Lib.hid ((h2.block b (Nat.lt_of_lt_of_le HBW.out hb5.out.size) HNB.out).trans ((hb5.out.block b HBW.out).trans HT.out.blk)); have H := Lib.hid (H5.out.blk (h2.block B H5.out.lt (fun e => by have := HOB.out B e; have := HBB.out; omega))); have HOY := Lib.hid ((HO0.out _ hb5.out).trans h2 (fun i _ e => .inr e)); clear h1 h2 hv')
          try go_wp2_with fail
          try simp only [Act.put, List.setIfInBounds_toArray, List.set_cons_zero, List.set_cons_succ]
          refine hK.out _ _ _ H.out ?_
          clear hK K
          refine held_take 9 23 (v := ?_) rfl rfl (by kernel_rfl) (by kernel_rfl) (by kernel_rfl) (fun _ _ _ h => h) (by rfl) ?_ H.out ?_
          rotate_left
          · (intro w hSw; (try dsimp only at hSw); try simp only [List.getElem_toArray, List.getElem_cons_zero, List.getElem_cons_succ]; go_simp; try (with_reducible rfl))
          try simp only [List.setIfInBounds_toArray, List.set_cons_zero, List.set_cons_succ]
          refine held_take 10 24 (v := ?_) rfl rfl (by kernel_rfl) (by kernel_rfl) (by kernel_rfl) (fun _ _ _ h => h) (by rfl) ?_ H.out ?_
          rotate_left
          · (intro w hSw; (try dsimp only at hSw); try simp only [List.getElem_toArray, List.getElem_cons_zero, List.getElem_cons_succ]; go_simp; try (with_reducible rfl))
          try simp only [List.setIfInBounds_toArray, List.set_cons_zero, List.set_cons_succ]
          refine held_do 11 rfl (by kernel_rfl) (by rfl) (fun K hK => ?_)
          try simp only [List.getElem_toArray, List.getElem_cons_zero, List.getElem_cons_succ]
          (have e1 := blk_cell HB6.out 0; have e2 := blk_free HB6.out 0; go_simp; have H := Lib.hid (H.out.blk (Below.heap_setCell _ ⟨b, 0, none⟩ (.slice A' (ins T r).length cap') B (by have := HBW.out; have := HBB.out; show B ≠ b; omega))); clear e1 e2)
          try simp only [Act.put, List.setIfInBounds_toArray, List.set_cons_zero, List.set_cons_succ]
          refine hK.out _ _ _ H.out ?_
          clear hK K
          refine wpAnyH_done (by kernel_rfl) ?_ _
          go_wp2
          go_ret
          rw [HC.out.1, HC.out.2]
          exact ⟨_, rfl, tb_set HB6.out HO6.out HTK.out HT.out.lo, Only.setCell HOY.out (p := ⟨b, 0, none⟩) (fun _ => .inl rfl) _, HK6.out⟩
        · refine wp_row_run 22 1 #[(0, .tmp 20)] rfl #[(0, .agg (encR r).toArray)] (by simp [Act.eval]) (row_R1 r _) ?_
          try simp only [Act.put, List.setIfInBounds_toArray, List.set_cons_zero, List.set_cons_succ]
          refine hK.out _ _ _ H5.out ?_
          clear hK K
          refine held_call 4 18 rfl rfl (by kernel_rfl) (by rfl) (fun K hK => ?_)
          try simp only [List.getElem_toArray, List.getElem_cons_zero, List.getElem_cons_succ]
          have e0 := d5.out
          go_simp
          clear e0
          try simp only [Act.put, List.setIfInBounds_toArray, List.set_cons_zero, List.set_cons_succ]
          refine hK.out _ _ _ H5.out ?_
          clear hK K
          have H := H5
          refine held_call 8 22 rfl rfl (by kernel_rfl) (by rfl) (fun K hK => ?_)
          try simp only [List.getElem_toArray, List.getElem_cons_zero, List.getElem_cons_succ]
          go_simp
          (go_at_call 67; (with_reducible refine (HINS.out _ hb5.out _ HBV.out HGE.out).mono ?_); rintro e w6 ⟨v', rfl, h1, h2, hk6⟩; rw [HI.out] at h1; obtain ⟨A', cap', hv', _⟩ := own_rv h1; obtain rfl := hv'.eq; have HK6 := Lib.hid (hk6.up hb5.out.size); clear hk6; have HO6 := Lib.hid h1; have HB6 := Lib.hid ((h2.block b (Nat.lt_of_lt_of_le HBW.out hb5.out.size) HNB.out).trans ((hb5.out.block b HBW.out).trans HT.out.blk)); have H := Lib.hid (H5.out.blk (h2.block B H5.out.lt (fun e => by have := HOB.out B e; have := HBB.out; omega))); have HOY := Lib.hid ((HO0.out _ hb5.out).trans h2 (fun i _ e => .inr e)); clear h1 h2 hv')
          try go_wp2_with fail
          try simp only [Act.put, List.setIfInBounds_toArray, List.set_cons_zero, List.set_cons_succ]
          refine hK.out _ _ _ H.out ?_
          clear hK K
          refine held_take 9 23 (v := ?_) rfl rfl (by kernel_rfl) (by kernel_rfl) (by kernel_rfl) (fun _ _ _ h => h) (by rfl) ?_ H.out ?_
          rotate_left
          · (intro w hSw; (try dsimp only at hSw); try simp only [List.getElem_toArray, List.getElem_cons_zero, List.getElem_cons_succ]; go_simp; try (with_reducible rfl))
          try simp only [List.setIfInBounds_toArray, List.set_cons_zero, List.set_cons_succ]
          refine held_take 10 24 (v := ?_) rfl rfl (by kernel_rfl) (by kernel_rfl) (by kernel_rfl) (fun _ _ _ h => h) (by rfl) ?_ H.out ?_
          rotate_left
          · (intro w hSw; (try dsimp only at hSw); try simp only [List.getElem_toArray, List.getElem_cons_zero, List.getElem_cons_succ]; go_simp; try (with_reducible rfl))
          try simp only [List.setIfInBounds_toArray, List.set_cons_zero, List.set_cons_succ]
          refine held_do 11 rfl (by kernel_rfl) (by rfl) (fun K hK => ?_)
          try simp only [List.getElem_toArray, List.getElem_cons_zero, List.getElem_cons_succ]
          (have e1 := blk_cell HB6.out 0; have e2 := blk_free HB6.out 0; go_simp; have H := Lib.hid (H.out.blk (Below.heap_setCell _ ⟨b, 0, none⟩ (.slice A' (ins T r).length cap') B (by have := HBW.out; have := HBB.out; show B ≠ b; omega))); clear e1 e2)
          try simp only [Act.put, List.setIfInBounds_toArray, List.set_cons_zero, List.set_cons_succ]
          refine hK.out _ _ _ H.out ?_
          clear hK K
          refine wpAnyH_done (by kernel_rfl) ?_ _
          go_wp2
          go_ret
          rw [HC.out.1, HC.out.2]
          exact ⟨_, rfl, tb_set HB6.out HO6.out HTK.out HT.out.lo, Only.setCell HOY.out (p := ⟨b, 0, none⟩) (fun _ => .inl rfl) _, HK6.out⟩
      · have HC := Lib.hid (show putC T r = 7 ∧ putT T r = T by unfold putC putT; rw [HNN.out, if_pos hr, if_pos hr, if_neg hh, if_neg hh, if_neg hn3, if_neg hn3]; exact ⟨rfl, rfl⟩)
        have hn4 : (300 : Int) ≤ (n : Int) := by omega
        clear hr hh hh'
        go_enter Tryz.func35, Tryz.ntmps35
        go_upto_region 1 with fail
        have H := Lib.hid (rAt_new w r 36 (0, 0))
        have hb := Lib.hid (show Below w.heap.size w (w.alloc (.cells (encR r).toArray 36 (0, 0))) from (Below.refl _ _).alloc (Nat.le_refl _) _)
        obtain ⟨B, hB⟩ : ∃ b, w.heap.size = b := ⟨_, rfl⟩
        have HBB := Lib.hid hB
        generalize w.alloc _ = W at H hb ⊢
        rw [hB] at H ⊢
        clear hB
        have c0 := H.out.to.all.load (k := n18) (encP_n _) Tryz.prog
        go_upto_region 3 with (go_at_call 32; (with_reducible refine (HF.out _ hb.out).mono ?_); rintro e w2 ⟨rfl, hb2⟩; rw [HH.out]; have H := Lib.hid (H.out.below hb2); have hb := Lib.hid (hb.out.trans (hb2.mono hb.out.size)); clear hb2 c0)
        have c0 := H.out.all.load (k := n20) (encR_n _) Tryz.prog
        go_upto_region 5 with fail
        go_upto_region 9 with (go_at_call 26; (with_reducible refine (right_any _ _).mono ?_); rintro e w3 ⟨rfl, hb3⟩; rw [HR.out]; have H := Lib.hid (H.out.below hb3); have hb := Lib.hid (hb.out.trans (hb3.mono hb.out.size)); clear hb3 c0)
        have d0 := HTC.out _ hb.out
        go_wp2
        go_ret
        rw [HC.out.1, HC.out.2]
        have HT3 := HT.out.below hb.out
        rw [HNN.out] at HT3
        exact ⟨_, rfl, HT3, HO0.out _ hb.out, Kin.same _ _⟩
  · have hr' : right r = false := by simpa using hr
    have HR := Lib.hid hr'
    have HC := Lib.hid (show putC T r = 1 ∧ putT T r = T by unfold putC putT; rw [if_neg hr, if_neg hr]; exact ⟨rfl, rfl⟩)
    obtain ⟨q, hq⟩ : ∃ q, has T r.to = q := ⟨_, rfl⟩
    have HH := Lib.hid hq
    clear hr hr' hq
    go_enter Tryz.func35, Tryz.ntmps35
    go_upto_region 1 with fail
    have H := Lib.hid (rAt_new w r 36 (0, 0))
    have hb := Lib.hid (show Below w.heap.size w (w.alloc (.cells (encR r).toArray 36 (0, 0))) from (Below.refl _ _).alloc (Nat.le_refl _) _)
    obtain ⟨B, hB⟩ : ∃ b, w.heap.size = b := ⟨_, rfl⟩
    have HBB := Lib.hid hB
    generalize w.alloc _ = W at H hb ⊢
    rw [hB] at H ⊢
    clear hB
    have c0 := H.out.to.all.load (k := n18) (encP_n _) Tryz.prog
    go_upto_region 3 with (go_at_call 32; (with_reducible refine (HF.out _ hb.out).mono ?_); rintro e w2 ⟨rfl, hb2⟩; rw [HH.out]; have H := Lib.hid (H.out.below hb2); have hb := Lib.hid (hb.out.trans (hb2.mono hb.out.size)); clear hb2 c0)
    have c0 := H.out.all.load (k := n20) (encR_n _) Tryz.prog
    go_upto_region 5 with fail
    go_wp2_with (go_at_call 26; (with_reducible refine (right_any _ _).mono ?_); rintro e w3 ⟨rfl, hb3⟩; rw [HR.out]; have H := Lib.hid (H.out.below hb3); have hb := Lib.hid (hb.out.trans (hb3.mono hb.out.size)); clear hb3 c0)
    go_ret
    rw [HC.out.1, HC.out.2]
    have HT3 := HT.out.below hb.out
    rw [HNN.out] at HT3
    exact ⟨_, rfl, HT3, HO0.out _ hb.out, Kin.same _ _⟩
theorem put_any {base : Nat} {b : Nat} {v : Value} {T : List Rt} (r : Rt) (w : World) (h : Tb base w b v T) :
    Calls Tryz.prog 35 #[.pointer (some ⟨b, 0, none⟩), .agg (encR r).toArray] w fun e w' => ∃ v', e = .returned (.int .i64 (putC T r)) ∧ Tb base w' b v' (putT T r) ∧ Only (fun k => k = b ∨ v.ownBlock = some k) w w' :=
  (put_anyK r w h).mono fun e w' ⟨v', he, h1, h2, _⟩ => ⟨v', he, h1, h2⟩
end Tab
end Go.Proofs.YtdcbbjlbfghpbaaGreat
