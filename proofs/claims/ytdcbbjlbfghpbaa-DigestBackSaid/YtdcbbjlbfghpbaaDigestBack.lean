/-
  DigestBack: the walk. Conditions: none.
-/
import Derived.Test.YtdcbbjlbfghpbaaDk
import Derived.Test.YtdcbbjlbfghpbaaDl
import Derived.Test.YtdcbbjlbfghpbaaDm
namespace Go.Proofs.Ytdcbbjlbfghpbaa.DigestBack
open Go Go.RowKit H2 Tab Dig
set_option linter.unusedVariables false
set_option linter.unusedSimpArgs false
theorem zvI (w : World) : Sem.run Try.prog (zeroValue 59) w = .ok (.agg (Tab.encI zI).toArray) w := Try.zeroValue59 w
attribute [local simp 10000] zvI
theorem exec_build {P : Program} {o : Oper} {a : Act} {w : World} (t : TypeId) (parts : Array (Nat × Operand)) (ho : o.op = .build t parts) (vs : Array (Nat × Value)) (hv : (parts.map fun (i, x) => (i, a.eval x)) = vs) {v : Value}
    (hr : (Instr.build t vs).run P w = .ok v w) : (execOp a.eval o).run P w = .ok (.value v) w := by
  unfold execOp
  subst hv
  simp only [ho, hr, Sem.run_bind, Result.andThen_ok, Sem.run_pure]
set_option maxRecDepth 100000 in
set_option maxHeartbeats 40000000 in
theorem walk (v0 v1 : Value) (W : World) (w0 : Tab.IsRs W v0) (w1 : Tab.IsR W v1) : Calls Try.prog 7 #[v0, v1] W fun e w' => e = .returned (.bool true) ∧ Below W.heap.size W w' := by
  obtain ⟨A, cap, L, rfl, hl, hr⟩ := w0
  obtain ⟨r, rfl⟩ := w1
  have HR := Lib.hid hr
  obtain ⟨n, hn⟩ : ∃ n, L.length = n := ⟨_, rfl⟩
  have HN := Lib.hid hn
  rw [hn] at hl ⊢
  unfold maxLen at hl
  have hl := Nat.le_trans hl.1 hl.2
  clear hr hn
  have n0 : (0 : Int) ≤ (n : Int) := by omega
  obtain ⟨rt, hrt⟩ : ∃ y, right r = y := ⟨_, rfl⟩
  have HRT := Lib.hid hrt
  clear hrt
  by_cases hbig : (200 : Int) < (n : Int)
  · have hbd : decide ((200 : Int) < (n : Int)) = true := decide_eq_true hbig
    go_enter Try.func7, Try.ntmps7
    go_upto_region 1 with fail
    have HX := Lib.hid (rAt_new W r 37 (0, 0))
    have HB0 := Lib.hid (show Below W.heap.size W (W.alloc (.cells (encR r).toArray 37 (0, 0))) from (Below.refl _ _).alloc (Nat.le_refl _) _)
    generalize W.alloc _ = W0 at HX HB0 ⊢
    have hb := Lib.hid (Below.refl W0.heap.size W0)
    obtain ⟨B, hB⟩ : ∃ b, W.heap.size = b := ⟨_, rfl⟩
    rw [hB] at HX ⊢
    have HBW := Lib.hid hB
    clear hB
    have c0 := HX.out.all.load (k := n20) (encR_n _) Try.prog
    go_wp2_with (first
      | (go_at_call 8; (with_reducible refine (Dig.awake_any _).mono ?_); rintro e w1 ⟨rfl, h1⟩; have HX := Lib.hid (HX.out.below h1); have hb := Lib.hid (hb.out.trans (h1.mono hb.out.size)); clear h1; (try clear c0); have c0 := HX.out.all.load (k := n20) (encR_n _) Try.prog)
      | (go_at_call 30; (with_reducible refine (refR_any _ _).mono ?_); rintro e w2 ⟨rfl, h1⟩; clear c0; rw [HRT.out]; have HX := Lib.hid (HX.out.below h1); have hb := Lib.hid (hb.out.trans (h1.mono hb.out.size)); clear h1)
      | fail)
    go_ret
    exact ⟨rfl, HB0.out.trans (hb.out.mono HB0.out.size)⟩
  have hbd : decide ((200 : Int) < (n : Int)) = false := decide_eq_false hbig
  cases rt with
  | false =>
    go_enter Try.func7, Try.ntmps7
    go_upto_region 1 with fail
    have HX := Lib.hid (rAt_new W r 37 (0, 0))
    have HB0 := Lib.hid (show Below W.heap.size W (W.alloc (.cells (encR r).toArray 37 (0, 0))) from (Below.refl _ _).alloc (Nat.le_refl _) _)
    generalize W.alloc _ = W0 at HX HB0 ⊢
    have hb := Lib.hid (Below.refl W0.heap.size W0)
    obtain ⟨B, hB⟩ : ∃ b, W.heap.size = b := ⟨_, rfl⟩
    rw [hB] at HX ⊢
    have HBW := Lib.hid hB
    clear hB
    have c0 := HX.out.all.load (k := n20) (encR_n _) Try.prog
    go_wp2_with (first
      | (go_at_call 8; (with_reducible refine (Dig.awake_any _).mono ?_); rintro e w1 ⟨rfl, h1⟩; have HX := Lib.hid (HX.out.below h1); have hb := Lib.hid (hb.out.trans (h1.mono hb.out.size)); clear h1; (try clear c0); have c0 := HX.out.all.load (k := n20) (encR_n _) Try.prog)
      | (go_at_call 30; (with_reducible refine (refR_any _ _).mono ?_); rintro e w2 ⟨rfl, h1⟩; clear c0; rw [HRT.out]; have HX := Lib.hid (HX.out.below h1); have hb := Lib.hid (hb.out.trans (h1.mono hb.out.size)); clear h1)
      | fail)
    go_ret
    exact ⟨rfl, HB0.out.trans (hb.out.mono HB0.out.size)⟩
  | true =>
    have hn3 : n ≤ 200 := by omega
    have HNI := Lib.hid (Dig.rd_nil HR.out)
    obtain ⟨ca, hca⟩ : ∃ c, newC L = c := ⟨_, rfl⟩
    have HCA := Lib.hid hca
    clear hca
    by_cases hca : ca = 0
    · subst hca
      obtain ⟨T, hT⟩ : ∃ T, fold L = T := ⟨_, rfl⟩
      have HTF := Lib.hid hT
      clear hT
      go_enter Try.func7, Try.ntmps7
      go_upto_region 1 with fail
      have HX := Lib.hid (rAt_new W r 37 (0, 0))
      have HB0 := Lib.hid (show Below W.heap.size W (W.alloc (.cells (encR r).toArray 37 (0, 0))) from (Below.refl _ _).alloc (Nat.le_refl _) _)
      generalize W.alloc _ = W0 at HX HB0 ⊢
      have hb := Lib.hid (Below.refl W0.heap.size W0)
      obtain ⟨B, hB⟩ : ∃ b, W.heap.size = b := ⟨_, rfl⟩
      rw [hB] at HX ⊢
      have HBW := Lib.hid hB
      clear hB
      have c0 := HX.out.all.load (k := n20) (encR_n _) Try.prog
      go_upto_region 6 with (first
        | (go_at_call 8; (with_reducible refine (Dig.awake_any _).mono ?_); rintro e w1 ⟨rfl, h1⟩; have HX := Lib.hid (HX.out.below h1); have hb := Lib.hid (hb.out.trans (h1.mono hb.out.size)); clear h1; (try clear c0); have c0 := HX.out.all.load (k := n20) (encR_n _) Try.prog)
        | (go_at_call 30; (with_reducible refine (refR_any _ _).mono ?_); rintro e w2 ⟨rfl, h1⟩; clear c0; rw [HRT.out]; have HX := Lib.hid (HX.out.below h1); have hb := Lib.hid (hb.out.trans (h1.mono hb.out.size)); clear h1)
        | (refine wpList_row_run (o := ⟨some 28, .buildSlice 22 0 #[], _, _, _, _⟩) rfl 22 0 #[] rfl #[] (by simp) (row_R0 _) ?_)
        | (refine wpList_appR rfl (.tmp 28) (.tmp 29) rfl _ [] L A n cap HN.out rfl rfl (gr_zero w2) ((HR.out.below (HBW.out ▸ HB0.out.trans (hb.out.mono HB0.out.size))).below ((Below.refl _ _).alloc (Nat.le_refl _) _)) HNI.out (by have := HN.out; simp; omega) ?_; rintro v7 w7 h7 _; rw [List.nil_append] at h7; have HX := Lib.hid (HX.out.below h7.bel); have hb := Lib.hid (hb.out.trans (h7.bel.mono hb.out.size)); obtain ⟨A7, c7, hv7⟩ := h7.rv; obtain rfl := hv7.eq; have HNW := Lib.hid (new_any A7 c7 L (by have := HN.out; omega) w7 hv7); clear h7 hv7)
        | (go_at_call 9; (with_reducible refine (HNW.out).mono ?_); rintro e w8 ⟨h8, h9⟩; obtain ⟨b8, v8, h10, h11⟩ := made_ok h8 HCA.out HTF.out; subst h10; have HT8 := Lib.hid h11; clear h11; have HX := Lib.hid (HX.out.below h9); have hb := Lib.hid (hb.out.trans (h9.mono hb.out.size)); clear h8 h9))
      go_upto_region 7 with (go_at_call 18; (with_reducible refine (digAll_any _ HT8.out).mono ?_); rintro e w5 ⟨⟨g5, rfl, _, h1⟩, hb1⟩; have HD5 := Lib.hid h1; have HT5 := Lib.hid (HT8.out.below hb1); have HX := Lib.hid (HX.out.below hb1); have hb := Lib.hid (hb.out.trans (hb1.mono hb.out.size)); clear h1 hb1)
      clear HT8
      have HGE := Lib.hid (get_any r.to w5 HT5.out)
      have HDI := Lib.hid (show (has T r.to = true → ((get T r.to).getD zR).to = r.to) from fun h => by
        unfold has at h
        obtain ⟨x, hx⟩ := Option.isSome_iff_exists.1 h
        rw [hx]
        exact get_to hx)
      obtain ⟨was, hwas⟩ : ∃ x, (get T r.to).getD zR = x := ⟨_, rfl⟩
      obtain ⟨ok, hok⟩ : ∃ x, has T r.to = x := ⟨_, rfl⟩
      rw [hwas, hok] at HGE HDI
      clear hwas hok
      have c1 : Sem.run Try.prog (loadCellsFrom ⟨B, 0, none⟩ 0 n18 #[]) w5 = .ok (encP r.to).toArray w5 := HX.out.to.all.load (k := n18) (encP_n _) Try.prog
      go_upto_region 8 with (go_at_call 31; (with_reducible refine (HGE.out).mono ?_); rintro e w6 ⟨rfl, h1⟩; clear c1; have HX := Lib.hid (HX.out.below h1); have HD6 := Lib.hid (HD5.out.below h1); have hb := Lib.hid (hb.out.trans (h1.mono hb.out.size)); clear h1; have hst := store_row (o := 0) (vs := encR was) (heap_alloc_new w6 (.cells (encR zR).toArray 37 (0, 0))) (by simp [encR_len]) (encR_one _) Try.prog; rw [splice_whole (by simp [encR_len])] at hst)
      clear hst
      have HBX := Lib.hid (setRow_heap (w6.alloc (.cells (encR zR).toArray 37 (0, 0))) w6.heap.size _ (encR was).toArray 37 (0, 0) (heap_alloc_new w6 _))
      have hbx := Lib.hid (below_setRow ((Below.refl w6.heap.size w6).alloc (Nat.le_refl _) (.cells (encR zR).toArray 37 (0, 0))) (Nat.le_refl _) (encR was).toArray)
      have HX := Lib.hid (HX.out.below hbx.out)
      have HD7 := Lib.hid (HD6.out.below hbx.out)
      have hb := Lib.hid (hb.out.trans (hbx.out.mono hb.out.size))
      generalize (World.alloc _ _).setRow _ _ = W7 at HBX HX HD7 hb hbx ⊢
      generalize w6.heap.size = B8 at HBX ⊢
      have HV := Lib.hid (show RAt W7 B8 0 was from ⟨at_row HBX.out⟩)
      clear HBX HD6 HD5 HGE hbx
      have HTL := Lib.hid HT5.out.tok.len
      have HIR := Lib.hid (fun k => inr_dgs T HTL.out k)
      have hq17 := bk_lt r.to
      obtain ⟨q, hq⟩ : ∃ q, bk r.to = q := ⟨_, rfl⟩
      have HQ := Lib.hid hq
      rw [hq] at hq17
      clear hq HNW
      have HX7 := HX
      have HV7 := HV
      have HBB := Lib.hid (Below.refl W7.heap.size W7)
      have HX := Lib.hid HX.out.drew
      refine wp_region_held_drew (S := (fun w' => RAt w' B 0 r)) (by kernel_rfl) HX.out (fun _ => ?_)
      refine held_take 0 45 (v := ?_) rfl rfl (by kernel_rfl) (by kernel_rfl) (by kernel_rfl) (fun _ _ _ h => h) (by rfl) ?_ HX.out ?_
      rotate_left
      · (intro w hSw; (try dsimp only at hSw); have a0 := hSw.all.load (k := n20) (encR_n _) Try.prog; have a1 := hSw.to.all.load (k := n18) (encP_n _) Try.prog; clear hSw;try simp only [List.getElem_toArray, List.getElem_cons_zero, List.getElem_cons_succ]; go_simp; try (with_reducible rfl))
      try simp only [List.setIfInBounds_toArray, List.set_cons_zero, List.set_cons_succ]
      refine held_take 1 46 (v := (.agg (Tab.encI ⟨1, r⟩).toArray)) rfl rfl (by kernel_rfl) (by kernel_rfl) (by kernel_rfl) (fun _ _ _ h => h) (by rfl) ?_ HX.out ?_
      · (intro w hSw; (try dsimp only at hSw); have a0 := hSw.all.load (k := n20) (encR_n _) Try.prog; have a1 := hSw.to.all.load (k := n18) (encP_n _) Try.prog; clear hSw;(try simp only [List.getElem_toArray, List.getElem_cons_zero, List.getElem_cons_succ]); exact exec_build 59 #[(0, .const (.int .i64 1)), (1, .tmp 45)] rfl #[(0, .int .i64 1), (1, .agg (encR r).toArray)] (by simp [Act.eval]) (build_I 1 r w))
      try simp only [List.setIfInBounds_toArray, List.set_cons_zero, List.set_cons_succ]
      refine held_take 2 47 (v := ?_) rfl rfl (by kernel_rfl) (by kernel_rfl) (by kernel_rfl) (fun _ _ _ h => h) (by rfl) ?_ HX.out ?_
      rotate_left
      · (intro w hSw; (try dsimp only at hSw); have a0 := hSw.all.load (k := n20) (encR_n _) Try.prog; have a1 := hSw.to.all.load (k := n18) (encP_n _) Try.prog; clear hSw;try simp only [List.getElem_toArray, List.getElem_cons_zero, List.getElem_cons_succ]; go_simp; try (with_reducible rfl))
      try simp only [List.setIfInBounds_toArray, List.set_cons_zero, List.set_cons_succ]
      refine held_take 3 48 (v := ?_) rfl rfl (by kernel_rfl) (by kernel_rfl) (by kernel_rfl) (fun _ _ _ h => h) (by rfl) ?_ HX.out ?_
      rotate_left
      · (intro w hSw; (try dsimp only at hSw); have a0 := hSw.all.load (k := n20) (encR_n _) Try.prog; have a1 := hSw.to.all.load (k := n18) (encP_n _) Try.prog; clear hSw;try simp only [List.getElem_toArray, List.getElem_cons_zero, List.getElem_cons_succ]; go_simp; try (with_reducible rfl))
      try simp only [List.setIfInBounds_toArray, List.set_cons_zero, List.set_cons_succ]
      refine held_take 4 49 (v := (.agg (encR ⟨r.to, 0, 0⟩).toArray)) rfl rfl (by kernel_rfl) (by kernel_rfl) (by kernel_rfl) (fun _ _ _ h => h) (by rfl) ?_ HX.out ?_
      · (intro w hSw; (try dsimp only at hSw); have a0 := hSw.all.load (k := n20) (encR_n _) Try.prog; have a1 := hSw.to.all.load (k := n18) (encP_n _) Try.prog; clear hSw;(try simp only [List.getElem_toArray, List.getElem_cons_zero, List.getElem_cons_succ]); exact exec_build 37 #[(0, .tmp 48)] rfl #[(0, .agg (encP r.to).toArray)] (by simp [Act.eval]) (build_R1 r.to w))
      try simp only [List.setIfInBounds_toArray, List.set_cons_zero, List.set_cons_succ]
      refine held_take 5 50 (v := (.agg (Tab.encI ⟨3, ⟨r.to, 0, 0⟩⟩).toArray)) rfl rfl (by kernel_rfl) (by kernel_rfl) (by kernel_rfl) (fun _ _ _ h => h) (by rfl) ?_ HX.out ?_
      · (intro w hSw; (try dsimp only at hSw); have a0 := hSw.all.load (k := n20) (encR_n _) Try.prog; have a1 := hSw.to.all.load (k := n18) (encP_n _) Try.prog; clear hSw;(try simp only [List.getElem_toArray, List.getElem_cons_zero, List.getElem_cons_succ]); exact exec_build 59 #[(0, .const (.int .i64 3)), (1, .tmp 49)] rfl #[(0, .int .i64 3), (1, .agg (encR ⟨r.to, 0, 0⟩).toArray)] (by simp [Act.eval]) (build_I 3 ⟨r.to, 0, 0⟩ w))
      try simp only [List.setIfInBounds_toArray, List.set_cons_zero, List.set_cons_succ]
      refine H2.held_two 6 7 rfl rfl (by kernel_rfl) (by rfl) (by rfl) (fun K hK => ?_) (fun K hK => ?_)
      · skip
        try simp only [List.getElem_toArray, List.getElem_cons_zero, List.getElem_cons_succ]
        go_simp
        have HIA := Lib.hid (show (W7.alloc (.cells (Tab.encI zI).toArray 59 (0, 0))).drew.heap[W7.heap.size]? = some (.cells (Tab.encI zI).toArray 59 (0, 0)) from heap_alloc_new W7 _)
        have HBB := Lib.hid (HBB.out.alloc HBB.out.size (.cells (Tab.encI zI).toArray 59 (0, 0))).drew
        have HLE := Lib.hid (Nat.le_refl W7.heap.size)
        generalize (W7.alloc _).drew = Wa at HIA HBB ⊢
        obtain ⟨bA, hbA⟩ : ∃ b, W7.heap.size = b := ⟨_, rfl⟩
        rw [show (⟨W7.heap.size, 0, none⟩ : Addr) = ⟨bA, 0, none⟩ by rw [hbA]]
        have HLA := Lib.hid (show W7.heap.size ≤ bA by omega)
        have HIA := Lib.hid (show Wa.heap[bA]? = some (.cells (Tab.encI zI).toArray 59 (0, 0)) from hbA ▸ HIA.out)
        have HIAL := Lib.hid (blk_lt HIA.out)
        clear hbA HLE
        try simp only [Act.put, List.setIfInBounds_toArray, List.set_cons_zero, List.set_cons_succ]
        have HX := Lib.hid (HX7.out.below HBB.out)
        refine hK.out _ _ _ HX.out ?_
        clear hK K
        refine held_call 7 11 rfl rfl (by kernel_rfl) (by rfl) (fun K hK => ?_)
        try simp only [List.getElem_toArray, List.getElem_cons_zero, List.getElem_cons_succ]
        go_simp
        have HIB := Lib.hid (heap_alloc_new Wa (.cells (Tab.encI zI).toArray 59 (0, 0)))
        have HIA := Lib.hid (((Below.refl _ Wa).alloc (Nat.le_refl _) (.cells (Tab.encI zI).toArray 59 (0, 0))).block bA (blk_lt HIA.out) |>.trans HIA.out)
        have HNE := Lib.hid (show bA ≠ Wa.heap.size by intro e; have h9 := HBB.out; have h8 := HIA.out; have h7 := HIAL.out; omega)
        have HLB := Lib.hid (show W7.heap.size ≤ Wa.heap.size from HBB.out.size)
        have HBB := Lib.hid (HBB.out.alloc HBB.out.size (.cells (Tab.encI zI).toArray 59 (0, 0)))
        generalize Wa.heap.size = bB at HIB HNE HLB ⊢
        generalize Wa.alloc _ = Wb at HIA HIB HBB ⊢
        try simp only [Act.put, List.setIfInBounds_toArray, List.set_cons_zero, List.set_cons_succ]
        have HX := Lib.hid (HX7.out.below HBB.out)
        refine hK.out _ _ _ HX.out ?_
        clear hK K
        have hs1 := store_row (o := 0) (vs := Tab.encI ⟨1, r⟩) HIA.out (by simp [encI_len]) (encI_one _) Try.prog
        rw [splice_whole (by simp [encI_len])] at hs1
        have HI10 := Lib.hid (setRow_heap Wb bA _ (Tab.encI ⟨1, r⟩).toArray 59 (0, 0) HIA.out)
        have HI11 := Lib.hid ((setRow_other Wb bA bB (Tab.encI ⟨1, r⟩).toArray (Ne.symm (HNE.out))).trans HIB.out)
        have HBB := Lib.hid (below_setRow HBB.out HLA.out (Tab.encI ⟨1, r⟩).toArray)
        have HX := Lib.hid (HX7.out.below HBB.out)
        obtain ⟨Wc, hWc⟩ : ∃ w, Wb.setRow bA (Tab.encI ⟨1, r⟩).toArray = w := ⟨_, rfl⟩
        rw [hWc] at hs1 HI10 HI11 HBB HX
        clear hWc
        have hs2 := store_row (o := 0) (vs := Tab.encI ⟨3, ⟨r.to, 0, 0⟩⟩) HI11.out (by simp [encI_len]) (encI_one _) Try.prog
        rw [splice_whole (by simp [encI_len])] at hs2
        have HI10' := Lib.hid ((setRow_other Wc bB bA (Tab.encI ⟨3, ⟨r.to, 0, 0⟩⟩).toArray (HNE.out)).trans HI10.out)
        have HI11 := Lib.hid (setRow_heap Wc bB _ (Tab.encI ⟨3, ⟨r.to, 0, 0⟩⟩).toArray 59 (0, 0) HI11.out)
        have HBB := Lib.hid (below_setRow HBB.out HLB.out (Tab.encI ⟨3, ⟨r.to, 0, 0⟩⟩).toArray)
        have HXc := HX
        have HX := Lib.hid (HX7.out.below HBB.out)
        obtain ⟨Wd, hWd⟩ : ∃ w, Wc.setRow bB (Tab.encI ⟨3, ⟨r.to, 0, 0⟩⟩).toArray = w := ⟨_, rfl⟩
        rw [hWd] at hs2 HI10' HI11 HBB HX
        clear hWd
        refine held_do 8 rfl (by kernel_rfl) (by rfl) (fun K hK => ?_)
        try simp only [List.getElem_toArray, List.getElem_cons_zero, List.getElem_cons_succ]
        go_simp
        clear hs1
        refine hK.out _ _ _ HXc.out ?_
        clear hK K
        refine held_do 9 rfl (by kernel_rfl) (by rfl) (fun K hK => ?_)
        try simp only [List.getElem_toArray, List.getElem_cons_zero, List.getElem_cons_succ]
        go_simp
        clear hs2
        refine hK.out _ _ _ HX.out ?_
        clear hK K
        refine wpAnyH_done (by kernel_rfl) ?_ _
        clear HIA HIB HI10 HXc HIAL
        have HNEP := Lib.hid (HNE.out)
        have HLP := Lib.hid (HLA.out)
        have HLQ := Lib.hid (HLB.out)
        clear HNE HLA HLB
        generalize bA = bP at HI10' HI11 HNEP HLP ⊢
        generalize bB = bQ at HI11 HNEP HLQ ⊢
        cases ok with
        | false =>
          have HIP := HI10'
          have HIQ := HI11
          have HX := Lib.hid (HX7.out.below HBB.out)
          have HV := Lib.hid (HV7.out.below HBB.out)
          have HD := Lib.hid (HD7.out.below HBB.out)
          have c59 : Sem.run Try.prog (loadCellsFrom ⟨bP, 0, none⟩ 0 n21 #[]) Wd = .ok (Tab.encI ⟨1, r⟩).toArray Wd := (at_row HIP.out).load (k := n21) (encI_n _) Try.prog
          have cV := HV.out.all.load (k := n20) (encR_n _) Try.prog
          have HM1 := Lib.hid (more_go (some ⟨g5, 0, none⟩) 17 (dgs T) ⟨1, r⟩ was Wd HD.out.rd (show 1 ≤ (1 : Int) ∧ (1 : Int) ≤ 3 by decide))
          go_upto_region 13 with (go_at_call 26; (with_reducible refine (HM1.out).mono ?_); rintro e w12 ⟨g12, c12, rfl, _, h2, hb2⟩; clear c59 cV; have HX12 := Lib.hid h2; have HIQ := Lib.hid ((hb2.block bQ (blk_lt HIQ.out)).trans HIQ.out); have HX := Lib.hid (HX.out.below hb2); have HV := Lib.hid (HV.out.below hb2); have HD := Lib.hid (HD.out.below hb2); have HBZ := Lib.hid (HBB.out.trans (hb2.mono HBB.out.size)); clear h2 hb2)
          clear HM1
          have c59 : Sem.run Try.prog (loadCellsFrom ⟨bQ, 0, none⟩ 0 n21 #[]) w12 = .ok (Tab.encI (⟨3, ⟨r.to, 0, 0⟩⟩)).toArray w12 := (at_row HIQ.out).load (k := n21) (encI_n _) Try.prog
          have cV := HX.out.all.load (k := n20) (encR_n _) Try.prog
          have HM2 := Lib.hid (more_go (some ⟨g12, 0, none⟩) c12 (moreD (dgs T) ⟨1, r⟩ was) (⟨3, ⟨r.to, 0, 0⟩⟩) r w12 HX12.out.rd (show 1 ≤ (3 : Int) ∧ (3 : Int) ≤ 3 by decide))
          go_upto_region 14 with (go_at_call 26; (with_reducible refine (HM2.out).mono ?_); rintro e w13 ⟨g13, c13, rfl, _, h2, hb2⟩; clear c59 cV; have HY13 := Lib.hid h2; have HX13 := Lib.hid (HX12.out.below hb2).rd; have HX := Lib.hid (HX.out.below hb2); have HV := Lib.hid (HV.out.below hb2); have HD13 := Lib.hid (HD.out.below hb2); have HBZ := Lib.hid (HBZ.out.trans (hb2.mono HBZ.out.size)); clear h2 hb2)
          clear HM2 HD HX12 HIQ
          have HBZ := Lib.hid (hb.out.trans (HBZ.out.mono hb.out.size))
          have HXE := Lib.hid (show moreD (dgs T) ⟨1, r⟩ was = addF (dgs T) q (mk r) by rw [moreD1, HQ.out])
          have HYE := Lib.hid (show moreD (moreD (dgs T) ⟨1, r⟩ was) (⟨3, ⟨r.to, 0, 0⟩⟩) r = dgs T by rw [HXE.out]; rw [moreD3]; dsimp only; rw [HQ.out]; exact back_add (HIR.out q))
          have HY13 := Lib.hid (HYE.out ▸ HY13.out).rd
          have HX13 := Lib.hid (HXE.out ▸ HX13.out)
          clear HYE HXE
          have HDN := Lib.hid (differ_any (some ⟨g5, 0, none⟩) (some ⟨g12, 0, none⟩) 17 17 17 c12 (dgs T) (addF (dgs T) q (mk r)))
          obtain ⟨K, hKK⟩ : ∃ K, (difs 17 17 (dgs T) (addF (dgs T) q (mk r)) 17).length = K := ⟨_, rfl⟩
          have HKL := Lib.hid hKK
          have HKF := Lib.hid (show K = 0 ↔ False by rw [← hKK]; exact ⟨fun h => add_ne hq17 (HIR.out q) h, False.elim⟩)
          clear hKK
          have hb14 := Lib.hid (Below.refl w13.heap.size w13).drew
          have HX := Lib.hid HX.out.drew
          have HV := Lib.hid HV.out.drew
          obtain ⟨m1, hm1⟩ : ∃ m, mk was = m := ⟨_, rfl⟩
          obtain ⟨m2, hm2⟩ : ∃ m, mk r = m := ⟨_, rfl⟩
          have HM1 := Lib.hid (fun V => mark_any was V)
          have HM2 := Lib.hid (fun V => mark_any r V)
          rw [hm1] at HM1
          rw [hm2] at HM2
          clear hm1 hm2
          have hK0 : ¬ (K : Int) = 0 := fun e => HKF.out.1 (by omega)
          have hK1 : ((K : Int) == 0) = false := by simpa using hK0
          have hK2 : decide ((K : Int) = 0) = false := decide_eq_false hK0
          refine wp_region_held_drew (S := (fun w' => RAt w' B8 0 was ∧ RAt w' B 0 r)) (by kernel_rfl) ⟨HV.out, HX.out⟩ (fun _ => ?_)
          refine held_take 0 63 (v := ?_) rfl rfl (by kernel_rfl) (by kernel_rfl) (by kernel_rfl) (fun _ _ _ h => h) (by rfl) ?_ ⟨HV.out, HX.out⟩ ?_
          rotate_left
          · (intro w hSw; (try dsimp only at hSw); have a0 := hSw.1.all.load (k := n20) (encR_n _) Try.prog; have a1 := hSw.2.all.load (k := n20) (encR_n _) Try.prog; clear hSw;try simp only [List.getElem_toArray, List.getElem_cons_zero, List.getElem_cons_succ]; go_simp; try (with_reducible rfl))
          try simp only [List.setIfInBounds_toArray, List.set_cons_zero, List.set_cons_succ]
          refine held_take 1 64 (v := ?_) rfl rfl (by kernel_rfl) (by kernel_rfl) (by kernel_rfl) (fun _ _ _ h => h) (by rfl) ?_ ⟨HV.out, HX.out⟩ ?_
          rotate_left
          · (intro w hSw; (try dsimp only at hSw); have a0 := hSw.1.all.load (k := n20) (encR_n _) Try.prog; have a1 := hSw.2.all.load (k := n20) (encR_n _) Try.prog; clear hSw;try simp only [List.getElem_toArray, List.getElem_cons_zero, List.getElem_cons_succ]; go_simp; try (with_reducible rfl))
          try simp only [List.setIfInBounds_toArray, List.set_cons_zero, List.set_cons_succ]
          refine held_call 2 65 rfl rfl (by kernel_rfl) (by rfl) (fun K hK => ?_)
          try simp only [List.getElem_toArray, List.getElem_cons_zero, List.getElem_cons_succ]
          go_simp
          (go_at_call 29; (with_reducible refine (like_any (some ⟨g5, 0, none⟩) 17 17 (dgs T) (by decide) _ (HD13.out.below hb14.out).rd).mono ?_); rintro e w14 ⟨v14, rfl, h1⟩; obtain ⟨A14, c14, hv14, hr14⟩ := h1.rdl; subst hv14; have HR14 := Lib.hid hr14; have HX := Lib.hid (HX.out.below h1.bel); have HV := Lib.hid (HV.out.below h1.bel); have hb14 := Lib.hid (hb14.out.trans (h1.bel.mono hb14.out.size)); clear h1 hr14)
          try go_wp2_with fail
          try simp only [Act.put, List.setIfInBounds_toArray, List.set_cons_zero, List.set_cons_succ]
          refine hK.out _ _ _ ⟨HV.out, HX.out⟩ ?_
          clear hK K
          refine held_call 3 66 rfl rfl (by kernel_rfl) (by rfl) (fun K hK => ?_)
          try simp only [List.getElem_toArray, List.getElem_cons_zero, List.getElem_cons_succ]
          go_simp
          (go_at_call 17; (with_reducible refine (same_dig (some ⟨g13, 0, none⟩) A14 17 17 c13 c14 (dgs T) (dgs T) (by decide) _ (HY13.out.below hb14.out) HR14.out).mono ?_); rintro e w15 ⟨rfl, h1⟩; rw [sS]; have HX := Lib.hid (HX.out.below h1); have HV := Lib.hid (HV.out.below h1); have hb14 := Lib.hid (hb14.out.trans (h1.mono hb14.out.size)); clear h1)
          try go_wp2_with fail
          try simp only [Act.put, List.setIfInBounds_toArray, List.set_cons_zero, List.set_cons_succ]
          refine hK.out _ _ _ ⟨HV.out, HX.out⟩ ?_
          clear hK K
          refine held_take 4 67 (v := ?_) rfl rfl (by kernel_rfl) (by kernel_rfl) (by kernel_rfl) (fun _ _ _ h => h) (by rfl) ?_ ⟨HV.out, HX.out⟩ ?_
          rotate_left
          · (intro w hSw; (try dsimp only at hSw); have a0 := hSw.1.all.load (k := n20) (encR_n _) Try.prog; have a1 := hSw.2.all.load (k := n20) (encR_n _) Try.prog; clear hSw;try simp only [List.getElem_toArray, List.getElem_cons_zero, List.getElem_cons_succ]; go_simp; try (with_reducible rfl))
          try simp only [List.setIfInBounds_toArray, List.set_cons_zero, List.set_cons_succ]
          refine held_take 5 68 (v := ?_) rfl rfl (by kernel_rfl) (by kernel_rfl) (by kernel_rfl) (fun _ _ _ h => h) (by rfl) ?_ ⟨HV.out, HX.out⟩ ?_
          rotate_left
          · (intro w hSw; (try dsimp only at hSw); have a0 := hSw.1.all.load (k := n20) (encR_n _) Try.prog; have a1 := hSw.2.all.load (k := n20) (encR_n _) Try.prog; clear hSw;try simp only [List.getElem_toArray, List.getElem_cons_zero, List.getElem_cons_succ]; go_simp; try (with_reducible rfl))
          try simp only [List.setIfInBounds_toArray, List.set_cons_zero, List.set_cons_succ]
          refine held_take 6 69 (v := ?_) rfl rfl (by kernel_rfl) (by kernel_rfl) (by kernel_rfl) (fun _ _ _ h => h) (by rfl) ?_ ⟨HV.out, HX.out⟩ ?_
          rotate_left
          · (intro w hSw; (try dsimp only at hSw); have a0 := hSw.1.all.load (k := n20) (encR_n _) Try.prog; have a1 := hSw.2.all.load (k := n20) (encR_n _) Try.prog; clear hSw;try simp only [List.getElem_toArray, List.getElem_cons_zero, List.getElem_cons_succ]; go_simp; try (with_reducible rfl))
          try simp only [List.setIfInBounds_toArray, List.set_cons_zero, List.set_cons_succ]
          refine held_take 10 73 (v := ?_) rfl rfl (by kernel_rfl) (by kernel_rfl) (by kernel_rfl) (fun _ _ _ h => h) (by rfl) ?_ ⟨HV.out, HX.out⟩ ?_
          rotate_left
          · (intro w hSw; (try dsimp only at hSw); have a0 := hSw.1.all.load (k := n20) (encR_n _) Try.prog; have a1 := hSw.2.all.load (k := n20) (encR_n _) Try.prog; clear hSw;try simp only [List.getElem_toArray, List.getElem_cons_zero, List.getElem_cons_succ]; go_simp; try (with_reducible rfl))
          try simp only [List.setIfInBounds_toArray, List.set_cons_zero, List.set_cons_succ]
          refine held_call 7 70 rfl rfl (by kernel_rfl) (by rfl) (fun K hK => ?_)
          try simp only [List.getElem_toArray, List.getElem_cons_zero, List.getElem_cons_succ]
          go_simp
          (go_at_call 23; (with_reducible refine (HDN.out _ (HD13.out.below hb14.out).rd (HX13.out.below hb14.out)).mono ?_); rintro e w16 ⟨v16, rfl, h1⟩; obtain ⟨A16, c16, hv16, _⟩ := gn_rd h1; rw [HKL.out] at hv16; subst hv16; have HX := Lib.hid (HX.out.below h1.bel); have HV := Lib.hid (HV.out.below h1.bel); have hb14 := Lib.hid (hb14.out.trans (h1.bel.mono hb14.out.size)); clear h1)
          try go_wp2_with fail
          try simp only [Act.put, List.setIfInBounds_toArray, List.set_cons_zero, List.set_cons_succ]
          refine hK.out _ _ _ ⟨HV.out, HX.out⟩ ?_
          clear hK K
          refine held_take 8 71 (v := ?_) rfl rfl (by kernel_rfl) (by kernel_rfl) (by kernel_rfl) (fun _ _ _ h => h) (by rfl) ?_ ⟨HV.out, HX.out⟩ ?_
          rotate_left
          · (intro w hSw; (try dsimp only at hSw); have a0 := hSw.1.all.load (k := n20) (encR_n _) Try.prog; have a1 := hSw.2.all.load (k := n20) (encR_n _) Try.prog; clear hSw;try simp only [List.getElem_toArray, List.getElem_cons_zero, List.getElem_cons_succ]; go_simp; try (with_reducible rfl))
          try simp only [List.setIfInBounds_toArray, List.set_cons_zero, List.set_cons_succ]
          refine held_take 9 72 (v := ?_) rfl rfl (by kernel_rfl) (by kernel_rfl) (by kernel_rfl) (fun _ _ _ h => h) (by rfl) ?_ ⟨HV.out, HX.out⟩ ?_
          rotate_left
          · (intro w hSw; (try dsimp only at hSw); have a0 := hSw.1.all.load (k := n20) (encR_n _) Try.prog; have a1 := hSw.2.all.load (k := n20) (encR_n _) Try.prog; clear hSw;try simp only [List.getElem_toArray, List.getElem_cons_zero, List.getElem_cons_succ]; go_simp; try (with_reducible rfl))
          try simp only [List.setIfInBounds_toArray, List.set_cons_zero, List.set_cons_succ]
          refine held_take 11 74 (v := ?_) rfl rfl (by kernel_rfl) (by kernel_rfl) (by kernel_rfl) (fun _ _ _ h => h) (by rfl) ?_ ⟨HV.out, HX.out⟩ ?_
          rotate_left
          · (intro w hSw; (try dsimp only at hSw); have a0 := hSw.1.all.load (k := n20) (encR_n _) Try.prog; have a1 := hSw.2.all.load (k := n20) (encR_n _) Try.prog; clear hSw;try simp only [List.getElem_toArray, List.getElem_cons_zero, List.getElem_cons_succ]; go_simp; try (with_reducible rfl))
          try simp only [List.setIfInBounds_toArray, List.set_cons_zero, List.set_cons_succ]
          refine held_skip 12 75 rfl rfl (by kernel_rfl) (by kernel_rfl) (by kernel_rfl) (fun _ _ _ h => h) (by rfl) ⟨HV.out, HX.out⟩ ?_
          try simp only [List.setIfInBounds_toArray, List.set_cons_zero, List.set_cons_succ]
          refine held_skip 13 76 rfl rfl (by kernel_rfl) (by kernel_rfl) (by kernel_rfl) (fun _ _ _ h => h) (by rfl) ⟨HV.out, HX.out⟩ ?_
          try simp only [List.setIfInBounds_toArray, List.set_cons_zero, List.set_cons_succ]
          refine held_skip 14 77 rfl rfl (by kernel_rfl) (by kernel_rfl) (by kernel_rfl) (fun _ _ _ h => h) (by rfl) ⟨HV.out, HX.out⟩ ?_
          try simp only [List.setIfInBounds_toArray, List.set_cons_zero, List.set_cons_succ]
          refine held_skip 15 78 rfl rfl (by kernel_rfl) (by kernel_rfl) (by kernel_rfl) (fun _ _ _ h => h) (by rfl) ⟨HV.out, HX.out⟩ ?_
          try simp only [List.setIfInBounds_toArray, List.set_cons_zero, List.set_cons_succ]
          refine held_skip 16 79 rfl rfl (by kernel_rfl) (by kernel_rfl) (by kernel_rfl) (fun _ _ _ h => h) (by rfl) ⟨HV.out, HX.out⟩ ?_
          try simp only [List.setIfInBounds_toArray, List.set_cons_zero, List.set_cons_succ]
          refine held_take 17 80 (v := ?_) rfl rfl (by kernel_rfl) (by kernel_rfl) (by kernel_rfl) (fun _ _ _ h => h) (by rfl) ?_ ⟨HV.out, HX.out⟩ ?_
          rotate_left
          · (intro w hSw; (try dsimp only at hSw); have a0 := hSw.1.all.load (k := n20) (encR_n _) Try.prog; have a1 := hSw.2.all.load (k := n20) (encR_n _) Try.prog; clear hSw;try simp only [List.getElem_toArray, List.getElem_cons_zero, List.getElem_cons_succ]; go_simp; try (with_reducible rfl))
          try simp only [List.setIfInBounds_toArray, List.set_cons_zero, List.set_cons_succ]
          refine held_take 18 81 (v := ?_) rfl rfl (by kernel_rfl) (by kernel_rfl) (by kernel_rfl) (fun _ _ _ h => h) (by rfl) ?_ ⟨HV.out, HX.out⟩ ?_
          rotate_left
          · (intro w hSw; (try dsimp only at hSw); have a0 := hSw.1.all.load (k := n20) (encR_n _) Try.prog; have a1 := hSw.2.all.load (k := n20) (encR_n _) Try.prog; clear hSw;try simp only [List.getElem_toArray, List.getElem_cons_zero, List.getElem_cons_succ]; go_simp; try (with_reducible rfl))
          try simp only [List.setIfInBounds_toArray, List.set_cons_zero, List.set_cons_succ]
          refine held_take 19 82 (v := ?_) rfl rfl (by kernel_rfl) (by kernel_rfl) (by kernel_rfl) (fun _ _ _ h => h) (by rfl) ?_ ⟨HV.out, HX.out⟩ ?_
          rotate_left
          · (intro w hSw; (try dsimp only at hSw); have a0 := hSw.1.all.load (k := n20) (encR_n _) Try.prog; have a1 := hSw.2.all.load (k := n20) (encR_n _) Try.prog; clear hSw;try simp only [List.getElem_toArray, List.getElem_cons_zero, List.getElem_cons_succ]; go_simp; try (with_reducible rfl))
          try simp only [List.setIfInBounds_toArray, List.set_cons_zero, List.set_cons_succ]
          refine held_take 20 4 (v := ?_) rfl rfl (by kernel_rfl) (by kernel_rfl) (by kernel_rfl) (fun _ _ _ h => h) (by rfl) ?_ ⟨HV.out, HX.out⟩ ?_
          rotate_left
          · (intro w hSw; (try dsimp only at hSw); have a0 := hSw.1.all.load (k := n20) (encR_n _) Try.prog; have a1 := hSw.2.all.load (k := n20) (encR_n _) Try.prog; clear hSw;try simp only [List.getElem_toArray, List.getElem_cons_zero, List.getElem_cons_succ]; go_simp; try (with_reducible rfl))
          try simp only [List.setIfInBounds_toArray, List.set_cons_zero, List.set_cons_succ]
          refine wpAnyH_done (by kernel_rfl) ?_ _
          go_wp2
          go_ret
          exact ⟨rfl, HB0.out.trans ((HBZ.out.trans (hb14.out.mono HBZ.out.size)).mono HB0.out.size)⟩
        | true =>
          have hwt := HDI.out rfl
          have y1 : Wd.cell? ⟨bP, 0, none⟩ = some (.int .i64 1) := (blk_cell HI10'.out 0).trans rfl
          have y2 := blk_free HI10'.out 0
          go_upto_region 11 with fail
          clear y1 y2
          have HIP := Lib.hid (show (Wd.setCell ⟨bP, 0, none⟩ (.int .i64 2)).heap[bP]? = some (.cells (Tab.encI ⟨2, r⟩).toArray 59 (0, 0)) from blk_set HI10'.out 0 _)
          have HIQ := Lib.hid ((Below.heap_setCell Wd ⟨bP, 0, none⟩ (.int .i64 2) bQ (fun e => HNEP.out e.symm)).trans HI11.out)
          have HBB := Lib.hid (HBB.out.setCell HLP.out (p := ⟨bP, 0, none⟩) (.int .i64 2))
          generalize Wd.setCell _ _ = We at HIP HIQ HBB ⊢
          have HV := Lib.hid (HV7.out.below HBB.out)
          have cV := HV.out.all.load (k := n20) (encR_n _) Try.prog
          have hs := store_row (o := 0) (vs := Tab.encI ⟨2, was⟩) HIQ.out (by simp [encI_len]) (encI_one _) Try.prog
          rw [splice_whole (by simp [encI_len])] at hs
          go_upto_region 12 with (refine wpList_build_run (o := ⟨some 54, .build 59 #[(0, .const (.int .i64 2)), (1, .tmp 53)], _, _, _, _⟩) rfl 59 #[(0, .const (.int .i64 2)), (1, .tmp 53)] rfl #[(0, .int .i64 2), (1, .agg (encR was).toArray)] (by simp [Act.eval, Act.put]) (build_I 2 was _) ?_)
          clear hs cV
          have HIP := Lib.hid ((setRow_other We bQ bP (Tab.encI ⟨2, was⟩).toArray HNEP.out).trans HIP.out)
          have HIQ := Lib.hid (setRow_heap We bQ _ (Tab.encI ⟨2, was⟩).toArray 59 (0, 0) HIQ.out)
          have HBB := Lib.hid (below_setRow HBB.out HLQ.out (Tab.encI ⟨2, was⟩).toArray)
          generalize We.setRow _ _ = Wf at HIP HIQ HBB ⊢
          have HX := Lib.hid (HX7.out.below HBB.out)
          have HV := Lib.hid (HV7.out.below HBB.out)
          have HD := Lib.hid (HD7.out.below HBB.out)
          have c59 : Sem.run Try.prog (loadCellsFrom ⟨bP, 0, none⟩ 0 n21 #[]) Wf = .ok (Tab.encI ⟨2, r⟩).toArray Wf := (at_row HIP.out).load (k := n21) (encI_n _) Try.prog
          have cV := HV.out.all.load (k := n20) (encR_n _) Try.prog
          have HM1 := Lib.hid (more_go (some ⟨g5, 0, none⟩) 17 (dgs T) ⟨2, r⟩ was Wf HD.out.rd (show 1 ≤ (2 : Int) ∧ (2 : Int) ≤ 3 by decide))
          go_upto_region 13 with (go_at_call 26; (with_reducible refine (HM1.out).mono ?_); rintro e w12 ⟨g12, c12, rfl, _, h2, hb2⟩; clear c59 cV; have HX12 := Lib.hid h2; have HIQ := Lib.hid ((hb2.block bQ (blk_lt HIQ.out)).trans HIQ.out); have HX := Lib.hid (HX.out.below hb2); have HV := Lib.hid (HV.out.below hb2); have HD := Lib.hid (HD.out.below hb2); have HBZ := Lib.hid (HBB.out.trans (hb2.mono HBB.out.size)); clear h2 hb2)
          clear HM1
          have c59 : Sem.run Try.prog (loadCellsFrom ⟨bQ, 0, none⟩ 0 n21 #[]) w12 = .ok (Tab.encI (⟨2, was⟩)).toArray w12 := (at_row HIQ.out).load (k := n21) (encI_n _) Try.prog
          have cV := HX.out.all.load (k := n20) (encR_n _) Try.prog
          have HM2 := Lib.hid (more_go (some ⟨g12, 0, none⟩) c12 (moreD (dgs T) ⟨2, r⟩ was) (⟨2, was⟩) r w12 HX12.out.rd (show 1 ≤ (2 : Int) ∧ (2 : Int) ≤ 3 by decide))
          go_upto_region 14 with (go_at_call 26; (with_reducible refine (HM2.out).mono ?_); rintro e w13 ⟨g13, c13, rfl, _, h2, hb2⟩; clear c59 cV; have HY13 := Lib.hid h2; have HX13 := Lib.hid (HX12.out.below hb2).rd; have HX := Lib.hid (HX.out.below hb2); have HV := Lib.hid (HV.out.below hb2); have HD13 := Lib.hid (HD.out.below hb2); have HBZ := Lib.hid (HBZ.out.trans (hb2.mono HBZ.out.size)); clear h2 hb2)
          clear HM2 HD HX12 HIQ
          have HBZ := Lib.hid (hb.out.trans (HBZ.out.mono hb.out.size))
          have HXE := Lib.hid (show moreD (dgs T) ⟨2, r⟩ was = addF (subF (dgs T) q (mk was)) q (mk r) by rw [moreD2, HQ.out])
          have HYE := Lib.hid (show moreD (moreD (dgs T) ⟨2, r⟩ was) (⟨2, was⟩) r = dgs T by rw [HXE.out]; rw [moreD2, hwt, HQ.out]; exact back_change (HIR.out q))
          have HY13 := Lib.hid (HYE.out ▸ HY13.out).rd
          have HX13 := Lib.hid (HXE.out ▸ HX13.out)
          clear HYE HXE
          clear hwt
          have HDN := Lib.hid (differ_any (some ⟨g5, 0, none⟩) (some ⟨g12, 0, none⟩) 17 17 17 c12 (dgs T) (addF (subF (dgs T) q (mk was)) q (mk r)))
          obtain ⟨K, hKK⟩ : ∃ K, (difs 17 17 (dgs T) (addF (subF (dgs T) q (mk was)) q (mk r)) 17).length = K := ⟨_, rfl⟩
          have HKL := Lib.hid hKK
          have HKF := Lib.hid (show K = 0 ↔ mk was = mk r by rw [← hKK]; exact change_eq hq17 (HIR.out q) (mk_range _) (mk_range _))
          clear hKK
          have hb14 := Lib.hid (Below.refl w13.heap.size w13).drew
          have HX := Lib.hid HX.out.drew
          have HV := Lib.hid HV.out.drew
          obtain ⟨m1, hm1⟩ : ∃ m, mk was = m := ⟨_, rfl⟩
          obtain ⟨m2, hm2⟩ : ∃ m, mk r = m := ⟨_, rfl⟩
          have HM1 := Lib.hid (fun V => mark_any was V)
          have HM2 := Lib.hid (fun V => mark_any r V)
          rw [hm1] at HM1
          rw [hm2] at HM2
          rw [hm1, hm2] at HKF
          clear hm1 hm2
          by_cases hmm : m1 = m2
          · have hK0 : K = 0 := HKF.out.2 hmm
            subst hmm
            subst hK0
            refine wp_region_held_drew (S := (fun w' => RAt w' B8 0 was ∧ RAt w' B 0 r)) (by kernel_rfl) ⟨HV.out, HX.out⟩ (fun _ => ?_)
            refine held_take 0 63 (v := ?_) rfl rfl (by kernel_rfl) (by kernel_rfl) (by kernel_rfl) (fun _ _ _ h => h) (by rfl) ?_ ⟨HV.out, HX.out⟩ ?_
            rotate_left
            · (intro w hSw; (try dsimp only at hSw); have a0 := hSw.1.all.load (k := n20) (encR_n _) Try.prog; have a1 := hSw.2.all.load (k := n20) (encR_n _) Try.prog; clear hSw;try simp only [List.getElem_toArray, List.getElem_cons_zero, List.getElem_cons_succ]; go_simp; try (with_reducible rfl))
            try simp only [List.setIfInBounds_toArray, List.set_cons_zero, List.set_cons_succ]
            refine held_take 1 64 (v := ?_) rfl rfl (by kernel_rfl) (by kernel_rfl) (by kernel_rfl) (fun _ _ _ h => h) (by rfl) ?_ ⟨HV.out, HX.out⟩ ?_
            rotate_left
            · (intro w hSw; (try dsimp only at hSw); have a0 := hSw.1.all.load (k := n20) (encR_n _) Try.prog; have a1 := hSw.2.all.load (k := n20) (encR_n _) Try.prog; clear hSw;try simp only [List.getElem_toArray, List.getElem_cons_zero, List.getElem_cons_succ]; go_simp; try (with_reducible rfl))
            try simp only [List.setIfInBounds_toArray, List.set_cons_zero, List.set_cons_succ]
            refine held_call 2 65 rfl rfl (by kernel_rfl) (by rfl) (fun K hK => ?_)
            try simp only [List.getElem_toArray, List.getElem_cons_zero, List.getElem_cons_succ]
            go_simp
            (go_at_call 29; (with_reducible refine (like_any (some ⟨g5, 0, none⟩) 17 17 (dgs T) (by decide) _ (HD13.out.below hb14.out).rd).mono ?_); rintro e w14 ⟨v14, rfl, h1⟩; obtain ⟨A14, c14, hv14, hr14⟩ := h1.rdl; subst hv14; have HR14 := Lib.hid hr14; have HX := Lib.hid (HX.out.below h1.bel); have HV := Lib.hid (HV.out.below h1.bel); have hb14 := Lib.hid (hb14.out.trans (h1.bel.mono hb14.out.size)); clear h1 hr14)
            try go_wp2_with fail
            try simp only [Act.put, List.setIfInBounds_toArray, List.set_cons_zero, List.set_cons_succ]
            refine hK.out _ _ _ ⟨HV.out, HX.out⟩ ?_
            clear hK K
            refine held_call 3 66 rfl rfl (by kernel_rfl) (by rfl) (fun K hK => ?_)
            try simp only [List.getElem_toArray, List.getElem_cons_zero, List.getElem_cons_succ]
            go_simp
            (go_at_call 17; (with_reducible refine (same_dig (some ⟨g13, 0, none⟩) A14 17 17 c13 c14 (dgs T) (dgs T) (by decide) _ (HY13.out.below hb14.out) HR14.out).mono ?_); rintro e w15 ⟨rfl, h1⟩; rw [sS]; have HX := Lib.hid (HX.out.below h1); have HV := Lib.hid (HV.out.below h1); have hb14 := Lib.hid (hb14.out.trans (h1.mono hb14.out.size)); clear h1)
            try go_wp2_with fail
            try simp only [Act.put, List.setIfInBounds_toArray, List.set_cons_zero, List.set_cons_succ]
            refine hK.out _ _ _ ⟨HV.out, HX.out⟩ ?_
            clear hK K
            refine held_take 4 67 (v := ?_) rfl rfl (by kernel_rfl) (by kernel_rfl) (by kernel_rfl) (fun _ _ _ h => h) (by rfl) ?_ ⟨HV.out, HX.out⟩ ?_
            rotate_left
            · (intro w hSw; (try dsimp only at hSw); have a0 := hSw.1.all.load (k := n20) (encR_n _) Try.prog; have a1 := hSw.2.all.load (k := n20) (encR_n _) Try.prog; clear hSw;try simp only [List.getElem_toArray, List.getElem_cons_zero, List.getElem_cons_succ]; go_simp; try (with_reducible rfl))
            try simp only [List.setIfInBounds_toArray, List.set_cons_zero, List.set_cons_succ]
            refine held_take 5 68 (v := ?_) rfl rfl (by kernel_rfl) (by kernel_rfl) (by kernel_rfl) (fun _ _ _ h => h) (by rfl) ?_ ⟨HV.out, HX.out⟩ ?_
            rotate_left
            · (intro w hSw; (try dsimp only at hSw); have a0 := hSw.1.all.load (k := n20) (encR_n _) Try.prog; have a1 := hSw.2.all.load (k := n20) (encR_n _) Try.prog; clear hSw;try simp only [List.getElem_toArray, List.getElem_cons_zero, List.getElem_cons_succ]; go_simp; try (with_reducible rfl))
            try simp only [List.setIfInBounds_toArray, List.set_cons_zero, List.set_cons_succ]
            refine held_take 6 69 (v := ?_) rfl rfl (by kernel_rfl) (by kernel_rfl) (by kernel_rfl) (fun _ _ _ h => h) (by rfl) ?_ ⟨HV.out, HX.out⟩ ?_
            rotate_left
            · (intro w hSw; (try dsimp only at hSw); have a0 := hSw.1.all.load (k := n20) (encR_n _) Try.prog; have a1 := hSw.2.all.load (k := n20) (encR_n _) Try.prog; clear hSw;try simp only [List.getElem_toArray, List.getElem_cons_zero, List.getElem_cons_succ]; go_simp; try (with_reducible rfl))
            try simp only [List.setIfInBounds_toArray, List.set_cons_zero, List.set_cons_succ]
            refine held_take 10 73 (v := ?_) rfl rfl (by kernel_rfl) (by kernel_rfl) (by kernel_rfl) (fun _ _ _ h => h) (by rfl) ?_ ⟨HV.out, HX.out⟩ ?_
            rotate_left
            · (intro w hSw; (try dsimp only at hSw); have a0 := hSw.1.all.load (k := n20) (encR_n _) Try.prog; have a1 := hSw.2.all.load (k := n20) (encR_n _) Try.prog; clear hSw;try simp only [List.getElem_toArray, List.getElem_cons_zero, List.getElem_cons_succ]; go_simp; try (with_reducible rfl))
            try simp only [List.setIfInBounds_toArray, List.set_cons_zero, List.set_cons_succ]
            refine held_call 7 70 rfl rfl (by kernel_rfl) (by rfl) (fun K hK => ?_)
            try simp only [List.getElem_toArray, List.getElem_cons_zero, List.getElem_cons_succ]
            go_simp
            (go_at_call 23; (with_reducible refine (HDN.out _ (HD13.out.below hb14.out).rd (HX13.out.below hb14.out)).mono ?_); rintro e w16 ⟨v16, rfl, h1⟩; obtain ⟨A16, c16, hv16, _⟩ := gn_rd h1; rw [HKL.out] at hv16; subst hv16; have HX := Lib.hid (HX.out.below h1.bel); have HV := Lib.hid (HV.out.below h1.bel); have hb14 := Lib.hid (hb14.out.trans (h1.bel.mono hb14.out.size)); clear h1)
            try go_wp2_with fail
            try simp only [Act.put, List.setIfInBounds_toArray, List.set_cons_zero, List.set_cons_succ]
            refine hK.out _ _ _ ⟨HV.out, HX.out⟩ ?_
            clear hK K
            refine held_take 8 71 (v := ?_) rfl rfl (by kernel_rfl) (by kernel_rfl) (by kernel_rfl) (fun _ _ _ h => h) (by rfl) ?_ ⟨HV.out, HX.out⟩ ?_
            rotate_left
            · (intro w hSw; (try dsimp only at hSw); have a0 := hSw.1.all.load (k := n20) (encR_n _) Try.prog; have a1 := hSw.2.all.load (k := n20) (encR_n _) Try.prog; clear hSw;try simp only [List.getElem_toArray, List.getElem_cons_zero, List.getElem_cons_succ]; go_simp; try (with_reducible rfl))
            try simp only [List.setIfInBounds_toArray, List.set_cons_zero, List.set_cons_succ]
            refine held_take 9 72 (v := ?_) rfl rfl (by kernel_rfl) (by kernel_rfl) (by kernel_rfl) (fun _ _ _ h => h) (by rfl) ?_ ⟨HV.out, HX.out⟩ ?_
            rotate_left
            · (intro w hSw; (try dsimp only at hSw); have a0 := hSw.1.all.load (k := n20) (encR_n _) Try.prog; have a1 := hSw.2.all.load (k := n20) (encR_n _) Try.prog; clear hSw;try simp only [List.getElem_toArray, List.getElem_cons_zero, List.getElem_cons_succ]; go_simp; try (with_reducible rfl))
            try simp only [List.setIfInBounds_toArray, List.set_cons_zero, List.set_cons_succ]
            refine held_take 11 74 (v := ?_) rfl rfl (by kernel_rfl) (by kernel_rfl) (by kernel_rfl) (fun _ _ _ h => h) (by rfl) ?_ ⟨HV.out, HX.out⟩ ?_
            rotate_left
            · (intro w hSw; (try dsimp only at hSw); have a0 := hSw.1.all.load (k := n20) (encR_n _) Try.prog; have a1 := hSw.2.all.load (k := n20) (encR_n _) Try.prog; clear hSw;try simp only [List.getElem_toArray, List.getElem_cons_zero, List.getElem_cons_succ]; go_simp; try (with_reducible rfl))
            try simp only [List.setIfInBounds_toArray, List.set_cons_zero, List.set_cons_succ]
            refine held_take 12 75 (v := ?_) rfl rfl (by kernel_rfl) (by kernel_rfl) (by kernel_rfl) (fun _ _ _ h => h) (by rfl) ?_ ⟨HV.out, HX.out⟩ ?_
            rotate_left
            · (intro w hSw; (try dsimp only at hSw); have a0 := hSw.1.all.load (k := n20) (encR_n _) Try.prog; have a1 := hSw.2.all.load (k := n20) (encR_n _) Try.prog; clear hSw;try simp only [List.getElem_toArray, List.getElem_cons_zero, List.getElem_cons_succ]; go_simp; try (with_reducible rfl))
            try simp only [List.setIfInBounds_toArray, List.set_cons_zero, List.set_cons_succ]
            refine held_take 14 77 (v := ?_) rfl rfl (by kernel_rfl) (by kernel_rfl) (by kernel_rfl) (fun _ _ _ h => h) (by rfl) ?_ ⟨HV.out, HX.out⟩ ?_
            rotate_left
            · (intro w hSw; (try dsimp only at hSw); have a0 := hSw.1.all.load (k := n20) (encR_n _) Try.prog; have a1 := hSw.2.all.load (k := n20) (encR_n _) Try.prog; clear hSw;try simp only [List.getElem_toArray, List.getElem_cons_zero, List.getElem_cons_succ]; go_simp; try (with_reducible rfl))
            try simp only [List.setIfInBounds_toArray, List.set_cons_zero, List.set_cons_succ]
            refine held_call 13 76 rfl rfl (by kernel_rfl) (by rfl) (fun K hK => ?_)
            try simp only [List.getElem_toArray, List.getElem_cons_zero, List.getElem_cons_succ]
            go_simp
            (go_at_call 13; (with_reducible refine (HM1.out _).mono ?_); rintro e w17 ⟨rfl, h1⟩; have HX := Lib.hid (HX.out.below h1); have HV := Lib.hid (HV.out.below h1); have hb14 := Lib.hid (hb14.out.trans (h1.mono hb14.out.size)); clear h1)
            try go_wp2_with fail
            try simp only [Act.put, List.setIfInBounds_toArray, List.set_cons_zero, List.set_cons_succ]
            refine hK.out _ _ _ ⟨HV.out, HX.out⟩ ?_
            clear hK K
            refine held_call 15 78 rfl rfl (by kernel_rfl) (by rfl) (fun K hK => ?_)
            try simp only [List.getElem_toArray, List.getElem_cons_zero, List.getElem_cons_succ]
            go_simp
            (go_at_call 13; (with_reducible refine (HM2.out _).mono ?_); rintro e w18 ⟨rfl, h1⟩; have HX := Lib.hid (HX.out.below h1); have HV := Lib.hid (HV.out.below h1); have hb14 := Lib.hid (hb14.out.trans (h1.mono hb14.out.size)); clear h1)
            try go_wp2_with fail
            try simp only [Act.put, List.setIfInBounds_toArray, List.set_cons_zero, List.set_cons_succ]
            refine hK.out _ _ _ ⟨HV.out, HX.out⟩ ?_
            clear hK K
            refine held_take 16 79 (v := ?_) rfl rfl (by kernel_rfl) (by kernel_rfl) (by kernel_rfl) (fun _ _ _ h => h) (by rfl) ?_ ⟨HV.out, HX.out⟩ ?_
            rotate_left
            · (intro w hSw; (try dsimp only at hSw); have a0 := hSw.1.all.load (k := n20) (encR_n _) Try.prog; have a1 := hSw.2.all.load (k := n20) (encR_n _) Try.prog; clear hSw;try simp only [List.getElem_toArray, List.getElem_cons_zero, List.getElem_cons_succ]; go_simp; try (with_reducible rfl))
            try simp only [List.setIfInBounds_toArray, List.set_cons_zero, List.set_cons_succ]
            refine held_take 17 80 (v := ?_) rfl rfl (by kernel_rfl) (by kernel_rfl) (by kernel_rfl) (fun _ _ _ h => h) (by rfl) ?_ ⟨HV.out, HX.out⟩ ?_
            rotate_left
            · (intro w hSw; (try dsimp only at hSw); have a0 := hSw.1.all.load (k := n20) (encR_n _) Try.prog; have a1 := hSw.2.all.load (k := n20) (encR_n _) Try.prog; clear hSw;try simp only [List.getElem_toArray, List.getElem_cons_zero, List.getElem_cons_succ]; go_simp; try (with_reducible rfl))
            try simp only [List.setIfInBounds_toArray, List.set_cons_zero, List.set_cons_succ]
            refine held_take 18 81 (v := ?_) rfl rfl (by kernel_rfl) (by kernel_rfl) (by kernel_rfl) (fun _ _ _ h => h) (by rfl) ?_ ⟨HV.out, HX.out⟩ ?_
            rotate_left
            · (intro w hSw; (try dsimp only at hSw); have a0 := hSw.1.all.load (k := n20) (encR_n _) Try.prog; have a1 := hSw.2.all.load (k := n20) (encR_n _) Try.prog; clear hSw;try simp only [List.getElem_toArray, List.getElem_cons_zero, List.getElem_cons_succ]; go_simp; try (with_reducible rfl))
            try simp only [List.setIfInBounds_toArray, List.set_cons_zero, List.set_cons_succ]
            refine held_take 19 82 (v := ?_) rfl rfl (by kernel_rfl) (by kernel_rfl) (by kernel_rfl) (fun _ _ _ h => h) (by rfl) ?_ ⟨HV.out, HX.out⟩ ?_
            rotate_left
            · (intro w hSw; (try dsimp only at hSw); have a0 := hSw.1.all.load (k := n20) (encR_n _) Try.prog; have a1 := hSw.2.all.load (k := n20) (encR_n _) Try.prog; clear hSw;try simp only [List.getElem_toArray, List.getElem_cons_zero, List.getElem_cons_succ]; go_simp; try (with_reducible rfl))
            try simp only [List.setIfInBounds_toArray, List.set_cons_zero, List.set_cons_succ]
            refine held_take 20 4 (v := ?_) rfl rfl (by kernel_rfl) (by kernel_rfl) (by kernel_rfl) (fun _ _ _ h => h) (by rfl) ?_ ⟨HV.out, HX.out⟩ ?_
            rotate_left
            · (intro w hSw; (try dsimp only at hSw); have a0 := hSw.1.all.load (k := n20) (encR_n _) Try.prog; have a1 := hSw.2.all.load (k := n20) (encR_n _) Try.prog; clear hSw;try simp only [List.getElem_toArray, List.getElem_cons_zero, List.getElem_cons_succ]; go_simp; try (with_reducible rfl))
            try simp only [List.setIfInBounds_toArray, List.set_cons_zero, List.set_cons_succ]
            refine wpAnyH_done (by kernel_rfl) ?_ _
            go_wp2
            go_ret
            exact ⟨rfl, HB0.out.trans ((HBZ.out.trans (hb14.out.mono HBZ.out.size)).mono HB0.out.size)⟩
          · have hK0 : ¬ (K : Int) = 0 := fun e => hmm (HKF.out.1 (by omega))
            have hK1 : ((K : Int) == 0) = false := by simpa using hK0
            have hK2 : decide ((K : Int) = 0) = false := decide_eq_false hK0
            have hm3 : (m1 == m2) = false := by simpa using hmm
            have hm4 : decide (m1 = m2) = false := decide_eq_false hmm
            refine wp_region_held_drew (S := (fun w' => RAt w' B8 0 was ∧ RAt w' B 0 r)) (by kernel_rfl) ⟨HV.out, HX.out⟩ (fun _ => ?_)
            refine held_take 0 63 (v := ?_) rfl rfl (by kernel_rfl) (by kernel_rfl) (by kernel_rfl) (fun _ _ _ h => h) (by rfl) ?_ ⟨HV.out, HX.out⟩ ?_
            rotate_left
            · (intro w hSw; (try dsimp only at hSw); have a0 := hSw.1.all.load (k := n20) (encR_n _) Try.prog; have a1 := hSw.2.all.load (k := n20) (encR_n _) Try.prog; clear hSw;try simp only [List.getElem_toArray, List.getElem_cons_zero, List.getElem_cons_succ]; go_simp; try (with_reducible rfl))
            try simp only [List.setIfInBounds_toArray, List.set_cons_zero, List.set_cons_succ]
            refine held_take 1 64 (v := ?_) rfl rfl (by kernel_rfl) (by kernel_rfl) (by kernel_rfl) (fun _ _ _ h => h) (by rfl) ?_ ⟨HV.out, HX.out⟩ ?_
            rotate_left
            · (intro w hSw; (try dsimp only at hSw); have a0 := hSw.1.all.load (k := n20) (encR_n _) Try.prog; have a1 := hSw.2.all.load (k := n20) (encR_n _) Try.prog; clear hSw;try simp only [List.getElem_toArray, List.getElem_cons_zero, List.getElem_cons_succ]; go_simp; try (with_reducible rfl))
            try simp only [List.setIfInBounds_toArray, List.set_cons_zero, List.set_cons_succ]
            refine held_call 2 65 rfl rfl (by kernel_rfl) (by rfl) (fun K hK => ?_)
            try simp only [List.getElem_toArray, List.getElem_cons_zero, List.getElem_cons_succ]
            go_simp
            (go_at_call 29; (with_reducible refine (like_any (some ⟨g5, 0, none⟩) 17 17 (dgs T) (by decide) _ (HD13.out.below hb14.out).rd).mono ?_); rintro e w14 ⟨v14, rfl, h1⟩; obtain ⟨A14, c14, hv14, hr14⟩ := h1.rdl; subst hv14; have HR14 := Lib.hid hr14; have HX := Lib.hid (HX.out.below h1.bel); have HV := Lib.hid (HV.out.below h1.bel); have hb14 := Lib.hid (hb14.out.trans (h1.bel.mono hb14.out.size)); clear h1 hr14)
            try go_wp2_with fail
            try simp only [Act.put, List.setIfInBounds_toArray, List.set_cons_zero, List.set_cons_succ]
            refine hK.out _ _ _ ⟨HV.out, HX.out⟩ ?_
            clear hK K
            refine held_call 3 66 rfl rfl (by kernel_rfl) (by rfl) (fun K hK => ?_)
            try simp only [List.getElem_toArray, List.getElem_cons_zero, List.getElem_cons_succ]
            go_simp
            (go_at_call 17; (with_reducible refine (same_dig (some ⟨g13, 0, none⟩) A14 17 17 c13 c14 (dgs T) (dgs T) (by decide) _ (HY13.out.below hb14.out) HR14.out).mono ?_); rintro e w15 ⟨rfl, h1⟩; rw [sS]; have HX := Lib.hid (HX.out.below h1); have HV := Lib.hid (HV.out.below h1); have hb14 := Lib.hid (hb14.out.trans (h1.mono hb14.out.size)); clear h1)
            try go_wp2_with fail
            try simp only [Act.put, List.setIfInBounds_toArray, List.set_cons_zero, List.set_cons_succ]
            refine hK.out _ _ _ ⟨HV.out, HX.out⟩ ?_
            clear hK K
            refine held_take 4 67 (v := ?_) rfl rfl (by kernel_rfl) (by kernel_rfl) (by kernel_rfl) (fun _ _ _ h => h) (by rfl) ?_ ⟨HV.out, HX.out⟩ ?_
            rotate_left
            · (intro w hSw; (try dsimp only at hSw); have a0 := hSw.1.all.load (k := n20) (encR_n _) Try.prog; have a1 := hSw.2.all.load (k := n20) (encR_n _) Try.prog; clear hSw;try simp only [List.getElem_toArray, List.getElem_cons_zero, List.getElem_cons_succ]; go_simp; try (with_reducible rfl))
            try simp only [List.setIfInBounds_toArray, List.set_cons_zero, List.set_cons_succ]
            refine held_take 5 68 (v := ?_) rfl rfl (by kernel_rfl) (by kernel_rfl) (by kernel_rfl) (fun _ _ _ h => h) (by rfl) ?_ ⟨HV.out, HX.out⟩ ?_
            rotate_left
            · (intro w hSw; (try dsimp only at hSw); have a0 := hSw.1.all.load (k := n20) (encR_n _) Try.prog; have a1 := hSw.2.all.load (k := n20) (encR_n _) Try.prog; clear hSw;try simp only [List.getElem_toArray, List.getElem_cons_zero, List.getElem_cons_succ]; go_simp; try (with_reducible rfl))
            try simp only [List.setIfInBounds_toArray, List.set_cons_zero, List.set_cons_succ]
            refine held_take 6 69 (v := ?_) rfl rfl (by kernel_rfl) (by kernel_rfl) (by kernel_rfl) (fun _ _ _ h => h) (by rfl) ?_ ⟨HV.out, HX.out⟩ ?_
            rotate_left
            · (intro w hSw; (try dsimp only at hSw); have a0 := hSw.1.all.load (k := n20) (encR_n _) Try.prog; have a1 := hSw.2.all.load (k := n20) (encR_n _) Try.prog; clear hSw;try simp only [List.getElem_toArray, List.getElem_cons_zero, List.getElem_cons_succ]; go_simp; try (with_reducible rfl))
            try simp only [List.setIfInBounds_toArray, List.set_cons_zero, List.set_cons_succ]
            refine held_take 10 73 (v := ?_) rfl rfl (by kernel_rfl) (by kernel_rfl) (by kernel_rfl) (fun _ _ _ h => h) (by rfl) ?_ ⟨HV.out, HX.out⟩ ?_
            rotate_left
            · (intro w hSw; (try dsimp only at hSw); have a0 := hSw.1.all.load (k := n20) (encR_n _) Try.prog; have a1 := hSw.2.all.load (k := n20) (encR_n _) Try.prog; clear hSw;try simp only [List.getElem_toArray, List.getElem_cons_zero, List.getElem_cons_succ]; go_simp; try (with_reducible rfl))
            try simp only [List.setIfInBounds_toArray, List.set_cons_zero, List.set_cons_succ]
            refine held_call 7 70 rfl rfl (by kernel_rfl) (by rfl) (fun K hK => ?_)
            try simp only [List.getElem_toArray, List.getElem_cons_zero, List.getElem_cons_succ]
            go_simp
            (go_at_call 23; (with_reducible refine (HDN.out _ (HD13.out.below hb14.out).rd (HX13.out.below hb14.out)).mono ?_); rintro e w16 ⟨v16, rfl, h1⟩; obtain ⟨A16, c16, hv16, _⟩ := gn_rd h1; rw [HKL.out] at hv16; subst hv16; have HX := Lib.hid (HX.out.below h1.bel); have HV := Lib.hid (HV.out.below h1.bel); have hb14 := Lib.hid (hb14.out.trans (h1.bel.mono hb14.out.size)); clear h1)
            try go_wp2_with fail
            try simp only [Act.put, List.setIfInBounds_toArray, List.set_cons_zero, List.set_cons_succ]
            refine hK.out _ _ _ ⟨HV.out, HX.out⟩ ?_
            clear hK K
            refine held_take 8 71 (v := ?_) rfl rfl (by kernel_rfl) (by kernel_rfl) (by kernel_rfl) (fun _ _ _ h => h) (by rfl) ?_ ⟨HV.out, HX.out⟩ ?_
            rotate_left
            · (intro w hSw; (try dsimp only at hSw); have a0 := hSw.1.all.load (k := n20) (encR_n _) Try.prog; have a1 := hSw.2.all.load (k := n20) (encR_n _) Try.prog; clear hSw;try simp only [List.getElem_toArray, List.getElem_cons_zero, List.getElem_cons_succ]; go_simp; try (with_reducible rfl))
            try simp only [List.setIfInBounds_toArray, List.set_cons_zero, List.set_cons_succ]
            refine held_take 9 72 (v := ?_) rfl rfl (by kernel_rfl) (by kernel_rfl) (by kernel_rfl) (fun _ _ _ h => h) (by rfl) ?_ ⟨HV.out, HX.out⟩ ?_
            rotate_left
            · (intro w hSw; (try dsimp only at hSw); have a0 := hSw.1.all.load (k := n20) (encR_n _) Try.prog; have a1 := hSw.2.all.load (k := n20) (encR_n _) Try.prog; clear hSw;try simp only [List.getElem_toArray, List.getElem_cons_zero, List.getElem_cons_succ]; go_simp; try (with_reducible rfl))
            try simp only [List.setIfInBounds_toArray, List.set_cons_zero, List.set_cons_succ]
            refine held_take 11 74 (v := ?_) rfl rfl (by kernel_rfl) (by kernel_rfl) (by kernel_rfl) (fun _ _ _ h => h) (by rfl) ?_ ⟨HV.out, HX.out⟩ ?_
            rotate_left
            · (intro w hSw; (try dsimp only at hSw); have a0 := hSw.1.all.load (k := n20) (encR_n _) Try.prog; have a1 := hSw.2.all.load (k := n20) (encR_n _) Try.prog; clear hSw;try simp only [List.getElem_toArray, List.getElem_cons_zero, List.getElem_cons_succ]; go_simp; try (with_reducible rfl))
            try simp only [List.setIfInBounds_toArray, List.set_cons_zero, List.set_cons_succ]
            refine held_take 12 75 (v := ?_) rfl rfl (by kernel_rfl) (by kernel_rfl) (by kernel_rfl) (fun _ _ _ h => h) (by rfl) ?_ ⟨HV.out, HX.out⟩ ?_
            rotate_left
            · (intro w hSw; (try dsimp only at hSw); have a0 := hSw.1.all.load (k := n20) (encR_n _) Try.prog; have a1 := hSw.2.all.load (k := n20) (encR_n _) Try.prog; clear hSw;try simp only [List.getElem_toArray, List.getElem_cons_zero, List.getElem_cons_succ]; go_simp; try (with_reducible rfl))
            try simp only [List.setIfInBounds_toArray, List.set_cons_zero, List.set_cons_succ]
            refine held_take 14 77 (v := ?_) rfl rfl (by kernel_rfl) (by kernel_rfl) (by kernel_rfl) (fun _ _ _ h => h) (by rfl) ?_ ⟨HV.out, HX.out⟩ ?_
            rotate_left
            · (intro w hSw; (try dsimp only at hSw); have a0 := hSw.1.all.load (k := n20) (encR_n _) Try.prog; have a1 := hSw.2.all.load (k := n20) (encR_n _) Try.prog; clear hSw;try simp only [List.getElem_toArray, List.getElem_cons_zero, List.getElem_cons_succ]; go_simp; try (with_reducible rfl))
            try simp only [List.setIfInBounds_toArray, List.set_cons_zero, List.set_cons_succ]
            refine held_call 13 76 rfl rfl (by kernel_rfl) (by rfl) (fun K hK => ?_)
            try simp only [List.getElem_toArray, List.getElem_cons_zero, List.getElem_cons_succ]
            go_simp
            (go_at_call 13; (with_reducible refine (HM1.out _).mono ?_); rintro e w17 ⟨rfl, h1⟩; have HX := Lib.hid (HX.out.below h1); have HV := Lib.hid (HV.out.below h1); have hb14 := Lib.hid (hb14.out.trans (h1.mono hb14.out.size)); clear h1)
            try go_wp2_with fail
            try simp only [Act.put, List.setIfInBounds_toArray, List.set_cons_zero, List.set_cons_succ]
            refine hK.out _ _ _ ⟨HV.out, HX.out⟩ ?_
            clear hK K
            refine held_call 15 78 rfl rfl (by kernel_rfl) (by rfl) (fun K hK => ?_)
            try simp only [List.getElem_toArray, List.getElem_cons_zero, List.getElem_cons_succ]
            go_simp
            (go_at_call 13; (with_reducible refine (HM2.out _).mono ?_); rintro e w18 ⟨rfl, h1⟩; have HX := Lib.hid (HX.out.below h1); have HV := Lib.hid (HV.out.below h1); have hb14 := Lib.hid (hb14.out.trans (h1.mono hb14.out.size)); clear h1)
            try go_wp2_with fail
            try simp only [Act.put, List.setIfInBounds_toArray, List.set_cons_zero, List.set_cons_succ]
            refine hK.out _ _ _ ⟨HV.out, HX.out⟩ ?_
            clear hK K
            refine held_take 16 79 (v := ?_) rfl rfl (by kernel_rfl) (by kernel_rfl) (by kernel_rfl) (fun _ _ _ h => h) (by rfl) ?_ ⟨HV.out, HX.out⟩ ?_
            rotate_left
            · (intro w hSw; (try dsimp only at hSw); have a0 := hSw.1.all.load (k := n20) (encR_n _) Try.prog; have a1 := hSw.2.all.load (k := n20) (encR_n _) Try.prog; clear hSw;try simp only [List.getElem_toArray, List.getElem_cons_zero, List.getElem_cons_succ]; go_simp; try (with_reducible rfl))
            try simp only [List.setIfInBounds_toArray, List.set_cons_zero, List.set_cons_succ]
            refine held_take 17 80 (v := ?_) rfl rfl (by kernel_rfl) (by kernel_rfl) (by kernel_rfl) (fun _ _ _ h => h) (by rfl) ?_ ⟨HV.out, HX.out⟩ ?_
            rotate_left
            · (intro w hSw; (try dsimp only at hSw); have a0 := hSw.1.all.load (k := n20) (encR_n _) Try.prog; have a1 := hSw.2.all.load (k := n20) (encR_n _) Try.prog; clear hSw;try simp only [List.getElem_toArray, List.getElem_cons_zero, List.getElem_cons_succ]; go_simp; try (with_reducible rfl))
            try simp only [List.setIfInBounds_toArray, List.set_cons_zero, List.set_cons_succ]
            refine held_take 18 81 (v := ?_) rfl rfl (by kernel_rfl) (by kernel_rfl) (by kernel_rfl) (fun _ _ _ h => h) (by rfl) ?_ ⟨HV.out, HX.out⟩ ?_
            rotate_left
            · (intro w hSw; (try dsimp only at hSw); have a0 := hSw.1.all.load (k := n20) (encR_n _) Try.prog; have a1 := hSw.2.all.load (k := n20) (encR_n _) Try.prog; clear hSw;try simp only [List.getElem_toArray, List.getElem_cons_zero, List.getElem_cons_succ]; go_simp; try (with_reducible rfl))
            try simp only [List.setIfInBounds_toArray, List.set_cons_zero, List.set_cons_succ]
            refine held_take 19 82 (v := ?_) rfl rfl (by kernel_rfl) (by kernel_rfl) (by kernel_rfl) (fun _ _ _ h => h) (by rfl) ?_ ⟨HV.out, HX.out⟩ ?_
            rotate_left
            · (intro w hSw; (try dsimp only at hSw); have a0 := hSw.1.all.load (k := n20) (encR_n _) Try.prog; have a1 := hSw.2.all.load (k := n20) (encR_n _) Try.prog; clear hSw;try simp only [List.getElem_toArray, List.getElem_cons_zero, List.getElem_cons_succ]; go_simp; try (with_reducible rfl))
            try simp only [List.setIfInBounds_toArray, List.set_cons_zero, List.set_cons_succ]
            refine held_take 20 4 (v := ?_) rfl rfl (by kernel_rfl) (by kernel_rfl) (by kernel_rfl) (fun _ _ _ h => h) (by rfl) ?_ ⟨HV.out, HX.out⟩ ?_
            rotate_left
            · (intro w hSw; (try dsimp only at hSw); have a0 := hSw.1.all.load (k := n20) (encR_n _) Try.prog; have a1 := hSw.2.all.load (k := n20) (encR_n _) Try.prog; clear hSw;try simp only [List.getElem_toArray, List.getElem_cons_zero, List.getElem_cons_succ]; go_simp; try (with_reducible rfl))
            try simp only [List.setIfInBounds_toArray, List.set_cons_zero, List.set_cons_succ]
            refine wpAnyH_done (by kernel_rfl) ?_ _
            go_wp2
            go_ret
            exact ⟨rfl, HB0.out.trans ((HBZ.out.trans (hb14.out.mono HBZ.out.size)).mono HB0.out.size)⟩
      · skip
        try simp only [List.getElem_toArray, List.getElem_cons_zero, List.getElem_cons_succ]
        go_simp
        have HIA := Lib.hid (show (W7.alloc (.cells (Tab.encI zI).toArray 59 (0, 0))).drew.heap[W7.heap.size]? = some (.cells (Tab.encI zI).toArray 59 (0, 0)) from heap_alloc_new W7 _)
        have HBB := Lib.hid (HBB.out.alloc HBB.out.size (.cells (Tab.encI zI).toArray 59 (0, 0))).drew
        have HLE := Lib.hid (Nat.le_refl W7.heap.size)
        generalize (W7.alloc _).drew = Wa at HIA HBB ⊢
        obtain ⟨bA, hbA⟩ : ∃ b, W7.heap.size = b := ⟨_, rfl⟩
        rw [show (⟨W7.heap.size, 0, none⟩ : Addr) = ⟨bA, 0, none⟩ by rw [hbA]]
        have HLA := Lib.hid (show W7.heap.size ≤ bA by omega)
        have HIA := Lib.hid (show Wa.heap[bA]? = some (.cells (Tab.encI zI).toArray 59 (0, 0)) from hbA ▸ HIA.out)
        have HIAL := Lib.hid (blk_lt HIA.out)
        clear hbA HLE
        try simp only [Act.put, List.setIfInBounds_toArray, List.set_cons_zero, List.set_cons_succ]
        have HX := Lib.hid (HX7.out.below HBB.out)
        refine hK.out _ _ _ HX.out ?_
        clear hK K
        refine held_call 6 10 rfl rfl (by kernel_rfl) (by rfl) (fun K hK => ?_)
        try simp only [List.getElem_toArray, List.getElem_cons_zero, List.getElem_cons_succ]
        go_simp
        have HIB := Lib.hid (heap_alloc_new Wa (.cells (Tab.encI zI).toArray 59 (0, 0)))
        have HIA := Lib.hid (((Below.refl _ Wa).alloc (Nat.le_refl _) (.cells (Tab.encI zI).toArray 59 (0, 0))).block bA (blk_lt HIA.out) |>.trans HIA.out)
        have HNE := Lib.hid (show bA ≠ Wa.heap.size by intro e; have h9 := HBB.out; have h8 := HIA.out; have h7 := HIAL.out; omega)
        have HLB := Lib.hid (show W7.heap.size ≤ Wa.heap.size from HBB.out.size)
        have HBB := Lib.hid (HBB.out.alloc HBB.out.size (.cells (Tab.encI zI).toArray 59 (0, 0)))
        generalize Wa.heap.size = bB at HIB HNE HLB ⊢
        generalize Wa.alloc _ = Wb at HIA HIB HBB ⊢
        try simp only [Act.put, List.setIfInBounds_toArray, List.set_cons_zero, List.set_cons_succ]
        have HX := Lib.hid (HX7.out.below HBB.out)
        refine hK.out _ _ _ HX.out ?_
        clear hK K
        have hs1 := store_row (o := 0) (vs := Tab.encI ⟨1, r⟩) HIB.out (by simp [encI_len]) (encI_one _) Try.prog
        rw [splice_whole (by simp [encI_len])] at hs1
        have HI10 := Lib.hid (setRow_heap Wb bB _ (Tab.encI ⟨1, r⟩).toArray 59 (0, 0) HIB.out)
        have HI11 := Lib.hid ((setRow_other Wb bB bA (Tab.encI ⟨1, r⟩).toArray (Ne.symm (Ne.symm HNE.out))).trans HIA.out)
        have HBB := Lib.hid (below_setRow HBB.out HLB.out (Tab.encI ⟨1, r⟩).toArray)
        have HX := Lib.hid (HX7.out.below HBB.out)
        obtain ⟨Wc, hWc⟩ : ∃ w, Wb.setRow bB (Tab.encI ⟨1, r⟩).toArray = w := ⟨_, rfl⟩
        rw [hWc] at hs1 HI10 HI11 HBB HX
        clear hWc
        have hs2 := store_row (o := 0) (vs := Tab.encI ⟨3, ⟨r.to, 0, 0⟩⟩) HI11.out (by simp [encI_len]) (encI_one _) Try.prog
        rw [splice_whole (by simp [encI_len])] at hs2
        have HI10' := Lib.hid ((setRow_other Wc bA bB (Tab.encI ⟨3, ⟨r.to, 0, 0⟩⟩).toArray (Ne.symm HNE.out)).trans HI10.out)
        have HI11 := Lib.hid (setRow_heap Wc bA _ (Tab.encI ⟨3, ⟨r.to, 0, 0⟩⟩).toArray 59 (0, 0) HI11.out)
        have HBB := Lib.hid (below_setRow HBB.out HLA.out (Tab.encI ⟨3, ⟨r.to, 0, 0⟩⟩).toArray)
        have HXc := HX
        have HX := Lib.hid (HX7.out.below HBB.out)
        obtain ⟨Wd, hWd⟩ : ∃ w, Wc.setRow bA (Tab.encI ⟨3, ⟨r.to, 0, 0⟩⟩).toArray = w := ⟨_, rfl⟩
        rw [hWd] at hs2 HI10' HI11 HBB HX
        clear hWd
        refine held_do 8 rfl (by kernel_rfl) (by rfl) (fun K hK => ?_)
        try simp only [List.getElem_toArray, List.getElem_cons_zero, List.getElem_cons_succ]
        go_simp
        clear hs1
        refine hK.out _ _ _ HXc.out ?_
        clear hK K
        refine held_do 9 rfl (by kernel_rfl) (by rfl) (fun K hK => ?_)
        try simp only [List.getElem_toArray, List.getElem_cons_zero, List.getElem_cons_succ]
        go_simp
        clear hs2
        refine hK.out _ _ _ HX.out ?_
        clear hK K
        refine wpAnyH_done (by kernel_rfl) ?_ _
        clear HIA HIB HI10 HXc HIAL
        have HNEP := Lib.hid (Ne.symm HNE.out)
        have HLP := Lib.hid (HLB.out)
        have HLQ := Lib.hid (HLA.out)
        clear HNE HLA HLB
        generalize bB = bP at HI10' HI11 HNEP HLP ⊢
        generalize bA = bQ at HI11 HNEP HLQ ⊢
        cases ok with
        | false =>
          have HIP := HI10'
          have HIQ := HI11
          have HX := Lib.hid (HX7.out.below HBB.out)
          have HV := Lib.hid (HV7.out.below HBB.out)
          have HD := Lib.hid (HD7.out.below HBB.out)
          have c59 : Sem.run Try.prog (loadCellsFrom ⟨bP, 0, none⟩ 0 n21 #[]) Wd = .ok (Tab.encI ⟨1, r⟩).toArray Wd := (at_row HIP.out).load (k := n21) (encI_n _) Try.prog
          have cV := HV.out.all.load (k := n20) (encR_n _) Try.prog
          have HM1 := Lib.hid (more_go (some ⟨g5, 0, none⟩) 17 (dgs T) ⟨1, r⟩ was Wd HD.out.rd (show 1 ≤ (1 : Int) ∧ (1 : Int) ≤ 3 by decide))
          go_upto_region 13 with (go_at_call 26; (with_reducible refine (HM1.out).mono ?_); rintro e w12 ⟨g12, c12, rfl, _, h2, hb2⟩; clear c59 cV; have HX12 := Lib.hid h2; have HIQ := Lib.hid ((hb2.block bQ (blk_lt HIQ.out)).trans HIQ.out); have HX := Lib.hid (HX.out.below hb2); have HV := Lib.hid (HV.out.below hb2); have HD := Lib.hid (HD.out.below hb2); have HBZ := Lib.hid (HBB.out.trans (hb2.mono HBB.out.size)); clear h2 hb2)
          clear HM1
          have c59 : Sem.run Try.prog (loadCellsFrom ⟨bQ, 0, none⟩ 0 n21 #[]) w12 = .ok (Tab.encI (⟨3, ⟨r.to, 0, 0⟩⟩)).toArray w12 := (at_row HIQ.out).load (k := n21) (encI_n _) Try.prog
          have cV := HX.out.all.load (k := n20) (encR_n _) Try.prog
          have HM2 := Lib.hid (more_go (some ⟨g12, 0, none⟩) c12 (moreD (dgs T) ⟨1, r⟩ was) (⟨3, ⟨r.to, 0, 0⟩⟩) r w12 HX12.out.rd (show 1 ≤ (3 : Int) ∧ (3 : Int) ≤ 3 by decide))
          go_upto_region 14 with (go_at_call 26; (with_reducible refine (HM2.out).mono ?_); rintro e w13 ⟨g13, c13, rfl, _, h2, hb2⟩; clear c59 cV; have HY13 := Lib.hid h2; have HX13 := Lib.hid (HX12.out.below hb2).rd; have HX := Lib.hid (HX.out.below hb2); have HV := Lib.hid (HV.out.below hb2); have HD13 := Lib.hid (HD.out.below hb2); have HBZ := Lib.hid (HBZ.out.trans (hb2.mono HBZ.out.size)); clear h2 hb2)
          clear HM2 HD HX12 HIQ
          have HBZ := Lib.hid (hb.out.trans (HBZ.out.mono hb.out.size))
          have HXE := Lib.hid (show moreD (dgs T) ⟨1, r⟩ was = addF (dgs T) q (mk r) by rw [moreD1, HQ.out])
          have HYE := Lib.hid (show moreD (moreD (dgs T) ⟨1, r⟩ was) (⟨3, ⟨r.to, 0, 0⟩⟩) r = dgs T by rw [HXE.out]; rw [moreD3]; dsimp only; rw [HQ.out]; exact back_add (HIR.out q))
          have HY13 := Lib.hid (HYE.out ▸ HY13.out).rd
          have HX13 := Lib.hid (HXE.out ▸ HX13.out)
          clear HYE HXE
          have HDN := Lib.hid (differ_any (some ⟨g5, 0, none⟩) (some ⟨g12, 0, none⟩) 17 17 17 c12 (dgs T) (addF (dgs T) q (mk r)))
          obtain ⟨K, hKK⟩ : ∃ K, (difs 17 17 (dgs T) (addF (dgs T) q (mk r)) 17).length = K := ⟨_, rfl⟩
          have HKL := Lib.hid hKK
          have HKF := Lib.hid (show K = 0 ↔ False by rw [← hKK]; exact ⟨fun h => add_ne hq17 (HIR.out q) h, False.elim⟩)
          clear hKK
          have hb14 := Lib.hid (Below.refl w13.heap.size w13).drew
          have HX := Lib.hid HX.out.drew
          have HV := Lib.hid HV.out.drew
          obtain ⟨m1, hm1⟩ : ∃ m, mk was = m := ⟨_, rfl⟩
          obtain ⟨m2, hm2⟩ : ∃ m, mk r = m := ⟨_, rfl⟩
          have HM1 := Lib.hid (fun V => mark_any was V)
          have HM2 := Lib.hid (fun V => mark_any r V)
          rw [hm1] at HM1
          rw [hm2] at HM2
          clear hm1 hm2
          have hK0 : ¬ (K : Int) = 0 := fun e => HKF.out.1 (by omega)
          have hK1 : ((K : Int) == 0) = false := by simpa using hK0
          have hK2 : decide ((K : Int) = 0) = false := decide_eq_false hK0
          refine wp_region_held_drew (S := (fun w' => RAt w' B8 0 was ∧ RAt w' B 0 r)) (by kernel_rfl) ⟨HV.out, HX.out⟩ (fun _ => ?_)
          refine held_take 0 63 (v := ?_) rfl rfl (by kernel_rfl) (by kernel_rfl) (by kernel_rfl) (fun _ _ _ h => h) (by rfl) ?_ ⟨HV.out, HX.out⟩ ?_
          rotate_left
          · (intro w hSw; (try dsimp only at hSw); have a0 := hSw.1.all.load (k := n20) (encR_n _) Try.prog; have a1 := hSw.2.all.load (k := n20) (encR_n _) Try.prog; clear hSw;try simp only [List.getElem_toArray, List.getElem_cons_zero, List.getElem_cons_succ]; go_simp; try (with_reducible rfl))
          try simp only [List.setIfInBounds_toArray, List.set_cons_zero, List.set_cons_succ]
          refine held_take 1 64 (v := ?_) rfl rfl (by kernel_rfl) (by kernel_rfl) (by kernel_rfl) (fun _ _ _ h => h) (by rfl) ?_ ⟨HV.out, HX.out⟩ ?_
          rotate_left
          · (intro w hSw; (try dsimp only at hSw); have a0 := hSw.1.all.load (k := n20) (encR_n _) Try.prog; have a1 := hSw.2.all.load (k := n20) (encR_n _) Try.prog; clear hSw;try simp only [List.getElem_toArray, List.getElem_cons_zero, List.getElem_cons_succ]; go_simp; try (with_reducible rfl))
          try simp only [List.setIfInBounds_toArray, List.set_cons_zero, List.set_cons_succ]
          refine held_call 2 65 rfl rfl (by kernel_rfl) (by rfl) (fun K hK => ?_)
          try simp only [List.getElem_toArray, List.getElem_cons_zero, List.getElem_cons_succ]
          go_simp
          (go_at_call 29; (with_reducible refine (like_any (some ⟨g5, 0, none⟩) 17 17 (dgs T) (by decide) _ (HD13.out.below hb14.out).rd).mono ?_); rintro e w14 ⟨v14, rfl, h1⟩; obtain ⟨A14, c14, hv14, hr14⟩ := h1.rdl; subst hv14; have HR14 := Lib.hid hr14; have HX := Lib.hid (HX.out.below h1.bel); have HV := Lib.hid (HV.out.below h1.bel); have hb14 := Lib.hid (hb14.out.trans (h1.bel.mono hb14.out.size)); clear h1 hr14)
          try go_wp2_with fail
          try simp only [Act.put, List.setIfInBounds_toArray, List.set_cons_zero, List.set_cons_succ]
          refine hK.out _ _ _ ⟨HV.out, HX.out⟩ ?_
          clear hK K
          refine held_call 3 66 rfl rfl (by kernel_rfl) (by rfl) (fun K hK => ?_)
          try simp only [List.getElem_toArray, List.getElem_cons_zero, List.getElem_cons_succ]
          go_simp
          (go_at_call 17; (with_reducible refine (same_dig (some ⟨g13, 0, none⟩) A14 17 17 c13 c14 (dgs T) (dgs T) (by decide) _ (HY13.out.below hb14.out) HR14.out).mono ?_); rintro e w15 ⟨rfl, h1⟩; rw [sS]; have HX := Lib.hid (HX.out.below h1); have HV := Lib.hid (HV.out.below h1); have hb14 := Lib.hid (hb14.out.trans (h1.mono hb14.out.size)); clear h1)
          try go_wp2_with fail
          try simp only [Act.put, List.setIfInBounds_toArray, List.set_cons_zero, List.set_cons_succ]
          refine hK.out _ _ _ ⟨HV.out, HX.out⟩ ?_
          clear hK K
          refine held_take 4 67 (v := ?_) rfl rfl (by kernel_rfl) (by kernel_rfl) (by kernel_rfl) (fun _ _ _ h => h) (by rfl) ?_ ⟨HV.out, HX.out⟩ ?_
          rotate_left
          · (intro w hSw; (try dsimp only at hSw); have a0 := hSw.1.all.load (k := n20) (encR_n _) Try.prog; have a1 := hSw.2.all.load (k := n20) (encR_n _) Try.prog; clear hSw;try simp only [List.getElem_toArray, List.getElem_cons_zero, List.getElem_cons_succ]; go_simp; try (with_reducible rfl))
          try simp only [List.setIfInBounds_toArray, List.set_cons_zero, List.set_cons_succ]
          refine held_take 5 68 (v := ?_) rfl rfl (by kernel_rfl) (by kernel_rfl) (by kernel_rfl) (fun _ _ _ h => h) (by rfl) ?_ ⟨HV.out, HX.out⟩ ?_
          rotate_left
          · (intro w hSw; (try dsimp only at hSw); have a0 := hSw.1.all.load (k := n20) (encR_n _) Try.prog; have a1 := hSw.2.all.load (k := n20) (encR_n _) Try.prog; clear hSw;try simp only [List.getElem_toArray, List.getElem_cons_zero, List.getElem_cons_succ]; go_simp; try (with_reducible rfl))
          try simp only [List.setIfInBounds_toArray, List.set_cons_zero, List.set_cons_succ]
          refine held_take 6 69 (v := ?_) rfl rfl (by kernel_rfl) (by kernel_rfl) (by kernel_rfl) (fun _ _ _ h => h) (by rfl) ?_ ⟨HV.out, HX.out⟩ ?_
          rotate_left
          · (intro w hSw; (try dsimp only at hSw); have a0 := hSw.1.all.load (k := n20) (encR_n _) Try.prog; have a1 := hSw.2.all.load (k := n20) (encR_n _) Try.prog; clear hSw;try simp only [List.getElem_toArray, List.getElem_cons_zero, List.getElem_cons_succ]; go_simp; try (with_reducible rfl))
          try simp only [List.setIfInBounds_toArray, List.set_cons_zero, List.set_cons_succ]
          refine held_take 10 73 (v := ?_) rfl rfl (by kernel_rfl) (by kernel_rfl) (by kernel_rfl) (fun _ _ _ h => h) (by rfl) ?_ ⟨HV.out, HX.out⟩ ?_
          rotate_left
          · (intro w hSw; (try dsimp only at hSw); have a0 := hSw.1.all.load (k := n20) (encR_n _) Try.prog; have a1 := hSw.2.all.load (k := n20) (encR_n _) Try.prog; clear hSw;try simp only [List.getElem_toArray, List.getElem_cons_zero, List.getElem_cons_succ]; go_simp; try (with_reducible rfl))
          try simp only [List.setIfInBounds_toArray, List.set_cons_zero, List.set_cons_succ]
          refine held_call 7 70 rfl rfl (by kernel_rfl) (by rfl) (fun K hK => ?_)
          try simp only [List.getElem_toArray, List.getElem_cons_zero, List.getElem_cons_succ]
          go_simp
          (go_at_call 23; (with_reducible refine (HDN.out _ (HD13.out.below hb14.out).rd (HX13.out.below hb14.out)).mono ?_); rintro e w16 ⟨v16, rfl, h1⟩; obtain ⟨A16, c16, hv16, _⟩ := gn_rd h1; rw [HKL.out] at hv16; subst hv16; have HX := Lib.hid (HX.out.below h1.bel); have HV := Lib.hid (HV.out.below h1.bel); have hb14 := Lib.hid (hb14.out.trans (h1.bel.mono hb14.out.size)); clear h1)
          try go_wp2_with fail
          try simp only [Act.put, List.setIfInBounds_toArray, List.set_cons_zero, List.set_cons_succ]
          refine hK.out _ _ _ ⟨HV.out, HX.out⟩ ?_
          clear hK K
          refine held_take 8 71 (v := ?_) rfl rfl (by kernel_rfl) (by kernel_rfl) (by kernel_rfl) (fun _ _ _ h => h) (by rfl) ?_ ⟨HV.out, HX.out⟩ ?_
          rotate_left
          · (intro w hSw; (try dsimp only at hSw); have a0 := hSw.1.all.load (k := n20) (encR_n _) Try.prog; have a1 := hSw.2.all.load (k := n20) (encR_n _) Try.prog; clear hSw;try simp only [List.getElem_toArray, List.getElem_cons_zero, List.getElem_cons_succ]; go_simp; try (with_reducible rfl))
          try simp only [List.setIfInBounds_toArray, List.set_cons_zero, List.set_cons_succ]
          refine held_take 9 72 (v := ?_) rfl rfl (by kernel_rfl) (by kernel_rfl) (by kernel_rfl) (fun _ _ _ h => h) (by rfl) ?_ ⟨HV.out, HX.out⟩ ?_
          rotate_left
          · (intro w hSw; (try dsimp only at hSw); have a0 := hSw.1.all.load (k := n20) (encR_n _) Try.prog; have a1 := hSw.2.all.load (k := n20) (encR_n _) Try.prog; clear hSw;try simp only [List.getElem_toArray, List.getElem_cons_zero, List.getElem_cons_succ]; go_simp; try (with_reducible rfl))
          try simp only [List.setIfInBounds_toArray, List.set_cons_zero, List.set_cons_succ]
          refine held_take 11 74 (v := ?_) rfl rfl (by kernel_rfl) (by kernel_rfl) (by kernel_rfl) (fun _ _ _ h => h) (by rfl) ?_ ⟨HV.out, HX.out⟩ ?_
          rotate_left
          · (intro w hSw; (try dsimp only at hSw); have a0 := hSw.1.all.load (k := n20) (encR_n _) Try.prog; have a1 := hSw.2.all.load (k := n20) (encR_n _) Try.prog; clear hSw;try simp only [List.getElem_toArray, List.getElem_cons_zero, List.getElem_cons_succ]; go_simp; try (with_reducible rfl))
          try simp only [List.setIfInBounds_toArray, List.set_cons_zero, List.set_cons_succ]
          refine held_skip 12 75 rfl rfl (by kernel_rfl) (by kernel_rfl) (by kernel_rfl) (fun _ _ _ h => h) (by rfl) ⟨HV.out, HX.out⟩ ?_
          try simp only [List.setIfInBounds_toArray, List.set_cons_zero, List.set_cons_succ]
          refine held_skip 13 76 rfl rfl (by kernel_rfl) (by kernel_rfl) (by kernel_rfl) (fun _ _ _ h => h) (by rfl) ⟨HV.out, HX.out⟩ ?_
          try simp only [List.setIfInBounds_toArray, List.set_cons_zero, List.set_cons_succ]
          refine held_skip 14 77 rfl rfl (by kernel_rfl) (by kernel_rfl) (by kernel_rfl) (fun _ _ _ h => h) (by rfl) ⟨HV.out, HX.out⟩ ?_
          try simp only [List.setIfInBounds_toArray, List.set_cons_zero, List.set_cons_succ]
          refine held_skip 15 78 rfl rfl (by kernel_rfl) (by kernel_rfl) (by kernel_rfl) (fun _ _ _ h => h) (by rfl) ⟨HV.out, HX.out⟩ ?_
          try simp only [List.setIfInBounds_toArray, List.set_cons_zero, List.set_cons_succ]
          refine held_skip 16 79 rfl rfl (by kernel_rfl) (by kernel_rfl) (by kernel_rfl) (fun _ _ _ h => h) (by rfl) ⟨HV.out, HX.out⟩ ?_
          try simp only [List.setIfInBounds_toArray, List.set_cons_zero, List.set_cons_succ]
          refine held_take 17 80 (v := ?_) rfl rfl (by kernel_rfl) (by kernel_rfl) (by kernel_rfl) (fun _ _ _ h => h) (by rfl) ?_ ⟨HV.out, HX.out⟩ ?_
          rotate_left
          · (intro w hSw; (try dsimp only at hSw); have a0 := hSw.1.all.load (k := n20) (encR_n _) Try.prog; have a1 := hSw.2.all.load (k := n20) (encR_n _) Try.prog; clear hSw;try simp only [List.getElem_toArray, List.getElem_cons_zero, List.getElem_cons_succ]; go_simp; try (with_reducible rfl))
          try simp only [List.setIfInBounds_toArray, List.set_cons_zero, List.set_cons_succ]
          refine held_take 18 81 (v := ?_) rfl rfl (by kernel_rfl) (by kernel_rfl) (by kernel_rfl) (fun _ _ _ h => h) (by rfl) ?_ ⟨HV.out, HX.out⟩ ?_
          rotate_left
          · (intro w hSw; (try dsimp only at hSw); have a0 := hSw.1.all.load (k := n20) (encR_n _) Try.prog; have a1 := hSw.2.all.load (k := n20) (encR_n _) Try.prog; clear hSw;try simp only [List.getElem_toArray, List.getElem_cons_zero, List.getElem_cons_succ]; go_simp; try (with_reducible rfl))
          try simp only [List.setIfInBounds_toArray, List.set_cons_zero, List.set_cons_succ]
          refine held_take 19 82 (v := ?_) rfl rfl (by kernel_rfl) (by kernel_rfl) (by kernel_rfl) (fun _ _ _ h => h) (by rfl) ?_ ⟨HV.out, HX.out⟩ ?_
          rotate_left
          · (intro w hSw; (try dsimp only at hSw); have a0 := hSw.1.all.load (k := n20) (encR_n _) Try.prog; have a1 := hSw.2.all.load (k := n20) (encR_n _) Try.prog; clear hSw;try simp only [List.getElem_toArray, List.getElem_cons_zero, List.getElem_cons_succ]; go_simp; try (with_reducible rfl))
          try simp only [List.setIfInBounds_toArray, List.set_cons_zero, List.set_cons_succ]
          refine held_take 20 4 (v := ?_) rfl rfl (by kernel_rfl) (by kernel_rfl) (by kernel_rfl) (fun _ _ _ h => h) (by rfl) ?_ ⟨HV.out, HX.out⟩ ?_
          rotate_left
          · (intro w hSw; (try dsimp only at hSw); have a0 := hSw.1.all.load (k := n20) (encR_n _) Try.prog; have a1 := hSw.2.all.load (k := n20) (encR_n _) Try.prog; clear hSw;try simp only [List.getElem_toArray, List.getElem_cons_zero, List.getElem_cons_succ]; go_simp; try (with_reducible rfl))
          try simp only [List.setIfInBounds_toArray, List.set_cons_zero, List.set_cons_succ]
          refine wpAnyH_done (by kernel_rfl) ?_ _
          go_wp2
          go_ret
          exact ⟨rfl, HB0.out.trans ((HBZ.out.trans (hb14.out.mono HBZ.out.size)).mono HB0.out.size)⟩
        | true =>
          have hwt := HDI.out rfl
          have y1 : Wd.cell? ⟨bP, 0, none⟩ = some (.int .i64 1) := (blk_cell HI10'.out 0).trans rfl
          have y2 := blk_free HI10'.out 0
          go_upto_region 11 with fail
          clear y1 y2
          have HIP := Lib.hid (show (Wd.setCell ⟨bP, 0, none⟩ (.int .i64 2)).heap[bP]? = some (.cells (Tab.encI ⟨2, r⟩).toArray 59 (0, 0)) from blk_set HI10'.out 0 _)
          have HIQ := Lib.hid ((Below.heap_setCell Wd ⟨bP, 0, none⟩ (.int .i64 2) bQ (fun e => HNEP.out e.symm)).trans HI11.out)
          have HBB := Lib.hid (HBB.out.setCell HLP.out (p := ⟨bP, 0, none⟩) (.int .i64 2))
          generalize Wd.setCell _ _ = We at HIP HIQ HBB ⊢
          have HV := Lib.hid (HV7.out.below HBB.out)
          have cV := HV.out.all.load (k := n20) (encR_n _) Try.prog
          have hs := store_row (o := 0) (vs := Tab.encI ⟨2, was⟩) HIQ.out (by simp [encI_len]) (encI_one _) Try.prog
          rw [splice_whole (by simp [encI_len])] at hs
          go_upto_region 12 with (refine wpList_build_run (o := ⟨some 54, .build 59 #[(0, .const (.int .i64 2)), (1, .tmp 53)], _, _, _, _⟩) rfl 59 #[(0, .const (.int .i64 2)), (1, .tmp 53)] rfl #[(0, .int .i64 2), (1, .agg (encR was).toArray)] (by simp [Act.eval, Act.put]) (build_I 2 was _) ?_)
          clear hs cV
          have HIP := Lib.hid ((setRow_other We bQ bP (Tab.encI ⟨2, was⟩).toArray HNEP.out).trans HIP.out)
          have HIQ := Lib.hid (setRow_heap We bQ _ (Tab.encI ⟨2, was⟩).toArray 59 (0, 0) HIQ.out)
          have HBB := Lib.hid (below_setRow HBB.out HLQ.out (Tab.encI ⟨2, was⟩).toArray)
          generalize We.setRow _ _ = Wf at HIP HIQ HBB ⊢
          have HX := Lib.hid (HX7.out.below HBB.out)
          have HV := Lib.hid (HV7.out.below HBB.out)
          have HD := Lib.hid (HD7.out.below HBB.out)
          have c59 : Sem.run Try.prog (loadCellsFrom ⟨bP, 0, none⟩ 0 n21 #[]) Wf = .ok (Tab.encI ⟨2, r⟩).toArray Wf := (at_row HIP.out).load (k := n21) (encI_n _) Try.prog
          have cV := HV.out.all.load (k := n20) (encR_n _) Try.prog
          have HM1 := Lib.hid (more_go (some ⟨g5, 0, none⟩) 17 (dgs T) ⟨2, r⟩ was Wf HD.out.rd (show 1 ≤ (2 : Int) ∧ (2 : Int) ≤ 3 by decide))
          go_upto_region 13 with (go_at_call 26; (with_reducible refine (HM1.out).mono ?_); rintro e w12 ⟨g12, c12, rfl, _, h2, hb2⟩; clear c59 cV; have HX12 := Lib.hid h2; have HIQ := Lib.hid ((hb2.block bQ (blk_lt HIQ.out)).trans HIQ.out); have HX := Lib.hid (HX.out.below hb2); have HV := Lib.hid (HV.out.below hb2); have HD := Lib.hid (HD.out.below hb2); have HBZ := Lib.hid (HBB.out.trans (hb2.mono HBB.out.size)); clear h2 hb2)
          clear HM1
          have c59 : Sem.run Try.prog (loadCellsFrom ⟨bQ, 0, none⟩ 0 n21 #[]) w12 = .ok (Tab.encI (⟨2, was⟩)).toArray w12 := (at_row HIQ.out).load (k := n21) (encI_n _) Try.prog
          have cV := HX.out.all.load (k := n20) (encR_n _) Try.prog
          have HM2 := Lib.hid (more_go (some ⟨g12, 0, none⟩) c12 (moreD (dgs T) ⟨2, r⟩ was) (⟨2, was⟩) r w12 HX12.out.rd (show 1 ≤ (2 : Int) ∧ (2 : Int) ≤ 3 by decide))
          go_upto_region 14 with (go_at_call 26; (with_reducible refine (HM2.out).mono ?_); rintro e w13 ⟨g13, c13, rfl, _, h2, hb2⟩; clear c59 cV; have HY13 := Lib.hid h2; have HX13 := Lib.hid (HX12.out.below hb2).rd; have HX := Lib.hid (HX.out.below hb2); have HV := Lib.hid (HV.out.below hb2); have HD13 := Lib.hid (HD.out.below hb2); have HBZ := Lib.hid (HBZ.out.trans (hb2.mono HBZ.out.size)); clear h2 hb2)
          clear HM2 HD HX12 HIQ
          have HBZ := Lib.hid (hb.out.trans (HBZ.out.mono hb.out.size))
          have HXE := Lib.hid (show moreD (dgs T) ⟨2, r⟩ was = addF (subF (dgs T) q (mk was)) q (mk r) by rw [moreD2, HQ.out])
          have HYE := Lib.hid (show moreD (moreD (dgs T) ⟨2, r⟩ was) (⟨2, was⟩) r = dgs T by rw [HXE.out]; rw [moreD2, hwt, HQ.out]; exact back_change (HIR.out q))
          have HY13 := Lib.hid (HYE.out ▸ HY13.out).rd
          have HX13 := Lib.hid (HXE.out ▸ HX13.out)
          clear HYE HXE
          clear hwt
          have HDN := Lib.hid (differ_any (some ⟨g5, 0, none⟩) (some ⟨g12, 0, none⟩) 17 17 17 c12 (dgs T) (addF (subF (dgs T) q (mk was)) q (mk r)))
          obtain ⟨K, hKK⟩ : ∃ K, (difs 17 17 (dgs T) (addF (subF (dgs T) q (mk was)) q (mk r)) 17).length = K := ⟨_, rfl⟩
          have HKL := Lib.hid hKK
          have HKF := Lib.hid (show K = 0 ↔ mk was = mk r by rw [← hKK]; exact change_eq hq17 (HIR.out q) (mk_range _) (mk_range _))
          clear hKK
          have hb14 := Lib.hid (Below.refl w13.heap.size w13).drew
          have HX := Lib.hid HX.out.drew
          have HV := Lib.hid HV.out.drew
          obtain ⟨m1, hm1⟩ : ∃ m, mk was = m := ⟨_, rfl⟩
          obtain ⟨m2, hm2⟩ : ∃ m, mk r = m := ⟨_, rfl⟩
          have HM1 := Lib.hid (fun V => mark_any was V)
          have HM2 := Lib.hid (fun V => mark_any r V)
          rw [hm1] at HM1
          rw [hm2] at HM2
          rw [hm1, hm2] at HKF
          clear hm1 hm2
          by_cases hmm : m1 = m2
          · have hK0 : K = 0 := HKF.out.2 hmm
            subst hmm
            subst hK0
            refine wp_region_held_drew (S := (fun w' => RAt w' B8 0 was ∧ RAt w' B 0 r)) (by kernel_rfl) ⟨HV.out, HX.out⟩ (fun _ => ?_)
            refine held_take 0 63 (v := ?_) rfl rfl (by kernel_rfl) (by kernel_rfl) (by kernel_rfl) (fun _ _ _ h => h) (by rfl) ?_ ⟨HV.out, HX.out⟩ ?_
            rotate_left
            · (intro w hSw; (try dsimp only at hSw); have a0 := hSw.1.all.load (k := n20) (encR_n _) Try.prog; have a1 := hSw.2.all.load (k := n20) (encR_n _) Try.prog; clear hSw;try simp only [List.getElem_toArray, List.getElem_cons_zero, List.getElem_cons_succ]; go_simp; try (with_reducible rfl))
            try simp only [List.setIfInBounds_toArray, List.set_cons_zero, List.set_cons_succ]
            refine held_take 1 64 (v := ?_) rfl rfl (by kernel_rfl) (by kernel_rfl) (by kernel_rfl) (fun _ _ _ h => h) (by rfl) ?_ ⟨HV.out, HX.out⟩ ?_
            rotate_left
            · (intro w hSw; (try dsimp only at hSw); have a0 := hSw.1.all.load (k := n20) (encR_n _) Try.prog; have a1 := hSw.2.all.load (k := n20) (encR_n _) Try.prog; clear hSw;try simp only [List.getElem_toArray, List.getElem_cons_zero, List.getElem_cons_succ]; go_simp; try (with_reducible rfl))
            try simp only [List.setIfInBounds_toArray, List.set_cons_zero, List.set_cons_succ]
            refine held_call 2 65 rfl rfl (by kernel_rfl) (by rfl) (fun K hK => ?_)
            try simp only [List.getElem_toArray, List.getElem_cons_zero, List.getElem_cons_succ]
            go_simp
            (go_at_call 29; (with_reducible refine (like_any (some ⟨g5, 0, none⟩) 17 17 (dgs T) (by decide) _ (HD13.out.below hb14.out).rd).mono ?_); rintro e w14 ⟨v14, rfl, h1⟩; obtain ⟨A14, c14, hv14, hr14⟩ := h1.rdl; subst hv14; have HR14 := Lib.hid hr14; have HX := Lib.hid (HX.out.below h1.bel); have HV := Lib.hid (HV.out.below h1.bel); have hb14 := Lib.hid (hb14.out.trans (h1.bel.mono hb14.out.size)); clear h1 hr14)
            try go_wp2_with fail
            try simp only [Act.put, List.setIfInBounds_toArray, List.set_cons_zero, List.set_cons_succ]
            refine hK.out _ _ _ ⟨HV.out, HX.out⟩ ?_
            clear hK K
            refine held_call 3 66 rfl rfl (by kernel_rfl) (by rfl) (fun K hK => ?_)
            try simp only [List.getElem_toArray, List.getElem_cons_zero, List.getElem_cons_succ]
            go_simp
            (go_at_call 17; (with_reducible refine (same_dig (some ⟨g13, 0, none⟩) A14 17 17 c13 c14 (dgs T) (dgs T) (by decide) _ (HY13.out.below hb14.out) HR14.out).mono ?_); rintro e w15 ⟨rfl, h1⟩; rw [sS]; have HX := Lib.hid (HX.out.below h1); have HV := Lib.hid (HV.out.below h1); have hb14 := Lib.hid (hb14.out.trans (h1.mono hb14.out.size)); clear h1)
            try go_wp2_with fail
            try simp only [Act.put, List.setIfInBounds_toArray, List.set_cons_zero, List.set_cons_succ]
            refine hK.out _ _ _ ⟨HV.out, HX.out⟩ ?_
            clear hK K
            refine held_take 4 67 (v := ?_) rfl rfl (by kernel_rfl) (by kernel_rfl) (by kernel_rfl) (fun _ _ _ h => h) (by rfl) ?_ ⟨HV.out, HX.out⟩ ?_
            rotate_left
            · (intro w hSw; (try dsimp only at hSw); have a0 := hSw.1.all.load (k := n20) (encR_n _) Try.prog; have a1 := hSw.2.all.load (k := n20) (encR_n _) Try.prog; clear hSw;try simp only [List.getElem_toArray, List.getElem_cons_zero, List.getElem_cons_succ]; go_simp; try (with_reducible rfl))
            try simp only [List.setIfInBounds_toArray, List.set_cons_zero, List.set_cons_succ]
            refine held_take 5 68 (v := ?_) rfl rfl (by kernel_rfl) (by kernel_rfl) (by kernel_rfl) (fun _ _ _ h => h) (by rfl) ?_ ⟨HV.out, HX.out⟩ ?_
            rotate_left
            · (intro w hSw; (try dsimp only at hSw); have a0 := hSw.1.all.load (k := n20) (encR_n _) Try.prog; have a1 := hSw.2.all.load (k := n20) (encR_n _) Try.prog; clear hSw;try simp only [List.getElem_toArray, List.getElem_cons_zero, List.getElem_cons_succ]; go_simp; try (with_reducible rfl))
            try simp only [List.setIfInBounds_toArray, List.set_cons_zero, List.set_cons_succ]
            refine held_take 6 69 (v := ?_) rfl rfl (by kernel_rfl) (by kernel_rfl) (by kernel_rfl) (fun _ _ _ h => h) (by rfl) ?_ ⟨HV.out, HX.out⟩ ?_
            rotate_left
            · (intro w hSw; (try dsimp only at hSw); have a0 := hSw.1.all.load (k := n20) (encR_n _) Try.prog; have a1 := hSw.2.all.load (k := n20) (encR_n _) Try.prog; clear hSw;try simp only [List.getElem_toArray, List.getElem_cons_zero, List.getElem_cons_succ]; go_simp; try (with_reducible rfl))
            try simp only [List.setIfInBounds_toArray, List.set_cons_zero, List.set_cons_succ]
            refine held_take 10 73 (v := ?_) rfl rfl (by kernel_rfl) (by kernel_rfl) (by kernel_rfl) (fun _ _ _ h => h) (by rfl) ?_ ⟨HV.out, HX.out⟩ ?_
            rotate_left
            · (intro w hSw; (try dsimp only at hSw); have a0 := hSw.1.all.load (k := n20) (encR_n _) Try.prog; have a1 := hSw.2.all.load (k := n20) (encR_n _) Try.prog; clear hSw;try simp only [List.getElem_toArray, List.getElem_cons_zero, List.getElem_cons_succ]; go_simp; try (with_reducible rfl))
            try simp only [List.setIfInBounds_toArray, List.set_cons_zero, List.set_cons_succ]
            refine held_call 7 70 rfl rfl (by kernel_rfl) (by rfl) (fun K hK => ?_)
            try simp only [List.getElem_toArray, List.getElem_cons_zero, List.getElem_cons_succ]
            go_simp
            (go_at_call 23; (with_reducible refine (HDN.out _ (HD13.out.below hb14.out).rd (HX13.out.below hb14.out)).mono ?_); rintro e w16 ⟨v16, rfl, h1⟩; obtain ⟨A16, c16, hv16, _⟩ := gn_rd h1; rw [HKL.out] at hv16; subst hv16; have HX := Lib.hid (HX.out.below h1.bel); have HV := Lib.hid (HV.out.below h1.bel); have hb14 := Lib.hid (hb14.out.trans (h1.bel.mono hb14.out.size)); clear h1)
            try go_wp2_with fail
            try simp only [Act.put, List.setIfInBounds_toArray, List.set_cons_zero, List.set_cons_succ]
            refine hK.out _ _ _ ⟨HV.out, HX.out⟩ ?_
            clear hK K
            refine held_take 8 71 (v := ?_) rfl rfl (by kernel_rfl) (by kernel_rfl) (by kernel_rfl) (fun _ _ _ h => h) (by rfl) ?_ ⟨HV.out, HX.out⟩ ?_
            rotate_left
            · (intro w hSw; (try dsimp only at hSw); have a0 := hSw.1.all.load (k := n20) (encR_n _) Try.prog; have a1 := hSw.2.all.load (k := n20) (encR_n _) Try.prog; clear hSw;try simp only [List.getElem_toArray, List.getElem_cons_zero, List.getElem_cons_succ]; go_simp; try (with_reducible rfl))
            try simp only [List.setIfInBounds_toArray, List.set_cons_zero, List.set_cons_succ]
            refine held_take 9 72 (v := ?_) rfl rfl (by kernel_rfl) (by kernel_rfl) (by kernel_rfl) (fun _ _ _ h => h) (by rfl) ?_ ⟨HV.out, HX.out⟩ ?_
            rotate_left
            · (intro w hSw; (try dsimp only at hSw); have a0 := hSw.1.all.load (k := n20) (encR_n _) Try.prog; have a1 := hSw.2.all.load (k := n20) (encR_n _) Try.prog; clear hSw;try simp only [List.getElem_toArray, List.getElem_cons_zero, List.getElem_cons_succ]; go_simp; try (with_reducible rfl))
            try simp only [List.setIfInBounds_toArray, List.set_cons_zero, List.set_cons_succ]
            refine held_take 11 74 (v := ?_) rfl rfl (by kernel_rfl) (by kernel_rfl) (by kernel_rfl) (fun _ _ _ h => h) (by rfl) ?_ ⟨HV.out, HX.out⟩ ?_
            rotate_left
            · (intro w hSw; (try dsimp only at hSw); have a0 := hSw.1.all.load (k := n20) (encR_n _) Try.prog; have a1 := hSw.2.all.load (k := n20) (encR_n _) Try.prog; clear hSw;try simp only [List.getElem_toArray, List.getElem_cons_zero, List.getElem_cons_succ]; go_simp; try (with_reducible rfl))
            try simp only [List.setIfInBounds_toArray, List.set_cons_zero, List.set_cons_succ]
            refine held_take 12 75 (v := ?_) rfl rfl (by kernel_rfl) (by kernel_rfl) (by kernel_rfl) (fun _ _ _ h => h) (by rfl) ?_ ⟨HV.out, HX.out⟩ ?_
            rotate_left
            · (intro w hSw; (try dsimp only at hSw); have a0 := hSw.1.all.load (k := n20) (encR_n _) Try.prog; have a1 := hSw.2.all.load (k := n20) (encR_n _) Try.prog; clear hSw;try simp only [List.getElem_toArray, List.getElem_cons_zero, List.getElem_cons_succ]; go_simp; try (with_reducible rfl))
            try simp only [List.setIfInBounds_toArray, List.set_cons_zero, List.set_cons_succ]
            refine held_take 14 77 (v := ?_) rfl rfl (by kernel_rfl) (by kernel_rfl) (by kernel_rfl) (fun _ _ _ h => h) (by rfl) ?_ ⟨HV.out, HX.out⟩ ?_
            rotate_left
            · (intro w hSw; (try dsimp only at hSw); have a0 := hSw.1.all.load (k := n20) (encR_n _) Try.prog; have a1 := hSw.2.all.load (k := n20) (encR_n _) Try.prog; clear hSw;try simp only [List.getElem_toArray, List.getElem_cons_zero, List.getElem_cons_succ]; go_simp; try (with_reducible rfl))
            try simp only [List.setIfInBounds_toArray, List.set_cons_zero, List.set_cons_succ]
            refine held_call 13 76 rfl rfl (by kernel_rfl) (by rfl) (fun K hK => ?_)
            try simp only [List.getElem_toArray, List.getElem_cons_zero, List.getElem_cons_succ]
            go_simp
            (go_at_call 13; (with_reducible refine (HM1.out _).mono ?_); rintro e w17 ⟨rfl, h1⟩; have HX := Lib.hid (HX.out.below h1); have HV := Lib.hid (HV.out.below h1); have hb14 := Lib.hid (hb14.out.trans (h1.mono hb14.out.size)); clear h1)
            try go_wp2_with fail
            try simp only [Act.put, List.setIfInBounds_toArray, List.set_cons_zero, List.set_cons_succ]
            refine hK.out _ _ _ ⟨HV.out, HX.out⟩ ?_
            clear hK K
            refine held_call 15 78 rfl rfl (by kernel_rfl) (by rfl) (fun K hK => ?_)
            try simp only [List.getElem_toArray, List.getElem_cons_zero, List.getElem_cons_succ]
            go_simp
            (go_at_call 13; (with_reducible refine (HM2.out _).mono ?_); rintro e w18 ⟨rfl, h1⟩; have HX := Lib.hid (HX.out.below h1); have HV := Lib.hid (HV.out.below h1); have hb14 := Lib.hid (hb14.out.trans (h1.mono hb14.out.size)); clear h1)
            try go_wp2_with fail
            try simp only [Act.put, List.setIfInBounds_toArray, List.set_cons_zero, List.set_cons_succ]
            refine hK.out _ _ _ ⟨HV.out, HX.out⟩ ?_
            clear hK K
            refine held_take 16 79 (v := ?_) rfl rfl (by kernel_rfl) (by kernel_rfl) (by kernel_rfl) (fun _ _ _ h => h) (by rfl) ?_ ⟨HV.out, HX.out⟩ ?_
            rotate_left
            · (intro w hSw; (try dsimp only at hSw); have a0 := hSw.1.all.load (k := n20) (encR_n _) Try.prog; have a1 := hSw.2.all.load (k := n20) (encR_n _) Try.prog; clear hSw;try simp only [List.getElem_toArray, List.getElem_cons_zero, List.getElem_cons_succ]; go_simp; try (with_reducible rfl))
            try simp only [List.setIfInBounds_toArray, List.set_cons_zero, List.set_cons_succ]
            refine held_take 17 80 (v := ?_) rfl rfl (by kernel_rfl) (by kernel_rfl) (by kernel_rfl) (fun _ _ _ h => h) (by rfl) ?_ ⟨HV.out, HX.out⟩ ?_
            rotate_left
            · (intro w hSw; (try dsimp only at hSw); have a0 := hSw.1.all.load (k := n20) (encR_n _) Try.prog; have a1 := hSw.2.all.load (k := n20) (encR_n _) Try.prog; clear hSw;try simp only [List.getElem_toArray, List.getElem_cons_zero, List.getElem_cons_succ]; go_simp; try (with_reducible rfl))
            try simp only [List.setIfInBounds_toArray, List.set_cons_zero, List.set_cons_succ]
            refine held_take 18 81 (v := ?_) rfl rfl (by kernel_rfl) (by kernel_rfl) (by kernel_rfl) (fun _ _ _ h => h) (by rfl) ?_ ⟨HV.out, HX.out⟩ ?_
            rotate_left
            · (intro w hSw; (try dsimp only at hSw); have a0 := hSw.1.all.load (k := n20) (encR_n _) Try.prog; have a1 := hSw.2.all.load (k := n20) (encR_n _) Try.prog; clear hSw;try simp only [List.getElem_toArray, List.getElem_cons_zero, List.getElem_cons_succ]; go_simp; try (with_reducible rfl))
            try simp only [List.setIfInBounds_toArray, List.set_cons_zero, List.set_cons_succ]
            refine held_take 19 82 (v := ?_) rfl rfl (by kernel_rfl) (by kernel_rfl) (by kernel_rfl) (fun _ _ _ h => h) (by rfl) ?_ ⟨HV.out, HX.out⟩ ?_
            rotate_left
            · (intro w hSw; (try dsimp only at hSw); have a0 := hSw.1.all.load (k := n20) (encR_n _) Try.prog; have a1 := hSw.2.all.load (k := n20) (encR_n _) Try.prog; clear hSw;try simp only [List.getElem_toArray, List.getElem_cons_zero, List.getElem_cons_succ]; go_simp; try (with_reducible rfl))
            try simp only [List.setIfInBounds_toArray, List.set_cons_zero, List.set_cons_succ]
            refine held_take 20 4 (v := ?_) rfl rfl (by kernel_rfl) (by kernel_rfl) (by kernel_rfl) (fun _ _ _ h => h) (by rfl) ?_ ⟨HV.out, HX.out⟩ ?_
            rotate_left
            · (intro w hSw; (try dsimp only at hSw); have a0 := hSw.1.all.load (k := n20) (encR_n _) Try.prog; have a1 := hSw.2.all.load (k := n20) (encR_n _) Try.prog; clear hSw;try simp only [List.getElem_toArray, List.getElem_cons_zero, List.getElem_cons_succ]; go_simp; try (with_reducible rfl))
            try simp only [List.setIfInBounds_toArray, List.set_cons_zero, List.set_cons_succ]
            refine wpAnyH_done (by kernel_rfl) ?_ _
            go_wp2
            go_ret
            exact ⟨rfl, HB0.out.trans ((HBZ.out.trans (hb14.out.mono HBZ.out.size)).mono HB0.out.size)⟩
          · have hK0 : ¬ (K : Int) = 0 := fun e => hmm (HKF.out.1 (by omega))
            have hK1 : ((K : Int) == 0) = false := by simpa using hK0
            have hK2 : decide ((K : Int) = 0) = false := decide_eq_false hK0
            have hm3 : (m1 == m2) = false := by simpa using hmm
            have hm4 : decide (m1 = m2) = false := decide_eq_false hmm
            refine wp_region_held_drew (S := (fun w' => RAt w' B8 0 was ∧ RAt w' B 0 r)) (by kernel_rfl) ⟨HV.out, HX.out⟩ (fun _ => ?_)
            refine held_take 0 63 (v := ?_) rfl rfl (by kernel_rfl) (by kernel_rfl) (by kernel_rfl) (fun _ _ _ h => h) (by rfl) ?_ ⟨HV.out, HX.out⟩ ?_
            rotate_left
            · (intro w hSw; (try dsimp only at hSw); have a0 := hSw.1.all.load (k := n20) (encR_n _) Try.prog; have a1 := hSw.2.all.load (k := n20) (encR_n _) Try.prog; clear hSw;try simp only [List.getElem_toArray, List.getElem_cons_zero, List.getElem_cons_succ]; go_simp; try (with_reducible rfl))
            try simp only [List.setIfInBounds_toArray, List.set_cons_zero, List.set_cons_succ]
            refine held_take 1 64 (v := ?_) rfl rfl (by kernel_rfl) (by kernel_rfl) (by kernel_rfl) (fun _ _ _ h => h) (by rfl) ?_ ⟨HV.out, HX.out⟩ ?_
            rotate_left
            · (intro w hSw; (try dsimp only at hSw); have a0 := hSw.1.all.load (k := n20) (encR_n _) Try.prog; have a1 := hSw.2.all.load (k := n20) (encR_n _) Try.prog; clear hSw;try simp only [List.getElem_toArray, List.getElem_cons_zero, List.getElem_cons_succ]; go_simp; try (with_reducible rfl))
            try simp only [List.setIfInBounds_toArray, List.set_cons_zero, List.set_cons_succ]
            refine held_call 2 65 rfl rfl (by kernel_rfl) (by rfl) (fun K hK => ?_)
            try simp only [List.getElem_toArray, List.getElem_cons_zero, List.getElem_cons_succ]
            go_simp
            (go_at_call 29; (with_reducible refine (like_any (some ⟨g5, 0, none⟩) 17 17 (dgs T) (by decide) _ (HD13.out.below hb14.out).rd).mono ?_); rintro e w14 ⟨v14, rfl, h1⟩; obtain ⟨A14, c14, hv14, hr14⟩ := h1.rdl; subst hv14; have HR14 := Lib.hid hr14; have HX := Lib.hid (HX.out.below h1.bel); have HV := Lib.hid (HV.out.below h1.bel); have hb14 := Lib.hid (hb14.out.trans (h1.bel.mono hb14.out.size)); clear h1 hr14)
            try go_wp2_with fail
            try simp only [Act.put, List.setIfInBounds_toArray, List.set_cons_zero, List.set_cons_succ]
            refine hK.out _ _ _ ⟨HV.out, HX.out⟩ ?_
            clear hK K
            refine held_call 3 66 rfl rfl (by kernel_rfl) (by rfl) (fun K hK => ?_)
            try simp only [List.getElem_toArray, List.getElem_cons_zero, List.getElem_cons_succ]
            go_simp
            (go_at_call 17; (with_reducible refine (same_dig (some ⟨g13, 0, none⟩) A14 17 17 c13 c14 (dgs T) (dgs T) (by decide) _ (HY13.out.below hb14.out) HR14.out).mono ?_); rintro e w15 ⟨rfl, h1⟩; rw [sS]; have HX := Lib.hid (HX.out.below h1); have HV := Lib.hid (HV.out.below h1); have hb14 := Lib.hid (hb14.out.trans (h1.mono hb14.out.size)); clear h1)
            try go_wp2_with fail
            try simp only [Act.put, List.setIfInBounds_toArray, List.set_cons_zero, List.set_cons_succ]
            refine hK.out _ _ _ ⟨HV.out, HX.out⟩ ?_
            clear hK K
            refine held_take 4 67 (v := ?_) rfl rfl (by kernel_rfl) (by kernel_rfl) (by kernel_rfl) (fun _ _ _ h => h) (by rfl) ?_ ⟨HV.out, HX.out⟩ ?_
            rotate_left
            · (intro w hSw; (try dsimp only at hSw); have a0 := hSw.1.all.load (k := n20) (encR_n _) Try.prog; have a1 := hSw.2.all.load (k := n20) (encR_n _) Try.prog; clear hSw;try simp only [List.getElem_toArray, List.getElem_cons_zero, List.getElem_cons_succ]; go_simp; try (with_reducible rfl))
            try simp only [List.setIfInBounds_toArray, List.set_cons_zero, List.set_cons_succ]
            refine held_take 5 68 (v := ?_) rfl rfl (by kernel_rfl) (by kernel_rfl) (by kernel_rfl) (fun _ _ _ h => h) (by rfl) ?_ ⟨HV.out, HX.out⟩ ?_
            rotate_left
            · (intro w hSw; (try dsimp only at hSw); have a0 := hSw.1.all.load (k := n20) (encR_n _) Try.prog; have a1 := hSw.2.all.load (k := n20) (encR_n _) Try.prog; clear hSw;try simp only [List.getElem_toArray, List.getElem_cons_zero, List.getElem_cons_succ]; go_simp; try (with_reducible rfl))
            try simp only [List.setIfInBounds_toArray, List.set_cons_zero, List.set_cons_succ]
            refine held_take 6 69 (v := ?_) rfl rfl (by kernel_rfl) (by kernel_rfl) (by kernel_rfl) (fun _ _ _ h => h) (by rfl) ?_ ⟨HV.out, HX.out⟩ ?_
            rotate_left
            · (intro w hSw; (try dsimp only at hSw); have a0 := hSw.1.all.load (k := n20) (encR_n _) Try.prog; have a1 := hSw.2.all.load (k := n20) (encR_n _) Try.prog; clear hSw;try simp only [List.getElem_toArray, List.getElem_cons_zero, List.getElem_cons_succ]; go_simp; try (with_reducible rfl))
            try simp only [List.setIfInBounds_toArray, List.set_cons_zero, List.set_cons_succ]
            refine held_take 10 73 (v := ?_) rfl rfl (by kernel_rfl) (by kernel_rfl) (by kernel_rfl) (fun _ _ _ h => h) (by rfl) ?_ ⟨HV.out, HX.out⟩ ?_
            rotate_left
            · (intro w hSw; (try dsimp only at hSw); have a0 := hSw.1.all.load (k := n20) (encR_n _) Try.prog; have a1 := hSw.2.all.load (k := n20) (encR_n _) Try.prog; clear hSw;try simp only [List.getElem_toArray, List.getElem_cons_zero, List.getElem_cons_succ]; go_simp; try (with_reducible rfl))
            try simp only [List.setIfInBounds_toArray, List.set_cons_zero, List.set_cons_succ]
            refine held_call 7 70 rfl rfl (by kernel_rfl) (by rfl) (fun K hK => ?_)
            try simp only [List.getElem_toArray, List.getElem_cons_zero, List.getElem_cons_succ]
            go_simp
            (go_at_call 23; (with_reducible refine (HDN.out _ (HD13.out.below hb14.out).rd (HX13.out.below hb14.out)).mono ?_); rintro e w16 ⟨v16, rfl, h1⟩; obtain ⟨A16, c16, hv16, _⟩ := gn_rd h1; rw [HKL.out] at hv16; subst hv16; have HX := Lib.hid (HX.out.below h1.bel); have HV := Lib.hid (HV.out.below h1.bel); have hb14 := Lib.hid (hb14.out.trans (h1.bel.mono hb14.out.size)); clear h1)
            try go_wp2_with fail
            try simp only [Act.put, List.setIfInBounds_toArray, List.set_cons_zero, List.set_cons_succ]
            refine hK.out _ _ _ ⟨HV.out, HX.out⟩ ?_
            clear hK K
            refine held_take 8 71 (v := ?_) rfl rfl (by kernel_rfl) (by kernel_rfl) (by kernel_rfl) (fun _ _ _ h => h) (by rfl) ?_ ⟨HV.out, HX.out⟩ ?_
            rotate_left
            · (intro w hSw; (try dsimp only at hSw); have a0 := hSw.1.all.load (k := n20) (encR_n _) Try.prog; have a1 := hSw.2.all.load (k := n20) (encR_n _) Try.prog; clear hSw;try simp only [List.getElem_toArray, List.getElem_cons_zero, List.getElem_cons_succ]; go_simp; try (with_reducible rfl))
            try simp only [List.setIfInBounds_toArray, List.set_cons_zero, List.set_cons_succ]
            refine held_take 9 72 (v := ?_) rfl rfl (by kernel_rfl) (by kernel_rfl) (by kernel_rfl) (fun _ _ _ h => h) (by rfl) ?_ ⟨HV.out, HX.out⟩ ?_
            rotate_left
            · (intro w hSw; (try dsimp only at hSw); have a0 := hSw.1.all.load (k := n20) (encR_n _) Try.prog; have a1 := hSw.2.all.load (k := n20) (encR_n _) Try.prog; clear hSw;try simp only [List.getElem_toArray, List.getElem_cons_zero, List.getElem_cons_succ]; go_simp; try (with_reducible rfl))
            try simp only [List.setIfInBounds_toArray, List.set_cons_zero, List.set_cons_succ]
            refine held_take 11 74 (v := ?_) rfl rfl (by kernel_rfl) (by kernel_rfl) (by kernel_rfl) (fun _ _ _ h => h) (by rfl) ?_ ⟨HV.out, HX.out⟩ ?_
            rotate_left
            · (intro w hSw; (try dsimp only at hSw); have a0 := hSw.1.all.load (k := n20) (encR_n _) Try.prog; have a1 := hSw.2.all.load (k := n20) (encR_n _) Try.prog; clear hSw;try simp only [List.getElem_toArray, List.getElem_cons_zero, List.getElem_cons_succ]; go_simp; try (with_reducible rfl))
            try simp only [List.setIfInBounds_toArray, List.set_cons_zero, List.set_cons_succ]
            refine held_take 12 75 (v := ?_) rfl rfl (by kernel_rfl) (by kernel_rfl) (by kernel_rfl) (fun _ _ _ h => h) (by rfl) ?_ ⟨HV.out, HX.out⟩ ?_
            rotate_left
            · (intro w hSw; (try dsimp only at hSw); have a0 := hSw.1.all.load (k := n20) (encR_n _) Try.prog; have a1 := hSw.2.all.load (k := n20) (encR_n _) Try.prog; clear hSw;try simp only [List.getElem_toArray, List.getElem_cons_zero, List.getElem_cons_succ]; go_simp; try (with_reducible rfl))
            try simp only [List.setIfInBounds_toArray, List.set_cons_zero, List.set_cons_succ]
            refine held_take 14 77 (v := ?_) rfl rfl (by kernel_rfl) (by kernel_rfl) (by kernel_rfl) (fun _ _ _ h => h) (by rfl) ?_ ⟨HV.out, HX.out⟩ ?_
            rotate_left
            · (intro w hSw; (try dsimp only at hSw); have a0 := hSw.1.all.load (k := n20) (encR_n _) Try.prog; have a1 := hSw.2.all.load (k := n20) (encR_n _) Try.prog; clear hSw;try simp only [List.getElem_toArray, List.getElem_cons_zero, List.getElem_cons_succ]; go_simp; try (with_reducible rfl))
            try simp only [List.setIfInBounds_toArray, List.set_cons_zero, List.set_cons_succ]
            refine held_call 13 76 rfl rfl (by kernel_rfl) (by rfl) (fun K hK => ?_)
            try simp only [List.getElem_toArray, List.getElem_cons_zero, List.getElem_cons_succ]
            go_simp
            (go_at_call 13; (with_reducible refine (HM1.out _).mono ?_); rintro e w17 ⟨rfl, h1⟩; have HX := Lib.hid (HX.out.below h1); have HV := Lib.hid (HV.out.below h1); have hb14 := Lib.hid (hb14.out.trans (h1.mono hb14.out.size)); clear h1)
            try go_wp2_with fail
            try simp only [Act.put, List.setIfInBounds_toArray, List.set_cons_zero, List.set_cons_succ]
            refine hK.out _ _ _ ⟨HV.out, HX.out⟩ ?_
            clear hK K
            refine held_call 15 78 rfl rfl (by kernel_rfl) (by rfl) (fun K hK => ?_)
            try simp only [List.getElem_toArray, List.getElem_cons_zero, List.getElem_cons_succ]
            go_simp
            (go_at_call 13; (with_reducible refine (HM2.out _).mono ?_); rintro e w18 ⟨rfl, h1⟩; have HX := Lib.hid (HX.out.below h1); have HV := Lib.hid (HV.out.below h1); have hb14 := Lib.hid (hb14.out.trans (h1.mono hb14.out.size)); clear h1)
            try go_wp2_with fail
            try simp only [Act.put, List.setIfInBounds_toArray, List.set_cons_zero, List.set_cons_succ]
            refine hK.out _ _ _ ⟨HV.out, HX.out⟩ ?_
            clear hK K
            refine held_take 16 79 (v := ?_) rfl rfl (by kernel_rfl) (by kernel_rfl) (by kernel_rfl) (fun _ _ _ h => h) (by rfl) ?_ ⟨HV.out, HX.out⟩ ?_
            rotate_left
            · (intro w hSw; (try dsimp only at hSw); have a0 := hSw.1.all.load (k := n20) (encR_n _) Try.prog; have a1 := hSw.2.all.load (k := n20) (encR_n _) Try.prog; clear hSw;try simp only [List.getElem_toArray, List.getElem_cons_zero, List.getElem_cons_succ]; go_simp; try (with_reducible rfl))
            try simp only [List.setIfInBounds_toArray, List.set_cons_zero, List.set_cons_succ]
            refine held_take 17 80 (v := ?_) rfl rfl (by kernel_rfl) (by kernel_rfl) (by kernel_rfl) (fun _ _ _ h => h) (by rfl) ?_ ⟨HV.out, HX.out⟩ ?_
            rotate_left
            · (intro w hSw; (try dsimp only at hSw); have a0 := hSw.1.all.load (k := n20) (encR_n _) Try.prog; have a1 := hSw.2.all.load (k := n20) (encR_n _) Try.prog; clear hSw;try simp only [List.getElem_toArray, List.getElem_cons_zero, List.getElem_cons_succ]; go_simp; try (with_reducible rfl))
            try simp only [List.setIfInBounds_toArray, List.set_cons_zero, List.set_cons_succ]
            refine held_take 18 81 (v := ?_) rfl rfl (by kernel_rfl) (by kernel_rfl) (by kernel_rfl) (fun _ _ _ h => h) (by rfl) ?_ ⟨HV.out, HX.out⟩ ?_
            rotate_left
            · (intro w hSw; (try dsimp only at hSw); have a0 := hSw.1.all.load (k := n20) (encR_n _) Try.prog; have a1 := hSw.2.all.load (k := n20) (encR_n _) Try.prog; clear hSw;try simp only [List.getElem_toArray, List.getElem_cons_zero, List.getElem_cons_succ]; go_simp; try (with_reducible rfl))
            try simp only [List.setIfInBounds_toArray, List.set_cons_zero, List.set_cons_succ]
            refine held_take 19 82 (v := ?_) rfl rfl (by kernel_rfl) (by kernel_rfl) (by kernel_rfl) (fun _ _ _ h => h) (by rfl) ?_ ⟨HV.out, HX.out⟩ ?_
            rotate_left
            · (intro w hSw; (try dsimp only at hSw); have a0 := hSw.1.all.load (k := n20) (encR_n _) Try.prog; have a1 := hSw.2.all.load (k := n20) (encR_n _) Try.prog; clear hSw;try simp only [List.getElem_toArray, List.getElem_cons_zero, List.getElem_cons_succ]; go_simp; try (with_reducible rfl))
            try simp only [List.setIfInBounds_toArray, List.set_cons_zero, List.set_cons_succ]
            refine held_take 20 4 (v := ?_) rfl rfl (by kernel_rfl) (by kernel_rfl) (by kernel_rfl) (fun _ _ _ h => h) (by rfl) ?_ ⟨HV.out, HX.out⟩ ?_
            rotate_left
            · (intro w hSw; (try dsimp only at hSw); have a0 := hSw.1.all.load (k := n20) (encR_n _) Try.prog; have a1 := hSw.2.all.load (k := n20) (encR_n _) Try.prog; clear hSw;try simp only [List.getElem_toArray, List.getElem_cons_zero, List.getElem_cons_succ]; go_simp; try (with_reducible rfl))
            try simp only [List.setIfInBounds_toArray, List.set_cons_zero, List.set_cons_succ]
            refine wpAnyH_done (by kernel_rfl) ?_ _
            go_wp2
            go_ret
            exact ⟨rfl, HB0.out.trans ((HBZ.out.trans (hb14.out.mono HBZ.out.size)).mono HB0.out.size)⟩
    · have hca' : (ca == 0) = false := by simpa using hca
      have hca2 : decide (¬ ca = 0) = true := decide_eq_true hca
      have hca3 : (ca != 0) = true := by simpa using hca
      go_enter Try.func7, Try.ntmps7
      go_upto_region 1 with fail
      have HX := Lib.hid (rAt_new W r 37 (0, 0))
      have HB0 := Lib.hid (show Below W.heap.size W (W.alloc (.cells (encR r).toArray 37 (0, 0))) from (Below.refl _ _).alloc (Nat.le_refl _) _)
      generalize W.alloc _ = W0 at HX HB0 ⊢
      have hb := Lib.hid (Below.refl W0.heap.size W0)
      obtain ⟨B, hB⟩ : ∃ b, W.heap.size = b := ⟨_, rfl⟩
      rw [hB] at HX ⊢
      have HBW := Lib.hid hB
      clear hB
      have c0 := HX.out.all.load (k := n20) (encR_n _) Try.prog
      go_wp2_with (first
        | (go_at_call 8; (with_reducible refine (Dig.awake_any _).mono ?_); rintro e w1 ⟨rfl, h1⟩; have HX := Lib.hid (HX.out.below h1); have hb := Lib.hid (hb.out.trans (h1.mono hb.out.size)); clear h1; (try clear c0); have c0 := HX.out.all.load (k := n20) (encR_n _) Try.prog)
        | (go_at_call 30; (with_reducible refine (refR_any _ _).mono ?_); rintro e w2 ⟨rfl, h1⟩; clear c0; rw [HRT.out]; have HX := Lib.hid (HX.out.below h1); have hb := Lib.hid (hb.out.trans (h1.mono hb.out.size)); clear h1)
        | (refine wpList_row_run (o := ⟨some 28, .buildSlice 22 0 #[], _, _, _, _⟩) rfl 22 0 #[] rfl #[] (by simp) (row_R0 _) ?_)
        | (refine wpList_appR rfl (.tmp 28) (.tmp 29) rfl _ [] L A n cap HN.out rfl rfl (gr_zero w2) ((HR.out.below (HBW.out ▸ HB0.out.trans (hb.out.mono HB0.out.size))).below ((Below.refl _ _).alloc (Nat.le_refl _) _)) HNI.out (by have := HN.out; simp; omega) ?_; rintro v7 w7 h7 _; rw [List.nil_append] at h7; have HX := Lib.hid (HX.out.below h7.bel); have hb := Lib.hid (hb.out.trans (h7.bel.mono hb.out.size)); obtain ⟨A7, c7, hv7⟩ := h7.rv; obtain rfl := hv7.eq; have HNW := Lib.hid (new_any A7 c7 L (by have := HN.out; omega) w7 hv7); clear h7 hv7)
        | (go_at_call 9; (with_reducible refine (HNW.out).mono ?_); rintro e w8 ⟨h8, h9⟩; have h10 := made_no h8 HCA.out hca; subst h10; have HX := Lib.hid (HX.out.below h9); have hb := Lib.hid (hb.out.trans (h9.mono hb.out.size)); clear h8 h9))
      go_ret
      exact ⟨rfl, HB0.out.trans (hb.out.mono HB0.out.size)⟩
end Go.Proofs.Ytdcbbjlbfghpbaa.DigestBack
