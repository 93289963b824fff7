/-
  A table in memory; where a prefix stands. Conditions: those that each theorem names.
-/
import Derived.Test.YtdcbbjlbfghpbaaGreatDd
namespace Go.Proofs.YtdcbbjlbfghpbaaGreat
open Go Go.RowKit H2
set_option linter.unusedVariables false
set_option linter.unusedSimpArgs false
namespace Tab
theorem has_false' {T : List Rt} (hs : Srt T) (p : Pf) (h : pos T p < T.length) : has T p = decide (cmpP T[pos T p].to p = 0) := by
  rw [Bool.eq_iff_iff, pos_has hs, decide_eq_true_iff, cmp_zero]
  exact ⟨fun ⟨_, e⟩ => e, fun e => ⟨h, e⟩⟩
theorem has_end {T : List Rt} (hs : Srt T) (p : Pf) (h : ¬ pos T p < T.length) : has T p = false := by
  rw [← Bool.not_eq_true, pos_has hs]
  exact fun ⟨h', _⟩ => h h'
set_option maxRecDepth 100000 in
set_option maxHeartbeats 8000000 in
theorem bsearch_any (A : Option Addr) (cap : Nat) (L : List Rt) (hL : L.length ≤ 100000) (hs : Srt L) (p : Pf) (w : World) (hr : Rd w A L) :
    Calls Tryz.prog 62 #[.slice A L.length cap, .agg (encP p).toArray, .func (.func 63) #[] #[]] w fun e w' => e = .returned (.tuple #[.int .i64 (pos L p), .bool (has L p)]) ∧ Below w.heap.size w w' := by
  have HR := Lib.hid hr
  have HS := Lib.hid hs
  have HPL := Lib.hid (pos_le L p)
  obtain ⟨n, hn⟩ : ∃ n, L.length = n := ⟨_, rfl⟩
  have HN := Lib.hid hn
  rw [hn]
  rw [hn] at hL
  have hn1 : n ≤ 9223372036854775807 := by omega
  have HLN := Lib.hid hL
  clear hr hs hn hL
  obtain ⟨q, hq⟩ : ∃ q, pos L p = q := ⟨_, rfl⟩
  have HQ := Lib.hid hq
  rw [hq]
  clear hq
  go_enter Tryz.func62, Tryz.ntmps62
  go_upto_region 1 with fail
  have H := Lib.hid (PAt.mk (at_new w (encP p) 33 (0, 0)))
  have hb := Lib.hid (show Below w.heap.size w (w.alloc (.cells (encP p).toArray 33 (0, 0))) from (Below.refl _ _).alloc (Nat.le_refl _) _)
  generalize w.alloc _ = W at H hb ⊢
  generalize w.heap.size = B at H ⊢
  go_wp2
  go_loopw [9, 10] (fun s9 s10 wr => ∃ i j : Nat, s9 = .int .i64 i ∧ s10 = .int .i64 j ∧ (i ≤ q ∧ q ≤ j ∧ j ≤ n) ∧ PAt wr B 0 p ∧ Below w.heap.size w wr) (fun s9 s10 _ => (intOf s10).toNat - (intOf s9).toNat)
  case atStart => exact ⟨0, n, rfl, rfl, ⟨by omega, by rw [← HQ.out, ← HN.out]; exact HPL.out, Nat.le_refl _⟩, H.out, hb.out⟩
  case round =>
    obtain ⟨i, j, rfl, rfl, hij, hp, hbb⟩ := hrel
    have HIJ := Lib.hid hij
    have HP := Lib.hid hp
    have HB := Lib.hid hbb
    clear hij hp hbb H hb
    by_cases hlt : i < j
    · have hlt' : (i : Int) < (j : Int) := by omega
      obtain ⟨h, hh⟩ : ∃ h, (i + j) / 2 = h := ⟨_, rfl⟩
      have hh1 : h < n := by have := HIJ.out; omega
      have hh2 : i ≤ h ∧ h < j := by omega
      have HH2 := Lib.hid hh2
      have h0 : (0 : Int) ≤ (h : Int) := by omega
      have hht : (h : Int) < (n : Int) := by omega
      have e0 : (i : Int) + (j : Int) ≤ 200000 ∧ (0 : Int) ≤ (i : Int) + (j : Int) := by have := HIJ.out; have := HLN.out; omega
      have e1 : IntKind.i64.wrap ((i : Int) + (j : Int)) = (i : Int) + (j : Int) := IntWalk.i64_in _ (by omega)
      have e2 : IntKind.u64.wrap ((i : Int) + (j : Int)) = (i : Int) + (j : Int) := by simp [IntKind.wrap, IntKind.bits, IntKind.signed]; omega
      have e3 : ((i : Int) + (j : Int)) / 2 = (h : Int) := by omega
      have e4 : IntKind.i64.wrap (h : Int) = (h : Int) := IntWalk.i64_in _ (by have := HLN.out; omega)
      clear e0
      have hlL : h < L.length := by rw [HN.out]; exact hh1
      have HPOS := Lib.hid (pos_lt HS.out (p := p) hlL)
      obtain ⟨b, o, rfl, hra⟩ := HR.out h hlL
      have HRA := Lib.hid (hra.below HB.out)
      clear hra hh hh2
      go_upto_region 5 with fail
      have HP1 := Lib.hid HP.out.drew
      have HRA1 := Lib.hid HRA.out.drew
      have HB1 := Lib.hid HB.out.drew
      obtain ⟨x, hx⟩ : ∃ x, L[h] = x := ⟨_, rfl⟩
      rw [hx] at HRA1 HPOS
      clear hx HRA HP HB
      by_cases hq : h < q
      · have hc : decide (cmpP x.to p < 0) = true := decide_eq_true (HPOS.out.2 (by rw [HQ.out]; exact hq))
        clear HPOS
        refine wp_region_held_drew (S := (fun w' => PAt w' B 0 p ∧ RAt w' b (o + h * 20) x)) (by kernel_rfl) ⟨HP1.out, HRA1.out⟩ (fun _ => ?_)
        refine held_take 0 24 (v := ?_) rfl rfl (by kernel_rfl) (by kernel_rfl) (by kernel_rfl) (fun _ _ _ h => h) (by rfl) ?_ ⟨HP1.out, HRA1.out⟩ ?_
        rotate_left
        · (intro w hSw; (try dsimp only at hSw); have c0 := hSw.1.all.load (k := n18) (encP_n _) Tryz.prog; have d0 : Sem.run Tryz.prog (loadCellsFrom ⟨b, o + h * n20, none⟩ 0 n20 #[]) w = .ok (encR x).toArray w := hSw.2.all.load (k := n20) (encR_n _) Tryz.prog; clear hSw;try simp only [List.getElem_toArray, List.getElem_cons_zero, List.getElem_cons_succ]; go_simp; try (with_reducible rfl))
        try simp only [List.setIfInBounds_toArray, List.set_cons_zero, List.set_cons_succ]
        refine held_take 1 25 (v := ?_) rfl rfl (by kernel_rfl) (by kernel_rfl) (by kernel_rfl) (fun _ _ _ h => h) (by rfl) ?_ ⟨HP1.out, HRA1.out⟩ ?_
        rotate_left
        · (intro w hSw; (try dsimp only at hSw); have c0 := hSw.1.all.load (k := n18) (encP_n _) Tryz.prog; have d0 : Sem.run Tryz.prog (loadCellsFrom ⟨b, o + h * n20, none⟩ 0 n20 #[]) w = .ok (encR x).toArray w := hSw.2.all.load (k := n20) (encR_n _) Tryz.prog; clear hSw;try simp only [List.getElem_toArray, List.getElem_cons_zero, List.getElem_cons_succ]; go_simp; try (with_reducible rfl))
        try simp only [List.setIfInBounds_toArray, List.set_cons_zero, List.set_cons_succ]
        refine held_take 2 26 (v := ?_) rfl rfl (by kernel_rfl) (by kernel_rfl) (by kernel_rfl) (fun _ _ _ h => h) (by rfl) ?_ ⟨HP1.out, HRA1.out⟩ ?_
        rotate_left
        · (intro w hSw; (try dsimp only at hSw); have c0 := hSw.1.all.load (k := n18) (encP_n _) Tryz.prog; have d0 : Sem.run Tryz.prog (loadCellsFrom ⟨b, o + h * n20, none⟩ 0 n20 #[]) w = .ok (encR x).toArray w := hSw.2.all.load (k := n20) (encR_n _) Tryz.prog; clear hSw;try simp only [List.getElem_toArray, List.getElem_cons_zero, List.getElem_cons_succ]; go_simp; try (with_reducible rfl))
        try simp only [List.setIfInBounds_toArray, List.set_cons_zero, List.set_cons_succ]
        refine held_take 3 27 (v := ?_) rfl rfl (by kernel_rfl) (by kernel_rfl) (by kernel_rfl) (fun _ _ _ h => h) (by rfl) ?_ ⟨HP1.out, HRA1.out⟩ ?_
        rotate_left
        · (intro w hSw; (try dsimp only at hSw); have c0 := hSw.1.all.load (k := n18) (encP_n _) Tryz.prog; have d0 : Sem.run Tryz.prog (loadCellsFrom ⟨b, o + h * n20, none⟩ 0 n20 #[]) w = .ok (encR x).toArray w := hSw.2.all.load (k := n20) (encR_n _) Tryz.prog; clear hSw;try simp only [List.getElem_toArray, List.getElem_cons_zero, List.getElem_cons_succ]; go_simp; try (with_reducible rfl))
        try simp only [List.setIfInBounds_toArray, List.set_cons_zero, List.set_cons_succ]
        refine held_take 4 28 (v := ?_) rfl rfl (by kernel_rfl) (by kernel_rfl) (by kernel_rfl) (fun _ _ _ h => h) (by rfl) ?_ ⟨HP1.out, HRA1.out⟩ ?_
        rotate_left
        · (intro w hSw; (try dsimp only at hSw); have c0 := hSw.1.all.load (k := n18) (encP_n _) Tryz.prog; have d0 : Sem.run Tryz.prog (loadCellsFrom ⟨b, o + h * n20, none⟩ 0 n20 #[]) w = .ok (encR x).toArray w := hSw.2.all.load (k := n20) (encR_n _) Tryz.prog; clear hSw;try simp only [List.getElem_toArray, List.getElem_cons_zero, List.getElem_cons_succ]; go_simp; try (with_reducible rfl))
        try simp only [List.setIfInBounds_toArray, List.set_cons_zero, List.set_cons_succ]
        refine held_take 5 29 (v := ?_) rfl rfl (by kernel_rfl) (by kernel_rfl) (by kernel_rfl) (fun _ _ _ h => h) (by rfl) ?_ ⟨HP1.out, HRA1.out⟩ ?_
        rotate_left
        · (intro w hSw; (try dsimp only at hSw); have c0 := hSw.1.all.load (k := n18) (encP_n _) Tryz.prog; have d0 : Sem.run Tryz.prog (loadCellsFrom ⟨b, o + h * n20, none⟩ 0 n20 #[]) w = .ok (encR x).toArray w := hSw.2.all.load (k := n20) (encR_n _) Tryz.prog; clear hSw;try simp only [List.getElem_toArray, List.getElem_cons_zero, List.getElem_cons_succ]; go_simp; try (with_reducible rfl))
        try simp only [List.setIfInBounds_toArray, List.set_cons_zero, List.set_cons_succ]
        refine held_call 6 30 rfl rfl (by kernel_rfl) (by rfl) (fun K hK => ?_)
        try simp only [List.getElem_toArray, List.getElem_cons_zero, List.getElem_cons_succ]
        go_simp
        (go_at_call 63; (with_reducible refine (by_any _ _ _).mono ?_); rintro e w2 ⟨rfl, hb2⟩; have HP1 := Lib.hid (HP1.out.below hb2); have HRA1 := Lib.hid (HRA1.out.below hb2); have HB1 := Lib.hid (HB1.out.trans (hb2.mono HB1.out.size)); clear hb2)
        try go_wp2_with fail
        try simp only [Act.put, List.setIfInBounds_toArray, List.set_cons_zero, List.set_cons_succ]
        refine hK.out _ _ _ ⟨HP1.out, HRA1.out⟩ ?_
        clear hK K
        refine held_take 7 31 (v := ?_) rfl rfl (by kernel_rfl) (by kernel_rfl) (by kernel_rfl) (fun _ _ _ h => h) (by rfl) ?_ ⟨HP1.out, HRA1.out⟩ ?_
        rotate_left
        · (intro w hSw; (try dsimp only at hSw); have c0 := hSw.1.all.load (k := n18) (encP_n _) Tryz.prog; have d0 : Sem.run Tryz.prog (loadCellsFrom ⟨b, o + h * n20, none⟩ 0 n20 #[]) w = .ok (encR x).toArray w := hSw.2.all.load (k := n20) (encR_n _) Tryz.prog; clear hSw;try simp only [List.getElem_toArray, List.getElem_cons_zero, List.getElem_cons_succ]; go_simp; try (with_reducible rfl))
        try simp only [List.setIfInBounds_toArray, List.set_cons_zero, List.set_cons_succ]
        refine wpAnyH_done (by kernel_rfl) ?_ _
        go_wp2
        go_roundw
        case rel => exact ⟨h + 1, j, by go_num, rfl, by have := HIJ.out; omega, HP1.out, HB1.out⟩
        case measure => simp [intOf]; have := HH2.out; omega
      · have hc : decide (cmpP x.to p < 0) = false := decide_eq_false (fun e => hq (by rw [← HQ.out]; exact HPOS.out.1 e))
        clear HPOS
        refine wp_region_held_drew (S := (fun w' => PAt w' B 0 p ∧ RAt w' b (o + h * 20) x)) (by kernel_rfl) ⟨HP1.out, HRA1.out⟩ (fun _ => ?_)
        refine held_take 0 24 (v := ?_) rfl rfl (by kernel_rfl) (by kernel_rfl) (by kernel_rfl) (fun _ _ _ h => h) (by rfl) ?_ ⟨HP1.out, HRA1.out⟩ ?_
        rotate_left
        · (intro w hSw; (try dsimp only at hSw); have c0 := hSw.1.all.load (k := n18) (encP_n _) Tryz.prog; have d0 : Sem.run Tryz.prog (loadCellsFrom ⟨b, o + h * n20, none⟩ 0 n20 #[]) w = .ok (encR x).toArray w := hSw.2.all.load (k := n20) (encR_n _) Tryz.prog; clear hSw;try simp only [List.getElem_toArray, List.getElem_cons_zero, List.getElem_cons_succ]; go_simp; try (with_reducible rfl))
        try simp only [List.setIfInBounds_toArray, List.set_cons_zero, List.set_cons_succ]
        refine held_take 1 25 (v := ?_) rfl rfl (by kernel_rfl) (by kernel_rfl) (by kernel_rfl) (fun _ _ _ h => h) (by rfl) ?_ ⟨HP1.out, HRA1.out⟩ ?_
        rotate_left
        · (intro w hSw; (try dsimp only at hSw); have c0 := hSw.1.all.load (k := n18) (encP_n _) Tryz.prog; have d0 : Sem.run Tryz.prog (loadCellsFrom ⟨b, o + h * n20, none⟩ 0 n20 #[]) w = .ok (encR x).toArray w := hSw.2.all.load (k := n20) (encR_n _) Tryz.prog; clear hSw;try simp only [List.getElem_toArray, List.getElem_cons_zero, List.getElem_cons_succ]; go_simp; try (with_reducible rfl))
        try simp only [List.setIfInBounds_toArray, List.set_cons_zero, List.set_cons_succ]
        refine held_take 2 26 (v := ?_) rfl rfl (by kernel_rfl) (by kernel_rfl) (by kernel_rfl) (fun _ _ _ h => h) (by rfl) ?_ ⟨HP1.out, HRA1.out⟩ ?_
        rotate_left
        · (intro w hSw; (try dsimp only at hSw); have c0 := hSw.1.all.load (k := n18) (encP_n _) Tryz.prog; have d0 : Sem.run Tryz.prog (loadCellsFrom ⟨b, o + h * n20, none⟩ 0 n20 #[]) w = .ok (encR x).toArray w := hSw.2.all.load (k := n20) (encR_n _) Tryz.prog; clear hSw;try simp only [List.getElem_toArray, List.getElem_cons_zero, List.getElem_cons_succ]; go_simp; try (with_reducible rfl))
        try simp only [List.setIfInBounds_toArray, List.set_cons_zero, List.set_cons_succ]
        refine held_take 3 27 (v := ?_) rfl rfl (by kernel_rfl) (by kernel_rfl) (by kernel_rfl) (fun _ _ _ h => h) (by rfl) ?_ ⟨HP1.out, HRA1.out⟩ ?_
        rotate_left
        · (intro w hSw; (try dsimp only at hSw); have c0 := hSw.1.all.load (k := n18) (encP_n _) Tryz.prog; have d0 : Sem.run Tryz.prog (loadCellsFrom ⟨b, o + h * n20, none⟩ 0 n20 #[]) w = .ok (encR x).toArray w := hSw.2.all.load (k := n20) (encR_n _) Tryz.prog; clear hSw;try simp only [List.getElem_toArray, List.getElem_cons_zero, List.getElem_cons_succ]; go_simp; try (with_reducible rfl))
        try simp only [List.setIfInBounds_toArray, List.set_cons_zero, List.set_cons_succ]
        refine held_take 4 28 (v := ?_) rfl rfl (by kernel_rfl) (by kernel_rfl) (by kernel_rfl) (fun _ _ _ h => h) (by rfl) ?_ ⟨HP1.out, HRA1.out⟩ ?_
        rotate_left
        · (intro w hSw; (try dsimp only at hSw); have c0 := hSw.1.all.load (k := n18) (encP_n _) Tryz.prog; have d0 : Sem.run Tryz.prog (loadCellsFrom ⟨b, o + h * n20, none⟩ 0 n20 #[]) w = .ok (encR x).toArray w := hSw.2.all.load (k := n20) (encR_n _) Tryz.prog; clear hSw;try simp only [List.getElem_toArray, List.getElem_cons_zero, List.getElem_cons_succ]; go_simp; try (with_reducible rfl))
        try simp only [List.setIfInBounds_toArray, List.set_cons_zero, List.set_cons_succ]
        refine held_take 5 29 (v := ?_) rfl rfl (by kernel_rfl) (by kernel_rfl) (by kernel_rfl) (fun _ _ _ h => h) (by rfl) ?_ ⟨HP1.out, HRA1.out⟩ ?_
        rotate_left
        · (intro w hSw; (try dsimp only at hSw); have c0 := hSw.1.all.load (k := n18) (encP_n _) Tryz.prog; have d0 : Sem.run Tryz.prog (loadCellsFrom ⟨b, o + h * n20, none⟩ 0 n20 #[]) w = .ok (encR x).toArray w := hSw.2.all.load (k := n20) (encR_n _) Tryz.prog; clear hSw;try simp only [List.getElem_toArray, List.getElem_cons_zero, List.getElem_cons_succ]; go_simp; try (with_reducible rfl))
        try simp only [List.setIfInBounds_toArray, List.set_cons_zero, List.set_cons_succ]
        refine held_call 6 30 rfl rfl (by kernel_rfl) (by rfl) (fun K hK => ?_)
        try simp only [List.getElem_toArray, List.getElem_cons_zero, List.getElem_cons_succ]
        go_simp
        (go_at_call 63; (with_reducible refine (by_any _ _ _).mono ?_); rintro e w2 ⟨rfl, hb2⟩; have HP1 := Lib.hid (HP1.out.below hb2); have HRA1 := Lib.hid (HRA1.out.below hb2); have HB1 := Lib.hid (HB1.out.trans (hb2.mono HB1.out.size)); clear hb2)
        try go_wp2_with fail
        try simp only [Act.put, List.setIfInBounds_toArray, List.set_cons_zero, List.set_cons_succ]
        refine hK.out _ _ _ ⟨HP1.out, HRA1.out⟩ ?_
        clear hK K
        refine held_take 7 31 (v := ?_) rfl rfl (by kernel_rfl) (by kernel_rfl) (by kernel_rfl) (fun _ _ _ h => h) (by rfl) ?_ ⟨HP1.out, HRA1.out⟩ ?_
        rotate_left
        · (intro w hSw; (try dsimp only at hSw); have c0 := hSw.1.all.load (k := n18) (encP_n _) Tryz.prog; have d0 : Sem.run Tryz.prog (loadCellsFrom ⟨b, o + h * n20, none⟩ 0 n20 #[]) w = .ok (encR x).toArray w := hSw.2.all.load (k := n20) (encR_n _) Tryz.prog; clear hSw;try simp only [List.getElem_toArray, List.getElem_cons_zero, List.getElem_cons_succ]; go_simp; try (with_reducible rfl))
        try simp only [List.setIfInBounds_toArray, List.set_cons_zero, List.set_cons_succ]
        refine wpAnyH_done (by kernel_rfl) ?_ _
        go_wp2
        go_roundw
        case rel => exact ⟨i, h, rfl, rfl, by have := HIJ.out; omega, HP1.out, HB1.out⟩
        case measure => simp [intOf]; have := HH2.out; omega
    · have hqi : q = i := by have := HIJ.out; omega
      have hji : j = i := by have := HIJ.out; omega
      subst hji
      subst hqi
      have HP1 := Lib.hid HP.out.drew
      have HB1 := Lib.hid HB.out.drew
      by_cases hend : q < n
      · have hend' : (q : Int) < (n : Int) := by omega
        have hend2 : decide ((q : Int) < (n : Int)) = true := decide_eq_true hend'
        have q0 : (0 : Int) ≤ (q : Int) := by omega
        have hqL : q < L.length := by rw [HN.out]; exact hend
        obtain ⟨b, o, rfl, hra⟩ := HR.out q hqL
        have HRA1 := Lib.hid (hra.below HB.out).drew
        have HH := Lib.hid (show has L p = decide (cmpP L[q].to p = 0) from by
          have e := has_false' HS.out p (by rw [HQ.out]; exact hqL)
          rw [e]
          congr 3
          simp only [HQ.out])
        clear hra
        obtain ⟨x, hx⟩ : ∃ x, L[q] = x := ⟨_, rfl⟩
        rw [hx] at HRA1 HH
        clear hx HP HB
        go_upto_region 8 with fail
        refine wp_region_held_drew (S := (fun w' => PAt w' B 0 p ∧ RAt w' b (o + q * 20) x)) (by kernel_rfl) ⟨HP1.out, HRA1.out⟩ (fun _ => ?_)
        refine held_take 0 35 (v := ?_) rfl rfl (by kernel_rfl) (by kernel_rfl) (by kernel_rfl) (fun _ _ _ h => h) (by rfl) ?_ ⟨HP1.out, HRA1.out⟩ ?_
        rotate_left
        · (intro w hSw; (try dsimp only at hSw); have c0 := hSw.1.all.load (k := n18) (encP_n _) Tryz.prog; have d0 : Sem.run Tryz.prog (loadCellsFrom ⟨b, o + q * n20, none⟩ 0 n20 #[]) w = .ok (encR x).toArray w := hSw.2.all.load (k := n20) (encR_n _) Tryz.prog; clear hSw;try simp only [List.getElem_toArray, List.getElem_cons_zero, List.getElem_cons_succ]; go_simp; try (with_reducible rfl))
        try simp only [List.setIfInBounds_toArray, List.set_cons_zero, List.set_cons_succ]
        refine held_take 1 36 (v := ?_) rfl rfl (by kernel_rfl) (by kernel_rfl) (by kernel_rfl) (fun _ _ _ h => h) (by rfl) ?_ ⟨HP1.out, HRA1.out⟩ ?_
        rotate_left
        · (intro w hSw; (try dsimp only at hSw); have c0 := hSw.1.all.load (k := n18) (encP_n _) Tryz.prog; have d0 : Sem.run Tryz.prog (loadCellsFrom ⟨b, o + q * n20, none⟩ 0 n20 #[]) w = .ok (encR x).toArray w := hSw.2.all.load (k := n20) (encR_n _) Tryz.prog; clear hSw;try simp only [List.getElem_toArray, List.getElem_cons_zero, List.getElem_cons_succ]; go_simp; try (with_reducible rfl))
        try simp only [List.setIfInBounds_toArray, List.set_cons_zero, List.set_cons_succ]
        refine held_take 2 37 (v := ?_) rfl rfl (by kernel_rfl) (by kernel_rfl) (by kernel_rfl) (fun _ _ _ h => h) (by rfl) ?_ ⟨HP1.out, HRA1.out⟩ ?_
        rotate_left
        · (intro w hSw; (try dsimp only at hSw); have c0 := hSw.1.all.load (k := n18) (encP_n _) Tryz.prog; have d0 : Sem.run Tryz.prog (loadCellsFrom ⟨b, o + q * n20, none⟩ 0 n20 #[]) w = .ok (encR x).toArray w := hSw.2.all.load (k := n20) (encR_n _) Tryz.prog; clear hSw;try simp only [List.getElem_toArray, List.getElem_cons_zero, List.getElem_cons_succ]; go_simp; try (with_reducible rfl))
        try simp only [List.setIfInBounds_toArray, List.set_cons_zero, List.set_cons_succ]
        refine held_take 3 38 (v := ?_) rfl rfl (by kernel_rfl) (by kernel_rfl) (by kernel_rfl) (fun _ _ _ h => h) (by rfl) ?_ ⟨HP1.out, HRA1.out⟩ ?_
        rotate_left
        · (intro w hSw; (try dsimp only at hSw); have c0 := hSw.1.all.load (k := n18) (encP_n _) Tryz.prog; have d0 : Sem.run Tryz.prog (loadCellsFrom ⟨b, o + q * n20, none⟩ 0 n20 #[]) w = .ok (encR x).toArray w := hSw.2.all.load (k := n20) (encR_n _) Tryz.prog; clear hSw;try simp only [List.getElem_toArray, List.getElem_cons_zero, List.getElem_cons_succ]; go_simp; try (with_reducible rfl))
        try simp only [List.setIfInBounds_toArray, List.set_cons_zero, List.set_cons_succ]
        refine held_take 4 39 (v := ?_) rfl rfl (by kernel_rfl) (by kernel_rfl) (by kernel_rfl) (fun _ _ _ h => h) (by rfl) ?_ ⟨HP1.out, HRA1.out⟩ ?_
        rotate_left
        · (intro w hSw; (try dsimp only at hSw); have c0 := hSw.1.all.load (k := n18) (encP_n _) Tryz.prog; have d0 : Sem.run Tryz.prog (loadCellsFrom ⟨b, o + q * n20, none⟩ 0 n20 #[]) w = .ok (encR x).toArray w := hSw.2.all.load (k := n20) (encR_n _) Tryz.prog; clear hSw;try simp only [List.getElem_toArray, List.getElem_cons_zero, List.getElem_cons_succ]; go_simp; try (with_reducible rfl))
        try simp only [List.setIfInBounds_toArray, List.set_cons_zero, List.set_cons_succ]
        refine held_take 5 40 (v := ?_) rfl rfl (by kernel_rfl) (by kernel_rfl) (by kernel_rfl) (fun _ _ _ h => h) (by rfl) ?_ ⟨HP1.out, HRA1.out⟩ ?_
        rotate_left
        · (intro w hSw; (try dsimp only at hSw); have c0 := hSw.1.all.load (k := n18) (encP_n _) Tryz.prog; have d0 : Sem.run Tryz.prog (loadCellsFrom ⟨b, o + q * n20, none⟩ 0 n20 #[]) w = .ok (encR x).toArray w := hSw.2.all.load (k := n20) (encR_n _) Tryz.prog; clear hSw;try simp only [List.getElem_toArray, List.getElem_cons_zero, List.getElem_cons_succ]; go_simp; try (with_reducible rfl))
        try simp only [List.setIfInBounds_toArray, List.set_cons_zero, List.set_cons_succ]
        refine held_take 6 41 (v := ?_) rfl rfl (by kernel_rfl) (by kernel_rfl) (by kernel_rfl) (fun _ _ _ h => h) (by rfl) ?_ ⟨HP1.out, HRA1.out⟩ ?_
        rotate_left
        · (intro w hSw; (try dsimp only at hSw); have c0 := hSw.1.all.load (k := n18) (encP_n _) Tryz.prog; have d0 : Sem.run Tryz.prog (loadCellsFrom ⟨b, o + q * n20, none⟩ 0 n20 #[]) w = .ok (encR x).toArray w := hSw.2.all.load (k := n20) (encR_n _) Tryz.prog; clear hSw;try simp only [List.getElem_toArray, List.getElem_cons_zero, List.getElem_cons_succ]; go_simp; try (with_reducible rfl))
        try simp only [List.setIfInBounds_toArray, List.set_cons_zero, List.set_cons_succ]
        refine held_take 7 42 (v := ?_) rfl rfl (by kernel_rfl) (by kernel_rfl) (by kernel_rfl) (fun _ _ _ h => h) (by rfl) ?_ ⟨HP1.out, HRA1.out⟩ ?_
        rotate_left
        · (intro w hSw; (try dsimp only at hSw); have c0 := hSw.1.all.load (k := n18) (encP_n _) Tryz.prog; have d0 : Sem.run Tryz.prog (loadCellsFrom ⟨b, o + q * n20, none⟩ 0 n20 #[]) w = .ok (encR x).toArray w := hSw.2.all.load (k := n20) (encR_n _) Tryz.prog; clear hSw;try simp only [List.getElem_toArray, List.getElem_cons_zero, List.getElem_cons_succ]; go_simp; try (with_reducible rfl))
        try simp only [List.setIfInBounds_toArray, List.set_cons_zero, List.set_cons_succ]
        refine held_take 8 43 (v := ?_) rfl rfl (by kernel_rfl) (by kernel_rfl) (by kernel_rfl) (fun _ _ _ h => h) (by rfl) ?_ ⟨HP1.out, HRA1.out⟩ ?_
        rotate_left
        · (intro w hSw; (try dsimp only at hSw); have c0 := hSw.1.all.load (k := n18) (encP_n _) Tryz.prog; have d0 : Sem.run Tryz.prog (loadCellsFrom ⟨b, o + q * n20, none⟩ 0 n20 #[]) w = .ok (encR x).toArray w := hSw.2.all.load (k := n20) (encR_n _) Tryz.prog; clear hSw;try simp only [List.getElem_toArray, List.getElem_cons_zero, List.getElem_cons_succ]; go_simp; try (with_reducible rfl))
        try simp only [List.setIfInBounds_toArray, List.set_cons_zero, List.set_cons_succ]
        refine held_take 9 44 (v := ?_) rfl rfl (by kernel_rfl) (by kernel_rfl) (by kernel_rfl) (fun _ _ _ h => h) (by rfl) ?_ ⟨HP1.out, HRA1.out⟩ ?_
        rotate_left
        · (intro w hSw; (try dsimp only at hSw); have c0 := hSw.1.all.load (k := n18) (encP_n _) Tryz.prog; have d0 : Sem.run Tryz.prog (loadCellsFrom ⟨b, o + q * n20, none⟩ 0 n20 #[]) w = .ok (encR x).toArray w := hSw.2.all.load (k := n20) (encR_n _) Tryz.prog; clear hSw;try simp only [List.getElem_toArray, List.getElem_cons_zero, List.getElem_cons_succ]; go_simp; try (with_reducible rfl))
        try simp only [List.setIfInBounds_toArray, List.set_cons_zero, List.set_cons_succ]
        refine held_take 10 45 (v := ?_) rfl rfl (by kernel_rfl) (by kernel_rfl) (by kernel_rfl) (fun _ _ _ h => h) (by rfl) ?_ ⟨HP1.out, HRA1.out⟩ ?_
        rotate_left
        · (intro w hSw; (try dsimp only at hSw); have c0 := hSw.1.all.load (k := n18) (encP_n _) Tryz.prog; have d0 : Sem.run Tryz.prog (loadCellsFrom ⟨b, o + q * n20, none⟩ 0 n20 #[]) w = .ok (encR x).toArray w := hSw.2.all.load (k := n20) (encR_n _) Tryz.prog; clear hSw;try simp only [List.getElem_toArray, List.getElem_cons_zero, List.getElem_cons_succ]; go_simp; try (with_reducible rfl))
        try simp only [List.setIfInBounds_toArray, List.set_cons_zero, List.set_cons_succ]
        refine held_call 11 46 rfl rfl (by kernel_rfl) (by rfl) (fun K hK => ?_)
        try simp only [List.getElem_toArray, List.getElem_cons_zero, List.getElem_cons_succ]
        go_simp
        (go_at_call 63; (with_reducible refine (by_any _ _ _).mono ?_); rintro e w2 ⟨rfl, hb2⟩; have HP1 := Lib.hid (HP1.out.below hb2); have HRA1 := Lib.hid (HRA1.out.below hb2); have HB1 := Lib.hid (HB1.out.trans (hb2.mono HB1.out.size)); clear hb2)
        try go_wp2_with fail
        try simp only [Act.put, List.setIfInBounds_toArray, List.set_cons_zero, List.set_cons_succ]
        refine hK.out _ _ _ ⟨HP1.out, HRA1.out⟩ ?_
        clear hK K
        refine held_take 12 47 (v := ?_) rfl rfl (by kernel_rfl) (by kernel_rfl) (by kernel_rfl) (fun _ _ _ h => h) (by rfl) ?_ ⟨HP1.out, HRA1.out⟩ ?_
        rotate_left
        · (intro w hSw; (try dsimp only at hSw); have c0 := hSw.1.all.load (k := n18) (encP_n _) Tryz.prog; have d0 : Sem.run Tryz.prog (loadCellsFrom ⟨b, o + q * n20, none⟩ 0 n20 #[]) w = .ok (encR x).toArray w := hSw.2.all.load (k := n20) (encR_n _) Tryz.prog; clear hSw;try simp only [List.getElem_toArray, List.getElem_cons_zero, List.getElem_cons_succ]; go_simp; try (with_reducible rfl))
        try simp only [List.setIfInBounds_toArray, List.set_cons_zero, List.set_cons_succ]
        refine held_take 13 48 (v := ?_) rfl rfl (by kernel_rfl) (by kernel_rfl) (by kernel_rfl) (fun _ _ _ h => h) (by rfl) ?_ ⟨HP1.out, HRA1.out⟩ ?_
        rotate_left
        · (intro w hSw; (try dsimp only at hSw); have c0 := hSw.1.all.load (k := n18) (encP_n _) Tryz.prog; have d0 : Sem.run Tryz.prog (loadCellsFrom ⟨b, o + q * n20, none⟩ 0 n20 #[]) w = .ok (encR x).toArray w := hSw.2.all.load (k := n20) (encR_n _) Tryz.prog; clear hSw;try simp only [List.getElem_toArray, List.getElem_cons_zero, List.getElem_cons_succ]; go_simp; try (with_reducible rfl))
        try simp only [List.setIfInBounds_toArray, List.set_cons_zero, List.set_cons_succ]
        refine held_take 14 6 (v := ?_) rfl rfl (by kernel_rfl) (by kernel_rfl) (by kernel_rfl) (fun _ _ _ h => h) (by rfl) ?_ ⟨HP1.out, HRA1.out⟩ ?_
        rotate_left
        · (intro w hSw; (try dsimp only at hSw); have c0 := hSw.1.all.load (k := n18) (encP_n _) Tryz.prog; have d0 : Sem.run Tryz.prog (loadCellsFrom ⟨b, o + q * n20, none⟩ 0 n20 #[]) w = .ok (encR x).toArray w := hSw.2.all.load (k := n20) (encR_n _) Tryz.prog; clear hSw;try simp only [List.getElem_toArray, List.getElem_cons_zero, List.getElem_cons_succ]; go_simp; try (with_reducible rfl))
        try simp only [List.setIfInBounds_toArray, List.set_cons_zero, List.set_cons_succ]
        refine held_take 15 7 (v := ?_) rfl rfl (by kernel_rfl) (by kernel_rfl) (by kernel_rfl) (fun _ _ _ h => h) (by rfl) ?_ ⟨HP1.out, HRA1.out⟩ ?_
        rotate_left
        · (intro w hSw; (try dsimp only at hSw); have c0 := hSw.1.all.load (k := n18) (encP_n _) Tryz.prog; have d0 : Sem.run Tryz.prog (loadCellsFrom ⟨b, o + q * n20, none⟩ 0 n20 #[]) w = .ok (encR x).toArray w := hSw.2.all.load (k := n20) (encR_n _) Tryz.prog; clear hSw;try simp only [List.getElem_toArray, List.getElem_cons_zero, List.getElem_cons_succ]; go_simp; try (with_reducible rfl))
        try simp only [List.setIfInBounds_toArray, List.set_cons_zero, List.set_cons_succ]
        refine wpAnyH_done (by kernel_rfl) ?_ _
        go_wp2
        go_ret2
        rw [HH.out]
        exact ⟨rfl, HB1.out⟩
      · have hend2 : decide ((q : Int) < (n : Int)) = false := decide_eq_false (by omega)
        have HH := Lib.hid (show has L p = false from has_end HS.out p (by rw [HQ.out, HN.out]; exact hend))
        go_upto_region 8 with fail
        refine wp_region_held_drew (S := (fun w' => w' = wr.drew)) (by kernel_rfl) rfl (fun _ => ?_)
        refine held_take 0 35 (v := ?_) rfl rfl (by kernel_rfl) (by kernel_rfl) (by kernel_rfl) (fun _ _ _ h => h) (by rfl) ?_ rfl ?_
        rotate_left
        · (intro w hSw; (try dsimp only at hSw); subst hSw;try simp only [List.getElem_toArray, List.getElem_cons_zero, List.getElem_cons_succ]; go_simp; try (with_reducible rfl))
        try simp only [List.setIfInBounds_toArray, List.set_cons_zero, List.set_cons_succ]
        refine held_take 1 36 (v := ?_) rfl rfl (by kernel_rfl) (by kernel_rfl) (by kernel_rfl) (fun _ _ _ h => h) (by rfl) ?_ rfl ?_
        rotate_left
        · (intro w hSw; (try dsimp only at hSw); subst hSw;try simp only [List.getElem_toArray, List.getElem_cons_zero, List.getElem_cons_succ]; go_simp; try (with_reducible rfl))
        try simp only [List.setIfInBounds_toArray, List.set_cons_zero, List.set_cons_succ]
        refine held_take 2 37 (v := ?_) rfl rfl (by kernel_rfl) (by kernel_rfl) (by kernel_rfl) (fun _ _ _ h => h) (by rfl) ?_ rfl ?_
        rotate_left
        · (intro w hSw; (try dsimp only at hSw); subst hSw;try simp only [List.getElem_toArray, List.getElem_cons_zero, List.getElem_cons_succ]; go_simp; try (with_reducible rfl))
        try simp only [List.setIfInBounds_toArray, List.set_cons_zero, List.set_cons_succ]
        refine held_take 3 38 (v := ?_) rfl rfl (by kernel_rfl) (by kernel_rfl) (by kernel_rfl) (fun _ _ _ h => h) (by rfl) ?_ rfl ?_
        rotate_left
        · (intro w hSw; (try dsimp only at hSw); subst hSw;try simp only [List.getElem_toArray, List.getElem_cons_zero, List.getElem_cons_succ]; go_simp; try (with_reducible rfl))
        try simp only [List.setIfInBounds_toArray, List.set_cons_zero, List.set_cons_succ]
        refine held_take 4 39 (v := ?_) rfl rfl (by kernel_rfl) (by kernel_rfl) (by kernel_rfl) (fun _ _ _ h => h) (by rfl) ?_ rfl ?_
        rotate_left
        · (intro w hSw; (try dsimp only at hSw); subst hSw;try simp only [List.getElem_toArray, List.getElem_cons_zero, List.getElem_cons_succ]; go_simp; try (with_reducible rfl))
        try simp only [List.setIfInBounds_toArray, List.set_cons_zero, List.set_cons_succ]
        refine held_skip 5 40 rfl rfl (by kernel_rfl) (by kernel_rfl) (by kernel_rfl) (fun _ _ _ h => h) (by rfl) rfl ?_
        try simp only [List.setIfInBounds_toArray, List.set_cons_zero, List.set_cons_succ]
        refine held_skip 6 41 rfl rfl (by kernel_rfl) (by kernel_rfl) (by kernel_rfl) (fun _ _ _ h => h) (by rfl) rfl ?_
        try simp only [List.setIfInBounds_toArray, List.set_cons_zero, List.set_cons_succ]
        refine held_skip 7 42 rfl rfl (by kernel_rfl) (by kernel_rfl) (by kernel_rfl) (fun _ _ _ h => h) (by rfl) rfl ?_
        try simp only [List.setIfInBounds_toArray, List.set_cons_zero, List.set_cons_succ]
        refine held_skip 8 43 rfl rfl (by kernel_rfl) (by kernel_rfl) (by kernel_rfl) (fun _ _ _ h => h) (by rfl) rfl ?_
        try simp only [List.setIfInBounds_toArray, List.set_cons_zero, List.set_cons_succ]
        refine held_skip 9 44 rfl rfl (by kernel_rfl) (by kernel_rfl) (by kernel_rfl) (fun _ _ _ h => h) (by rfl) rfl ?_
        try simp only [List.setIfInBounds_toArray, List.set_cons_zero, List.set_cons_succ]
        refine held_skip 10 45 rfl rfl (by kernel_rfl) (by kernel_rfl) (by kernel_rfl) (fun _ _ _ h => h) (by rfl) rfl ?_
        try simp only [List.setIfInBounds_toArray, List.set_cons_zero, List.set_cons_succ]
        refine held_skip 11 46 rfl rfl (by kernel_rfl) (by kernel_rfl) (by kernel_rfl) (fun _ _ _ h => h) (by rfl) rfl ?_
        try simp only [List.setIfInBounds_toArray, List.set_cons_zero, List.set_cons_succ]
        refine held_skip 12 47 rfl rfl (by kernel_rfl) (by kernel_rfl) (by kernel_rfl) (fun _ _ _ h => h) (by rfl) rfl ?_
        try simp only [List.setIfInBounds_toArray, List.set_cons_zero, List.set_cons_succ]
        refine held_take 13 48 (v := ?_) rfl rfl (by kernel_rfl) (by kernel_rfl) (by kernel_rfl) (fun _ _ _ h => h) (by rfl) ?_ rfl ?_
        rotate_left
        · (intro w hSw; (try dsimp only at hSw); subst hSw;try simp only [List.getElem_toArray, List.getElem_cons_zero, List.getElem_cons_succ]; go_simp; try (with_reducible rfl))
        try simp only [List.setIfInBounds_toArray, List.set_cons_zero, List.set_cons_succ]
        refine held_take 14 6 (v := ?_) rfl rfl (by kernel_rfl) (by kernel_rfl) (by kernel_rfl) (fun _ _ _ h => h) (by rfl) ?_ rfl ?_
        rotate_left
        · (intro w hSw; (try dsimp only at hSw); subst hSw;try simp only [List.getElem_toArray, List.getElem_cons_zero, List.getElem_cons_succ]; go_simp; try (with_reducible rfl))
        try simp only [List.setIfInBounds_toArray, List.set_cons_zero, List.set_cons_succ]
        refine held_take 15 7 (v := ?_) rfl rfl (by kernel_rfl) (by kernel_rfl) (by kernel_rfl) (fun _ _ _ h => h) (by rfl) ?_ rfl ?_
        rotate_left
        · (intro w hSw; (try dsimp only at hSw); subst hSw;try simp only [List.getElem_toArray, List.getElem_cons_zero, List.getElem_cons_succ]; go_simp; try (with_reducible rfl))
        try simp only [List.setIfInBounds_toArray, List.set_cons_zero, List.set_cons_succ]
        refine wpAnyH_done (by kernel_rfl) ?_ _
        go_wp2
        go_ret2
        rw [HH.out]
        exact ⟨rfl, HB1.out⟩
end Tab
end Go.Proofs.YtdcbbjlbfghpbaaGreat
