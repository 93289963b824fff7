/-
  A table in memory: Len, All, Get, Between, Copy, Same; a table that is none. Conditions: those that each theorem names.
-/
import Derived.Test.YtbeoclcnajfjcaaTabD
namespace Go.Proofs.Ytbeoclcnajfjcaa
open Go Go.RowKit H2
set_option linter.unusedVariables false
set_option linter.unusedSimpArgs false
namespace Tab
theorem len_any {base : Nat} {b : Nat} {v : Value} {T : List Rt} (w : World) (h : Tb base w b v T) : Calls Try.prog 20 #[.pointer (some ⟨b, 0, none⟩)] w fun e w' => e = .returned (.int .i64 T.length) ∧ w = w' := by
  obtain ⟨A, cap, hv, _⟩ := own_rv h.own
  obtain rfl := hv.eq
  have c0 := h.cell
  clear hv h
  generalize T.length = n at *
  go_enter Try.func20, Try.ntmps20
  go_wp2
  go_ret
  exact ⟨rfl, rfl⟩
theorem len_nil (w : World) : Calls Try.prog 20 #[.pointer none] w fun e w' => e = .returned (.int .i64 0) ∧ w = w' := by
  go_enter Try.func20, Try.ntmps20
  go_wp2
  go_ret
  exact ⟨rfl, rfl⟩
theorem all_any {base : Nat} {b : Nat} {v : Value} {T : List Rt} (w : World) (h : Tb base w b v T) : Calls Try.prog 22 #[.pointer (some ⟨b, 0, none⟩)] w fun e w' => ∃ v', e = .returned v' ∧ w'.ownsRow w.heap.size 34 20 v' T.length (flat T) ∧ Below w.heap.size w w' := by
  obtain ⟨A, cap, hv, _⟩ := own_rv h.own
  obtain rfl := hv.eq
  have c0 := h.cell
  have HC := Lib.hid (clone_any A cap T (Nat.le_trans h.tok.len (by decide)) w hv.rd (fun e => ⟨List.length_eq_zero_iff.1 (by have := hv.len; rw [hv.nil e] at this; omega), hv.nil e⟩))
  clear hv h
  generalize T.length = n at *
  go_enter Try.func22, Try.ntmps22
  go_wp2_with (go_at_call 46; (with_reducible refine (HC.out).mono ?_); rintro e w2 ⟨v', rfl, h1, h2⟩; have H1 := Lib.hid h1; have H2 := Lib.hid h2; clear h1 h2)
  go_ret
  exact ⟨v', rfl, H1.out, H2.out⟩
theorem all_nil (w : World) : Calls Try.prog 22 #[.pointer none] w fun e w' => e = .returned (.slice none 0 0) ∧ w = w' := by
  go_enter Try.func22, Try.ntmps22
  go_wp2
  go_ret
  exact ⟨rfl, rfl⟩
theorem find_nil (p : Pf) (w : World) : Calls Try.prog 41 #[.pointer none, .agg (encP p).toArray] w fun e w' => e = .returned (.tuple #[.int .i64 0, .bool false]) ∧ Below w.heap.size w w' := by
  go_enter Try.func41, Try.ntmps41
  go_wp2
  go_ret2
  exact ⟨rfl, (Below.refl _ _).alloc (Nat.le_refl _) _⟩
theorem get_place {w : World} {A : Option Addr} {T : List Rt} {p : Pf} (h : Rd w A T) (hs : Srt T) (hh : has T p = true) : ∃ x b o, get T p = some x ∧ A = some ⟨b, o, none⟩ ∧ RAt w b (o + pos T p * 20) x ∧ pos T p < T.length := by
  obtain ⟨hlt, hg⟩ := pos_get hs hh
  obtain ⟨b, o, e, hr⟩ := h _ hlt
  exact ⟨_, b, o, hg, e, hr, hlt⟩
set_option maxRecDepth 100000 in
set_option maxHeartbeats 4000000 in
theorem get_any {base : Nat} {b : Nat} {v : Value} {T : List Rt} (p : Pf) (w : World) (h : Tb base w b v T) :
    Calls Try.prog 18 #[.pointer (some ⟨b, 0, none⟩), .agg (encP p).toArray] w fun e w' => e = .returned (.tuple #[.agg (encR ((get T p).getD zR)).toArray, .bool (has T p)]) ∧ Below w.heap.size w w' := by
  obtain ⟨A, cap, hv, _⟩ := own_rv h.own
  obtain rfl := hv.eq
  have HT := Lib.hid h
  have HV := Lib.hid hv.rd
  clear hv h
  have HF := Lib.hid (fun (W : World) (hb : Below w.heap.size w W) => find_any p W (HT.out.below hb))
  have HTC := Lib.hid (fun (W : World) (hb : Below w.heap.size w W) => (HT.out.below hb).cell)
  by_cases hh : has T p = true
  · have HH := Lib.hid hh
    obtain ⟨x, b', o, hg, rfl, hra, hlt⟩ := get_place HV.out HT.out.tok.srt hh
    have HG := Lib.hid (show (get T p).getD zR = x by rw [hg]; rfl)
    have HRA := Lib.hid hra
    have hn1 : T.length ≤ 300 := HT.out.tok.len
    clear hh hg hra
    obtain ⟨n, hn⟩ : ∃ n, T.length = n := ⟨_, rfl⟩
    rw [hn] at hlt HTC hn1
    obtain ⟨q, hq⟩ : ∃ q, pos T p = q := ⟨_, rfl⟩
    rw [hq] at hlt HRA HF
    clear hn hq
    go_enter Try.func18, Try.ntmps18
    go_upto_region 1 with fail
    have H := Lib.hid ((PAt.mk (at_new w (encP p) 25 (0, 0))).below ((Below.refl _ _).alloc (Nat.le_refl _) (.cells (encR zR).toArray 34 (0, 0))))
    have HB2 := Lib.hid (heap_alloc_new (w.alloc (.cells (encP p).toArray 25 (0, 0))) (.cells (encR zR).toArray 34 (0, 0)))
    rw [show (w.alloc (.cells (encP p).toArray 25 (0, 0))).heap.size = w.heap.size + 1 by simp] at HB2
    have hb := Lib.hid (show Below w.heap.size w ((w.alloc (.cells (encP p).toArray 25 (0, 0))).alloc (.cells (encR zR).toArray 34 (0, 0))) from (((Below.refl _ _).alloc (Nat.le_refl _) _).alloc (by simp) _))
    generalize (w.alloc _).alloc _ = W at H HB2 hb ⊢
    obtain ⟨B2, hB2⟩ : ∃ b, w.heap.size + 1 = b := ⟨_, rfl⟩
    rw [hB2] at HB2 ⊢
    have HBL := Lib.hid (show w.heap.size ≤ B2 from by omega)
    clear hB2
    generalize w.heap.size = B at H ⊢
    have c0 := H.out.all.load (k := n18) (encP_n _) Try.prog
    go_upto_region 2 with (go_at_call 41; (with_reducible refine (HF.out _ hb.out).mono ?_); rintro e w2 ⟨rfl, hb2⟩; rw [HH.out]; have HB3 := Lib.hid ((hb2.block B2 (blk_lt HB2.out)).trans HB2.out); have hb := Lib.hid (hb.out.trans (hb2.mono hb.out.size)); clear hb2 c0)
    have HC := Lib.hid (HTC.out _ hb.out)
    have HX := Lib.hid (HRA.out.below hb.out)
    have c1 := HC.out
    have hlt' : (q : Int) < (n : Int) := by omega
    have q0 : (0 : Int) ≤ (q : Int) := by omega
    have d0 : Sem.run Try.prog (loadCellsFrom ⟨b', o + q * n20, none⟩ 0 n20 #[]) w2 = .ok (encR x).toArray w2 := HX.out.all.load (k := n20) (encR_n _) Try.prog
    have hst := store_row (o := 0) (vs := encR x) HB3.out (by simp [encR_len]) (encR_one x) Try.prog
    rw [splice_whole (by simp [encR_len])] at hst
    have hl2 := (at_row (setRow_heap w2 B2 _ (encR x).toArray _ _ HB3.out)).load (k := n20) (encR_n _) Try.prog
    go_wp2
    rw [HG.out, HH.out]
    exact bodyPost_ret (v := .tuple #[.agg (encR x).toArray, .bool true]) (by simp [results, Try.results18, go_sem, hl2]) rfl ⟨rfl, below_setRow hb.out HBL.out _⟩
  · have hh' : has T p = false := by simpa using hh
    have HH := Lib.hid hh'
    have HG := Lib.hid (show (get T p).getD zR = zR by unfold has at hh'; cases h : get T p with | none => rfl | some x => rw [h] at hh'; cases hh')
    clear hh hh'
    go_enter Try.func18, Try.ntmps18
    go_upto_region 1 with fail
    have H := Lib.hid ((PAt.mk (at_new w (encP p) 25 (0, 0))).below ((Below.refl _ _).alloc (Nat.le_refl _) (.cells (encR zR).toArray 34 (0, 0))))
    have HB2 := Lib.hid (heap_alloc_new (w.alloc (.cells (encP p).toArray 25 (0, 0))) (.cells (encR zR).toArray 34 (0, 0)))
    rw [show (w.alloc (.cells (encP p).toArray 25 (0, 0))).heap.size = w.heap.size + 1 by simp] at HB2
    have hb := Lib.hid (show Below w.heap.size w ((w.alloc (.cells (encP p).toArray 25 (0, 0))).alloc (.cells (encR zR).toArray 34 (0, 0))) from (((Below.refl _ _).alloc (Nat.le_refl _) _).alloc (by simp) _))
    generalize (w.alloc _).alloc _ = W at H HB2 hb ⊢
    obtain ⟨B2, hB2⟩ : ∃ b, w.heap.size + 1 = b := ⟨_, rfl⟩
    rw [hB2] at HB2 ⊢
    have HBL := Lib.hid (show w.heap.size ≤ B2 from by omega)
    clear hB2
    generalize w.heap.size = B at H ⊢
    have c0 := H.out.all.load (k := n18) (encP_n _) Try.prog
    go_upto_region 2 with (go_at_call 41; (with_reducible refine (HF.out _ hb.out).mono ?_); rintro e w2 ⟨rfl, hb2⟩; rw [HH.out]; have HB3 := Lib.hid ((hb2.block B2 (blk_lt HB2.out)).trans HB2.out); have hb := Lib.hid (hb.out.trans (hb2.mono hb.out.size)); clear hb2 c0)
    have hst := store_row (o := 0) (vs := encR zR) HB3.out (by simp [encR_len]) (encR_one zR) Try.prog
    rw [splice_whole (by simp [encR_len])] at hst
    have hl2 := (at_row (setRow_heap w2 B2 _ (encR zR).toArray _ _ HB3.out)).load (k := n20) (encR_n _) Try.prog
    go_wp2_with (refine wpList_build_run (o := ⟨some 16, .build 34 #[], _, _, _, _⟩) rfl 34 #[] rfl #[] (by simp) (build_R0 _) ?_)
    rw [HG.out, HH.out]
    exact bodyPost_ret (v := .tuple #[.agg (encR zR).toArray, .bool false]) (by simp [results, Try.results18, go_sem, hl2]) rfl ⟨rfl, below_setRow hb.out HBL.out _⟩
end Tab
end Go.Proofs.Ytbeoclcnajfjcaa
