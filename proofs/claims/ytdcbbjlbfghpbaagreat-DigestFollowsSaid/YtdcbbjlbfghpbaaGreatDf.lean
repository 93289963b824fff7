/-
  Joined texts: TabD TabE TabF LawR. Conditions: those that each theorem names.
-/
import Derived.Test.YtdcbbjlbfghpbaaGreatTabC
import Derived.Test.YtdcbbjlbfghpbaaGreatDb
import Derived.Test.YtdcbbjlbfghpbaaGreatDa
/-
  A table in memory: find, Len, All, Get, Between, Copy, Same. Conditions: those that each theorem names.
-/
namespace Go.Proofs.YtdcbbjlbfghpbaaGreat
open Go Go.RowKit H2
set_option linter.unusedVariables false
set_option linter.unusedSimpArgs false
namespace Tab
/-- routes that may be a table -/
structure TOk (T : List Rt) : Prop where
  srt : Srt T
  ok : ∀ r ∈ T, right r = true
  len : T.length ≤ 300
/-- a table: block b, its slice, its routes -/
structure Tb (base : Nat) (w : World) (b : Nat) (v : Value) (T : List Rt) : Prop where
  blk : w.heap[b]? = some (.cells #[v] 73 (0, 0))
  own : w.ownsRow base 36 20 v T.length (flat T)
  lo : base ≤ b
  tok : TOk T
theorem Tb.lt {base : Nat} {w : World} {b : Nat} {v : Value} {T : List Rt} (h : Tb base w b v T) : b < w.heap.size := blk_lt h.blk
theorem own_below {w w' : World} {base size n : Nat} {e : TypeId} {v : Value} {xs : List Value} (h : w.ownsRow base e size v n xs) (hb : Below w.heap.size w w') : w'.ownsRow base e size v n xs :=
  ((Only.refl (fun _ => False) w).of_below hb).own h (fun _ _ h => h)
theorem Tb.below {base : Nat} {w w' : World} {b : Nat} {v : Value} {T : List Rt} (h : Tb base w b v T) (hb : Below w.heap.size w w') : Tb base w' b v T :=
  ⟨(hb.block b h.lt).trans h.blk, own_below h.own hb, h.lo, h.tok⟩
theorem Tb.cell {base : Nat} {w : World} {b : Nat} {v : Value} {T : List Rt} (h : Tb base w b v T) : w.cell? ⟨b, 0, none⟩ = some v := blk_cell h.blk 0
set_option maxHeartbeats 4000000 in
theorem find_any {base : Nat} {b : Nat} {v : Value} {T : List Rt} (p : Pf) (w : World) (h : Tb base w b v T) :
    Calls Tryz.prog 32 #[.pointer (some ⟨b, 0, none⟩), .agg (encP p).toArray] w fun e w' => e = .returned (.tuple #[.int .i64 (pos T p), .bool (has T p)]) ∧ Below w.heap.size w w' := by
  obtain ⟨A, cap, hv, _⟩ := own_rv h.own
  obtain rfl := hv.eq
  have HT := Lib.hid h
  have HV := Lib.hid hv.rd
  clear hv h
  have hc := fun (W : World) (hb : Below w.heap.size w W) => bsearch_any A cap T (Nat.le_trans HT.out.tok.len (by decide)) HT.out.tok.srt p W (HV.out.below hb)
  have HC := Lib.hid hc
  clear hc
  obtain ⟨n, hn⟩ : ∃ n, T.length = n := ⟨_, rfl⟩
  have HTC := Lib.hid (fun (W : World) (hb : Below w.heap.size w W) => (HT.out.below hb).cell)
  rw [hn] at HC HTC
  go_enter Tryz.func32, Tryz.ntmps32
  go_upto_region 3 with fail
  have H := Lib.hid (PAt.mk (at_new w (encP p) 33 (0, 0))).drew
  have hb := Lib.hid (show Below w.heap.size w (w.alloc (.cells (encP p).toArray 33 (0, 0))).drew from ((Below.refl _ _).alloc (Nat.le_refl _) _).drew)
  generalize w.alloc _ = W at H hb ⊢
  generalize w.heap.size = B at H ⊢
  have d0 := Lib.hid (HTC.out _ hb.out)
  refine wp_region_held_drew (S := (fun w' => PAt w' B 0 p ∧ w'.cell? ⟨b, 0, none⟩ = some (.slice A n cap))) (by kernel_rfl) ⟨H.out, d0.out⟩ (fun _ => ?_)
  refine held_take 0 8 (v := ?_) rfl rfl (by kernel_rfl) (by kernel_rfl) (by kernel_rfl) (fun _ _ _ h => h) (by rfl) ?_ ⟨H.out, d0.out⟩ ?_
  rotate_left
  · (intro w hSw; (try dsimp only at hSw); have c0 := hSw.1.all.load (k := n18) (encP_n _) Tryz.prog; have e0 := hSw.2; clear hSw;try simp only [List.getElem_toArray, List.getElem_cons_zero, List.getElem_cons_succ]; go_simp; try (with_reducible rfl))
  try simp only [List.setIfInBounds_toArray, List.set_cons_zero, List.set_cons_succ]
  refine held_take 1 9 (v := ?_) rfl rfl (by kernel_rfl) (by kernel_rfl) (by kernel_rfl) (fun _ _ _ h => h) (by rfl) ?_ ⟨H.out, d0.out⟩ ?_
  rotate_left
  · (intro w hSw; (try dsimp only at hSw); have c0 := hSw.1.all.load (k := n18) (encP_n _) Tryz.prog; have e0 := hSw.2; clear hSw;try simp only [List.getElem_toArray, List.getElem_cons_zero, List.getElem_cons_succ]; go_simp; try (with_reducible rfl))
  try simp only [List.setIfInBounds_toArray, List.set_cons_zero, List.set_cons_succ]
  refine held_take 2 10 (v := ?_) rfl rfl (by kernel_rfl) (by kernel_rfl) (by kernel_rfl) (fun _ _ _ h => h) (by rfl) ?_ ⟨H.out, d0.out⟩ ?_
  rotate_left
  · (intro w hSw; (try dsimp only at hSw); have c0 := hSw.1.all.load (k := n18) (encP_n _) Tryz.prog; have e0 := hSw.2; clear hSw;try simp only [List.getElem_toArray, List.getElem_cons_zero, List.getElem_cons_succ]; go_simp; try (with_reducible rfl))
  try simp only [List.setIfInBounds_toArray, List.set_cons_zero, List.set_cons_succ]
  refine held_take 3 11 (v := ?_) rfl rfl (by kernel_rfl) (by kernel_rfl) (by kernel_rfl) (fun _ _ _ h => h) (by rfl) ?_ ⟨H.out, d0.out⟩ ?_
  rotate_left
  · (intro w hSw; (try dsimp only at hSw); have c0 := hSw.1.all.load (k := n18) (encP_n _) Tryz.prog; have e0 := hSw.2; clear hSw;try simp only [List.getElem_toArray, List.getElem_cons_zero, List.getElem_cons_succ]; go_simp; try (with_reducible rfl))
  try simp only [List.setIfInBounds_toArray, List.set_cons_zero, List.set_cons_succ]
  refine held_take 4 12 (v := ?_) rfl rfl (by kernel_rfl) (by kernel_rfl) (by kernel_rfl) (fun _ _ _ h => h) (by rfl) ?_ ⟨H.out, d0.out⟩ ?_
  rotate_left
  · (intro w hSw; (try dsimp only at hSw); have c0 := hSw.1.all.load (k := n18) (encP_n _) Tryz.prog; have e0 := hSw.2; clear hSw;try simp only [List.getElem_toArray, List.getElem_cons_zero, List.getElem_cons_succ]; go_simp; try (with_reducible rfl))
  try simp only [List.setIfInBounds_toArray, List.set_cons_zero, List.set_cons_succ]
  refine held_call 5 13 rfl rfl (by kernel_rfl) (by rfl) (fun K hK => ?_)
  try simp only [List.getElem_toArray, List.getElem_cons_zero, List.getElem_cons_succ]
  go_simp
  (go_at_call 62; (with_reducible refine (HC.out _ hb.out).mono ?_); rintro e w2 ⟨rfl, hb2⟩; have H := Lib.hid (H.out.below hb2); have d0 := Lib.hid (later hb2 d0.out); have hb := Lib.hid (hb.out.trans (hb2.mono hb.out.size)); clear hb2)
  try go_wp2_with fail
  try simp only [Act.put, List.setIfInBounds_toArray, List.set_cons_zero, List.set_cons_succ]
  refine hK.out _ _ _ ⟨H.out, d0.out⟩ ?_
  clear hK K
  refine held_take 6 14 (v := ?_) rfl rfl (by kernel_rfl) (by kernel_rfl) (by kernel_rfl) (fun _ _ _ h => h) (by rfl) ?_ ⟨H.out, d0.out⟩ ?_
  rotate_left
  · (intro w hSw; (try dsimp only at hSw); have c0 := hSw.1.all.load (k := n18) (encP_n _) Tryz.prog; have e0 := hSw.2; clear hSw;try simp only [List.getElem_toArray, List.getElem_cons_zero, List.getElem_cons_succ]; go_simp; try (with_reducible rfl))
  try simp only [List.setIfInBounds_toArray, List.set_cons_zero, List.set_cons_succ]
  refine held_take 7 15 (v := ?_) rfl rfl (by kernel_rfl) (by kernel_rfl) (by kernel_rfl) (fun _ _ _ h => h) (by rfl) ?_ ⟨H.out, d0.out⟩ ?_
  rotate_left
  · (intro w hSw; (try dsimp only at hSw); have c0 := hSw.1.all.load (k := n18) (encP_n _) Tryz.prog; have e0 := hSw.2; clear hSw;try simp only [List.getElem_toArray, List.getElem_cons_zero, List.getElem_cons_succ]; go_simp; try (with_reducible rfl))
  try simp only [List.setIfInBounds_toArray, List.set_cons_zero, List.set_cons_succ]
  refine held_take 8 4 (v := ?_) rfl rfl (by kernel_rfl) (by kernel_rfl) (by kernel_rfl) (fun _ _ _ h => h) (by rfl) ?_ ⟨H.out, d0.out⟩ ?_
  rotate_left
  · (intro w hSw; (try dsimp only at hSw); have c0 := hSw.1.all.load (k := n18) (encP_n _) Tryz.prog; have e0 := hSw.2; clear hSw;try simp only [List.getElem_toArray, List.getElem_cons_zero, List.getElem_cons_succ]; go_simp; try (with_reducible rfl))
  try simp only [List.setIfInBounds_toArray, List.set_cons_zero, List.set_cons_succ]
  refine held_take 9 5 (v := ?_) rfl rfl (by kernel_rfl) (by kernel_rfl) (by kernel_rfl) (fun _ _ _ h => h) (by rfl) ?_ ⟨H.out, d0.out⟩ ?_
  rotate_left
  · (intro w hSw; (try dsimp only at hSw); have c0 := hSw.1.all.load (k := n18) (encP_n _) Tryz.prog; have e0 := hSw.2; clear hSw;try simp only [List.getElem_toArray, List.getElem_cons_zero, List.getElem_cons_succ]; go_simp; try (with_reducible rfl))
  try simp only [List.setIfInBounds_toArray, List.set_cons_zero, List.set_cons_succ]
  refine wpAnyH_done (by kernel_rfl) ?_ _
  go_wp2
  go_ret2
  exact ⟨rfl, hb.out⟩
end Tab
end Go.Proofs.YtdcbbjlbfghpbaaGreat

/-
  A table in memory: Len, All, Get, Between, Copy, Same; a table that is none. Conditions: those that each theorem names.
-/
namespace Go.Proofs.YtdcbbjlbfghpbaaGreat
open Go Go.RowKit H2
set_option linter.unusedVariables false
set_option linter.unusedSimpArgs false
namespace Tab
theorem all_any {base : Nat} {b : Nat} {v : Value} {T : List Rt} (w : World) (h : Tb base w b v T) : Calls Tryz.prog 12 #[.pointer (some ⟨b, 0, none⟩)] w fun e w' => ∃ v', e = .returned v' ∧ w'.ownsRow w.heap.size 36 20 v' T.length (flat T) ∧ Below w.heap.size w w' := by
  obtain ⟨A, cap, hv, _⟩ := own_rv h.own
  obtain rfl := hv.eq
  have c0 := h.cell
  have HC := Lib.hid (clone_any A cap T (Nat.le_trans h.tok.len (by decide)) w hv.rd (fun e => ⟨List.length_eq_zero_iff.1 (by have := hv.len; rw [hv.nil e] at this; omega), hv.nil e⟩))
  clear hv h
  generalize T.length = n at *
  go_enter Tryz.func12, Tryz.ntmps12
  go_wp2_with (go_at_call 39; (with_reducible refine (HC.out).mono ?_); rintro e w2 ⟨v', rfl, h1, h2⟩; have H1 := Lib.hid h1; have H2 := Lib.hid h2; clear h1 h2)
  go_ret
  exact ⟨v', rfl, H1.out, H2.out⟩
theorem all_nil (w : World) : Calls Tryz.prog 12 #[.pointer none] w fun e w' => e = .returned (.slice none 0 0) ∧ w = w' := by
  go_enter Tryz.func12, Tryz.ntmps12
  go_wp2
  go_ret
  exact ⟨rfl, rfl⟩
theorem find_nil (p : Pf) (w : World) : Calls Tryz.prog 32 #[.pointer none, .agg (encP p).toArray] w fun e w' => e = .returned (.tuple #[.int .i64 0, .bool false]) ∧ Below w.heap.size w w' := by
  go_enter Tryz.func32, Tryz.ntmps32
  go_wp2
  go_ret2
  exact ⟨rfl, (Below.refl _ _).alloc (Nat.le_refl _) _⟩
theorem get_place {w : World} {A : Option Addr} {T : List Rt} {p : Pf} (h : Rd w A T) (hs : Srt T) (hh : has T p = true) : ∃ x b o, get T p = some x ∧ A = some ⟨b, o, none⟩ ∧ RAt w b (o + pos T p * 20) x ∧ pos T p < T.length := by
  obtain ⟨hlt, hg⟩ := pos_get hs hh
  obtain ⟨b, o, e, hr⟩ := h _ hlt
  exact ⟨_, b, o, hg, e, hr, hlt⟩
set_option maxRecDepth 100000 in
set_option maxHeartbeats 4000000 in
theorem get_any {base : Nat} {b : Nat} {v : Value} {T : List Rt} (p : Pf) (w : World) (h : Tb base w b v T) :
    Calls Tryz.prog 7 #[.pointer (some ⟨b, 0, none⟩), .agg (encP p).toArray] w fun e w' => e = .returned (.tuple #[.agg (encR ((get T p).getD zR)).toArray, .bool (has T p)]) ∧ Below w.heap.size w w' := by
  obtain ⟨A, cap, hv, _⟩ := own_rv h.own
  obtain rfl := hv.eq
  have HT := Lib.hid h
  have HV := Lib.hid hv.rd
  clear hv h
  have HF := Lib.hid (fun (W : World) (hb : Below w.heap.size w W) => find_any p W (HT.out.below hb))
  have HTC := Lib.hid (fun (W : World) (hb : Below w.heap.size w W) => (HT.out.below hb).cell)
  by_cases hh : has T p = true
  · have HH := Lib.hid hh
    obtain ⟨x, b', o, hg, rfl, hra, hlt⟩ := get_place HV.out HT.out.tok.srt hh
    have HG := Lib.hid (show (get T p).getD zR = x by rw [hg]; rfl)
    have HRA := Lib.hid hra
    have hn1 : T.length ≤ 300 := HT.out.tok.len
    clear hh hg hra
    obtain ⟨n, hn⟩ : ∃ n, T.length = n := ⟨_, rfl⟩
    rw [hn] at hlt HTC hn1
    obtain ⟨q, hq⟩ : ∃ q, pos T p = q := ⟨_, rfl⟩
    rw [hq] at hlt HRA HF
    clear hn hq
    go_enter Tryz.func7, Tryz.ntmps7
    go_upto_region 1 with fail
    have H := Lib.hid ((PAt.mk (at_new w (encP p) 33 (0, 0))).below ((Below.refl _ _).alloc (Nat.le_refl _) (.cells (encR zR).toArray 36 (0, 0))))
    have HB2 := Lib.hid (heap_alloc_new (w.alloc (.cells (encP p).toArray 33 (0, 0))) (.cells (encR zR).toArray 36 (0, 0)))
    rw [show (w.alloc (.cells (encP p).toArray 33 (0, 0))).heap.size = w.heap.size + 1 by simp] at HB2
    have hb := Lib.hid (show Below w.heap.size w ((w.alloc (.cells (encP p).toArray 33 (0, 0))).alloc (.cells (encR zR).toArray 36 (0, 0))) from (((Below.refl _ _).alloc (Nat.le_refl _) _).alloc (by simp) _))
    generalize (w.alloc _).alloc _ = W at H HB2 hb ⊢
    obtain ⟨B2, hB2⟩ : ∃ b, w.heap.size + 1 = b := ⟨_, rfl⟩
    rw [hB2] at HB2 ⊢
    have HBL := Lib.hid (show w.heap.size ≤ B2 from by omega)
    clear hB2
    generalize w.heap.size = B at H ⊢
    have c0 := H.out.all.load (k := n18) (encP_n _) Tryz.prog
    go_upto_region 2 with (go_at_call 32; (with_reducible refine (HF.out _ hb.out).mono ?_); rintro e w2 ⟨rfl, hb2⟩; rw [HH.out]; have HB3 := Lib.hid ((hb2.block B2 (blk_lt HB2.out)).trans HB2.out); have hb := Lib.hid (hb.out.trans (hb2.mono hb.out.size)); clear hb2 c0)
    have HC := Lib.hid (HTC.out _ hb.out)
    have HX := Lib.hid (HRA.out.below hb.out)
    have c1 := HC.out
    have hlt' : (q : Int) < (n : Int) := by omega
    have q0 : (0 : Int) ≤ (q : Int) := by omega
    have d0 : Sem.run Tryz.prog (loadCellsFrom ⟨b', o + q * n20, none⟩ 0 n20 #[]) w2 = .ok (encR x).toArray w2 := HX.out.all.load (k := n20) (encR_n _) Tryz.prog
    have hst := store_row (o := 0) (vs := encR x) HB3.out (by simp [encR_len]) (encR_one x) Tryz.prog
    rw [splice_whole (by simp [encR_len])] at hst
    have hl2 := (at_row (setRow_heap w2 B2 _ (encR x).toArray _ _ HB3.out)).load (k := n20) (encR_n _) Tryz.prog
    go_wp2
    rw [HG.out, HH.out]
    exact bodyPost_ret (v := .tuple #[.agg (encR x).toArray, .bool true]) (by simp [results, Tryz.results7, go_sem, hl2]) rfl ⟨rfl, below_setRow hb.out HBL.out _⟩
  · have hh' : has T p = false := by simpa using hh
    have HH := Lib.hid hh'
    have HG := Lib.hid (show (get T p).getD zR = zR by unfold has at hh'; cases h : get T p with | none => rfl | some x => rw [h] at hh'; cases hh')
    clear hh hh'
    go_enter Tryz.func7, Tryz.ntmps7
    go_upto_region 1 with fail
    have H := Lib.hid ((PAt.mk (at_new w (encP p) 33 (0, 0))).below ((Below.refl _ _).alloc (Nat.le_refl _) (.cells (encR zR).toArray 36 (0, 0))))
    have HB2 := Lib.hid (heap_alloc_new (w.alloc (.cells (encP p).toArray 33 (0, 0))) (.cells (encR zR).toArray 36 (0, 0)))
    rw [show (w.alloc (.cells (encP p).toArray 33 (0, 0))).heap.size = w.heap.size + 1 by simp] at HB2
    have hb := Lib.hid (show Below w.heap.size w ((w.alloc (.cells (encP p).toArray 33 (0, 0))).alloc (.cells (encR zR).toArray 36 (0, 0))) from (((Below.refl _ _).alloc (Nat.le_refl _) _).alloc (by simp) _))
    generalize (w.alloc _).alloc _ = W at H HB2 hb ⊢
    obtain ⟨B2, hB2⟩ : ∃ b, w.heap.size + 1 = b := ⟨_, rfl⟩
    rw [hB2] at HB2 ⊢
    have HBL := Lib.hid (show w.heap.size ≤ B2 from by omega)
    clear hB2
    generalize w.heap.size = B at H ⊢
    have c0 := H.out.all.load (k := n18) (encP_n _) Tryz.prog
    go_upto_region 2 with (go_at_call 32; (with_reducible refine (HF.out _ hb.out).mono ?_); rintro e w2 ⟨rfl, hb2⟩; rw [HH.out]; have HB3 := Lib.hid ((hb2.block B2 (blk_lt HB2.out)).trans HB2.out); have hb := Lib.hid (hb.out.trans (hb2.mono hb.out.size)); clear hb2 c0)
    have hst := store_row (o := 0) (vs := encR zR) HB3.out (by simp [encR_len]) (encR_one zR) Tryz.prog
    rw [splice_whole (by simp [encR_len])] at hst
    have hl2 := (at_row (setRow_heap w2 B2 _ (encR zR).toArray _ _ HB3.out)).load (k := n20) (encR_n _) Tryz.prog
    go_wp2_with (refine wpList_build_run (o := ⟨some 16, .build 36 #[], _, _, _, _⟩) rfl 36 #[] rfl #[] (by simp) (build_R0 _) ?_)
    rw [HG.out, HH.out]
    exact bodyPost_ret (v := .tuple #[.agg (encR zR).toArray, .bool false]) (by simp [results, Tryz.results7, go_sem, hl2]) rfl ⟨rfl, below_setRow hb.out HBL.out _⟩
end Tab
end Go.Proofs.YtdcbbjlbfghpbaaGreat

/-
  A table in memory: Between, Copy, Same; a table that is none. Conditions: those that each theorem names.
-/
namespace Go.Proofs.YtdcbbjlbfghpbaaGreat
open Go Go.RowKit H2
set_option linter.unusedVariables false
set_option linter.unusedSimpArgs false
namespace Tab
set_option maxRecDepth 100000 in
set_option maxHeartbeats 4000000 in
theorem get_none_any (p : Pf) (w : World) : Calls Tryz.prog 7 #[.pointer none, .agg (encP p).toArray] w fun e w' => e = .returned (.tuple #[.agg (encR zR).toArray, .bool false]) ∧ Below w.heap.size w w' := by
  go_enter Tryz.func7, Tryz.ntmps7
  go_upto_region 1 with fail
  have H := Lib.hid ((PAt.mk (at_new w (encP p) 33 (0, 0))).below ((Below.refl _ _).alloc (Nat.le_refl _) (.cells (encR zR).toArray 36 (0, 0))))
  have HB2 := Lib.hid (heap_alloc_new (w.alloc (.cells (encP p).toArray 33 (0, 0))) (.cells (encR zR).toArray 36 (0, 0)))
  rw [show (w.alloc (.cells (encP p).toArray 33 (0, 0))).heap.size = w.heap.size + 1 by simp] at HB2
  have hb := Lib.hid (show Below w.heap.size w ((w.alloc (.cells (encP p).toArray 33 (0, 0))).alloc (.cells (encR zR).toArray 36 (0, 0))) from (((Below.refl _ _).alloc (Nat.le_refl _) _).alloc (by simp) _))
  generalize (w.alloc _).alloc _ = W at H HB2 hb ⊢
  obtain ⟨B2, hB2⟩ : ∃ b, w.heap.size + 1 = b := ⟨_, rfl⟩
  rw [hB2] at HB2 ⊢
  have HBL := Lib.hid (show w.heap.size ≤ B2 from by omega)
  clear hB2
  generalize w.heap.size = B at H ⊢
  have c0 := H.out.all.load (k := n18) (encP_n _) Tryz.prog
  go_upto_region 2 with (go_at_call 32; (with_reducible refine (find_nil p _).mono ?_); rintro e w2 ⟨rfl, hb2⟩; have HB3 := Lib.hid ((hb2.block B2 (blk_lt HB2.out)).trans HB2.out); have hb := Lib.hid (hb.out.trans (hb2.mono hb.out.size)); clear hb2 c0)
  have hst := store_row (o := 0) (vs := encR zR) HB3.out (by simp [encR_len]) (encR_one zR) Tryz.prog
  rw [splice_whole (by simp [encR_len])] at hst
  have hl2 := (at_row (setRow_heap w2 B2 _ (encR zR).toArray _ _ HB3.out)).load (k := n20) (encR_n _) Tryz.prog
  go_wp2_with (refine wpList_build_run (o := ⟨some 16, .build 36 #[], _, _, _, _⟩) rfl 36 #[] rfl #[] (by simp) (build_R0 _) ?_)
  exact bodyPost_ret (v := .tuple #[.agg (encR zR).toArray, .bool false]) (by simp [results, Tryz.results7, go_sem, hl2]) rfl ⟨rfl, below_setRow hb.out HBL.out _⟩
theorem own_le {w : World} {base base' size n : Nat} {e : TypeId} {v : Value} {xs : List Value} (h : w.ownsRow base e size v n xs) (hb : base' ≤ base) : w.ownsRow base' e size v n xs := by
  refine ⟨h.1, ?_⟩
  rcases h.2 with h2 | ⟨g, cap, cur, hv, hg, r⟩
  · exact .inl h2
  · exact .inr ⟨g, cap, cur, hv, Nat.le_trans hb hg, r⟩
/-- what stands from one prefix up to another one -/
def btw (T : List Rt) (a b : Pf) : List Rt := (T.take (pos T b)).drop (pos T a)
theorem clone_n (A : Option Addr) (n cap : Nat) (L : List Rt) (hn : L.length = n) (hL : L.length ≤ 1000000) (w : World) (hr : Rd w A L) (hA : A = none → L = [] ∧ cap = 0) :
    Calls Tryz.prog 39 #[.slice A n cap] w fun e w' => ∃ v, e = .returned v ∧ w'.ownsRow w.heap.size 36 20 v L.length (flat L) ∧ Below w.heap.size w w' := by
  subst hn
  exact clone_any A cap L hL w hr hA
theorem Rd.part {w : World} {b o : Nat} {T : List Rt} (h : Rd w (some ⟨b, o, none⟩) T) (i k : Nat) (hk : k ≤ T.length) : Rd w (some ⟨b, o + i * n20, none⟩) ((T.take k).drop i) := fun j hj => by
  have hj' : i + j < k := by rw [List.length_drop, List.length_take] at hj; omega
  obtain ⟨b', o', e, hr⟩ := h (i + j) (by omega)
  cases e
  refine ⟨b, o + i * n20, rfl, ?_⟩
  rw [show o + i * n20 + j * 20 = o + (i + j) * 20 from by show o + i * 20 + j * 20 = _; omega]
  have e2 : ((T.take k).drop i)[j] = T[i + j] := by rw [List.getElem_drop, List.getElem_take]
  rw [e2]
  exact hr
/-- a table made of an owned row -/
theorem tb_new {base : Nat} {w : World} {v : Value} {T : List Rt} (h : w.ownsRow base 36 20 v T.length (flat T)) (ht : TOk T) (hb : base ≤ w.heap.size) : Tb base (w.alloc (.cells #[v] 73 (0, 0))) w.heap.size v T :=
  ⟨heap_alloc_new w _, h.alloc _, hb, ht⟩
set_option maxHeartbeats 4000000 in
theorem same_any {base base' : Nat} {b b' : Nat} {v v' : Value} {T T' : List Rt} (w : World) (h : Tb base w b v T) (h' : Tb base' w b' v' T') :
    Calls Tryz.prog 20 #[.pointer (some ⟨b, 0, none⟩), .pointer (some ⟨b', 0, none⟩)] w fun e w' => e = .returned (.bool (decide (T = T'))) ∧ Below w.heap.size w w' := by
  have HA := Lib.hid (all_any w h)
  have HA2 := Lib.hid (fun (W : World) (hb : Below w.heap.size w W) => all_any W (h'.below hb))
  have HL := Lib.hid (And.intro h.tok.len h'.tok.len)
  clear h h'
  go_enter Tryz.func20, Tryz.ntmps20
  go_upto_region 1 with fail
  go_wp2_with (first
    | (go_at_call 12; (with_reducible refine (HA.out).mono ?_); rintro e w2 ⟨v1, rfl, h1, h2⟩; have HO := Lib.hid h1; have HB := Lib.hid h2; clear h1 h2)
    | (go_at_call 12; (with_reducible refine (HA2.out w2 HB.out).mono ?_); rintro e w3 ⟨v2, rfl, h1, h2⟩; obtain ⟨A2, c2, hv2, _⟩ := own_rv h1; obtain rfl := hv2.eq; obtain ⟨A1, c1, hv1, _⟩ := own_rv (own_below HO.out h2); obtain rfl := hv1.eq; have HE := Lib.hid (equal_any A1 A2 c1 c2 T T' (Nat.le_trans HL.out.1 (by decide)) (Nat.le_trans HL.out.2 (by decide)) w3 hv1.rd hv2.rd); have HB2 := Lib.hid (HB.out.trans (h2.mono HB.out.size)); clear h1 h2 hv1 hv2)
    | (go_at_call 51; (with_reducible refine (HE.out).mono ?_); rintro e w4 ⟨rfl, h1⟩; have HB3 := Lib.hid (HB2.out.trans (h1.mono HB2.out.size)); clear h1))
  go_ret
  exact ⟨rfl, HB3.out⟩
end Tab
end Go.Proofs.YtdcbbjlbfghpbaaGreat

/-
  Routes in blocks that a call leaves. Conditions: those that each theorem names.
-/
namespace Go.Proofs.YtdcbbjlbfghpbaaGreat
open Go Go.RowKit H2
namespace Tab
theorem RAt.only' {S : Nat → Prop} {w w' : World} {B o : Nat} {r : Rt} (h : RAt w B o r) (ho : Only S w w') (hn : ¬ S B) : RAt w' B o r := ⟨fun j u hj => ho.cell (h.all j u hj) hn⟩
end Tab
end Go.Proofs.YtdcbbjlbfghpbaaGreat
