/-
  Digest: the digests of a table. Conditions: those that each theorem names.
-/
import Derived.Test.YtdcbbjlbfghpbaaGreatMarkB
import Derived.Test.YtdcbbjlbfghpbaaGreatDf
namespace Go.Proofs.YtdcbbjlbfghpbaaGreat
open Go Go.RowKit H2
set_option linter.unusedVariables false
set_option linter.unusedSimpArgs false
namespace Dig
open Tab Byt
/-- digests, by their ranges -/
abbrev Dg := Nat → Int × Int
def dg0 : Dg := fun _ => (0, 0)
def dgN (D : Dg) (r : Rt) : Dg := fun k => if k = bk r.to then ((D k).1 + 1, (D k).2) else D k
def dgAdd (D : Dg) (r : Rt) : Dg := fun k => if k = bk r.to then ((D k).1 + 1, IntKind.u64.wrap ((D k).2 + mk r)) else D k
/-- a table's digests -/
def dgs (T : List Rt) : Dg := T.foldl dgAdd dg0
theorem dgs_step {T : List Rt} {k : Nat} (hk : k < T.length) : dgs (T.take (k + 1)) = dgAdd (dgs (T.take k)) T[k] := by
  unfold dgs
  rw [← List.take_append_getElem hk, List.foldl_append]
  rfl
theorem dgs_le (T : List Rt) (D : Dg) (m : Int) (h : ∀ k, 0 ≤ (D k).1 ∧ (D k).1 ≤ m) : ∀ k, 0 ≤ (T.foldl dgAdd D k).1 ∧ (T.foldl dgAdd D k).1 ≤ m + T.length := by
  induction T generalizing D m with
  | nil => intro k; simpa using h k
  | cons r T ih =>
    intro k
    have := ih (dgAdd D r) (m + 1) (fun j => by
      unfold dgAdd
      have := h j
      split
      · dsimp only; omega
      · omega) k
    rw [List.foldl_cons, List.length_cons]
    omega
theorem dgs_bound (T : List Rt) (k : Nat) : 0 ≤ (dgs T k).1 ∧ (dgs T k).1 ≤ T.length := by
  have := dgs_le T dg0 0 (fun k => ⟨by simp [dg0], by simp [dg0]⟩) k
  unfold dgs
  omega
/-- a row of 17 digests -/
structure DAt (w : World) (g : Nat) (D : Dg) : Prop where
  ex : ∃ cur : Array Value, w.heap[g]? = some (.cells cur 58 (0, 0)) ∧ cur.size = 34 ∧ ∀ k, k < 17 → cur[k * 2]? = some (.int .i64 (D k).1) ∧ cur[k * 2 + 1]? = some (.int .u64 (D k).2)
theorem DAt.lt {w : World} {g : Nat} {D : Dg} (h : DAt w g D) : g < w.heap.size := by
  obtain ⟨cur, h1, _⟩ := h.ex
  exact blk_lt h1
theorem DAt.below {w w' : World} {g : Nat} {D : Dg} (h : DAt w g D) (hb : Below w.heap.size w w') : DAt w' g D := by
  obtain ⟨cur, h1, h2⟩ := h.ex
  exact ⟨cur, (hb.block g (blk_lt h1)).trans h1, h2⟩
theorem DAt.n {w : World} {g : Nat} {D : Dg} (h : DAt w g D) {k : Nat} (hk : k < 17) : w.cell? ⟨g, k * 2, none⟩ = some (.int .i64 (D k).1) ∧ w.frozen? ⟨g, k * 2, none⟩ = false := by
  obtain ⟨cur, h1, h2, h3⟩ := h.ex
  exact ⟨(blk_cell h1 _).trans (h3 k hk).1, blk_free h1 _⟩
theorem DAt.s {w : World} {g : Nat} {D : Dg} (h : DAt w g D) {k : Nat} (hk : k < 17) : w.cell? ⟨g, k * 2 + 1, none⟩ = some (.int .u64 (D k).2) ∧ w.frozen? ⟨g, k * 2 + 1, none⟩ = false := by
  obtain ⟨cur, h1, h2, h3⟩ := h.ex
  exact ⟨(blk_cell h1 _).trans (h3 k hk).2, blk_free h1 _⟩
theorem DAt.setN {w : World} {g : Nat} {D : Dg} (h : DAt w g D) {k : Nat} (hk : k < 17) (x : Int) : DAt (w.setCell ⟨g, k * 2, none⟩ (.int .i64 x)) g (fun j => if j = k then (x, (D j).2) else D j) := by
  obtain ⟨cur, h1, h2, h3⟩ := h.ex
  refine ⟨_, blk_set h1 _ _, by simpa using h2, fun j hj => ?_⟩
  obtain ⟨e1, e2⟩ := h3 j hj
  constructor
  · rw [Array.getElem?_setIfInBounds]
    by_cases e : k * 2 = j * 2
    · have : j = k := by omega
      subst this
      rw [if_pos rfl, if_pos (by omega), if_pos rfl]
    · rw [if_neg e, if_neg (by omega)]; exact e1
  · rw [Array.getElem?_setIfInBounds, if_neg (by omega)]
    rw [e2]
    split <;> rfl
theorem DAt.setS {w : World} {g : Nat} {D : Dg} (h : DAt w g D) {k : Nat} (hk : k < 17) (x : Int) : DAt (w.setCell ⟨g, k * 2 + 1, none⟩ (.int .u64 x)) g (fun j => if j = k then ((D j).1, x) else D j) := by
  obtain ⟨cur, h1, h2, h3⟩ := h.ex
  refine ⟨_, blk_set h1 _ _, by simpa using h2, fun j hj => ?_⟩
  obtain ⟨e1, e2⟩ := h3 j hj
  constructor
  · rw [Array.getElem?_setIfInBounds, if_neg (by omega), e1]
    split <;> rfl
  · rw [Array.getElem?_setIfInBounds]
    by_cases e : k * 2 + 1 = j * 2 + 1
    · have : j = k := by omega
      subst this
      rw [if_pos rfl, if_pos (by omega), if_pos rfl]
    · rw [if_neg e, if_neg (by omega)]; exact e2
def z34 : Array Value := ((List.range 17).flatMap fun _ => [Value.int .i64 0, Value.int .u64 0]).toArray
theorem mk17 (w : World) : (Instr.makeSlice 29 (.int .i64 17) (.int .i64 17)).run Tryz.prog w = .ok (.slice (some ⟨w.heap.size, 0, none⟩) 17 17) (w.alloc (.cells z34 58 (0, 0))) := by kernel_rfl
theorem z34_get : ∀ k, k < 17 → z34[k * 2]? = some (.int .i64 0) ∧ z34[k * 2 + 1]? = some (.int .u64 0) := by
  intro k hk
  rcases k with _ | _ | _ | _ | _ | _ | _ | _ | _ | _ | _ | _ | _ | _ | _ | _ | _ | k
  all_goals first | exact ⟨rfl, rfl⟩ | omega
theorem dAt_new (w : World) : DAt (w.alloc (.cells z34 58 (0, 0))) w.heap.size dg0 := ⟨z34, heap_alloc_new w _, rfl, z34_get⟩
theorem dgN_eq (D : Dg) (r : Rt) : (fun j => if j = bk r.to then ((D (bk r.to)).1 + 1, (D j).2) else D j) = dgN D r := by
  funext j
  unfold dgN
  split
  · rename_i e; rw [e]
  · rfl
theorem dgAdd_eq (D : Dg) (r : Rt) : (fun j => if j = bk r.to then ((dgN D r j).1, IntKind.u64.wrap ((D (bk r.to)).2 + mk r)) else dgN D r j) = dgAdd D r := by
  funext j
  unfold dgAdd dgN
  split
  · rename_i e; rw [e]
  · rfl
set_option maxRecDepth 100000 in
set_option maxHeartbeats 16000000 in
theorem digAll_any {base : Nat} {b : Nat} {v : Value} {T : List Rt} (w : World) (h : Tb base w b v T) : Calls Tryz.prog 6 #[.pointer (some ⟨b, 0, none⟩)] w fun e w' => (∃ g, e = .returned (.slice (some ⟨g, 0, none⟩) 17 17) ∧ w.heap.size ≤ g ∧ DAt w' g (dgs T)) ∧ Below w.heap.size w w' := by
  have HT := Lib.hid h
  clear h
  go_enter Tryz.func6, Tryz.ntmps6
  have hmk := mk17 w
  go_upto_region 2 with fail
  have HD0 := Lib.hid (dAt_new w)
  have hb0 := Lib.hid (show Below w.heap.size w (w.alloc (.cells z34 58 (0, 0))) from (Below.refl _ _).alloc (Nat.le_refl _) _)
  clear hmk
  generalize w.alloc _ = W at HD0 hb0 ⊢
  obtain ⟨g, hg⟩ : ∃ g, w.heap.size = g := ⟨_, rfl⟩
  have HGL := Lib.hid (show w.heap.size ≤ g by omega)
  rw [hg] at HD0 ⊢
  clear hg
  have HAL := Lib.hid (all_any W (HT.out.below hb0.out))
  have hn3 := HT.out.tok.len
  go_wp2_with (go_at_call 12; (with_reducible refine (HAL.out).mono ?_); rintro e w2 ⟨v2, rfl, h1, h2⟩; obtain ⟨A2, c2, hv2, hf2⟩ := own_rv h1; obtain rfl := hv2.eq; have HR := Lib.hid hv2.rd; have HNE := Lib.hid (show ∀ g' o, A2 = some ⟨g', o, none⟩ → g' ≠ g from fun g' o e => by have h5 := (hf2 g' o e).1; have h6 := HD0.out.lt; omega); have HD := Lib.hid (HD0.out.below h2); have HB := Lib.hid (hb0.out.trans (h2.mono hb0.out.size)); clear h1 h2 hv2 hf2)
  clear HD0 HAL
  go_loopw [11] (fun s11 wr => ∃ k : Nat, k ≤ T.length ∧ s11 = .int .i64 k ∧ DAt wr g (dgs (T.take k)) ∧ Below w.heap.size w wr ∧ Rd wr A2 T) (fun s11 _ => T.length - (intOf s11).toNat)
  case atStart => exact ⟨0, by omega, rfl, HD.out, HB.out, HR.out⟩
  case round =>
    clear HD HB HR
    obtain ⟨k, hk, rfl, hd, hbb, hr⟩ := hrel
    have HD := Lib.hid hd
    have HB := Lib.hid hbb
    have HR := Lib.hid hr
    clear hd hbb hr
    by_cases hlt : k < T.length
    · have hlt' : (k : Int) < (T.length : Int) := by omega
      have k0 : (0 : Int) ≤ (k : Int) := by omega
      obtain ⟨g2, o, e2, hx⟩ := HR.out k hlt
      have hne := HNE.out g2 o e2
      have HX := Lib.hid hx
      have HST := Lib.hid (dgs_step hlt)
      have HBD := Lib.hid (dgs_bound (T.take k))
      subst e2
      clear hx
      generalize T[k] = x at HX HST
      generalize dgs (T.take k) = D at HD HST HBD
      obtain ⟨q, hq⟩ : ∃ q, bk x.to = q := ⟨_, rfl⟩
      have HQ := Lib.hid hq
      have hq17 : q < 17 := by rw [← hq]; exact bk_lt _
      have hq18 : (q : Int) < 17 := by omega
      have hq0 : (0 : Int) ≤ (q : Int) := by omega
      obtain ⟨N, hN⟩ : ∃ N, (D q).1 = N := ⟨_, rfl⟩
      obtain ⟨S, hS⟩ : ∃ S, (D q).2 = S := ⟨_, rfl⟩
      have hw1 : IntKind.i64.wrap (N + 1) = N + 1 := by
        have h1 := HBD.out q
        rw [hN, List.length_take] at h1
        exact IntWalk.i64_in _ (by omega)
      have HNN := Lib.hid hN
      have HSS := Lib.hid hS
      clear hq hN hS
      have hl1 : Sem.run Tryz.prog (loadCellsFrom ⟨g2, o + k * n20, none⟩ 0 n20 #[]) wr = .ok (encR x).toArray wr := HX.out.all.load (k := n20) (encR_n _) Tryz.prog
      have hst := store_row (o := 0) (vs := encR x) (heap_alloc_new wr (.cells (encR zR).toArray 36 (0, 0))) (by simp [encR_len]) (encR_one _) Tryz.prog
      rw [splice_whole (by simp [encR_len])] at hst
      go_upto_region 5 with fail
      have HBX := Lib.hid (setRow_heap (wr.alloc (.cells (encR zR).toArray 36 (0, 0))) wr.heap.size _ (encR x).toArray 36 (0, 0) (heap_alloc_new wr _))
      have hbx := Lib.hid (below_setRow ((Below.refl wr.heap.size wr).alloc (Nat.le_refl _) (.cells (encR zR).toArray 36 (0, 0))) (Nat.le_refl _) (encR x).toArray)
      clear hst hl1
      generalize (wr.alloc _).setRow _ _ = W5 at HBX hbx ⊢
      have HX5 := Lib.hid (show RAt W5 wr.heap.size 0 x from ⟨at_row HBX.out⟩)
      have HG5 := Lib.hid (show wr.heap.size ≠ g by have := HD.out.lt; omega)
      have HD5 := Lib.hid (HD.out.below hbx.out)
      have HR5 := Lib.hid (HR.out.below hbx.out)
      have HB5 := Lib.hid (HB.out.trans (hbx.out.mono HB.out.size))
      generalize wr.heap.size = B5 at HX5 HG5 ⊢
      clear HBX hbx HD HR HB HX
      have c0 := HX5.out.to.all.load (k := n18) (encP_n _) Tryz.prog
      go_upto_region 6 with (go_at_call 31; (with_reducible refine (bucket_any _ _).mono ?_); rintro e w6 ⟨rfl, h1⟩; rw [HQ.out]; have HX6 := Lib.hid (HX5.out.below h1); have HD6 := Lib.hid (HD5.out.below h1); have HR6 := Lib.hid (HR5.out.below h1); have HB6 := Lib.hid (HB5.out.trans (h1.mono HB5.out.size)); clear h1 c0)
      obtain ⟨y1, y2⟩ := HD6.out.n hq17
      rw [HNN.out] at y1
      go_upto_region 7 with fail
      clear y1 y2
      have ho := Lib.hid ((Only.refl (fun i => i = g) w6).setCell (p := ⟨g, q * 2, none⟩) (fun _ => rfl) (.int .i64 (N + 1)))
      have HD7 := Lib.hid (show DAt (w6.setCell ⟨g, q * 2, none⟩ (.int .i64 (N + 1))) g (dgN D x) by
        have := HD6.out.setN hq17 (N + 1)
        rw [← HNN.out] at this ⊢
        rw [← dgN_eq, HQ.out]
        exact this)
      have HX7 := Lib.hid (HX6.out.only' ho.out HG5.out).drew
      have HR7 := Lib.hid (show Rd (w6.setCell ⟨g, q * 2, none⟩ (.int .i64 (N + 1))).drew (some ⟨g2, o, none⟩) T from fun i hi => by
        obtain ⟨b', o', e', h'⟩ := HR6.out i hi
        cases e'
        exact ⟨_, _, rfl, (h'.only' ho.out hne).drew⟩)
      have HB7 := Lib.hid (HB6.out.setCell HGL.out (p := ⟨g, q * 2, none⟩) (.int .i64 (N + 1))).drew
      have HD7 := Lib.hid (HD7.out.below (Below.refl _ _).drew)
      generalize (w6.setCell _ _) = W7 at HX7 HR7 HB7 HD7 ⊢
      have HS2 := Lib.hid (show (dgN D x q).2 = S by unfold dgN; rw [HQ.out, if_pos rfl]; exact HSS.out)
      refine wp_region_held_drew (S := (fun w' => RAt w' B5 0 x)) (by kernel_rfl) HX7.out (fun _ => ?_)
      refine held_take 0 27 (v := ?_) rfl rfl (by kernel_rfl) (by kernel_rfl) (by kernel_rfl) (fun _ _ _ h => h) (by rfl) ?_ HX7.out ?_
      rotate_left
      · (intro w hSw; (try dsimp only at hSw); have a0 := hSw.all.load (k := n20) (encR_n _) Tryz.prog; clear hSw;try simp only [List.getElem_toArray, List.getElem_cons_zero, List.getElem_cons_succ]; go_simp; try (with_reducible rfl))
      try simp only [List.setIfInBounds_toArray, List.set_cons_zero, List.set_cons_succ]
      refine held_take 1 28 (v := ?_) rfl rfl (by kernel_rfl) (by kernel_rfl) (by kernel_rfl) (fun _ _ _ h => h) (by rfl) ?_ HX7.out ?_
      rotate_left
      · (intro w hSw; (try dsimp only at hSw); have a0 := hSw.all.load (k := n20) (encR_n _) Tryz.prog; clear hSw;try simp only [List.getElem_toArray, List.getElem_cons_zero, List.getElem_cons_succ]; go_simp; try (with_reducible rfl))
      try simp only [List.setIfInBounds_toArray, List.set_cons_zero, List.set_cons_succ]
      refine held_take 2 29 (v := ?_) rfl rfl (by kernel_rfl) (by kernel_rfl) (by kernel_rfl) (fun _ _ _ h => h) (by rfl) ?_ HX7.out ?_
      rotate_left
      · (intro w hSw; (try dsimp only at hSw); have a0 := hSw.all.load (k := n20) (encR_n _) Tryz.prog; clear hSw;try simp only [List.getElem_toArray, List.getElem_cons_zero, List.getElem_cons_succ]; go_simp; try (with_reducible rfl))
      try simp only [List.setIfInBounds_toArray, List.set_cons_zero, List.set_cons_succ]
      refine held_take 4 31 (v := ?_) rfl rfl (by kernel_rfl) (by kernel_rfl) (by kernel_rfl) (fun _ _ _ h => h) (by rfl) ?_ HX7.out ?_
      rotate_left
      · (intro w hSw; (try dsimp only at hSw); have a0 := hSw.all.load (k := n20) (encR_n _) Tryz.prog; clear hSw;try simp only [List.getElem_toArray, List.getElem_cons_zero, List.getElem_cons_succ]; go_simp; try (with_reducible rfl))
      try simp only [List.setIfInBounds_toArray, List.set_cons_zero, List.set_cons_succ]
      refine held_two 3 5 rfl rfl (by kernel_rfl) (by rfl) (by rfl) (fun K hK => ?_) (fun K hK => ?_)
      · try simp only [List.getElem_toArray, List.getElem_cons_zero, List.getElem_cons_succ]
        have e1 := (HD7.out.s hq17).1
        rw [HS2.out] at e1
        go_simp
        clear e1
        try simp only [Act.put, List.setIfInBounds_toArray, List.set_cons_zero, List.set_cons_succ]
        refine hK.out _ _ _ HX7.out ?_
        clear hK K
        refine held_call 5 32 rfl rfl (by kernel_rfl) (by rfl) (fun K hK => ?_)
        try simp only [List.getElem_toArray, List.getElem_cons_zero, List.getElem_cons_succ]
        go_simp
        (go_at_call 23; (with_reducible refine (mark_any _ _).mono ?_); rintro e w8 ⟨rfl, h1⟩; have HX7 := Lib.hid (HX7.out.below h1); have HD7 := Lib.hid (HD7.out.below h1); have HR7 := Lib.hid (HR7.out.below h1); have HB7 := Lib.hid (HB7.out.trans (h1.mono HB7.out.size)); clear h1)
        try go_wp2_with fail
        try simp only [Act.put, List.setIfInBounds_toArray, List.set_cons_zero, List.set_cons_succ]
        refine hK.out _ _ _ HX7.out ?_
        clear hK K
        refine held_take 6 33 (v := ?_) rfl rfl (by kernel_rfl) (by kernel_rfl) (by kernel_rfl) (fun _ _ _ h => h) (by rfl) ?_ HX7.out ?_
        rotate_left
        · (intro w hSw; (try dsimp only at hSw); have a0 := hSw.all.load (k := n20) (encR_n _) Tryz.prog; clear hSw;try simp only [List.getElem_toArray, List.getElem_cons_zero, List.getElem_cons_succ]; go_simp; try (with_reducible rfl))
        try simp only [List.setIfInBounds_toArray, List.set_cons_zero, List.set_cons_succ]
        refine held_take 7 34 (v := ?_) rfl rfl (by kernel_rfl) (by kernel_rfl) (by kernel_rfl) (fun _ _ _ h => h) (by rfl) ?_ HX7.out ?_
        rotate_left
        · (intro w hSw; (try dsimp only at hSw); have a0 := hSw.all.load (k := n20) (encR_n _) Tryz.prog; clear hSw;try simp only [List.getElem_toArray, List.getElem_cons_zero, List.getElem_cons_succ]; go_simp; try (with_reducible rfl))
        try simp only [List.setIfInBounds_toArray, List.set_cons_zero, List.set_cons_succ]
        refine held_take 8 35 (v := ?_) rfl rfl (by kernel_rfl) (by kernel_rfl) (by kernel_rfl) (fun _ _ _ h => h) (by rfl) ?_ HX7.out ?_
        rotate_left
        · (intro w hSw; (try dsimp only at hSw); have a0 := hSw.all.load (k := n20) (encR_n _) Tryz.prog; clear hSw;try simp only [List.getElem_toArray, List.getElem_cons_zero, List.getElem_cons_succ]; go_simp; try (with_reducible rfl))
        try simp only [List.setIfInBounds_toArray, List.set_cons_zero, List.set_cons_succ]
        refine held_do 9 rfl (by kernel_rfl) (by rfl) (fun K hK => ?_)
        try simp only [List.getElem_toArray, List.getElem_cons_zero, List.getElem_cons_succ]
        (have e1 := (HD7.out.s hq17).1; have e2 := (HD7.out.s hq17).2; go_simp; have ho := Lib.hid ((Only.refl (fun i => i = g) w8).setCell (p := ⟨g, q * 2 + 1, none⟩) (fun _ => rfl) (.int .u64 (IntKind.u64.wrap (S + mk x)))); have HX7 := Lib.hid (HX7.out.only' ho.out HG5.out); clear e1 e2)
        try simp only [Act.put, List.setIfInBounds_toArray, List.set_cons_zero, List.set_cons_succ]
        refine hK.out _ _ _ HX7.out ?_
        clear hK K
        refine wpAnyH_done (by kernel_rfl) ?_ _
        have HD9 := Lib.hid (show DAt (w8.setCell ⟨g, q * 2 + 1, none⟩ (.int .u64 (IntKind.u64.wrap (S + mk x)))) g (dgAdd D x) by
          have := HD7.out.setS hq17 (IntKind.u64.wrap (S + mk x))
          rw [← HSS.out] at this ⊢
          rw [← dgAdd_eq, HQ.out]
          exact this)
        have HR9 := Lib.hid (show Rd (w8.setCell ⟨g, q * 2 + 1, none⟩ (.int .u64 (IntKind.u64.wrap (S + mk x)))) (some ⟨g2, o, none⟩) T from fun i hi => by
          obtain ⟨b', o', e', h'⟩ := HR7.out i hi
          cases e'
          exact ⟨_, _, rfl, h'.only' ho.out hne⟩)
        have HB9 := Lib.hid (HB7.out.setCell HGL.out (p := ⟨g, q * 2 + 1, none⟩) (.int .u64 (IntKind.u64.wrap (S + mk x))))
        go_wp2
        go_roundw
        case rel => exact ⟨k + 1, by omega, by go_num, by rw [HST.out]; exact HD9.out, HB9.out, HR9.out⟩
        case measure => simp [intOf]; omega
      · try simp only [List.getElem_toArray, List.getElem_cons_zero, List.getElem_cons_succ]
        go_simp
        (go_at_call 23; (with_reducible refine (mark_any _ _).mono ?_); rintro e w8 ⟨rfl, h1⟩; have HX7 := Lib.hid (HX7.out.below h1); have HD7 := Lib.hid (HD7.out.below h1); have HR7 := Lib.hid (HR7.out.below h1); have HB7 := Lib.hid (HB7.out.trans (h1.mono HB7.out.size)); clear h1)
        try go_wp2_with fail
        try simp only [Act.put, List.setIfInBounds_toArray, List.set_cons_zero, List.set_cons_succ]
        refine hK.out _ _ _ HX7.out ?_
        clear hK K
        refine held_call 3 30 rfl rfl (by kernel_rfl) (by rfl) (fun K hK => ?_)
        try simp only [List.getElem_toArray, List.getElem_cons_zero, List.getElem_cons_succ]
        have e1 := (HD7.out.s hq17).1
        rw [HS2.out] at e1
        go_simp
        clear e1
        try simp only [Act.put, List.setIfInBounds_toArray, List.set_cons_zero, List.set_cons_succ]
        refine hK.out _ _ _ HX7.out ?_
        clear hK K
        refine held_take 6 33 (v := ?_) rfl rfl (by kernel_rfl) (by kernel_rfl) (by kernel_rfl) (fun _ _ _ h => h) (by rfl) ?_ HX7.out ?_
        rotate_left
        · (intro w hSw; (try dsimp only at hSw); have a0 := hSw.all.load (k := n20) (encR_n _) Tryz.prog; clear hSw;try simp only [List.getElem_toArray, List.getElem_cons_zero, List.getElem_cons_succ]; go_simp; try (with_reducible rfl))
        try simp only [List.setIfInBounds_toArray, List.set_cons_zero, List.set_cons_succ]
        refine held_take 7 34 (v := ?_) rfl rfl (by kernel_rfl) (by kernel_rfl) (by kernel_rfl) (fun _ _ _ h => h) (by rfl) ?_ HX7.out ?_
        rotate_left
        · (intro w hSw; (try dsimp only at hSw); have a0 := hSw.all.load (k := n20) (encR_n _) Tryz.prog; clear hSw;try simp only [List.getElem_toArray, List.getElem_cons_zero, List.getElem_cons_succ]; go_simp; try (with_reducible rfl))
        try simp only [List.setIfInBounds_toArray, List.set_cons_zero, List.set_cons_succ]
        refine held_take 8 35 (v := ?_) rfl rfl (by kernel_rfl) (by kernel_rfl) (by kernel_rfl) (fun _ _ _ h => h) (by rfl) ?_ HX7.out ?_
        rotate_left
        · (intro w hSw; (try dsimp only at hSw); have a0 := hSw.all.load (k := n20) (encR_n _) Tryz.prog; clear hSw;try simp only [List.getElem_toArray, List.getElem_cons_zero, List.getElem_cons_succ]; go_simp; try (with_reducible rfl))
        try simp only [List.setIfInBounds_toArray, List.set_cons_zero, List.set_cons_succ]
        refine held_do 9 rfl (by kernel_rfl) (by rfl) (fun K hK => ?_)
        try simp only [List.getElem_toArray, List.getElem_cons_zero, List.getElem_cons_succ]
        (have e1 := (HD7.out.s hq17).1; have e2 := (HD7.out.s hq17).2; go_simp; have ho := Lib.hid ((Only.refl (fun i => i = g) w8).setCell (p := ⟨g, q * 2 + 1, none⟩) (fun _ => rfl) (.int .u64 (IntKind.u64.wrap (S + mk x)))); have HX7 := Lib.hid (HX7.out.only' ho.out HG5.out); clear e1 e2)
        try simp only [Act.put, List.setIfInBounds_toArray, List.set_cons_zero, List.set_cons_succ]
        refine hK.out _ _ _ HX7.out ?_
        clear hK K
        refine wpAnyH_done (by kernel_rfl) ?_ _
        have HD9 := Lib.hid (show DAt (w8.setCell ⟨g, q * 2 + 1, none⟩ (.int .u64 (IntKind.u64.wrap (S + mk x)))) g (dgAdd D x) by
          have := HD7.out.setS hq17 (IntKind.u64.wrap (S + mk x))
          rw [← HSS.out] at this ⊢
          rw [← dgAdd_eq, HQ.out]
          exact this)
        have HR9 := Lib.hid (show Rd (w8.setCell ⟨g, q * 2 + 1, none⟩ (.int .u64 (IntKind.u64.wrap (S + mk x)))) (some ⟨g2, o, none⟩) T from fun i hi => by
          obtain ⟨b', o', e', h'⟩ := HR7.out i hi
          cases e'
          exact ⟨_, _, rfl, h'.only' ho.out hne⟩)
        have HB9 := Lib.hid (HB7.out.setCell HGL.out (p := ⟨g, q * 2 + 1, none⟩) (.int .u64 (IntKind.u64.wrap (S + mk x))))
        go_wp2
        go_roundw
        case rel => exact ⟨k + 1, by omega, by go_num, by rw [HST.out]; exact HD9.out, HB9.out, HR9.out⟩
        case measure => simp [intOf]; omega
    · have hkt : k = T.length := by omega
      have hkk : ¬ (k : Int) < (T.length : Int) := by omega
      have HE := Lib.hid (show DAt wr g (dgs T) by have := HD.out; rwa [hkt, List.take_length] at this)
      clear hkt
      go_wp2
      go_ret
      exact ⟨⟨g, rfl, HGL.out, HE.out⟩, HB.out⟩
end Dig
end Go.Proofs.YtdcbbjlbfghpbaaGreat
