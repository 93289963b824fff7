/-
  Joined texts: RefG DigX. Conditions: those that each theorem names.
-/
import Derived.Test.YtdcbbjlbfghpbaaGreatRefC
import Derived.Test.YtdcbbjlbfghpbaaGreatDj
import Derived.Test.YtdcbbjlbfghpbaaGreatDk
import Derived.Test.YtdcbbjlbfghpbaaGreatMarkC
/-
  The document's New. Conditions: those that each theorem names.
-/
namespace Go.Proofs.YtdcbbjlbfghpbaaGreat
open Go Go.RowKit H2
set_option linter.unusedVariables false
set_option linter.unusedSimpArgs false
namespace Tab
/-- what New leaves -/
def newT (L : List Rt) : List Rt := if newC L = 0 then fold L else []
theorem newT_zero {L : List Rt} (h : newC L = 0) : newT L = fold L := by unfold newT; rw [if_pos h]
theorem newT_ne {L : List Rt} (h : newC L ≠ 0) : newT L = [] := by unfold newT; rw [if_neg h]
theorem rv_none (w : World) : Rv w (.slice none 0 0) none 0 [] := ⟨rfl, Nat.le_refl _, by decide, fun i hi => absurd hi (by simp), fun _ => rfl, fun a e => by cases e⟩
theorem dup_at {L : List Rt} {k : Nat} (hk : k < L.length) (h : has (L.take k) L[k].to = true) : dup L = true := by
  obtain ⟨r, hr, e⟩ := has_iff.1 h
  obtain ⟨j, hj, rfl⟩ := List.getElem_of_mem hr
  rw [List.length_take] at hj
  rw [List.getElem_take] at e
  unfold dup
  have : ¬ (L.map Rt.to).Nodup := fun hn => by
    unfold List.Nodup at hn
    rw [List.pairwise_map] at hn
    exact (List.pairwise_iff_getElem.1 hn) j k (by omega) hk (by omega) e
  simpa using this
theorem dup_not {L : List Rt} (h : ∀ k (hk : k < L.length), has (L.take k) L[k].to = false) : dup L = false := by
  unfold dup
  have : (L.map Rt.to).Nodup := by
    unfold List.Nodup
    rw [List.pairwise_map, List.pairwise_iff_getElem]
    intro i j hi hj hij e
    have := has_false.1 (h j hj) L[i] (List.mem_of_getElem (i := i) (h := by rw [List.length_take]; omega) (by rw [List.getElem_take]))
    exact this e
  simpa using this
theorem fold_step {L : List Rt} {k : Nat} (hk : k < L.length) : fold (L.take (k + 1)) = ins (fold (L.take k)) L[k] := by
  unfold fold
  rw [← List.take_append_getElem hk, List.foldl_append]
  rfl
theorem dup_take {L : List Rt} (h : dup L = false) (k : Nat) : dup (L.take k) = false := by
  unfold dup at h ⊢
  simp only [Bool.not_eq_false', decide_eq_true_eq] at h ⊢
  exact List.Nodup.sublist ((List.take_sublist k L).map Rt.to) h
theorem fold_tok {L : List Rt} (h : dup L = false) (hr : ∀ r ∈ L, right r = true) (hl : L.length ≤ 300) : TOk (fold L) :=
  ⟨(fold_of h).1, fun r hm => hr r ((fold_of h).2.1 r |>.1 hm), by rw [(fold_of h).2.2]; exact hl⟩
end Tab
end Go.Proofs.YtdcbbjlbfghpbaaGreat

/-
  Digest: the document's Part once more, its All, its Replace. Conditions: those that each theorem names.
-/
namespace Go.Proofs.YtdcbbjlbfghpbaaGreat
open Go Go.RowKit H2
set_option linter.unusedVariables false
set_option linter.unusedSimpArgs false
namespace Dig
open Tab Byt
set_option maxRecDepth 100000 in
set_option maxHeartbeats 8000000 in
theorem refPart_gr (A : Option Addr) (cap : Nat) (T : List Rt) (hl : T.length ≤ 1000) (c : Int) (w : World) (hr : Rd w A T) :
    Calls Tryz.prog 37 #[.slice A T.length cap, .int .i64 c] w fun e w' => ∃ v, e = .returned v ∧ Gr w w' v (T.filter (inK c)) := by
  have HR := Lib.hid hr
  clear hr
  obtain ⟨n, hn⟩ : ∃ n, T.length = n := ⟨_, rfl⟩
  have HN := Lib.hid hn
  rw [hn] at hl ⊢
  clear hn
  go_enter Tryz.func37, Tryz.ntmps37
  go_wp2
  go_loopw [5, 6] (fun s5 s6 wr => ∃ k : Nat, k ≤ n ∧ s6 = .int .i64 k ∧ Gr w wr s5 ((T.take k).filter (inK c)) ∧ (∃ x y z, s5 = .slice x y z)) (fun s5 s6 _ => n - (intOf s6).toNat)
  case atStart => exact ⟨0, by omega, rfl, by rw [List.take_zero]; exact gr_nil w, _, _, _, rfl⟩
  case round =>
    obtain ⟨k, hk, rfl, hg, x5, y5, z5, rfl⟩ := hrel
    have HG := Lib.hid hg
    clear hg
    by_cases hlt : k < n
    · have hlt' : (k : Int) < (n : Int) := by omega
      have k0 : (0 : Int) ≤ (k : Int) := by omega
      have hkl : k < T.length := by rw [HN.out]; exact hlt
      obtain ⟨b, o, rfl, hra⟩ := HR.out k hkl
      have HX := Lib.hid (hra.below HG.out.bel)
      have HFS := Lib.hid (filter_step hkl (inK c))
      have HLE := Lib.hid (show ((T.take k).filter (inK c)).length ≤ 10000 from Nat.le_trans (List.length_filter_le _ _) (by rw [List.length_take]; omega))
      clear hra
      generalize T[k] = t at HX HFS
      have c0 : Sem.run Tryz.prog (loadCellsFrom ⟨b, o + k * n20, none⟩ 0 n18 #[]) wr = .ok (encP t.to).toArray wr := HX.out.to.all.load (k := n18) (encP_n _) Tryz.prog
      obtain ⟨q, hq⟩ : ∃ q, bk t.to = q := ⟨_, rfl⟩
      have HQ := Lib.hid hq
      have HIN := Lib.hid (show inK c t = decide ((q : Int) = c) by unfold inK; rw [hq])
      clear hq
      by_cases hc : (q : Int) = c
      · have hcd : decide ((q : Int) = c) = true := decide_eq_true hc
        have HFE := Lib.hid (show (T.take (k + 1)).filter (inK c) = (T.take k).filter (inK c) ++ [t] by rw [HFS.out, HIN.out, hcd]; rfl)
        subst hc
        go_upto_region 6 with (go_at_call 68; (with_reducible refine (refBucket_any _ _).mono ?_); rintro e w6 ⟨rfl, h1⟩; rw [HQ.out]; have HX := Lib.hid (HX.out.below h1); have HG := Lib.hid (HG.out.below h1); clear h1 c0)
        have a1 : Sem.run Tryz.prog (loadCellsFrom ⟨b, o + k * n20, none⟩ 0 n20 #[]) w6 = .ok (encR t).toArray w6 := HX.out.all.load (k := n20) (encR_n _) Tryz.prog
        go_wp2_with (first
          | (refine wpList_row_run (o := ⟨some 26, .buildSlice 22 1 #[(0, .tmp 25)], _, _, _, _⟩) rfl 22 1 #[(0, .tmp 25)] rfl #[(0, .agg (encR t).toArray)] (by simp [Act.eval, Act.put]) (row_R1 _ _) ?_)
          | (refine wpList_app1 rfl (.tmp 21) (.tmp 26) rfl _ t _ rfl rfl HG.out HLE.out ?_; rintro v7 w7 h7 ⟨x7, y7, z7, rfl⟩; have H7 := Lib.hid h7; clear h7))
        go_roundw
        case rel => exact ⟨k + 1, by omega, by go_num, by rw [HFE.out]; exact H7.out, _, _, _, rfl⟩
        case measure => simp [intOf]; omega
      · have hcd : decide ((q : Int) = c) = false := decide_eq_false hc
        have hce : ((q : Int) == c) = false := by simpa using hc
        have HFE := Lib.hid (show (T.take (k + 1)).filter (inK c) = (T.take k).filter (inK c) by rw [HFS.out, HIN.out, hcd, if_neg (by simp), List.append_nil])
        go_wp2_with (go_at_call 68; (with_reducible refine (refBucket_any _ _).mono ?_); rintro e w6 ⟨rfl, h1⟩; rw [HQ.out]; have HG := Lib.hid (HG.out.below h1); clear h1 c0)
        go_roundw
        case rel => exact ⟨k + 1, by omega, by go_num, by rw [HFE.out]; exact HG.out, _, _, _, rfl⟩
        case measure => simp [intOf]; omega
    · obtain rfl : k = n := by omega
      have hkk : ¬ (k : Int) < (k : Int) := by omega
      have HE := Lib.hid (show Gr w wr (.slice x5 y5 z5) (T.filter (inK c)) by have := HG.out; rwa [List.take_of_length_le (by rw [HN.out]; exact Nat.le_refl _)] at this)
      go_wp2
      go_ret
      exact ⟨_, rfl, HE.out⟩
/-- a row of 17 digests of type T -/
structure DT (T : TypeId) (w : World) (g : Nat) (D : Dg) : Prop where
  ex : ∃ cur : Array Value, w.heap[g]? = some (.cells cur T (0, 0)) ∧ cur.size = 34 ∧ ∀ k, k < 17 → cur[k * 2]? = some (.int .i64 (D k).1) ∧ cur[k * 2 + 1]? = some (.int .u64 (D k).2)
theorem DT.lt {T : TypeId} {w : World} {g : Nat} {D : Dg} (h : DT T w g D) : g < w.heap.size := by
  obtain ⟨cur, h1, _⟩ := h.ex
  exact blk_lt h1
theorem DT.below {T : TypeId} {w w' : World} {g : Nat} {D : Dg} (h : DT T w g D) (hb : Below w.heap.size w w') : DT T w' g D := by
  obtain ⟨cur, h1, h2⟩ := h.ex
  exact ⟨cur, (hb.block g (blk_lt h1)).trans h1, h2⟩
theorem DT.n {T : TypeId} {w : World} {g : Nat} {D : Dg} (h : DT T w g D) {k : Nat} (hk : k < 17) : w.cell? ⟨g, k * 2, none⟩ = some (.int .i64 (D k).1) ∧ w.frozen? ⟨g, k * 2, none⟩ = false := by
  obtain ⟨cur, h1, h2, h3⟩ := h.ex
  exact ⟨(blk_cell h1 _).trans (h3 k hk).1, blk_free h1 _⟩
theorem DT.s {T : TypeId} {w : World} {g : Nat} {D : Dg} (h : DT T w g D) {k : Nat} (hk : k < 17) : w.cell? ⟨g, k * 2 + 1, none⟩ = some (.int .u64 (D k).2) ∧ w.frozen? ⟨g, k * 2 + 1, none⟩ = false := by
  obtain ⟨cur, h1, h2, h3⟩ := h.ex
  exact ⟨(blk_cell h1 _).trans (h3 k hk).2, blk_free h1 _⟩
theorem DT.setN {T : TypeId} {w : World} {g : Nat} {D : Dg} (h : DT T w g D) {k : Nat} (hk : k < 17) (x : Int) : DT T (w.setCell ⟨g, k * 2, none⟩ (.int .i64 x)) g (fun j => if j = k then (x, (D j).2) else D j) := by
  obtain ⟨cur, h1, h2, h3⟩ := h.ex
  refine ⟨_, blk_set h1 _ _, by simpa using h2, fun j hj => ?_⟩
  obtain ⟨e1, e2⟩ := h3 j hj
  constructor
  · rw [Array.getElem?_setIfInBounds]
    by_cases e : k * 2 = j * 2
    · have : j = k := by omega
      subst this
      rw [if_pos rfl, if_pos (by omega), if_pos rfl]
    · rw [if_neg e, if_neg (by omega)]; exact e1
  · rw [Array.getElem?_setIfInBounds, if_neg (by omega)]
    rw [e2]
    split <;> rfl
theorem DT.setS {T : TypeId} {w : World} {g : Nat} {D : Dg} (h : DT T w g D) {k : Nat} (hk : k < 17) (x : Int) : DT T (w.setCell ⟨g, k * 2 + 1, none⟩ (.int .u64 x)) g (fun j => if j = k then ((D j).1, x) else D j) := by
  obtain ⟨cur, h1, h2, h3⟩ := h.ex
  refine ⟨_, blk_set h1 _ _, by simpa using h2, fun j hj => ?_⟩
  obtain ⟨e1, e2⟩ := h3 j hj
  constructor
  · rw [Array.getElem?_setIfInBounds, if_neg (by omega), e1]
    split <;> rfl
  · rw [Array.getElem?_setIfInBounds]
    by_cases e : k * 2 + 1 = j * 2 + 1
    · have : j = k := by omega
      subst this
      rw [if_pos rfl, if_pos (by omega), if_pos rfl]
    · rw [if_neg e, if_neg (by omega)]; exact e2
theorem DT.rd {T : TypeId} {w : World} {g : Nat} {D : Dg} (h : DT T w g D) : RdG w (some ⟨g, 0, none⟩) 17 D := fun i hi => ⟨g, 0, rfl, by rw [Nat.zero_add]; exact (h.n hi).1, by rw [Nat.zero_add]; exact (h.s hi).1⟩
theorem mk17r (w : World) : (Instr.makeSlice 44 (.int .i64 17) (.int .i64 17)).run Tryz.prog w = .ok (.slice (some ⟨w.heap.size, 0, none⟩) 17 17) (w.alloc (.cells z34 82 (0, 0))) := by kernel_rfl
theorem dT_new (T : TypeId) (w : World) : DT T (w.alloc (.cells z34 T (0, 0))) w.heap.size dg0 := ⟨z34, heap_alloc_new w _, rfl, z34_get⟩
/-- the digests of the ranges below k, and of the first i routes of range k -/
def rA (T : List Rt) (k i : Nat) : Dg := fun j => if j < k then dgs T j else if j = k then ((((T.filter (inK k)).take i).length : Int), ms ((T.filter (inK k)).take i) 0) else (0, 0)
def rN (T : List Rt) (k i : Nat) : Dg := fun j => if j = k then ((((T.filter (inK k)).take i).length : Int) + 1, (rA T k i j).2) else rA T k i j
theorem rA_zero (T : List Rt) : rA T 0 0 = dg0 := by
  funext j
  unfold rA dg0
  rw [if_neg (Nat.not_lt_zero j)]
  split
  · simp [ms]
  · rfl
theorem rA_at (T : List Rt) (k i : Nat) : rA T k i k = ((((T.filter (inK k)).take i).length : Int), ms ((T.filter (inK k)).take i) 0) := by
  unfold rA
  rw [if_neg (Nat.lt_irrefl k), if_pos rfl]
theorem rA_next (T : List Rt) (k : Nat) : rA T k (T.filter (inK k)).length = rA T (k + 1) 0 := by
  funext j
  unfold rA
  by_cases h1 : j < k
  · rw [if_pos h1, if_pos (by omega)]
  · rw [if_neg h1]
    by_cases h2 : j = k
    · subst h2
      rw [if_pos rfl, if_pos (by omega), List.take_of_length_le (Nat.le_refl _), dgs_part]
    · rw [if_neg h2, if_neg (by omega)]
      split
      · rw [List.take_zero]; rfl
      · rfl
theorem rA_all (T : List Rt) : ∀ j, j < 17 → rA T 17 0 j = dgs T j := fun j hj => by unfold rA; rw [if_pos hj]
theorem rN_eq (T : List Rt) (k i : Nat) : (fun j => if j = k then ((((T.filter (inK k)).take i).length : Int) + 1, (rA T k i j).2) else rA T k i j) = rN T k i := rfl
theorem rA_step (T : List Rt) (k i : Nat) (h : i < (T.filter (inK k)).length) : (fun j => if j = k then ((rN T k i j).1, IntKind.u64.wrap (ms ((T.filter (inK k)).take i) 0 + mk (T.filter (inK k))[i])) else rN T k i j) = rA T k (i + 1) := by
  funext j
  unfold rN
  by_cases h2 : j = k
  · subst h2
    rw [if_pos rfl, if_pos rfl, rA_at, rA_at, ms_take h, List.length_take, List.length_take]
    apply Prod.ext
    · dsimp only; omega
    · rfl
  · rw [if_neg h2, if_neg h2]
    unfold rA
    rw [if_neg h2, if_neg h2]
set_option maxRecDepth 100000 in
set_option maxHeartbeats 16000000 in
theorem refAll_any (A : Option Addr) (cap : Nat) (T : List Rt) (hl : T.length ≤ 1000) (w : World) (hr : Rd w A T) :
    Calls Tryz.prog 11 #[.slice A T.length cap] w fun e w' => (∃ g, e = .returned (.slice (some ⟨g, 0, none⟩) 17 17) ∧ w.heap.size ≤ g ∧ RdG w' (some ⟨g, 0, none⟩) 17 (dgs T)) ∧ Below w.heap.size w w' := by
  have HRW := Lib.hid hr
  have HPT := Lib.hid (fun (c : Int) (V : World) (hb : Below w.heap.size w V) => refPart_gr A cap T hl c V (hr.below hb))
  have HAL := Lib.hid (rA_all T)
  have HNX := Lib.hid (rA_next T)
  have HST := Lib.hid (rA_step T)
  have HAT := Lib.hid (rA_at T)
  have HZ := Lib.hid (rA_zero T)
  clear hr
  obtain ⟨n, hn⟩ : ∃ n, T.length = n := ⟨_, rfl⟩
  have HNT := Lib.hid hn
  rw [hn] at hl HPT ⊢
  clear hn
  go_enter Tryz.func11, Tryz.ntmps11
  have hmk := mk17r w
  go_upto_region 2 with fail
  have HD0 := Lib.hid (dT_new 82 w)
  have hb0 := Lib.hid (show Below w.heap.size w (w.alloc (.cells z34 82 (0, 0))) from (Below.refl _ _).alloc (Nat.le_refl _) _)
  clear hmk
  generalize w.alloc _ = W at HD0 hb0 ⊢
  obtain ⟨g, hg⟩ : ∃ g, w.heap.size = g := ⟨_, rfl⟩
  have HGL := Lib.hid (show w.heap.size ≤ g by omega)
  rw [hg] at HD0 ⊢
  clear hg
  rw [← HZ.out] at HD0
  go_wp2
  go_loopw [4] (fun s4 wr => ∃ k : Nat, k ≤ 17 ∧ s4 = .int .i64 k ∧ DT 82 wr g (rA T k 0) ∧ Below w.heap.size w wr) (fun s4 _ => 17 - (intOf s4).toNat)
  case atStart => exact ⟨0, by omega, rfl, HD0.out, hb0.out⟩
  case round =>
    clear HD0 hb0
    obtain ⟨k, hk, rfl, hd, hbb⟩ := hrel
    have HD := Lib.hid hd
    have HB := Lib.hid hbb
    clear hd hbb
    by_cases hlt : k < 17
    · have hlt' : (k : Int) < 17 := by omega
      have k0 : (0 : Int) ≤ (k : Int) := by omega
      go_upto_region 6 with (go_at_call 37; (with_reducible refine (HPT.out (k : Int) _ HB.out).mono ?_); rintro e w6 ⟨v6, rfl, h1⟩; obtain ⟨A6, c6, hv6, hf6⟩ := own_rv h1.own; obtain rfl := hv6.eq; have HR6 := Lib.hid hv6.rd; have HNE := Lib.hid (show ∀ g' o, A6 = some ⟨g', o, none⟩ → g' ≠ g from fun g' o e => by have h5 := (hf6 g' o e).1; have h6 := HD.out.lt; omega); have HD := Lib.hid (HD.out.below h1.bel); have HB := Lib.hid (HB.out.trans (h1.bel.mono HB.out.size)); clear h1 hv6 hf6)
      have HNXK := Lib.hid (HNX.out k)
      have HSTK := Lib.hid (fun i h => HST.out k i h)
      have HATK := Lib.hid (fun i => HAT.out k i)
      have HRN := Lib.hid (fun i => rN_eq T k i)
      have HRS := Lib.hid (fun i => show (rN T k i k).2 = ms ((T.filter (inK k)).take i) 0 by unfold rN; rw [if_pos rfl, rA_at])
      have HPL := Lib.hid (show (T.filter (inK k)).length ≤ 1000 from Nat.le_trans (List.length_filter_le _ _) (by rw [HNT.out]; exact hl))
      generalize T.filter (inK (k : Int)) = P at HR6 HNXK HSTK HATK HRN HRS HPL ⊢
      obtain ⟨m, hm⟩ : ∃ m, P.length = m := ⟨_, rfl⟩
      have HM := Lib.hid hm
      rw [hm] at HNXK HPL ⊢
      clear hm
      go_wp2
      go_loopw [6] (fun s6 wq => ∃ i : Nat, i ≤ m ∧ s6 = .int .i64 i ∧ DT 82 wq g (rA T k i) ∧ Below w.heap.size w wq ∧ Rd wq A6 P) (fun s6 _ => m - (intOf s6).toNat)
      case atStart => exact ⟨0, by omega, rfl, HD.out, HB.out, HR6.out⟩
      case round =>
        clear HD HB HR6
        obtain ⟨i, hi, rfl, hd, hbb, hr⟩ := hrel
        have HD := Lib.hid hd
        have HB := Lib.hid hbb
        have HR := Lib.hid hr
        clear hd hbb hr
        rename World => wq
        by_cases hil : i < m
        · have hil' : (i : Int) < (m : Int) := by omega
          have i0 : (0 : Int) ≤ (i : Int) := by omega
          have hip : i < P.length := by rw [HM.out]; exact hil
          obtain ⟨g2, o, e2, hx⟩ := HR.out i hip
          have hne := HNE.out g2 o e2
          have HX := Lib.hid hx
          have HSTI := Lib.hid (HSTK.out i hip)
          subst e2
          clear hx
          generalize P[i] = x at HX HSTI
          have hil5 : i ≤ 1000 := Nat.le_trans hi HPL.out
          obtain ⟨y1, y2⟩ := HD.out.n hlt
          rw [HATK.out, List.length_take, HM.out, Nat.min_eq_left hi] at y1
          dsimp only at y1
          have hw1 : IntKind.i64.wrap ((i : Int) + 1) = (i : Int) + 1 := IntWalk.i64_in _ (by omega)
          go_upto_region 10 with fail
          clear y1 y2
          have ho := Lib.hid ((Only.refl (fun i => i = g) wq).setCell (p := ⟨g, k * 2, none⟩) (fun _ => rfl) (.int .i64 ((i : Int) + 1)))
          have HD7 := Lib.hid (show DT 82 (wq.setCell ⟨g, k * 2, none⟩ (.int .i64 ((i : Int) + 1))) g (rN T k i) by
            have := HD.out.setN hlt ((i : Int) + 1)
            rw [← HRN.out, List.length_take, HM.out, Nat.min_eq_left hi]
            exact this)
          have HX7 := Lib.hid (HX.out.only' ho.out hne).drew
          have HR7 := Lib.hid (show Rd (wq.setCell ⟨g, k * 2, none⟩ (.int .i64 ((i : Int) + 1))).drew (some ⟨g2, o, none⟩) P from fun i hi => by
            obtain ⟨b', o', e', h'⟩ := HR.out i hi
            cases e'
            exact ⟨_, _, rfl, (h'.only' ho.out hne).drew⟩)
          have HB7 := Lib.hid (HB.out.setCell HGL.out (p := ⟨g, k * 2, none⟩) (.int .i64 ((i : Int) + 1))).drew
          have HD7 := Lib.hid (HD7.out.below (Below.refl _ _).drew)
          generalize (wq.setCell _ _) = W7 at HX7 HR7 HB7 HD7 ⊢
          have HS2 := HRS.out i
          obtain ⟨S, hS⟩ : ∃ S, ms (P.take i) 0 = S := ⟨_, rfl⟩
          have HSS := Lib.hid hS
          rw [hS] at HS2 HSTI
          have HS2 := Lib.hid HS2
          clear hS
          refine wp_region_held_drew (S := (fun w' => RAt w' g2 (o + i * n20) x)) (by kernel_rfl) HX7.out (fun _ => ?_)
          refine held_take 0 29 (v := ?_) rfl rfl (by kernel_rfl) (by kernel_rfl) (by kernel_rfl) (fun _ _ _ h => h) (by rfl) ?_ HX7.out ?_
          rotate_left
          · (intro w hSw; (try dsimp only at hSw); have a0 := hSw.all.load (k := n20) (encR_n _) Tryz.prog; clear hSw;try simp only [List.getElem_toArray, List.getElem_cons_zero, List.getElem_cons_succ]; go_simp; try (with_reducible rfl))
          try simp only [List.setIfInBounds_toArray, List.set_cons_zero, List.set_cons_succ]
          refine held_take 1 30 (v := ?_) rfl rfl (by kernel_rfl) (by kernel_rfl) (by kernel_rfl) (fun _ _ _ h => h) (by rfl) ?_ HX7.out ?_
          rotate_left
          · (intro w hSw; (try dsimp only at hSw); have a0 := hSw.all.load (k := n20) (encR_n _) Tryz.prog; clear hSw;try simp only [List.getElem_toArray, List.getElem_cons_zero, List.getElem_cons_succ]; go_simp; try (with_reducible rfl))
          try simp only [List.setIfInBounds_toArray, List.set_cons_zero, List.set_cons_succ]
          refine held_take 2 31 (v := ?_) rfl rfl (by kernel_rfl) (by kernel_rfl) (by kernel_rfl) (fun _ _ _ h => h) (by rfl) ?_ HX7.out ?_
          rotate_left
          · (intro w hSw; (try dsimp only at hSw); have a0 := hSw.all.load (k := n20) (encR_n _) Tryz.prog; clear hSw;try simp only [List.getElem_toArray, List.getElem_cons_zero, List.getElem_cons_succ]; go_simp; try (with_reducible rfl))
          try simp only [List.setIfInBounds_toArray, List.set_cons_zero, List.set_cons_succ]
          refine held_take 3 32 (v := ?_) rfl rfl (by kernel_rfl) (by kernel_rfl) (by kernel_rfl) (fun _ _ _ h => h) (by rfl) ?_ HX7.out ?_
          rotate_left
          · (intro w hSw; (try dsimp only at hSw); have a0 := hSw.all.load (k := n20) (encR_n _) Tryz.prog; clear hSw;try simp only [List.getElem_toArray, List.getElem_cons_zero, List.getElem_cons_succ]; go_simp; try (with_reducible rfl))
          try simp only [List.setIfInBounds_toArray, List.set_cons_zero, List.set_cons_succ]
          refine held_take 5 34 (v := ?_) rfl rfl (by kernel_rfl) (by kernel_rfl) (by kernel_rfl) (fun _ _ _ h => h) (by rfl) ?_ HX7.out ?_
          rotate_left
          · (intro w hSw; (try dsimp only at hSw); have a0 := hSw.all.load (k := n20) (encR_n _) Tryz.prog; clear hSw;try simp only [List.getElem_toArray, List.getElem_cons_zero, List.getElem_cons_succ]; go_simp; try (with_reducible rfl))
          try simp only [List.setIfInBounds_toArray, List.set_cons_zero, List.set_cons_succ]
          refine held_take 6 35 (v := ?_) rfl rfl (by kernel_rfl) (by kernel_rfl) (by kernel_rfl) (fun _ _ _ h => h) (by rfl) ?_ HX7.out ?_
          rotate_left
          · (intro w hSw; (try dsimp only at hSw); have a0 := hSw.all.load (k := n20) (encR_n _) Tryz.prog; clear hSw;try simp only [List.getElem_toArray, List.getElem_cons_zero, List.getElem_cons_succ]; go_simp; try (with_reducible rfl))
          try simp only [List.setIfInBounds_toArray, List.set_cons_zero, List.set_cons_succ]
          refine held_take 7 36 (v := ?_) rfl rfl (by kernel_rfl) (by kernel_rfl) (by kernel_rfl) (fun _ _ _ h => h) (by rfl) ?_ HX7.out ?_
          rotate_left
          · (intro w hSw; (try dsimp only at hSw); have a0 := hSw.all.load (k := n20) (encR_n _) Tryz.prog; clear hSw;try simp only [List.getElem_toArray, List.getElem_cons_zero, List.getElem_cons_succ]; go_simp; try (with_reducible rfl))
          try simp only [List.setIfInBounds_toArray, List.set_cons_zero, List.set_cons_succ]
          refine held_take 8 37 (v := ?_) rfl rfl (by kernel_rfl) (by kernel_rfl) (by kernel_rfl) (fun _ _ _ h => h) (by rfl) ?_ HX7.out ?_
          rotate_left
          · (intro w hSw; (try dsimp only at hSw); have a0 := hSw.all.load (k := n20) (encR_n _) Tryz.prog; clear hSw;try simp only [List.getElem_toArray, List.getElem_cons_zero, List.getElem_cons_succ]; go_simp; try (with_reducible rfl))
          try simp only [List.setIfInBounds_toArray, List.set_cons_zero, List.set_cons_succ]
          refine H2.held_two 4 9 rfl rfl (by kernel_rfl) (by rfl) (by rfl) (fun K hK => ?_) (fun K hK => ?_)
          · try simp only [List.getElem_toArray, List.getElem_cons_zero, List.getElem_cons_succ]
            have e1 := (HD7.out.s hlt).1
            rw [HS2.out] at e1
            go_simp
            clear e1
            try simp only [Act.put, List.setIfInBounds_toArray, List.set_cons_zero, List.set_cons_succ]
            refine hK.out _ _ _ HX7.out ?_
            clear hK K
            refine held_call 9 38 rfl rfl (by kernel_rfl) (by rfl) (fun K hK => ?_)
            try simp only [List.getElem_toArray, List.getElem_cons_zero, List.getElem_cons_succ]
            go_simp
            (go_at_call 38; (with_reducible refine (refMark_any _ _).mono ?_); rintro e w8 ⟨rfl, h1⟩; have HX7 := Lib.hid (HX7.out.below h1); have HD7 := Lib.hid (HD7.out.below h1); have HR7 := Lib.hid (HR7.out.below h1); have HB7 := Lib.hid (HB7.out.trans (h1.mono HB7.out.size)); clear h1)
            try go_wp2_with fail
            try simp only [Act.put, List.setIfInBounds_toArray, List.set_cons_zero, List.set_cons_succ]
            refine hK.out _ _ _ HX7.out ?_
            clear hK K
            refine held_take 10 39 (v := ?_) rfl rfl (by kernel_rfl) (by kernel_rfl) (by kernel_rfl) (fun _ _ _ h => h) (by rfl) ?_ HX7.out ?_
            rotate_left
            · (intro w hSw; (try dsimp only at hSw); have a0 := hSw.all.load (k := n20) (encR_n _) Tryz.prog; clear hSw;try simp only [List.getElem_toArray, List.getElem_cons_zero, List.getElem_cons_succ]; go_simp; try (with_reducible rfl))
            try simp only [List.setIfInBounds_toArray, List.set_cons_zero, List.set_cons_succ]
            refine held_take 11 40 (v := ?_) rfl rfl (by kernel_rfl) (by kernel_rfl) (by kernel_rfl) (fun _ _ _ h => h) (by rfl) ?_ HX7.out ?_
            rotate_left
            · (intro w hSw; (try dsimp only at hSw); have a0 := hSw.all.load (k := n20) (encR_n _) Tryz.prog; clear hSw;try simp only [List.getElem_toArray, List.getElem_cons_zero, List.getElem_cons_succ]; go_simp; try (with_reducible rfl))
            try simp only [List.setIfInBounds_toArray, List.set_cons_zero, List.set_cons_succ]
            refine held_take 12 41 (v := ?_) rfl rfl (by kernel_rfl) (by kernel_rfl) (by kernel_rfl) (fun _ _ _ h => h) (by rfl) ?_ HX7.out ?_
            rotate_left
            · (intro w hSw; (try dsimp only at hSw); have a0 := hSw.all.load (k := n20) (encR_n _) Tryz.prog; clear hSw;try simp only [List.getElem_toArray, List.getElem_cons_zero, List.getElem_cons_succ]; go_simp; try (with_reducible rfl))
            try simp only [List.setIfInBounds_toArray, List.set_cons_zero, List.set_cons_succ]
            refine held_do 13 rfl (by kernel_rfl) (by rfl) (fun K hK => ?_)
            try simp only [List.getElem_toArray, List.getElem_cons_zero, List.getElem_cons_succ]
            (have e1 := (HD7.out.s hlt).1; have e2 := (HD7.out.s hlt).2; go_simp; have ho := Lib.hid ((Only.refl (fun i => i = g) w8).setCell (p := ⟨g, k * 2 + 1, none⟩) (fun _ => rfl) (.int .u64 (IntKind.u64.wrap (S + mk x)))); have HX7 := Lib.hid (HX7.out.only' ho.out hne); clear e1 e2)
            try simp only [Act.put, List.setIfInBounds_toArray, List.set_cons_zero, List.set_cons_succ]
            refine hK.out _ _ _ HX7.out ?_
            clear hK K
            refine wpAnyH_done (by kernel_rfl) ?_ _
            have HD9 := Lib.hid (show DT 82 (w8.setCell ⟨g, k * 2 + 1, none⟩ (.int .u64 (IntKind.u64.wrap (S + mk x)))) g (rA T k (i + 1)) by
              have := HD7.out.setS hlt (IntKind.u64.wrap (S + mk x))
              rw [← HSTI.out]
              exact this)
            have HR9 := Lib.hid (show Rd (w8.setCell ⟨g, k * 2 + 1, none⟩ (.int .u64 (IntKind.u64.wrap (S + mk x)))) (some ⟨g2, o, none⟩) P from fun i hi => by
              obtain ⟨b', o', e', h'⟩ := HR7.out i hi
              cases e'
              exact ⟨_, _, rfl, h'.only' ho.out hne⟩)
            have HB9 := Lib.hid (HB7.out.setCell HGL.out (p := ⟨g, k * 2 + 1, none⟩) (.int .u64 (IntKind.u64.wrap (S + mk x))))
            go_wp2
            go_roundw
            case rel => exact ⟨i + 1, by omega, by go_num, HD9.out, HB9.out, HR9.out⟩
            case measure => simp [intOf]; omega
          · try simp only [List.getElem_toArray, List.getElem_cons_zero, List.getElem_cons_succ]
            go_simp
            (go_at_call 38; (with_reducible refine (refMark_any _ _).mono ?_); rintro e w8 ⟨rfl, h1⟩; have HX7 := Lib.hid (HX7.out.below h1); have HD7 := Lib.hid (HD7.out.below h1); have HR7 := Lib.hid (HR7.out.below h1); have HB7 := Lib.hid (HB7.out.trans (h1.mono HB7.out.size)); clear h1)
            try go_wp2_with fail
            try simp only [Act.put, List.setIfInBounds_toArray, List.set_cons_zero, List.set_cons_succ]
            refine hK.out _ _ _ HX7.out ?_
            clear hK K
            refine held_call 4 33 rfl rfl (by kernel_rfl) (by rfl) (fun K hK => ?_)
            try simp only [List.getElem_toArray, List.getElem_cons_zero, List.getElem_cons_succ]
            have e1 := (HD7.out.s hlt).1
            rw [HS2.out] at e1
            go_simp
            clear e1
            try simp only [Act.put, List.setIfInBounds_toArray, List.set_cons_zero, List.set_cons_succ]
            refine hK.out _ _ _ HX7.out ?_
            clear hK K
            refine held_take 10 39 (v := ?_) rfl rfl (by kernel_rfl) (by kernel_rfl) (by kernel_rfl) (fun _ _ _ h => h) (by rfl) ?_ HX7.out ?_
            rotate_left
            · (intro w hSw; (try dsimp only at hSw); have a0 := hSw.all.load (k := n20) (encR_n _) Tryz.prog; clear hSw;try simp only [List.getElem_toArray, List.getElem_cons_zero, List.getElem_cons_succ]; go_simp; try (with_reducible rfl))
            try simp only [List.setIfInBounds_toArray, List.set_cons_zero, List.set_cons_succ]
            refine held_take 11 40 (v := ?_) rfl rfl (by kernel_rfl) (by kernel_rfl) (by kernel_rfl) (fun _ _ _ h => h) (by rfl) ?_ HX7.out ?_
            rotate_left
            · (intro w hSw; (try dsimp only at hSw); have a0 := hSw.all.load (k := n20) (encR_n _) Tryz.prog; clear hSw;try simp only [List.getElem_toArray, List.getElem_cons_zero, List.getElem_cons_succ]; go_simp; try (with_reducible rfl))
            try simp only [List.setIfInBounds_toArray, List.set_cons_zero, List.set_cons_succ]
            refine held_take 12 41 (v := ?_) rfl rfl (by kernel_rfl) (by kernel_rfl) (by kernel_rfl) (fun _ _ _ h => h) (by rfl) ?_ HX7.out ?_
            rotate_left
            · (intro w hSw; (try dsimp only at hSw); have a0 := hSw.all.load (k := n20) (encR_n _) Tryz.prog; clear hSw;try simp only [List.getElem_toArray, List.getElem_cons_zero, List.getElem_cons_succ]; go_simp; try (with_reducible rfl))
            try simp only [List.setIfInBounds_toArray, List.set_cons_zero, List.set_cons_succ]
            refine held_do 13 rfl (by kernel_rfl) (by rfl) (fun K hK => ?_)
            try simp only [List.getElem_toArray, List.getElem_cons_zero, List.getElem_cons_succ]
            (have e1 := (HD7.out.s hlt).1; have e2 := (HD7.out.s hlt).2; go_simp; have ho := Lib.hid ((Only.refl (fun i => i = g) w8).setCell (p := ⟨g, k * 2 + 1, none⟩) (fun _ => rfl) (.int .u64 (IntKind.u64.wrap (S + mk x)))); have HX7 := Lib.hid (HX7.out.only' ho.out hne); clear e1 e2)
            try simp only [Act.put, List.setIfInBounds_toArray, List.set_cons_zero, List.set_cons_succ]
            refine hK.out _ _ _ HX7.out ?_
            clear hK K
            refine wpAnyH_done (by kernel_rfl) ?_ _
            have HD9 := Lib.hid (show DT 82 (w8.setCell ⟨g, k * 2 + 1, none⟩ (.int .u64 (IntKind.u64.wrap (S + mk x)))) g (rA T k (i + 1)) by
              have := HD7.out.setS hlt (IntKind.u64.wrap (S + mk x))
              rw [← HSTI.out]
              exact this)
            have HR9 := Lib.hid (show Rd (w8.setCell ⟨g, k * 2 + 1, none⟩ (.int .u64 (IntKind.u64.wrap (S + mk x)))) (some ⟨g2, o, none⟩) P from fun i hi => by
              obtain ⟨b', o', e', h'⟩ := HR7.out i hi
              cases e'
              exact ⟨_, _, rfl, h'.only' ho.out hne⟩)
            have HB9 := Lib.hid (HB7.out.setCell HGL.out (p := ⟨g, k * 2 + 1, none⟩) (.int .u64 (IntKind.u64.wrap (S + mk x))))
            go_wp2
            go_roundw
            case rel => exact ⟨i + 1, by omega, by go_num, HD9.out, HB9.out, HR9.out⟩
            case measure => simp [intOf]; omega
        · have hin : ¬ (i : Int) < (m : Int) := by omega
          have him : i = m := by omega
          have HE := Lib.hid (show DT 82 wq g (rA T (k + 1) 0) by rw [← HNXK.out, ← him]; exact HD.out)
          clear him
          go_wp2
          go_roundw
          case rel => exact ⟨k + 1, by omega, by go_num, HE.out, HB.out⟩
          case measure => simp [intOf]; omega
    · obtain rfl : k = 17 := by omega
      rw [show ((17 : Nat) : Int) = 17 from rfl]
      go_wp2
      go_ret
      refine ⟨⟨g, rfl, HGL.out, fun i hi => ?_⟩, HB.out⟩
      have := HD.out.rd i hi
      rw [HAL.out i hi] at this
      exact this
end Dig
end Go.Proofs.YtdcbbjlbfghpbaaGreat
