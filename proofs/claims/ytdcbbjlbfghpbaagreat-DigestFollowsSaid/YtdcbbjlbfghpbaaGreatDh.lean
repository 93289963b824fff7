/-
  Joined texts: InsA InsB InsC DelA PutA DelF. Conditions: those that each theorem names.
-/
import Derived.Test.YtdcbbjlbfghpbaaGreatDf
import Derived.Shelf.Spec.SlicesInsertGrow
import Derived.Maps.AppendAt
/-
  slices.Insert and slices.Delete at routes: rows of cells spliced, runs of copy, append, clear. Conditions: those that each theorem names.
-/
namespace Go.Proofs.YtdcbbjlbfghpbaaGreat
open Go Go.RowKit H2
set_option linter.unusedVariables false
set_option linter.unusedSimpArgs false
namespace Tab
theorem splice_list (cur : Array Value) (o : Nat) (vs : List Value) : (splice cur o vs).toList = cur.toList.take o ++ vs ++ cur.toList.drop (o + vs.length) := by simp [splice]
/-- shifted by one route, and one laid in -/
theorem splice_ins (cur : Array Value) (L : List Rt) (r : Rt) (i : Nat) (hi : i ≤ L.length) (hs : (L.length + 1) * 20 ≤ cur.size) (ht : cur.toList.take (L.length * 20) = flat L) :
    (splice (splice cur ((i + 1) * 20) (flat (L.drop i))) (i * 20) (encR r)).toList.take ((L.length + 1) * 20) = flat (L.take i ++ r :: L.drop i) := by
  have hl : cur.toList.length = cur.size := by simp
  have hd : (flat (L.drop i)).length = (L.length - i) * 20 := by rw [flat_len, List.length_drop]
  have h1 : (splice cur ((i + 1) * 20) (flat (L.drop i))).toList = cur.toList.take ((i + 1) * 20) ++ (flat (L.drop i) ++ cur.toList.drop ((L.length + 1) * 20)) := by
    rw [splice_list, List.append_assoc, hd, show (i + 1) * 20 + (L.length - i) * 20 = (L.length + 1) * 20 by omega]
  have h2 : cur.toList.take (i * 20) = flat (L.take i) := by
    rw [← flat_take, ← ht, List.take_take, show min (i * 20) (L.length * 20) = i * 20 by omega]
  have hlen1 : (cur.toList.take ((i + 1) * 20)).length = (i + 1) * 20 := by rw [List.length_take, hl]; omega
  have hA : (cur.toList.take ((i + 1) * 20) ++ (flat (L.drop i) ++ cur.toList.drop ((L.length + 1) * 20))).take (i * 20) = flat (L.take i) := by
    rw [List.take_append_of_le_length (by rw [hlen1]; omega), List.take_take, show min (i * 20) ((i + 1) * 20) = i * 20 by omega, h2]
  have hB : (cur.toList.take ((i + 1) * 20) ++ (flat (L.drop i) ++ cur.toList.drop ((L.length + 1) * 20))).drop ((i + 1) * 20) = flat (L.drop i) ++ cur.toList.drop ((L.length + 1) * 20) := by
    rw [List.drop_append, hlen1, Nat.sub_self, List.drop_zero, List.drop_of_length_le (by rw [hlen1]; exact Nat.le_refl _), List.nil_append]
  rw [splice_list, h1, encR_len, show i * 20 + 20 = (i + 1) * 20 by omega, hA, hB]
  have h3 : (flat (L.take i) ++ encR r ++ flat (L.drop i)).length = (L.length + 1) * 20 := by
    rw [List.length_append, List.length_append, flat_len, encR_len, hd, List.length_take]; omega
  rw [← List.append_assoc, ← h3, List.take_left, flat_app, flat_cons, List.append_assoc]
/-- laid behind what stands ahead, then what stands behind -/
theorem splice_grow (row : Array Value) (L : List Rt) (r : Rt) (i : Nat) (hi : i ≤ L.length) (hs : (L.length + 1) * 20 ≤ row.size) (ht : row.toList.take (i * 20) = flat (L.take i)) :
    (splice (splice row (i * 20) (encR r)) ((i + 1) * 20) (flat (L.drop i))).toList.take ((L.length + 1) * 20) = flat (L.take i ++ r :: L.drop i) := by
  have hl : row.toList.length = row.size := by simp
  have hd : (flat (L.drop i)).length = (L.length - i) * 20 := by rw [flat_len, List.length_drop]
  have h1 : (splice row (i * 20) (encR r)).toList = (flat (L.take i) ++ encR r) ++ row.toList.drop ((i + 1) * 20) := by
    rw [splice_list, ht, encR_len, show i * 20 + 20 = (i + 1) * 20 by omega]
  have h4 : (flat (L.take i) ++ encR r).length = (i + 1) * 20 := by rw [List.length_append, flat_len, encR_len, List.length_take]; omega
  rw [splice_list, h1, ← h4, List.take_left]
  have h3 : ((flat (L.take i) ++ encR r) ++ flat (L.drop i)).length = (L.length + 1) * 20 := by rw [List.length_append, h4, hd]; omega
  rw [← h3, List.take_left, flat_app, flat_cons, List.append_assoc]
/-- what stands behind laid over one that goes -/
theorem splice_del (cur : Array Value) (L : List Rt) (i : Nat) (hi : i < L.length) (hs : L.length * 20 ≤ cur.size) (ht : cur.toList.take (L.length * 20) = flat L) (z : List Value) :
    (splice (splice cur (i * 20) (flat (L.drop (i + 1)))) ((L.length - 1) * 20) z).toList.take ((L.length - 1) * 20) = flat (L.take i ++ L.drop (i + 1)) := by
  have hl : cur.toList.length = cur.size := by simp
  have hd : (flat (L.drop (i + 1))).length = (L.length - (i + 1)) * 20 := by rw [flat_len, List.length_drop]
  have h2 : cur.toList.take (i * 20) = flat (L.take i) := by
    rw [← flat_take, ← ht, List.take_take, show min (i * 20) (L.length * 20) = i * 20 by omega]
  have h1 : (splice cur (i * 20) (flat (L.drop (i + 1)))).toList = (flat (L.take i) ++ flat (L.drop (i + 1))) ++ cur.toList.drop ((L.length - 1) * 20) := by
    rw [splice_list, h2, hd, show i * 20 + (L.length - (i + 1)) * 20 = (L.length - 1) * 20 by omega]
  have h3 : (flat (L.take i) ++ flat (L.drop (i + 1))).length = (L.length - 1) * 20 := by rw [List.length_append, hd, flat_len, List.length_take]; omega
  rw [splice_list, h1, ← h3, List.take_left, List.append_assoc, List.take_left, flat_app]
theorem infoR20 : (Tryz.prog.info? 36).map (·.size) = some 20 := by kernel_rfl
theorem copy_run (w : World) (ty : TypeId) (g o dLen dCap : Nat) (a : Addr) (sLen sCap : Nat) (cur : Array Value) (M : List Rt)
    (hg : w.heap[g]? = some (.cells cur 36 (0, 0))) (hn : M.length = Nat.min sLen dLen) (hsrc : ∀ j v, (flat M)[j]? = some v → w.cell? (a.add j) = some v) (hfit : o + M.length * 20 ≤ cur.size) :
    (Builtin.copy_ #[22, 22] ty #[.slice (some ⟨g, o, none⟩) dLen dCap, .slice (some a) sLen sCap]).run Tryz.prog w = .ok (.int .i64 M.length) (w.setRow g (splice cur o (flat M))) := by
  have hl := run_loadCells_list (P := Tryz.prog) w a (flat M) hsrc
  rw [flat_len] at hl
  have hst := store_row (o := o) (vs := flat M) hg (by rw [flat_len]; exact hfit) (flat_one' M) Tryz.prog
  have hi := infoR20
  cases hq : Tryz.prog.info? 36 with
  | none => rw [hq] at hi; cases hi
  | some i =>
    have hs : i.size = 20 := by rw [hq] at hi; simpa using hi
    have hu : Tryz.prog.underlying 22 = some (.slice 36) := Tryz.underlying22
    rw [Builtin.copy_]
    simp [run_underlying hu, Builtin.lenOf, Builtin.firstCells, Go.sizeOf, typeInfo, hq, hs, ← hn, hl, hst, goInt, flat_len]
theorem clear_run (w : World) (ty : TypeId) (g o cap : Nat) (cur : Array Value) (hg : w.heap[g]? = some (.cells cur 36 (0, 0))) (hfit : o + 20 ≤ cur.size) :
    (Builtin.clear_ #[22] ty #[.slice (some ⟨g, o, none⟩) 1 cap]).run Tryz.prog w = .ok (.tuple #[]) (w.setRow g (splice cur o (encR zR))) := by
  have hst := store_row (o := o) (vs := encR zR) hg (by rw [encR_len]; exact hfit) (encR_one zR) Tryz.prog
  have hu : Tryz.prog.underlying 22 = some (.slice 36) := Tryz.underlying22
  have hz : (Builtin.zeroCells (encR zR).toArray 1).toList = encR zR := by kernel_rfl
  rw [Builtin.clear_]
  simp [run_underlying hu, Value.cells, hz, hst]
end Tab
end Go.Proofs.YtdcbbjlbfghpbaaGreat

/-
  slices.Insert at routes. Conditions: those that each theorem names.
-/
namespace Go.Proofs.YtdcbbjlbfghpbaaGreat
open Go Go.RowKit H2
set_option linter.unusedVariables false
set_option linter.unusedSimpArgs false
namespace Tab
theorem row_own {w : World} {base g cap n : Nat} {cur : Array Value} {M : List Rt} (hg : w.heap[g]? = some (.cells cur 36 (0, 0))) (hb : base ≤ g) (hn : M.length = n) (hc : n ≤ cap) (hm : cap ≤ maxLen) (hs : cur.size = cap * 20) (ht : cur.toList.take (n * 20) = flat M) :
    w.ownsRow base 36 20 (.slice (some ⟨g, 0, none⟩) n cap) n (flat M) :=
  ⟨by rw [flat_len, hn], .inr ⟨g, cap, cur, rfl, hb, hg, hc, hm, hs, ht⟩⟩
theorem at_one {w : World} {b : Nat} {r : Rt} (h : w.heap[b]? = some (.cells (encR r).toArray 36 (0, 0))) : ∀ j u, (flat [r])[j]? = some u → w.cell? ((⟨b, 0, none⟩ : Addr).add j) = some u := fun j u hj => by
  rw [flat_one] at hj
  rw [Addr.add_lit]
  exact at_row h j u hj
theorem rd_one {w : World} {b : Nat} {r : Rt} (h : w.heap[b]? = some (.cells (encR r).toArray 36 (0, 0))) : Rd w (some ⟨b, 0, none⟩) [r] := fun i hi => by
  have : i = 0 := by simp at hi; omega
  subst this
  exact ⟨b, 0, rfl, ⟨at_row h⟩⟩
theorem Only.setRow {S : Nat → Prop} {a w : World} (h : Only S a w) {g : Nat} (hg : g < a.heap.size → S g) (cs : Array Value) : Only S a (w.setRow g cs) :=
  ⟨h.os, h.tape, h.output, by simpa using h.size, fun i hi hn => (setRow_other w g i cs (fun e => hn (by subst e; exact hg hi))).trans (h.block i hi hn)⟩
/-- where a slice lies behind a call: where it lay, or in a new block -/
def Kin (w : World) (v v' : Value) : Prop := ∀ k, v'.ownBlock = some k → v.ownBlock = some k ∨ w.heap.size ≤ k
theorem Kin.same (w : World) (v : Value) : Kin w v v := fun k e => .inl e
theorem Kin.up {w W : World} {v v' : Value} (h : Kin W v v') (hb : w.heap.size ≤ W.heap.size) : Kin w v v' := fun k e => (h k e).imp id (Nat.le_trans hb)
theorem app_runK (w : World) (base : Nat) (v : Value) (L M : List Rt) (ty : TypeId) (ho : w.ownsRow base 36 20 v L.length (flat L)) (A : Option Addr) (c : Nat) (hr : Rd w A M) (hA : A = none → M = [])
    (hl : L.length + M.length ≤ 1000000) (hb : base ≤ w.heap.size) :
    ∃ v' w', (Builtin.append_ #[22, 22] ty #[v, .slice A M.length c]).run Tryz.prog w = .ok v' w' ∧ w'.ownsRow base 36 20 v' (L ++ M).length (flat (L ++ M)) ∧ w.grownBy w' v.ownBlock ∧ Kin w v v' := by
  obtain ⟨i0, hi, hz0, hz1, hz2⟩ := infoR'
  cases A with
  | none =>
    obtain rfl := hA rfl
    exact ⟨v, w, run_app_none w Tryz.underlying22 hi ho c, by simpa using ho, World.grownBy.refl w _, Kin.same w v⟩
  | some ad =>
    have hnews : ∀ j u, (flat M)[j]? = some u → w.cell? (ad.add j) = some u := fun j u hj => by
      have hj' : j < M.length * 20 := by
        have := (List.getElem?_eq_some_iff.1 hj).1
        rwa [flat_len] at this
      obtain ⟨b, o, e, _⟩ := hr (j / 20) (by omega)
      cases e
      rw [Addr.add_lit]
      exact hr.flat j u hj
    obtain ⟨v', w', hrun, h2, h3, _, h4⟩ := run_append_own_at (P := Tryz.prog) (w := w) base 22 ty 36 i0 _ 20 48 Tryz.underlying22 hi hz0 hz1 hz2 (by simp [Value.cells, encR_len]) (by omega) v L.length (flat L) ho ad M.length c (flat M) (flat_len M) hnews (flat_one' M) (by unfold maxLen; omega) (by omega) hb
    exact ⟨v', w', hrun, by rw [flat_app, List.length_append]; exact h2, h3, fun k e => by
      rcases h4 with h4 | h4
      · exact .inl (h4 ▸ e)
      · rw [h4] at e
        cases e
        exact .inr (Nat.le_refl _)⟩
set_option maxRecDepth 100000 in
set_option maxHeartbeats 4000000 in
/-- at the end -/
theorem insert_end (w : World) (base : Nat) (v : Value) (L : List Rt) (r : Rt) (bv : Nat) (h : w.ownsRow base 36 20 v L.length (flat L)) (hl : L.length ≤ 1000) (hbv : w.heap[bv]? = some (.cells (encR r).toArray 36 (0, 0))) (hb : base ≤ w.heap.size) :
    Calls Tryz.prog 67 #[v, .int .i64 L.length, .slice (some ⟨bv, 0, none⟩) 1 1] w fun e w' => ∃ v', e = .returned v' ∧ w'.ownsRow base 36 20 v' (L ++ [r]).length (flat (L ++ [r])) ∧ Only (fun k => v.ownBlock = some k) w w' ∧ Kin w v v' := by
  obtain ⟨v', w', hrun, h1, h2, h3⟩ := app_runK w base v L [r] 22 h (some ⟨bv, 0, none⟩) 1 (rd_one hbv) (fun e => by cases e) (by simp; omega) hb
  have H1 := Lib.hid h1
  have H2 := Lib.hid ((Only.refl (fun k => v.ownBlock = some k) w).grown h2 (fun k hk _ => hk))
  have H3 := Lib.hid h3
  have HRUN := Lib.hid hrun
  obtain ⟨A, cap, hv, _⟩ := own_rv h
  obtain rfl := hv.eq
  have hlc := hv.len
  have hm1 := hv.capm
  have hnil := hv.nil
  have hadr := hv.adr
  clear hv h hrun h1 h2 h3 hbv
  obtain ⟨n, hn⟩ : ∃ n, L.length = n := ⟨_, rfl⟩
  rw [hn] at hlc hl HRUN H3 ⊢
  clear hn
  have n0 : (0 : Int) ≤ (n : Int) := by omega
  have hnc : (n : Int) ≤ (cap : Int) := by omega
  unfold maxLen at hm1
  cases A with
  | none =>
    obtain rfl := hnil rfl
    obtain rfl : n = 0 := by omega
    clear hnil hadr
    go_enter Tryz.func67, Tryz.ntmps67
    go_wp2_with (at_builtin; refine wpList_append_run rfl (.tmp 23) (.tmp 24) 22 rfl _ _ rfl rfl HRUN.out ?_)
    go_ret
    exact ⟨_, rfl, H1.out, H2.out, H3.out⟩
  | some a =>
    obtain ⟨g, o, rfl, _⟩ := hadr a rfl
    clear hnil hadr
    by_cases hc : cap = n
    · subst hc
      go_enter Tryz.func67, Tryz.ntmps67
      go_wp2_with (at_builtin; refine wpList_append_run rfl (.tmp 23) (.tmp 24) 22 rfl _ _ rfl rfl HRUN.out ?_)
      go_ret
      exact ⟨_, rfl, H1.out, H2.out, H3.out⟩
    · have hc' : ¬ n = cap := fun e => hc e.symm
      go_enter Tryz.func67, Tryz.ntmps67
      go_wp2_with (at_builtin; refine wpList_append_run rfl (.tmp 23) (.tmp 24) 22 rfl _ _ rfl rfl HRUN.out ?_)
      go_ret
      exact ⟨_, rfl, H1.out, H2.out, H3.out⟩
theorem size20 (w : World) : (Go.sizeOf 36).run Tryz.prog w = .ok 20 w := Tryz.sizeOf36 w
/-- Go's own test: one slice in a block of its own, another elsewhere -/
theorem overlaps_no (w : World) (bv g : Nat) (r : Rt) (cur : Array Value) (hbv : w.heap[bv]? = some (.cells (encR r).toArray 36 (0, 0))) (hg : w.heap[g]? = some (.cells cur 36 (0, 0))) (hne : bv ≠ g) (hs : cur.size ≠ 0) (o lb cb : Nat) :
    (callFunc 83 #[.slice (some ⟨bv, 0, none⟩) 1 1, .slice (some ⟨g, o, none⟩) lb cb]).run Tryz.prog w = .ok (.value (.bool false)) w := by
  rw [run_callFunc_extern Tryz.func83 (by kernel_rfl) (by kernel_rfl) (by kernel_rfl) (e := Extern.SlicesOverlaps.overlaps #[22, 22] #[4]) (by kernel_rfl),
    Lib.run_overlaps_apart w 22 4 36 Tryz.underlying22 20 size20 ⟨bv, 0, none⟩ ⟨g, o, none⟩ 1 1 lb cb hne 36 36 20 cur.size
      (by simp [World.shape?, hbv, encR_len]) (by simp [World.shape?, hg]) hs (blk_free hbv 0) (blk_free hbv 20)]
  rfl
set_option maxRecDepth 100000 in
set_option maxHeartbeats 8000000 in
/-- there is room -/
theorem insert_room (w : World) (base g n cap : Nat) (L : List Rt) (r : Rt) (bv i : Nat) (h : w.ownsRow base 36 20 (.slice (some ⟨g, 0, none⟩) n cap) n (flat L)) (hn : L.length = n) (hi : i < n) (hroom : n < cap) (hbv : w.heap[bv]? = some (.cells (encR r).toArray 36 (0, 0))) (hne : bv ≠ g) (hl : n ≤ 1000) :
    Calls Tryz.prog 67 #[.slice (some ⟨g, 0, none⟩) n cap, .int .i64 i, .slice (some ⟨bv, 0, none⟩) 1 1] w fun e w' => ∃ v', e = .returned v' ∧ w'.ownsRow base 36 20 v' (L.take i ++ r :: L.drop i).length (flat (L.take i ++ r :: L.drop i)) ∧ Only (fun k => k = g) w w' ∧ Kin w (.slice (some ⟨g, 0, none⟩) n cap) v' := by
  rcases h.2 with ⟨h0, _⟩ | ⟨g', cap', cur, hv, hb, hh, hc, hm, hsz, ht⟩
  · cases h0
  simp only [Value.slice.injEq, Option.some.injEq, Addr.mk.injEq, and_true, true_and] at hv
  obtain ⟨rfl, rfl⟩ := hv
  have hcap20 : (n + 1) * 20 ≤ cap * 20 := Nat.mul_le_mul_right 20 hroom
  have HOV := Lib.hid (fun o lb cb => overlaps_no w bv g r cur hbv hh hne (by rw [hsz]; omega) o lb cb)
  have hsrc : ∀ (W : World), At W g 0 (flat L) → ∀ j v, (flat (L.drop i))[j]? = some v → W.cell? ((⟨g, i * n20, none⟩ : Addr).add j) = some v := fun W hA j v hj => by
    rw [Addr.add_lit]
    rw [← flat_drop, List.getElem?_drop] at hj
    have := hA (i * 20 + j) v hj
    rw [Nat.zero_add] at this
    exact this
  have HCP1 := Lib.hid (fun ty dc sc => copy_run w.drew ty g ((i + 1) * n20) (n - i) dc ⟨g, i * n20, none⟩ (n + 1 - i) sc cur (L.drop i) hh (by rw [List.length_drop, hn]; simp only [Nat.min_def]; split <;> omega) (hsrc w.drew (own_at h).drew) (by show (i + 1) * 20 + _ ≤ _; rw [List.length_drop, hn, hsz]; omega))
  have hcs : (splice cur ((i + 1) * 20) (flat (L.drop i))).size = cur.size := splice_size (by rw [flat_len, List.length_drop, hn, hsz]; omega)
  have HFIN := Lib.hid (splice_ins cur L r i (by omega) (by rw [hn, hsz]; exact hcap20) (by rw [hn]; exact ht))
  have HH1 := Lib.hid (setRow_heap w.drew g cur (splice cur ((i + 1) * 20) (flat (L.drop i))) 36 (0, 0) hh)
  have HBV1 := Lib.hid ((setRow_other w.drew g bv (splice cur ((i + 1) * 20) (flat (L.drop i))) hne).trans hbv)
  have hcs2 : (splice (splice cur ((i + 1) * 20) (flat (L.drop i))) (i * 20) (encR r)).size = cur.size := by rw [splice_size (by rw [encR_len, hcs, hsz]; omega), hcs]
  have HCP2 := Lib.hid (fun ty dc => copy_run (w.drew.setRow g (splice cur ((i + 1) * 20) (flat (L.drop i)))) ty g (i * n20) (n + 1 - i) dc ⟨bv, 0, none⟩ 1 1 (splice cur ((i + 1) * 20) (flat (L.drop i))) [r] HH1.out (by show 1 = _; simp only [Nat.min_def]; split <;> omega) (at_one HBV1.out) (by show i * 20 + 1 * 20 ≤ _; rw [hcs, hsz]; omega))
  have HLEN := Lib.hid (show (L.take i ++ r :: L.drop i).length = n + 1 by rw [List.length_append, List.length_cons, List.length_take, List.length_drop, hn]; omega)
  have HCS := Lib.hid (And.intro hcs hcs2)
  generalize L.take i ++ r :: L.drop i = M at HFIN HLEN ⊢
  have HSZ := Lib.hid hsz
  have HM := Lib.hid hm
  have HN := Lib.hid hn
  have HB := Lib.hid hb
  have HH := Lib.hid hh
  clear h hn hb hh hm hsz ht hbv hsrc hcs hcs2 hcap20
  have n0 : (0 : Int) ≤ (n : Int) := by omega
  have i0 : (0 : Int) ≤ (i : Int) := by omega
  have hin : (i : Int) ≤ (n : Int) := by omega
  have hinn : i ≤ n := by omega
  have hz2 : ¬ ((i : Int) = (n : Int)) := by omega
  have hz3 : ¬ ((cap : Int) < (n : Int) + 1) := by omega
  have hw1 : IntKind.i64.wrap ((n : Int) + 1) = (n : Int) + 1 := IntWalk.i64_in _ (by omega)
  have hw2 : IntKind.i64.wrap ((i : Int) + 1) = (i : Int) + 1 := IntWalk.i64_in _ (by omega)
  have t1 : ((n : Int) + 1).toNat = n + 1 := by omega
  have t2 : ((i : Int) + 1).toNat = i + 1 := by omega
  have b1 : ¬ (cap = i) := by omega
  have b2 : ¬ (cap = i + 1) := by omega
  have b3 : n + 1 ≤ cap := by omega
  have b4 : (0 : Int) ≤ (i : Int) + 1 := by omega
  have b5 : (0 : Int) ≤ (n : Int) + 1 := by omega
  have b6 : (i : Int) ≤ (n : Int) + 1 := by omega
  have b7 : (i : Int) + 1 ≤ (n : Int) + 1 := by omega
  have b8 : n ≤ cap := by omega
  have b9 : (n : Int) + 1 ≤ (cap : Int) := by omega
  have hov := HOV.out
  go_enter Tryz.func67, Tryz.ntmps67
  go_upto_region 15 with fail
  refine wp_region_held_drew (S := (fun _ => True)) (by kernel_rfl) trivial (fun _ => ?_)
  refine held_take 0 69 (v := ?_) rfl rfl (by kernel_rfl) (by kernel_rfl) (by kernel_rfl) (fun _ _ _ h => h) (by rfl) ?_ trivial ?_
  rotate_left
  · (intro w hSw; (try dsimp only at hSw); try simp only [List.getElem_toArray, List.getElem_cons_zero, List.getElem_cons_succ]; go_simp; try (with_reducible rfl))
  try simp only [List.setIfInBounds_toArray, List.set_cons_zero, List.set_cons_succ]
  refine held_take 1 70 (v := ?_) rfl rfl (by kernel_rfl) (by kernel_rfl) (by kernel_rfl) (fun _ _ _ h => h) (by rfl) ?_ trivial ?_
  rotate_left
  · (intro w hSw; (try dsimp only at hSw); try simp only [List.getElem_toArray, List.getElem_cons_zero, List.getElem_cons_succ]; go_simp; try (with_reducible rfl))
  try simp only [List.setIfInBounds_toArray, List.set_cons_zero, List.set_cons_succ]
  refine held_take 2 71 (v := ?_) rfl rfl (by kernel_rfl) (by kernel_rfl) (by kernel_rfl) (fun _ _ _ h => h) (by rfl) ?_ trivial ?_
  rotate_left
  · (intro w hSw; (try dsimp only at hSw); try simp only [List.getElem_toArray, List.getElem_cons_zero, List.getElem_cons_succ]; go_simp; try (with_reducible rfl))
  try simp only [List.setIfInBounds_toArray, List.set_cons_zero, List.set_cons_succ]
  refine held_take 3 72 (v := ?_) rfl rfl (by kernel_rfl) (by kernel_rfl) (by kernel_rfl) (fun _ _ _ h => h) (by rfl) ?_ trivial ?_
  rotate_left
  · (intro w hSw; (try dsimp only at hSw); try simp only [List.getElem_toArray, List.getElem_cons_zero, List.getElem_cons_succ]; go_simp; try (with_reducible rfl))
  try simp only [List.setIfInBounds_toArray, List.set_cons_zero, List.set_cons_succ]
  refine held_take 4 73 (v := ?_) rfl rfl (by kernel_rfl) (by kernel_rfl) (by kernel_rfl) (fun _ _ _ h => h) (by rfl) ?_ trivial ?_
  rotate_left
  · (intro w hSw; (try dsimp only at hSw); try simp only [List.getElem_toArray, List.getElem_cons_zero, List.getElem_cons_succ]; go_simp; try (with_reducible rfl))
  try simp only [List.setIfInBounds_toArray, List.set_cons_zero, List.set_cons_succ]
  refine held_take 5 74 (v := ?_) rfl rfl (by kernel_rfl) (by kernel_rfl) (by kernel_rfl) (fun _ _ _ h => h) (by rfl) ?_ trivial ?_
  rotate_left
  · (intro w hSw; (try dsimp only at hSw); try simp only [List.getElem_toArray, List.getElem_cons_zero, List.getElem_cons_succ]; go_simp; try (with_reducible rfl))
  try simp only [List.setIfInBounds_toArray, List.set_cons_zero, List.set_cons_succ]
  refine held_take 6 75 (v := ?_) rfl rfl (by kernel_rfl) (by kernel_rfl) (by kernel_rfl) (fun _ _ _ h => h) (by rfl) ?_ trivial ?_
  rotate_left
  · (intro w hSw; (try dsimp only at hSw); try simp only [List.getElem_toArray, List.getElem_cons_zero, List.getElem_cons_succ]; go_simp; try (with_reducible rfl))
  try simp only [List.setIfInBounds_toArray, List.set_cons_zero, List.set_cons_succ]
  refine held_take 7 76 (v := ?_) rfl rfl (by kernel_rfl) (by kernel_rfl) (by kernel_rfl) (fun _ _ _ h => h) (by rfl) ?_ trivial ?_
  rotate_left
  · (intro w hSw; (try dsimp only at hSw); try simp only [List.getElem_toArray, List.getElem_cons_zero, List.getElem_cons_succ]; go_simp; try (with_reducible rfl))
  try simp only [List.setIfInBounds_toArray, List.set_cons_zero, List.set_cons_succ]
  refine held_call 8 77 rfl rfl (by kernel_rfl) (by rfl) (fun K hK => ?_)
  try simp only [List.getElem_toArray, List.getElem_cons_zero, List.getElem_cons_succ]
  (refine wp_copy_runI _ _ _ 22 22 rfl _ _ rfl rfl (HCP1.out _ _ _) ?_)
  try simp only [Act.put, List.setIfInBounds_toArray, List.set_cons_zero, List.set_cons_succ]
  refine hK.out _ _ _ trivial ?_
  clear hK K
  refine wpAnyH_done (by kernel_rfl) ?_ _
  go_wp2_with (refine wpList_copy_runI (o := ⟨some 82, _, _, _, _, _⟩) _ rfl _ _ 22 22 rfl _ _ rfl rfl (HCP2.out _ _) ?_)
  go_ret
  have HH2 := setRow_heap (w.drew.setRow g (splice cur ((i + 1) * 20) (flat (L.drop i)))) g _ (splice (splice cur ((i + 1) * 20) (flat (L.drop i))) (i * n20) (flat [r])) 36 (0, 0) HH1.out
  rw [flat_one] at HH2 ⊢
  rw [HLEN.out]
  exact ⟨_, rfl, row_own HH2 HB.out HLEN.out b3 HM.out (HCS.out.2.trans HSZ.out) (by have := HFIN.out; rw [HN.out] at this; exact this), Tab.Only.setRow (Tab.Only.setRow (Only.refl (fun k => k = g) w).drew (fun _ => rfl) _) (fun _ => rfl) _, fun k e => .inl e⟩
end Tab
end Go.Proofs.YtdcbbjlbfghpbaaGreat

/-
  slices.Insert at routes: a new row. Conditions: those that each theorem names.
-/
namespace Go.Proofs.YtdcbbjlbfghpbaaGreat
open Go Go.RowKit H2
set_option linter.unusedVariables false
set_option linter.unusedSimpArgs false
namespace Tab
theorem zc_size (k : Nat) : (Builtin.zeroCells (Value.agg (encR zR).toArray).cells k).size = k * 20 := by simp [Builtin.zeroCells, Value.cells, encR_len]
set_option maxRecDepth 100000 in
set_option maxHeartbeats 8000000 in
/-- there is none -/
theorem insert_grow (w : World) (base g n cap : Nat) (L : List Rt) (r : Rt) (bv i : Nat) (h : w.ownsRow base 36 20 (.slice (some ⟨g, 0, none⟩) n cap) n (flat L)) (hn : L.length = n) (hi : i < n) (hfull : n = cap) (hbv : w.heap[bv]? = some (.cells (encR r).toArray 36 (0, 0))) (hl : n ≤ 1000) (hbase : base ≤ w.heap.size) :
    Calls Tryz.prog 67 #[.slice (some ⟨g, 0, none⟩) n cap, .int .i64 i, .slice (some ⟨bv, 0, none⟩) 1 1] w fun e w' => ∃ v', e = .returned v' ∧ w'.ownsRow base 36 20 v' (L.take i ++ r :: L.drop i).length (flat (L.take i ++ r :: L.drop i)) ∧ Only (fun k => k = g) w w' ∧ Kin w (.slice (some ⟨g, 0, none⟩) n cap) v' := by
  rcases h.2 with ⟨h0, _⟩ | ⟨g', cap', cur, hv, hb, hh, hc, hm, hsz, ht⟩
  · cases h0
  simp only [Value.slice.injEq, Option.some.injEq, Addr.mk.injEq, and_true, true_and] at hv
  obtain ⟨rfl, rfl⟩ := hv
  obtain ⟨i0, hi0, hz0, hz1, hz2⟩ := infoR'
  have hgw := blk_lt hh
  have hbvw := blk_lt hbv
  have hA := own_at h
  have hold : (Builtin.firstCells i0.size i (.slice (some ⟨g, 0, none⟩) i cap)).run Tryz.prog w.drew = .ok (flat (L.take i)).toArray w.drew := by
    rw [hz1]
    refine run_firstCells_some w.drew 20 i ⟨g, 0, none⟩ i cap (flat (L.take i)) (by rw [flat_len, List.length_take]; omega) (fun j v hj => ?_)
    rw [Addr.add_lit]
    rw [← flat_take, List.getElem?_take] at hj
    split at hj
    · exact hA j v hj
    · cases hj
  have hrz0 := fun ty => Lib.run_append_grow_zeros w 22 3 ty 36 i0 _ .i64 .i64 Tryz.underlying22 Tryz.underlying3 hi0 hz0 (some ⟨g, 0, none⟩) i cap (flat (L.take i)) hold (n + 1 - i) (by omega) (by omega) (by omega) (by omega) (by rw [hz2]; omega) (by rw [hz2, show i + (n + 1 - i) = n + 1 by omega]; exact growslice_fits (by omega) (by omega))
  rw [show i + (n + 1 - i) = n + 1 by omega] at hrz0
  obtain ⟨G, hG⟩ : ∃ G, grownCap w (n + 1) cap 36 = G := ⟨_, rfl⟩
  have hGn : n + 1 ≤ G := by rw [← hG]; exact grownCap_ge w _ _ _
  have hGm : G ≤ maxLen := by rw [← hG]; exact grownCap_le_maxLen w (n + 1) cap 36 (by unfold maxLen; omega)
  rw [hG] at hrz0
  obtain ⟨row, hrow⟩ : ∃ row : Array Value, (flat (L.take i)).toArray ++ Builtin.zeroCells (Value.agg (encR zR).toArray).cells (n + 1 - i) ++ Builtin.zeroCells (Value.agg (encR zR).toArray).cells (G - (n + 1)) = row := ⟨_, rfl⟩
  have hrs : row.size = G * 20 := by
    rw [← hrow, Array.size_append, Array.size_append, zc_size, zc_size, List.size_toArray, flat_len, List.length_take]
    omega
  have hrt : row.toList.take (i * 20) = flat (L.take i) := by
    rw [← hrow, Array.toList_append, Array.toList_append, List.append_assoc]
    have : (flat (L.take i)).length = i * 20 := by rw [flat_len, List.length_take]; omega
    rw [← this]
    exact List.take_left
  rw [hrow] at hrz0
  have HRZ := Lib.hid hrz0
  have hG20 : (n + 1) * 20 ≤ G * 20 := Nat.mul_le_mul_right 20 hGn
  have HW1 := Lib.hid (heap_alloc_new w.drew (.cells row 36 (0, 0)))
  have HBV1 := Lib.hid ((Below.heap_alloc w.drew (.cells row 36 (0, 0)) bv hbvw).trans hbv)
  have hsrc : ∀ (W : World), At W g 0 (flat L) → ∀ j v, (flat (L.drop i))[j]? = some v → W.cell? ((⟨g, i * n20, none⟩ : Addr).add j) = some v := fun W hA j v hj => by
    rw [Addr.add_lit]
    rw [← flat_drop, List.getElem?_drop] at hj
    have := hA (i * 20 + j) v hj
    rw [Nat.zero_add] at this
    exact this
  have hcp1 := (fun ty dc => copy_run (w.drew.alloc (.cells row 36 (0, 0))) ty w.heap.size (i * n20) (n + 1 - i) dc ⟨bv, 0, none⟩ 1 1 row [r] HW1.out (by show 1 = _; simp only [Nat.min_def]; split <;> omega) (at_one HBV1.out) (by show i * 20 + 1 * 20 ≤ _; rw [hrs]; omega))
  rw [flat_one] at hcp1
  have HCP1 := Lib.hid hcp1
  clear hcp1
  have hcs : (splice row (i * 20) (encR r)).size = row.size := splice_size (by rw [encR_len, hrs]; omega)
  have HH1 := Lib.hid (setRow_heap (w.drew.alloc (.cells row 36 (0, 0))) w.heap.size row (splice row (i * 20) (encR r)) 36 (0, 0) HW1.out)
  have hA1 : At (((w.drew.alloc (.cells row 36 (0, 0))).setRow w.heap.size (splice row (i * 20) (encR r))).drew) g 0 (flat L) := fun j u hj => by
    have e : (((w.drew.alloc (.cells row 36 (0, 0))).setRow w.heap.size (splice row (i * 20) (encR r))).drew).heap[g]? = w.heap[g]? := (setRow_other _ _ _ _ (by omega)).trans (Below.heap_alloc w.drew _ g hgw)
    have := hA j u hj
    exact (World.cell?_of_block e).trans this
  have HCP2 := Lib.hid (fun ty dc sc => copy_run (((w.drew.alloc (.cells row 36 (0, 0))).setRow w.heap.size (splice row (i * 20) (encR r))).drew) ty w.heap.size ((i + 1) * n20) (n - i) dc ⟨g, i * n20, none⟩ (n - i) sc (splice row (i * 20) (encR r)) (L.drop i) HH1.out (by rw [List.length_drop, hn]; simp only [Nat.min_def]; split <;> omega) (hsrc _ hA1) (by show (i + 1) * 20 + _ ≤ _; rw [List.length_drop, hn, hcs, hrs]; omega))
  have HFIN := Lib.hid (splice_grow row L r i (by omega) (by rw [hn, hrs]; exact hG20) hrt)
  have hcs2 : (splice (splice row (i * 20) (encR r)) ((i + 1) * 20) (flat (L.drop i))).size = G * 20 := by rw [splice_size (by rw [flat_len, List.length_drop, hn, hcs, hrs]; omega), hcs, hrs]
  have HLEN := Lib.hid (show (L.take i ++ r :: L.drop i).length = n + 1 by rw [List.length_append, List.length_cons, List.length_take, List.length_drop, hn]; omega)
  have HCS := Lib.hid hcs2
  have HN := Lib.hid hn
  have HO := Lib.hid (show Only (fun k => k = g) w (w.drew.alloc (.cells row 36 (0, 0))) from (Only.refl _ _).drew.alloc _)
  have HB := Lib.hid hbase
  have HM := Lib.hid hGm
  generalize L.take i ++ r :: L.drop i = M at HFIN HLEN ⊢
  unfold maxLen at hGm
  clear h hb hh hm hsz ht hbv hsrc hcs hcs2 hG20 hold hrz0 hrow hrs hrt hA hA1 hG hgw hbvw hi0 hz0 hz1 hz2 hbase hn
  have n0 : (0 : Int) ≤ (n : Int) := by omega
  have i0' : (0 : Int) ≤ (i : Int) := by omega
  have hin : (i : Int) ≤ (n : Int) := by omega
  have hinn : i ≤ n := by omega
  have hz2 : ¬ ((i : Int) = (n : Int)) := by omega
  have hz3 : (cap : Int) < (n : Int) + 1 := by omega
  have hw1 : IntKind.i64.wrap ((n : Int) + 1) = (n : Int) + 1 := IntWalk.i64_in _ (by omega)
  have hw2 : IntKind.i64.wrap ((i : Int) + 1) = (i : Int) + 1 := IntWalk.i64_in _ (by omega)
  have hkk : ((n : Int) + 1 - (i : Int)) = ((n + 1 - i : Nat) : Int) := by omega
  have hw3 : IntKind.i64.wrap ((n + 1 - i : Nat) : Int) = ((n + 1 - i : Nat) : Int) := IntWalk.i64_in _ (by omega)
  have t2 : ((i : Int) + 1).toNat = i + 1 := by omega
  have b1 : ¬ (cap = i) := by omega
  have b2 : ¬ (G = i) := by omega
  have b3 : ¬ (G = i + 1) := by omega
  have b4 : (0 : Int) ≤ (i : Int) + 1 := by omega
  have b6 : (i : Int) ≤ (n : Int) + 1 := by omega
  have b7 : (i : Int) + 1 ≤ (n : Int) + 1 := by omega
  have b8 : (i : Int) ≤ (cap : Int) := by omega
  clear hfull
  go_enter Tryz.func67, Tryz.ntmps67
  go_upto_region 10 with (at_builtin; refine Lib.wpList_append_run _ rfl _ _ _ _ rfl _ _ rfl rfl _ _ (HRZ.out _) ?_; generalize w.drew.alloc (.cells row 36 (0, 0)) = W1 at HW1 HBV1 HCP1 HCP2 HH1 HO ⊢)
  go_upto_region 11 with (refine wpList_copy_runI (o := ⟨some 45, _, _, _, _, _⟩) _ rfl _ _ 22 22 rfl _ _ rfl rfl (HCP1.out _ _) ?_)
  have HO1 := Lib.hid (Tab.Only.setRow HO.out (g := w.heap.size) (fun h => absurd h (Nat.lt_irrefl _)) (splice row (i * 20) (encR r)))
  refine wp_region_held_drew (S := (fun _ => True)) (by kernel_rfl) trivial (fun _ => ?_)
  refine held_take 0 46 (v := ?_) rfl rfl (by kernel_rfl) (by kernel_rfl) (by kernel_rfl) (fun _ _ _ h => h) (by rfl) ?_ trivial ?_
  rotate_left
  · (intro w hSw; (try dsimp only at hSw); try simp only [List.getElem_toArray, List.getElem_cons_zero, List.getElem_cons_succ]; go_simp; try (with_reducible rfl))
  try simp only [List.setIfInBounds_toArray, List.set_cons_zero, List.set_cons_succ]
  refine held_take 1 47 (v := ?_) rfl rfl (by kernel_rfl) (by kernel_rfl) (by kernel_rfl) (fun _ _ _ h => h) (by rfl) ?_ trivial ?_
  rotate_left
  · (intro w hSw; (try dsimp only at hSw); try simp only [List.getElem_toArray, List.getElem_cons_zero, List.getElem_cons_succ]; go_simp; try (with_reducible rfl))
  try simp only [List.setIfInBounds_toArray, List.set_cons_zero, List.set_cons_succ]
  refine held_take 2 48 (v := ?_) rfl rfl (by kernel_rfl) (by kernel_rfl) (by kernel_rfl) (fun _ _ _ h => h) (by rfl) ?_ trivial ?_
  rotate_left
  · (intro w hSw; (try dsimp only at hSw); try simp only [List.getElem_toArray, List.getElem_cons_zero, List.getElem_cons_succ]; go_simp; try (with_reducible rfl))
  try simp only [List.setIfInBounds_toArray, List.set_cons_zero, List.set_cons_succ]
  refine held_take 3 49 (v := ?_) rfl rfl (by kernel_rfl) (by kernel_rfl) (by kernel_rfl) (fun _ _ _ h => h) (by rfl) ?_ trivial ?_
  rotate_left
  · (intro w hSw; (try dsimp only at hSw); try simp only [List.getElem_toArray, List.getElem_cons_zero, List.getElem_cons_succ]; go_simp; try (with_reducible rfl))
  try simp only [List.setIfInBounds_toArray, List.set_cons_zero, List.set_cons_succ]
  refine held_take 4 50 (v := ?_) rfl rfl (by kernel_rfl) (by kernel_rfl) (by kernel_rfl) (fun _ _ _ h => h) (by rfl) ?_ trivial ?_
  rotate_left
  · (intro w hSw; (try dsimp only at hSw); try simp only [List.getElem_toArray, List.getElem_cons_zero, List.getElem_cons_succ]; go_simp; try (with_reducible rfl))
  try simp only [List.setIfInBounds_toArray, List.set_cons_zero, List.set_cons_succ]
  refine held_take 5 51 (v := ?_) rfl rfl (by kernel_rfl) (by kernel_rfl) (by kernel_rfl) (fun _ _ _ h => h) (by rfl) ?_ trivial ?_
  rotate_left
  · (intro w hSw; (try dsimp only at hSw); try simp only [List.getElem_toArray, List.getElem_cons_zero, List.getElem_cons_succ]; go_simp; try (with_reducible rfl))
  try simp only [List.setIfInBounds_toArray, List.set_cons_zero, List.set_cons_succ]
  refine held_take 6 52 (v := ?_) rfl rfl (by kernel_rfl) (by kernel_rfl) (by kernel_rfl) (fun _ _ _ h => h) (by rfl) ?_ trivial ?_
  rotate_left
  · (intro w hSw; (try dsimp only at hSw); try simp only [List.getElem_toArray, List.getElem_cons_zero, List.getElem_cons_succ]; go_simp; try (with_reducible rfl))
  try simp only [List.setIfInBounds_toArray, List.set_cons_zero, List.set_cons_succ]
  refine held_take 7 53 (v := ?_) rfl rfl (by kernel_rfl) (by kernel_rfl) (by kernel_rfl) (fun _ _ _ h => h) (by rfl) ?_ trivial ?_
  rotate_left
  · (intro w hSw; (try dsimp only at hSw); try simp only [List.getElem_toArray, List.getElem_cons_zero, List.getElem_cons_succ]; go_simp; try (with_reducible rfl))
  try simp only [List.setIfInBounds_toArray, List.set_cons_zero, List.set_cons_succ]
  refine held_call 8 54 rfl rfl (by kernel_rfl) (by rfl) (fun K hK => ?_)
  try simp only [List.getElem_toArray, List.getElem_cons_zero, List.getElem_cons_succ]
  (refine wp_copy_runI _ _ _ 22 22 rfl _ _ rfl rfl (HCP2.out _ _ _) ?_)
  try simp only [Act.put, List.setIfInBounds_toArray, List.set_cons_zero, List.set_cons_succ]
  refine hK.out _ _ _ trivial ?_
  clear hK K
  refine wpAnyH_done (by kernel_rfl) ?_ _
  go_wp2
  go_ret
  have HH2 := setRow_heap _ w.heap.size _ (splice (splice row (i * 20) (encR r)) ((i + 1) * n20) (flat (L.drop i))) 36 (0, 0) HH1.out
  rw [HLEN.out]
  exact ⟨_, rfl, row_own HH2 HB.out HLEN.out hGn HM.out HCS.out (by have := HFIN.out; rw [HN.out] at this; exact this), Tab.Only.setRow HO1.out.drew (g := w.heap.size) (fun h => absurd h (Nat.lt_irrefl _)) _, fun k e => .inr (by have e' : some w.heap.size = some k := e; cases e'; exact Nat.le_refl _)⟩
end Tab
end Go.Proofs.YtdcbbjlbfghpbaaGreat

/-
  slices.Insert whole, slices.Delete at routes. Conditions: those that each theorem names.
-/
namespace Go.Proofs.YtdcbbjlbfghpbaaGreat
open Go Go.RowKit H2
set_option linter.unusedVariables false
set_option linter.unusedSimpArgs false
namespace Tab
theorem insertIdx_eq (L : List Rt) (r : Rt) : ∀ i, i ≤ L.length → L.insertIdx i r = L.take i ++ r :: L.drop i := by
  induction L with
  | nil => intro i hi; have : i = 0 := by simpa using hi
           subst this; rfl
  | cons x L ih =>
    intro i hi
    cases i with
    | zero => rfl
    | succ i => rw [List.insertIdx_succ_cons, ih i (by simpa using hi)]; rfl
theorem eraseIdx_eq (L : List Rt) : ∀ i, L.eraseIdx i = L.take i ++ L.drop (i + 1) := by
  induction L with
  | nil => intro i; simp
  | cons x L ih =>
    intro i
    cases i with
    | zero => rfl
    | succ i => rw [List.eraseIdx_cons_succ, ih i]; rfl
theorem insert_any (w : World) (base : Nat) (v : Value) (L : List Rt) (r : Rt) (bv i : Nat) (h : w.ownsRow base 36 20 v L.length (flat L)) (hi : i ≤ L.length) (hl : L.length ≤ 1000) (hbv : w.heap[bv]? = some (.cells (encR r).toArray 36 (0, 0))) (hne : v.ownBlock ≠ some bv) (hb : base ≤ w.heap.size) :
    Calls Tryz.prog 67 #[v, .int .i64 i, .slice (some ⟨bv, 0, none⟩) 1 1] w fun e w' => ∃ v', e = .returned v' ∧ w'.ownsRow base 36 20 v' (L.insertIdx i r).length (flat (L.insertIdx i r)) ∧ Only (fun k => v.ownBlock = some k) w w' ∧ Kin w v v' := by
  rw [insertIdx_eq L r i hi]
  rcases Nat.eq_or_lt_of_le hi with rfl | hlt
  · rw [List.take_length, List.drop_length]
    exact insert_end w base v L r bv h hl hbv hb
  · obtain ⟨g, cap, rfl, _, hc, _⟩ := own_form h (by omega)
    have hO : (fun k => (Value.slice (some ⟨g, 0, none⟩) L.length cap).ownBlock = some k) = (fun k => k = g) := funext fun k => propext ⟨fun e => by simpa [Value.ownBlock] using e.symm, fun e => by subst e; rfl⟩
    rw [hO]
    rcases Nat.eq_or_lt_of_le hc with hc | hc
    · exact insert_grow w base g L.length cap L r bv i h rfl hlt hc hbv hl hb
    · exact insert_room w base g L.length cap L r bv i h rfl hlt hc hbv (fun e => hne (by subst e; rfl)) hl
section
variable {P : Program}
theorem wpList_clear_run {ops : Array Oper} {rest : List Oper} {o : Oper} {a : Act} {w w' : World} {Q : Exit → Act → World → Prop} (hgd : o.guard = none) (x : Operand) (t : TypeId)
    (ho : o.op = .call { callee := .builtin .clear, args := #[x], argTypes := #[t] }) (u : Value) (hx : a.eval x = u) {v' : Value} (hr : (Builtin.clear_ #[t] o.type #[u]).run P w = .ok v' w')
    (h : wpList P ops Q rest (a.put o.dst v') w') : wpList P ops Q (o :: rest) a w := by
  refine wpList_plain hgd fun K hK => ?_
  unfold Oper.wp execOp
  simp only [ho, resolve, invoke, builtin, Sem.run_bind, Sem.run_pure, Result.andThen_ok, List.map_toArray, List.map_cons, List.map_nil, hx, hr]
  exact hK _ _ h
end
set_option maxRecDepth 100000 in
set_option maxHeartbeats 8000000 in
theorem delete_any (w : World) (base g k cap : Nat) (L : List Rt) (i : Nat) (h : w.ownsRow base 36 20 (.slice (some ⟨g, 0, none⟩) (k + 1) cap) (k + 1) (flat L)) (hn : L.length = k + 1) (hi : i < k + 1) (hl : k + 1 ≤ 1000) :
    Calls Tryz.prog 66 #[.slice (some ⟨g, 0, none⟩) (k + 1) cap, .int .i64 i, .int .i64 (i + 1)] w fun e w' => ∃ v', e = .returned v' ∧ w'.ownsRow base 36 20 v' (L.eraseIdx i).length (flat (L.eraseIdx i)) ∧ Only (fun k => k = g) w w' ∧ Kin w (.slice (some ⟨g, 0, none⟩) (k + 1) cap) v' := by
  rcases h.2 with ⟨h0, _⟩ | ⟨g', cap', cur, hv, hb, hh, hc, hm, hsz, ht⟩
  · cases h0
  simp only [Value.slice.injEq, Option.some.injEq, Addr.mk.injEq, and_true, true_and] at hv
  obtain ⟨rfl, rfl⟩ := hv
  obtain ⟨i0, hi0, hz0, hz1, hz2⟩ := infoR'
  have hA := own_at h
  have hcap20 : (k + 1) * 20 ≤ cap * 20 := Nat.mul_le_mul_right 20 hc
  have hdl : (flat (L.drop (i + 1))).length = (k - i) * 20 := by rw [flat_len, List.length_drop, hn]; omega
  have hap : ∀ (W : World) (ad : Addr) (ty : TypeId) (c : Nat), W.heap[g]? = some (.cells cur 36 (0, 0)) → (∀ j u, (flat (L.drop (i + 1)))[j]? = some u → W.cell? (ad.add j) = some u) →
      (Builtin.append_ #[22, 22] ty #[.slice (some ⟨g, 0, none⟩) i cap, .slice (some ad) (k - i) c]).run Tryz.prog W = .ok (.slice (some ⟨g, 0, none⟩) k cap) (W.setRow g (splice cur (i * 20) (flat (L.drop (i + 1))))) := fun W ad ty c hW hnews => by
    have := run_append_room (P := Tryz.prog) W 22 ty 36 i0 Tryz.underlying22 hi0 g i cap cur hW ad (k - i) c (flat (L.drop (i + 1))) (by rw [hdl, hz1]) hnews (flat_one' _) (by omega) (by rw [hdl, hz1, hsz]; omega)
    rw [hz1, show i + (k - i) = k by omega] at this
    exact this
  have hsrc : ∀ j u, (flat (L.drop (i + 1)))[j]? = some u → w.drew.cell? ((⟨g, (i + 1) * n20, none⟩ : Addr).add j) = some u := fun j v hj => by
    rw [Addr.add_lit]
    rw [← flat_drop, List.getElem?_drop] at hj
    have := hA ((i + 1) * 20 + j) v hj
    rw [Nat.zero_add] at this
    exact this
  have HAP1 := Lib.hid (fun ty c => hap w.drew ⟨g, (i + 1) * n20, none⟩ ty c hh hsrc)
  have HAP2 := Lib.hid (fun (e : i = k) ty c => hap w.drew ⟨g, 0, none⟩ ty c hh (fun j u hj => by rw [List.drop_of_length_le (by omega)] at hj; simp [flat] at hj))
  have hcs : (splice cur (i * 20) (flat (L.drop (i + 1)))).size = cur.size := splice_size (by rw [hdl, hsz]; omega)
  have HH1 := Lib.hid (setRow_heap w.drew g cur (splice cur (i * 20) (flat (L.drop (i + 1)))) 36 (0, 0) hh)
  have HCL := Lib.hid (fun ty c => clear_run (w.drew.setRow g (splice cur (i * 20) (flat (L.drop (i + 1))))) ty g (k * n20) c (splice cur (i * 20) (flat (L.drop (i + 1)))) HH1.out (by show k * 20 + 20 ≤ _; rw [hcs, hsz]; omega))
  have hcs2 : (splice (splice cur (i * 20) (flat (L.drop (i + 1)))) (k * 20) (encR zR)).size = cap * 20 := by rw [splice_size (by rw [encR_len, hcs, hsz]; omega), hcs, hsz]
  have hfin := splice_del cur L i (by omega) (by rw [hn, hsz]; exact hcap20) (by rw [hn]; exact ht) (encR zR)
  rw [hn, Nat.add_sub_cancel, ← eraseIdx_eq] at hfin
  have HFIN := Lib.hid hfin
  have HLEN := Lib.hid (show (L.eraseIdx i).length = k by rw [List.length_eraseIdx, if_pos (by omega), hn]; omega)
  have HCS := Lib.hid hcs2
  have HM := Lib.hid hm
  have HB := Lib.hid hb
  generalize L.eraseIdx i = M at HFIN HLEN ⊢
  unfold maxLen at hm
  clear h hn hb hh hsz ht hsrc hcs hcs2 hcap20 hap hfin hdl hA hi0 hz0 hz1 hz2
  have i0' : (0 : Int) ≤ (i : Int) := by omega
  have k0 : (0 : Int) ≤ (k : Int) := by omega
  have hw2 : IntKind.i64.wrap ((i : Int) + 1) = (i : Int) + 1 := IntWalk.i64_in _ (by omega)
  have t2 : ((i : Int) + 1).toNat = i + 1 := by omega
  have t3 : ((k : Int) + 1).toNat = k + 1 := by omega
  have b1 : ¬ (cap = i) := by omega
  have b2 : ¬ (cap = k) := by omega
  have b4 : (0 : Int) ≤ (i : Int) + 1 := by omega
  have b5 : (0 : Int) ≤ (k : Int) + 1 := by omega
  have b6 : (i : Int) ≤ (cap : Int) := by omega
  have b7 : (i : Int) ≤ (k : Int) := by omega
  have b8 : (k : Int) + 1 ≤ (cap : Int) := by omega
  have b9 : ¬ ((i : Int) = (i : Int) + 1) := by omega
  have b10 : k + 1 ≤ cap := by omega
  have b11 : i ≤ k := by omega
  have b12 : ¬ (k + 1 = i) := by omega
  by_cases hci : cap = i + 1
  · have hik : i = k := by omega
    subst hik
    have HAP3 := Lib.hid (fun ty c => by have := HAP2.out rfl ty c; rw [Nat.sub_self] at this; exact this)
    subst hci
    clear b8 b10
    have b8 : (i : Int) ≤ (i : Int) + 1 := by omega
    have b10 : (i : Int) + 1 ≤ (((i + 1 : Nat)) : Int) := by omega
    have b13 : i ≤ i + 1 := by omega
    go_enter Tryz.func66, Tryz.ntmps66
    go_upto_region 5 with fail
    refine wp_region_held_drew (S := (fun _ => True)) (by kernel_rfl) trivial (fun _ => ?_)
    refine held_take 0 20 (v := ?_) rfl rfl (by kernel_rfl) (by kernel_rfl) (by kernel_rfl) (fun _ _ _ h => h) (by rfl) ?_ trivial ?_
    rotate_left
    · (intro w hSw; (try dsimp only at hSw); try simp only [List.getElem_toArray, List.getElem_cons_zero, List.getElem_cons_succ]; go_simp; try (with_reducible rfl))
    try simp only [List.setIfInBounds_toArray, List.set_cons_zero, List.set_cons_succ]
    refine held_take 1 21 (v := ?_) rfl rfl (by kernel_rfl) (by kernel_rfl) (by kernel_rfl) (fun _ _ _ h => h) (by rfl) ?_ trivial ?_
    rotate_left
    · (intro w hSw; (try dsimp only at hSw); try simp only [List.getElem_toArray, List.getElem_cons_zero, List.getElem_cons_succ]; go_simp; try (with_reducible rfl))
    try simp only [List.setIfInBounds_toArray, List.set_cons_zero, List.set_cons_succ]
    refine held_take 2 22 (v := ?_) rfl rfl (by kernel_rfl) (by kernel_rfl) (by kernel_rfl) (fun _ _ _ h => h) (by rfl) ?_ trivial ?_
    rotate_left
    · (intro w hSw; (try dsimp only at hSw); try simp only [List.getElem_toArray, List.getElem_cons_zero, List.getElem_cons_succ]; go_simp; try (with_reducible rfl))
    try simp only [List.setIfInBounds_toArray, List.set_cons_zero, List.set_cons_succ]
    refine held_take 3 23 (v := ?_) rfl rfl (by kernel_rfl) (by kernel_rfl) (by kernel_rfl) (fun _ _ _ h => h) (by rfl) ?_ trivial ?_
    rotate_left
    · (intro w hSw; (try dsimp only at hSw); try simp only [List.getElem_toArray, List.getElem_cons_zero, List.getElem_cons_succ]; go_simp; try (with_reducible rfl))
    try simp only [List.setIfInBounds_toArray, List.set_cons_zero, List.set_cons_succ]
    refine held_take 4 24 (v := ?_) rfl rfl (by kernel_rfl) (by kernel_rfl) (by kernel_rfl) (fun _ _ _ h => h) (by rfl) ?_ trivial ?_
    rotate_left
    · (intro w hSw; (try dsimp only at hSw); try simp only [List.getElem_toArray, List.getElem_cons_zero, List.getElem_cons_succ]; go_simp; try (with_reducible rfl))
    try simp only [List.setIfInBounds_toArray, List.set_cons_zero, List.set_cons_succ]
    refine held_take 5 25 (v := ?_) rfl rfl (by kernel_rfl) (by kernel_rfl) (by kernel_rfl) (fun _ _ _ h => h) (by rfl) ?_ trivial ?_
    rotate_left
    · (intro w hSw; (try dsimp only at hSw); try simp only [List.getElem_toArray, List.getElem_cons_zero, List.getElem_cons_succ]; go_simp; try (with_reducible rfl))
    try simp only [List.setIfInBounds_toArray, List.set_cons_zero, List.set_cons_succ]
    refine held_call 6 26 rfl rfl (by kernel_rfl) (by rfl) (fun K hK => ?_)
    try simp only [List.getElem_toArray, List.getElem_cons_zero, List.getElem_cons_succ]
    (refine Lib.wp_append_run _ _ _ 22 22 rfl _ _ rfl rfl _ _ (HAP3.out _ _) ?_)
    try simp only [Act.put, List.setIfInBounds_toArray, List.set_cons_zero, List.set_cons_succ]
    refine hK.out _ _ _ trivial ?_
    clear hK K
    refine held_take 7 0 (v := ?_) rfl rfl (by kernel_rfl) (by kernel_rfl) (by kernel_rfl) (fun _ _ _ h => h) (by rfl) ?_ trivial ?_
    rotate_left
    · (intro w hSw; (try dsimp only at hSw); try simp only [List.getElem_toArray, List.getElem_cons_zero, List.getElem_cons_succ]; go_simp; try (with_reducible rfl))
    try simp only [List.setIfInBounds_toArray, List.set_cons_zero, List.set_cons_succ]
    refine wpAnyH_done (by kernel_rfl) ?_ _
    go_wp2_with (refine wpList_clear_run (o := ⟨none, .call { callee := .builtin .clear, args := #[.tmp 31], argTypes := #[22] }, _, _, _, _⟩) rfl _ 22 rfl _ rfl (HCL.out _ _) ?_)
    go_ret
    have HH2 := setRow_heap _ g _ (splice (splice cur (i * 20) (flat (L.drop (i + 1)))) (i * n20) (encR zR)) 36 (0, 0) HH1.out
    rw [HLEN.out]
    exact ⟨_, rfl, row_own HH2 HB.out HLEN.out (by omega) HM.out HCS.out HFIN.out, Tab.Only.setRow (Tab.Only.setRow (Only.refl (fun k => k = g) w).drew (fun _ => rfl) _) (fun _ => rfl) _, fun k e => .inl e⟩
  · have hci2 : ¬ i + 1 = cap := fun e => hci e.symm
    go_enter Tryz.func66, Tryz.ntmps66
    go_upto_region 5 with fail
    refine wp_region_held_drew (S := (fun _ => True)) (by kernel_rfl) trivial (fun _ => ?_)
    refine held_take 0 20 (v := ?_) rfl rfl (by kernel_rfl) (by kernel_rfl) (by kernel_rfl) (fun _ _ _ h => h) (by rfl) ?_ trivial ?_
    rotate_left
    · (intro w hSw; (try dsimp only at hSw); try simp only [List.getElem_toArray, List.getElem_cons_zero, List.getElem_cons_succ]; go_simp; try (with_reducible rfl))
    try simp only [List.setIfInBounds_toArray, List.set_cons_zero, List.set_cons_succ]
    refine held_take 1 21 (v := ?_) rfl rfl (by kernel_rfl) (by kernel_rfl) (by kernel_rfl) (fun _ _ _ h => h) (by rfl) ?_ trivial ?_
    rotate_left
    · (intro w hSw; (try dsimp only at hSw); try simp only [List.getElem_toArray, List.getElem_cons_zero, List.getElem_cons_succ]; go_simp; try (with_reducible rfl))
    try simp only [List.setIfInBounds_toArray, List.set_cons_zero, List.set_cons_succ]
    refine held_take 2 22 (v := ?_) rfl rfl (by kernel_rfl) (by kernel_rfl) (by kernel_rfl) (fun _ _ _ h => h) (by rfl) ?_ trivial ?_
    rotate_left
    · (intro w hSw; (try dsimp only at hSw); try simp only [List.getElem_toArray, List.getElem_cons_zero, List.getElem_cons_succ]; go_simp; try (with_reducible rfl))
    try simp only [List.setIfInBounds_toArray, List.set_cons_zero, List.set_cons_succ]
    refine held_take 3 23 (v := ?_) rfl rfl (by kernel_rfl) (by kernel_rfl) (by kernel_rfl) (fun _ _ _ h => h) (by rfl) ?_ trivial ?_
    rotate_left
    · (intro w hSw; (try dsimp only at hSw); try simp only [List.getElem_toArray, List.getElem_cons_zero, List.getElem_cons_succ]; go_simp; try (with_reducible rfl))
    try simp only [List.setIfInBounds_toArray, List.set_cons_zero, List.set_cons_succ]
    refine held_take 4 24 (v := ?_) rfl rfl (by kernel_rfl) (by kernel_rfl) (by kernel_rfl) (fun _ _ _ h => h) (by rfl) ?_ trivial ?_
    rotate_left
    · (intro w hSw; (try dsimp only at hSw); try simp only [List.getElem_toArray, List.getElem_cons_zero, List.getElem_cons_succ]; go_simp; try (with_reducible rfl))
    try simp only [List.setIfInBounds_toArray, List.set_cons_zero, List.set_cons_succ]
    refine held_take 5 25 (v := ?_) rfl rfl (by kernel_rfl) (by kernel_rfl) (by kernel_rfl) (fun _ _ _ h => h) (by rfl) ?_ trivial ?_
    rotate_left
    · (intro w hSw; (try dsimp only at hSw); try simp only [List.getElem_toArray, List.getElem_cons_zero, List.getElem_cons_succ]; go_simp; try (with_reducible rfl))
    try simp only [List.setIfInBounds_toArray, List.set_cons_zero, List.set_cons_succ]
    refine held_call 6 26 rfl rfl (by kernel_rfl) (by rfl) (fun K hK => ?_)
    try simp only [List.getElem_toArray, List.getElem_cons_zero, List.getElem_cons_succ]
    (refine Lib.wp_append_run _ _ _ 22 22 rfl _ _ rfl rfl _ _ (HAP1.out _ _) ?_)
    try simp only [Act.put, List.setIfInBounds_toArray, List.set_cons_zero, List.set_cons_succ]
    refine hK.out _ _ _ trivial ?_
    clear hK K
    refine held_take 7 0 (v := ?_) rfl rfl (by kernel_rfl) (by kernel_rfl) (by kernel_rfl) (fun _ _ _ h => h) (by rfl) ?_ trivial ?_
    rotate_left
    · (intro w hSw; (try dsimp only at hSw); try simp only [List.getElem_toArray, List.getElem_cons_zero, List.getElem_cons_succ]; go_simp; try (with_reducible rfl))
    try simp only [List.setIfInBounds_toArray, List.set_cons_zero, List.set_cons_succ]
    refine wpAnyH_done (by kernel_rfl) ?_ _
    go_wp2_with (refine wpList_clear_run (o := ⟨none, .call { callee := .builtin .clear, args := #[.tmp 31], argTypes := #[22] }, _, _, _, _⟩) rfl _ 22 rfl _ rfl (HCL.out _ _) ?_)
    go_ret
    have HH2 := setRow_heap _ g _ (splice (splice cur (i * 20) (flat (L.drop (i + 1)))) (k * n20) (encR zR)) 36 (0, 0) HH1.out
    rw [HLEN.out]
    exact ⟨_, rfl, row_own HH2 HB.out HLEN.out (by omega) HM.out HCS.out HFIN.out, Tab.Only.setRow (Tab.Only.setRow (Only.refl (fun k => k = g) w).drew (fun _ => rfl) _) (fun _ => rfl) _, fun k e => .inl e⟩
end Tab
end Go.Proofs.YtdcbbjlbfghpbaaGreat

/-
  Table.Put: laws. Conditions: those that each theorem names.
-/
namespace Go.Proofs.YtdcbbjlbfghpbaaGreat
open Go Go.RowKit H2
set_option linter.unusedVariables false
set_option linter.unusedSimpArgs false
namespace Tab
theorem splice_set (cur : Array Value) (L : List Rt) (r : Rt) (i : Nat) (hi : i < L.length) (hs : L.length * 20 ≤ cur.size) (ht : cur.toList.take (L.length * 20) = flat L) :
    (splice cur (i * 20) (encR r)).toList.take (L.length * 20) = flat (L.set i r) := by
  have h2 : cur.toList.take (i * 20) = flat (L.take i) := by
    rw [← flat_take, ← ht, List.take_take, show min (i * 20) (L.length * 20) = i * 20 by omega]
  have h3 : (cur.toList.drop (i * 20 + 20)).take (L.length * 20 - (i * 20 + 20)) = flat (L.drop (i + 1)) := by
    rw [← flat_drop, ← ht, List.drop_take, show (i + 1) * 20 = i * 20 + 20 by omega]
  have h4 : (flat (L.take i) ++ encR r).length = i * 20 + 20 := by rw [List.length_append, flat_len, encR_len, List.length_take]; omega
  rw [splice_list, h2, encR_len, List.take_append, h4, h3, List.take_of_length_le (by rw [h4]; omega), List.set_eq_take_append_cons_drop, if_pos hi, flat_app, List.append_assoc]
  rfl
theorem cell_blk {w w' : World} {B o : Nat} (h : w'.heap[B]? = w.heap[B]?) : w'.cell? ⟨B, o, none⟩ = w.cell? ⟨B, o, none⟩ := by
  unfold World.cell?
  rw [h]
theorem At.blk {w w' : World} {B o : Nat} {cs : List Value} (h : At w B o cs) (e : w'.heap[B]? = w.heap[B]?) : At w' B o cs := fun j u hj => (cell_blk e).trans (h j u hj)
theorem RAt.blk {w w' : World} {B o : Nat} {r : Rt} (h : RAt w B o r) (e : w'.heap[B]? = w.heap[B]?) : RAt w' B o r := ⟨h.all.blk e⟩
theorem own_typ {w : World} {base n : Nat} {v : Value} {xs : List Value} (h : w.ownsRow base 36 20 v n xs) {k : Nat} (hk : v.ownBlock = some k) : ∃ cur, w.heap[k]? = some (.cells cur 36 (0, 0)) := by
  rcases h.2 with ⟨rfl, _⟩ | ⟨g, cap, cur, rfl, _, hh, _⟩
  · cases hk
  · simp only [Value.ownBlock, Option.some.injEq] at hk
    subst hk
    exact ⟨cur, hh⟩
theorem own_lt {w : World} {base n : Nat} {v : Value} {xs : List Value} (h : w.ownsRow base 36 20 v n xs) {k : Nat} (hk : v.ownBlock = some k) : k < w.heap.size := by
  obtain ⟨cur, h⟩ := own_typ h hk
  exact blk_lt h
theorem own_ne {w : World} {base n b : Nat} {v u : Value} {xs : List Value} (h : w.ownsRow base 36 20 v n xs) (hb : w.heap[b]? = some (.cells #[u] 73 (0, 0))) : v.ownBlock ≠ some b := fun e => by
  obtain ⟨cur, h⟩ := own_typ h e
  rw [h] at hb
  simp at hb
/-- a new slice in a table -/
theorem tb_set {base : Nat} {w : World} {b : Nat} {v v' : Value} {T' : List Rt} (hb : w.heap[b]? = some (.cells #[v] 73 (0, 0))) (h : w.ownsRow base 36 20 v' T'.length (flat T')) (ht : TOk T') (hl : base ≤ b) : Tb base (w.setCell ⟨b, 0, none⟩ v') b v' T' :=
  ⟨blk_set hb 0 v', (Only.setCell (Only.refl (fun k => k = b) w) (p := ⟨b, 0, none⟩) (fun _ => rfl) v').own h (fun k hk e => own_ne h hb (by subst e; exact hk)), hl, ht⟩
theorem tok_ins {T : List Rt} (h : TOk T) {r : Rt} (hr : right r = true) (hl : has T r.to = true ∨ T.length < 300) : TOk (ins T r) :=
  ⟨srt_ins h.srt r, fun x hx => by rcases (mem_ins h.srt).1 hx with rfl | ⟨h1, _⟩
                                   · exact hr
                                   · exact h.ok x h1, by
    rw [len_ins h.srt]
    have := h.len
    rcases hl with hl | hl
    · rw [hl]; simpa using this
    · split <;> omega⟩
theorem tok_del {T : List Rt} (h : TOk T) (p : Pf) : TOk (del T p) :=
  ⟨srt_del h.srt p, fun x hx => h.ok x (mem_del.1 hx).1, Nat.le_trans (List.length_filter_le ..) h.len⟩
/-- what Put answers, and what is then there -/
def putC (T : List Rt) (r : Rt) : Int := if right r then (if has T r.to then 0 else if T.length < 300 then 0 else 7) else 1
def putT (T : List Rt) (r : Rt) : List Rt := if right r then (if has T r.to then ins T r else if T.length < 300 then ins T r else T) else T
theorem putT_ok {T : List Rt} (h : TOk T) (r : Rt) : TOk (putT T r) := by
  unfold putT
  by_cases h1 : right r = true
  · rw [if_pos h1]
    by_cases h2 : has T r.to = true
    · rw [if_pos h2]; exact tok_ins h h1 (.inl h2)
    · rw [if_neg h2]
      by_cases h3 : T.length < 300
      · rw [if_pos h3]; exact tok_ins h h1 (.inr h3)
      · rw [if_neg h3]; exact h
  · rw [if_neg h1]; exact h
/-- two may come up, in either order -/
theorem held_two {P : Program} {ops : Array Oper} {Q : Exit → Act → World → Prop} {S : World → Prop} (i j : Nat) {oi oj : Oper} {fuel : Nat} {listed : Array Bool} {T : Array Value} {D : List Deferred} {w : World} (hi : ops[i]? = some oi) (hj : ops[j]? = some oj)
    (hr : Region.ready .any ops listed = [i, j]) (hwi : Region.wanted oi (yielded ops T) = true) (hwj : Region.wanted oj (yielded ops T) = true)
    (h : ∀ K' : Act → World → Prop, Shut (∀ T D w, S w → wpAnyH P .any ops Q S fuel (listed.setIfInBounds i true) ⟨T, D⟩ w → K' ⟨T, D⟩ w) → Oper.wp P oi ⟨T, D⟩ w K' Q)
    (h2 : ∀ K' : Act → World → Prop, Shut (∀ T D w, S w → wpAnyH P .any ops Q S fuel (listed.setIfInBounds j true) ⟨T, D⟩ w → K' ⟨T, D⟩ w) → Oper.wp P oj ⟨T, D⟩ w K' Q) : wpAnyH P .any ops Q S (fuel + 1) listed ⟨T, D⟩ w := by
  refine wpAnyH_ready hr (by simp) (AllReadyH.cons hi (fun K hK => ?_) (AllReadyH.cons hj (fun K hK => ?_) AllReadyH.nil))
  · rw [if_pos hwi]
    exact h K (fun T D w hS h => hK.out _ _ hS (fun _ => h))
  · rw [if_pos hwj]
    exact h2 K (fun T D w hS h => hK.out _ _ hS (fun _ => h))
end Tab
end Go.Proofs.YtdcbbjlbfghpbaaGreat

/-
  slices.DeleteFunc at routes. Conditions: those that each theorem names.
-/
namespace Go.Proofs.YtdcbbjlbfghpbaaGreat
open Go Go.RowKit H2
set_option linter.unusedVariables false
set_option linter.unusedSimpArgs false
namespace Tab
/-- the first that meets a test -/
def Fst (p : Rt → Bool) (L : List Rt) (e : Ending) : Prop := (e = .returned (.int .i64 (-1)) ∧ ∀ j (h : j < L.length), p L[j] = false) ∨ ∃ i : Nat, ∃ h : i < L.length, e = .returned (.int .i64 i) ∧ p L[i] = true ∧ ∀ j (h : j < L.length), j < i → p L[j] = false
set_option maxHeartbeats 4000000 in
theorem first_any (p : Rt → Bool) (g : Nat) (lb : Array Value) (eg : ∀ args w, (callFunc g args).run Tryz.prog w = .ok (.enter g args) w) (A : Option Addr) (cap : Nat) (L : List Rt) (hL : L.length ≤ 1000000) (w : World) (hr : Rd w A L)
    (hp : ∀ (W : World) (x : Rt), Below w.heap.size w W → Calls Tryz.prog g (#[.agg (encR x).toArray] ++ lb) W fun e w' => e = .returned (.bool (p x)) ∧ Below W.heap.size W w') :
    Calls Tryz.prog 54 #[.slice A L.length cap, .func (.func g) #[] lb] w fun e w' => Fst p L e ∧ Below w.heap.size w w' := by
  have HR := Lib.hid hr
  have HP := Lib.hid hp
  clear hr hp
  go_enter Tryz.func54, Tryz.ntmps54
  go_wp2
  go_loopw [8] (fun s8 wr => ∃ k : Nat, k ≤ L.length ∧ s8 = .int .i64 k ∧ (∀ j (h : j < L.length), j < k → p L[j] = false) ∧ Below w.heap.size w wr) (fun s8 _ => L.length - (intOf s8).toNat)
  case atStart => exact ⟨0, by omega, rfl, fun j h1 h2 => by omega, Below.refl _ _⟩
  case round =>
    obtain ⟨k, hk, rfl, hn, hb⟩ := hrel
    have HN := Lib.hid hn
    have HB := Lib.hid hb
    clear hn hb
    by_cases hlt : k < L.length
    · have hlt' : (k : Int) < (L.length : Int) := by omega
      have k0 : (0 : Int) ≤ (k : Int) := by omega
      obtain ⟨b, o, rfl, hra⟩ := HR.out k hlt
      have hld := (hra.below HB.out).all.load (k := n20) (encR_n _) Tryz.prog
      have hld2 : Sem.run Tryz.prog (loadCellsFrom ⟨b, o + k * n20, none⟩ 0 n20 #[]) wr = .ok (encR L[k]).toArray wr := hld
      have hcall := HP.out wr L[k] HB.out
      clear hra hld
      cases hq : p L[k]
      · rw [hq] at hcall
        have HQ := Lib.hid hq
        clear hq
        generalize L[k] = x at hld2 hcall
        go_wp2_with (go_at_fn g; refine hcall.mono ?_; rintro e w' ⟨rfl, hb'⟩; have HB2 := Lib.hid (HB.out.trans (hb'.mono HB.out.size)); clear hb')
        go_roundw
        case rel => exact ⟨k + 1, by omega, by go_num, fun j h1 h2 => by
          rcases Nat.lt_or_eq_of_le (Nat.lt_succ_iff.1 h2) with h | h
          · exact HN.out j h1 h
          · subst h; exact HQ.out, HB2.out⟩
        case measure => simp [intOf]; omega
      · rw [hq] at hcall
        have HQ := Lib.hid hq
        clear hq
        generalize L[k] = x at hld2 hcall
        go_wp2_with (go_at_fn g; refine hcall.mono ?_; rintro e w' ⟨rfl, hb'⟩; have HB2 := Lib.hid (HB.out.trans (hb'.mono HB.out.size)); clear hb')
        go_ret
        exact ⟨.inr ⟨k, hlt, rfl, HQ.out, HN.out⟩, HB2.out⟩
    · obtain rfl : k = L.length := by omega
      go_wp2
      go_ret
      exact ⟨.inl ⟨rfl, fun j h => HN.out j h h⟩, HB.out⟩
/-- what is left when the first i are kept, and j have been looked at -/
structure Kp (p : Rt → Bool) (L X : List Rt) (i j : Nat) : Prop where
  len : X.length = L.length
  lt : i < j
  le : j ≤ L.length
  fst : X.take i = (L.take j).filter fun r => !p r
  rest : ∀ m (h : m < X.length) (h' : m < L.length), j ≤ m → X[m] = L[m]
theorem kp_start {p : Rt → Bool} {L : List Rt} {i : Nat} (h : i < L.length) (hp : p L[i] = true) (hb : ∀ j (h : j < L.length), j < i → p L[j] = false) : Kp p L L i (i + 1) := by
  refine ⟨rfl, by omega, by omega, ?_, fun m _ _ _ => rfl⟩
  rw [← List.take_append_getElem h, List.filter_append, List.filter_eq_self.2 (fun r hr => ?_)]
  · simp [hp]
  · obtain ⟨j, hj, rfl⟩ := List.getElem_of_mem hr
    rw [List.length_take] at hj
    rw [List.getElem_take, hb j (by omega) (by omega)]
    rfl
theorem kp_drop {p : Rt → Bool} {L X : List Rt} {i j : Nat} (h : Kp p L X i j) (hj : j < L.length) (hp : p L[j] = true) : Kp p L X i (j + 1) := by
  refine ⟨h.len, by have := h.lt; omega, by omega, ?_, fun m a b c => h.rest m a b (by omega)⟩
  rw [← List.take_append_getElem hj, List.filter_append, h.fst]
  simp [hp]
theorem kp_keep {p : Rt → Bool} {L X : List Rt} {i j : Nat} (h : Kp p L X i j) (hj : j < L.length) (hp : p L[j] = false) : Kp p L (X.set i L[j]) (i + 1) (j + 1) := by
  have h1 := h.lt
  have h2 := h.len
  refine ⟨by rw [List.length_set]; exact h2, by omega, by omega, ?_, fun m a b c => ?_⟩
  · rw [← List.take_append_getElem hj, List.filter_append, ← h.fst]
    have e : (X.set i L[j]).take (i + 1) = X.take i ++ [L[j]] := by
      rw [← List.take_append_getElem (show i < (X.set i L[j]).length by rw [List.length_set]; omega), List.getElem_set_self, List.take_set_of_le (Nat.le_refl _)]
    rw [e]
    simp [hp]
  · rw [List.getElem_set_ne (by omega)]
    exact h.rest m (by rw [List.length_set] at a; exact a) b (by omega)
theorem kp_end {p : Rt → Bool} {L X : List Rt} {i : Nat} (h : Kp p L X i L.length) : X.take i = (L.filter fun r => !p r) ∧ (L.filter fun r => !p r).length = i := by
  have e := h.fst
  rw [List.take_length] at e
  refine ⟨e, ?_⟩
  rw [← e, List.length_take, h.len]
  have := h.lt
  omega
end Tab
end Go.Proofs.YtdcbbjlbfghpbaaGreat
