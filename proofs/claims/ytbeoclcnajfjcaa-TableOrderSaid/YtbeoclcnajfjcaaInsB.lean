/-
  slices.Insert at routes. Conditions: those that each theorem names.
-/
import Derived.Test.YtbeoclcnajfjcaaInsA
import Derived.Maps.AppendAt
namespace Go.Proofs.Ytbeoclcnajfjcaa
open Go Go.RowKit H2
set_option linter.unusedVariables false
set_option linter.unusedSimpArgs false
namespace Tab
theorem row_own {w : World} {base g cap n : Nat} {cur : Array Value} {M : List Rt} (hg : w.heap[g]? = some (.cells cur 34 (0, 0))) (hb : base ≤ g) (hn : M.length = n) (hc : n ≤ cap) (hm : cap ≤ maxLen) (hs : cur.size = cap * 20) (ht : cur.toList.take (n * 20) = flat M) :
    w.ownsRow base 34 20 (.slice (some ⟨g, 0, none⟩) n cap) n (flat M) :=
  ⟨by rw [flat_len, hn], .inr ⟨g, cap, cur, rfl, hb, hg, hc, hm, hs, ht⟩⟩
theorem at_one {w : World} {b : Nat} {r : Rt} (h : w.heap[b]? = some (.cells (encR r).toArray 34 (0, 0))) : ∀ j u, (flat [r])[j]? = some u → w.cell? ((⟨b, 0, none⟩ : Addr).add j) = some u := fun j u hj => by
  rw [flat_one] at hj
  rw [Addr.add_lit]
  exact at_row h j u hj
theorem rd_one {w : World} {b : Nat} {r : Rt} (h : w.heap[b]? = some (.cells (encR r).toArray 34 (0, 0))) : Rd w (some ⟨b, 0, none⟩) [r] := fun i hi => by
  have : i = 0 := by simp at hi; omega
  subst this
  exact ⟨b, 0, rfl, ⟨at_row h⟩⟩
theorem Only.setRow {S : Nat → Prop} {a w : World} (h : Only S a w) {g : Nat} (hg : g < a.heap.size → S g) (cs : Array Value) : Only S a (w.setRow g cs) :=
  ⟨h.os, h.tape, h.output, by simpa using h.size, fun i hi hn => (setRow_other w g i cs (fun e => hn (by subst e; exact hg hi))).trans (h.block i hi hn)⟩
/-- where a slice lies behind a call: where it lay, or in a new block -/
def Kin (w : World) (v v' : Value) : Prop := ∀ k, v'.ownBlock = some k → v.ownBlock = some k ∨ w.heap.size ≤ k
theorem Kin.same (w : World) (v : Value) : Kin w v v := fun k e => .inl e
theorem Kin.up {w W : World} {v v' : Value} (h : Kin W v v') (hb : w.heap.size ≤ W.heap.size) : Kin w v v' := fun k e => (h k e).imp id (Nat.le_trans hb)
theorem app_runK (w : World) (base : Nat) (v : Value) (L M : List Rt) (ty : TypeId) (ho : w.ownsRow base 34 20 v L.length (flat L)) (A : Option Addr) (c : Nat) (hr : Rd w A M) (hA : A = none → M = [])
    (hl : L.length + M.length ≤ 1000000) (hb : base ≤ w.heap.size) :
    ∃ v' w', (Builtin.append_ #[31, 31] ty #[v, .slice A M.length c]).run Try.prog w = .ok v' w' ∧ w'.ownsRow base 34 20 v' (L ++ M).length (flat (L ++ M)) ∧ w.grownBy w' v.ownBlock ∧ Kin w v v' := by
  obtain ⟨i0, hi, hz0, hz1, hz2⟩ := infoR'
  cases A with
  | none =>
    obtain rfl := hA rfl
    exact ⟨v, w, run_app_none w Try.underlying31 hi ho c, by simpa using ho, World.grownBy.refl w _, Kin.same w v⟩
  | some ad =>
    have hnews : ∀ j u, (flat M)[j]? = some u → w.cell? (ad.add j) = some u := fun j u hj => by
      have hj' : j < M.length * 20 := by
        have := (List.getElem?_eq_some_iff.1 hj).1
        rwa [flat_len] at this
      obtain ⟨b, o, e, _⟩ := hr (j / 20) (by omega)
      cases e
      rw [Addr.add_lit]
      exact hr.flat j u hj
    obtain ⟨v', w', hrun, h2, h3, _, h4⟩ := run_append_own_at (P := Try.prog) (w := w) base 31 ty 34 i0 _ 20 48 Try.underlying31 hi hz0 hz1 hz2 (by simp [Value.cells, encR_len]) (by omega) v L.length (flat L) ho ad M.length c (flat M) (flat_len M) hnews (flat_one' M) (by unfold maxLen; omega) (by omega) hb
    exact ⟨v', w', hrun, by rw [flat_app, List.length_append]; exact h2, h3, fun k e => by
      rcases h4 with h4 | h4
      · exact .inl (h4 ▸ e)
      · rw [h4] at e
        cases e
        exact .inr (Nat.le_refl _)⟩
set_option maxRecDepth 100000 in
set_option maxHeartbeats 4000000 in
/-- at the end -/
theorem insert_end (w : World) (base : Nat) (v : Value) (L : List Rt) (r : Rt) (bv : Nat) (h : w.ownsRow base 34 20 v L.length (flat L)) (hl : L.length ≤ 1000) (hbv : w.heap[bv]? = some (.cells (encR r).toArray 34 (0, 0))) (hb : base ≤ w.heap.size) :
    Calls Try.prog 42 #[v, .int .i64 L.length, .slice (some ⟨bv, 0, none⟩) 1 1] w fun e w' => ∃ v', e = .returned v' ∧ w'.ownsRow base 34 20 v' (L ++ [r]).length (flat (L ++ [r])) ∧ Only (fun k => v.ownBlock = some k) w w' ∧ Kin w v v' := by
  obtain ⟨v', w', hrun, h1, h2, h3⟩ := app_runK w base v L [r] 31 h (some ⟨bv, 0, none⟩) 1 (rd_one hbv) (fun e => by cases e) (by simp; omega) hb
  have H1 := Lib.hid h1
  have H2 := Lib.hid ((Only.refl (fun k => v.ownBlock = some k) w).grown h2 (fun k hk _ => hk))
  have H3 := Lib.hid h3
  have HRUN := Lib.hid hrun
  obtain ⟨A, cap, hv, _⟩ := own_rv h
  obtain rfl := hv.eq
  have hlc := hv.len
  have hm1 := hv.capm
  have hnil := hv.nil
  have hadr := hv.adr
  clear hv h hrun h1 h2 h3 hbv
  obtain ⟨n, hn⟩ : ∃ n, L.length = n := ⟨_, rfl⟩
  rw [hn] at hlc hl HRUN H3 ⊢
  clear hn
  have n0 : (0 : Int) ≤ (n : Int) := by omega
  have hnc : (n : Int) ≤ (cap : Int) := by omega
  unfold maxLen at hm1
  cases A with
  | none =>
    obtain rfl := hnil rfl
    obtain rfl : n = 0 := by omega
    clear hnil hadr
    go_enter Try.func42, Try.ntmps42
    go_wp2_with (at_builtin; refine wpList_append_run rfl (.tmp 23) (.tmp 24) 31 rfl _ _ rfl rfl HRUN.out ?_)
    go_ret
    exact ⟨_, rfl, H1.out, H2.out, H3.out⟩
  | some a =>
    obtain ⟨g, o, rfl, _⟩ := hadr a rfl
    clear hnil hadr
    by_cases hc : cap = n
    · subst hc
      go_enter Try.func42, Try.ntmps42
      go_wp2_with (at_builtin; refine wpList_append_run rfl (.tmp 23) (.tmp 24) 31 rfl _ _ rfl rfl HRUN.out ?_)
      go_ret
      exact ⟨_, rfl, H1.out, H2.out, H3.out⟩
    · have hc' : ¬ n = cap := fun e => hc e.symm
      go_enter Try.func42, Try.ntmps42
      go_wp2_with (at_builtin; refine wpList_append_run rfl (.tmp 23) (.tmp 24) 31 rfl _ _ rfl rfl HRUN.out ?_)
      go_ret
      exact ⟨_, rfl, H1.out, H2.out, H3.out⟩
theorem size20 (w : World) : (Go.sizeOf 34).run Try.prog w = .ok 20 w := Try.sizeOf34 w
/-- Go's own test: one slice in a block of its own, another elsewhere -/
theorem overlaps_no (w : World) (bv g : Nat) (r : Rt) (cur : Array Value) (hbv : w.heap[bv]? = some (.cells (encR r).toArray 34 (0, 0))) (hg : w.heap[g]? = some (.cells cur 34 (0, 0))) (hne : bv ≠ g) (hs : cur.size ≠ 0) (o lb cb : Nat) :
    (callFunc 59 #[.slice (some ⟨bv, 0, none⟩) 1 1, .slice (some ⟨g, o, none⟩) lb cb]).run Try.prog w = .ok (.value (.bool false)) w := by
  rw [run_callFunc_extern Try.func59 (by kernel_rfl) (by kernel_rfl) (by kernel_rfl) (e := Extern.SlicesOverlaps.overlaps #[31, 31] #[4]) (by kernel_rfl),
    Lib.run_overlaps_apart w 31 4 34 Try.underlying31 20 size20 ⟨bv, 0, none⟩ ⟨g, o, none⟩ 1 1 lb cb hne 34 34 20 cur.size
      (by simp [World.shape?, hbv, encR_len]) (by simp [World.shape?, hg]) hs (blk_free hbv 0) (blk_free hbv 20)]
  rfl
set_option maxRecDepth 100000 in
set_option maxHeartbeats 8000000 in
/-- there is room -/
theorem insert_room (w : World) (base g n cap : Nat) (L : List Rt) (r : Rt) (bv i : Nat) (h : w.ownsRow base 34 20 (.slice (some ⟨g, 0, none⟩) n cap) n (flat L)) (hn : L.length = n) (hi : i < n) (hroom : n < cap) (hbv : w.heap[bv]? = some (.cells (encR r).toArray 34 (0, 0))) (hne : bv ≠ g) (hl : n ≤ 1000) :
    Calls Try.prog 42 #[.slice (some ⟨g, 0, none⟩) n cap, .int .i64 i, .slice (some ⟨bv, 0, none⟩) 1 1] w fun e w' => ∃ v', e = .returned v' ∧ w'.ownsRow base 34 20 v' (L.take i ++ r :: L.drop i).length (flat (L.take i ++ r :: L.drop i)) ∧ Only (fun k => k = g) w w' ∧ Kin w (.slice (some ⟨g, 0, none⟩) n cap) v' := by
  rcases h.2 with ⟨h0, _⟩ | ⟨g', cap', cur, hv, hb, hh, hc, hm, hsz, ht⟩
  · cases h0
  simp only [Value.slice.injEq, Option.some.injEq, Addr.mk.injEq, and_true, true_and] at hv
  obtain ⟨rfl, rfl⟩ := hv
  have hcap20 : (n + 1) * 20 ≤ cap * 20 := Nat.mul_le_mul_right 20 hroom
  have HOV := Lib.hid (fun o lb cb => overlaps_no w bv g r cur hbv hh hne (by rw [hsz]; omega) o lb cb)
  have hsrc : ∀ (W : World), At W g 0 (flat L) → ∀ j v, (flat (L.drop i))[j]? = some v → W.cell? ((⟨g, i * n20, none⟩ : Addr).add j) = some v := fun W hA j v hj => by
    rw [Addr.add_lit]
    rw [← flat_drop, List.getElem?_drop] at hj
    have := hA (i * 20 + j) v hj
    rw [Nat.zero_add] at this
    exact this
  have HCP1 := Lib.hid (fun ty dc sc => copy_run w.drew ty g ((i + 1) * n20) (n - i) dc ⟨g, i * n20, none⟩ (n + 1 - i) sc cur (L.drop i) hh (by rw [List.length_drop, hn]; simp only [Nat.min_def]; split <;> omega) (hsrc w.drew (own_at h).drew) (by show (i + 1) * 20 + _ ≤ _; rw [List.length_drop, hn, hsz]; omega))
  have hcs : (splice cur ((i + 1) * 20) (flat (L.drop i))).size = cur.size := splice_size (by rw [flat_len, List.length_drop, hn, hsz]; omega)
  have HFIN := Lib.hid (splice_ins cur L r i (by omega) (by rw [hn, hsz]; exact hcap20) (by rw [hn]; exact ht))
  have HH1 := Lib.hid (setRow_heap w.drew g cur (splice cur ((i + 1) * 20) (flat (L.drop i))) 34 (0, 0) hh)
  have HBV1 := Lib.hid ((setRow_other w.drew g bv (splice cur ((i + 1) * 20) (flat (L.drop i))) hne).trans hbv)
  have hcs2 : (splice (splice cur ((i + 1) * 20) (flat (L.drop i))) (i * 20) (encR r)).size = cur.size := by rw [splice_size (by rw [encR_len, hcs, hsz]; omega), hcs]
  have HCP2 := Lib.hid (fun ty dc => copy_run (w.drew.setRow g (splice cur ((i + 1) * 20) (flat (L.drop i)))) ty g (i * n20) (n + 1 - i) dc ⟨bv, 0, none⟩ 1 1 (splice cur ((i + 1) * 20) (flat (L.drop i))) [r] HH1.out (by show 1 = _; simp only [Nat.min_def]; split <;> omega) (at_one HBV1.out) (by show i * 20 + 1 * 20 ≤ _; rw [hcs, hsz]; omega))
  have HLEN := Lib.hid (show (L.take i ++ r :: L.drop i).length = n + 1 by rw [List.length_append, List.length_cons, List.length_take, List.length_drop, hn]; omega)
  have HCS := Lib.hid (And.intro hcs hcs2)
  generalize L.take i ++ r :: L.drop i = M at HFIN HLEN ⊢
  have HSZ := Lib.hid hsz
  have HM := Lib.hid hm
  have HN := Lib.hid hn
  have HB := Lib.hid hb
  have HH := Lib.hid hh
  clear h hn hb hh hm hsz ht hbv hsrc hcs hcs2 hcap20
  have n0 : (0 : Int) ≤ (n : Int) := by omega
  have i0 : (0 : Int) ≤ (i : Int) := by omega
  have hin : (i : Int) ≤ (n : Int) := by omega
  have hinn : i ≤ n := by omega
  have hz2 : ¬ ((i : Int) = (n : Int)) := by omega
  have hz3 : ¬ ((cap : Int) < (n : Int) + 1) := by omega
  have hw1 : IntKind.i64.wrap ((n : Int) + 1) = (n : Int) + 1 := IntWalk.i64_in _ (by omega)
  have hw2 : IntKind.i64.wrap ((i : Int) + 1) = (i : Int) + 1 := IntWalk.i64_in _ (by omega)
  have t1 : ((n : Int) + 1).toNat = n + 1 := by omega
  have t2 : ((i : Int) + 1).toNat = i + 1 := by omega
  have b1 : ¬ (cap = i) := by omega
  have b2 : ¬ (cap = i + 1) := by omega
  have b3 : n + 1 ≤ cap := by omega
  have b4 : (0 : Int) ≤ (i : Int) + 1 := by omega
  have b5 : (0 : Int) ≤ (n : Int) + 1 := by omega
  have b6 : (i : Int) ≤ (n : Int) + 1 := by omega
  have b7 : (i : Int) + 1 ≤ (n : Int) + 1 := by omega
  have b8 : n ≤ cap := by omega
  have b9 : (n : Int) + 1 ≤ (cap : Int) := by omega
  have hov := HOV.out
  go_enter Try.func42, Try.ntmps42
  go_upto_region 15 with fail
  refine wp_region_held_drew (S := (fun _ => True)) (by kernel_rfl) trivial (fun _ => ?_)
  refine held_take 0 69 (v := ?_) rfl rfl (by kernel_rfl) (by kernel_rfl) (by kernel_rfl) (fun _ _ _ h => h) (by rfl) ?_ trivial ?_
  rotate_left
  · (intro w hSw; (try dsimp only at hSw); try simp only [List.getElem_toArray, List.getElem_cons_zero, List.getElem_cons_succ]; go_simp; try (with_reducible rfl))
  try simp only [List.setIfInBounds_toArray, List.set_cons_zero, List.set_cons_succ]
  refine held_take 1 70 (v := ?_) rfl rfl (by kernel_rfl) (by kernel_rfl) (by kernel_rfl) (fun _ _ _ h => h) (by rfl) ?_ trivial ?_
  rotate_left
  · (intro w hSw; (try dsimp only at hSw); try simp only [List.getElem_toArray, List.getElem_cons_zero, List.getElem_cons_succ]; go_simp; try (with_reducible rfl))
  try simp only [List.setIfInBounds_toArray, List.set_cons_zero, List.set_cons_succ]
  refine held_take 2 71 (v := ?_) rfl rfl (by kernel_rfl) (by kernel_rfl) (by kernel_rfl) (fun _ _ _ h => h) (by rfl) ?_ trivial ?_
  rotate_left
  · (intro w hSw; (try dsimp only at hSw); try simp only [List.getElem_toArray, List.getElem_cons_zero, List.getElem_cons_succ]; go_simp; try (with_reducible rfl))
  try simp only [List.setIfInBounds_toArray, List.set_cons_zero, List.set_cons_succ]
  refine held_take 3 72 (v := ?_) rfl rfl (by kernel_rfl) (by kernel_rfl) (by kernel_rfl) (fun _ _ _ h => h) (by rfl) ?_ trivial ?_
  rotate_left
  · (intro w hSw; (try dsimp only at hSw); try simp only [List.getElem_toArray, List.getElem_cons_zero, List.getElem_cons_succ]; go_simp; try (with_reducible rfl))
  try simp only [List.setIfInBounds_toArray, List.set_cons_zero, List.set_cons_succ]
  refine held_take 4 73 (v := ?_) rfl rfl (by kernel_rfl) (by kernel_rfl) (by kernel_rfl) (fun _ _ _ h => h) (by rfl) ?_ trivial ?_
  rotate_left
  · (intro w hSw; (try dsimp only at hSw); try simp only [List.getElem_toArray, List.getElem_cons_zero, List.getElem_cons_succ]; go_simp; try (with_reducible rfl))
  try simp only [List.setIfInBounds_toArray, List.set_cons_zero, List.set_cons_succ]
  refine held_take 5 74 (v := ?_) rfl rfl (by kernel_rfl) (by kernel_rfl) (by kernel_rfl) (fun _ _ _ h => h) (by rfl) ?_ trivial ?_
  rotate_left
  · (intro w hSw; (try dsimp only at hSw); try simp only [List.getElem_toArray, List.getElem_cons_zero, List.getElem_cons_succ]; go_simp; try (with_reducible rfl))
  try simp only [List.setIfInBounds_toArray, List.set_cons_zero, List.set_cons_succ]
  refine held_take 6 75 (v := ?_) rfl rfl (by kernel_rfl) (by kernel_rfl) (by kernel_rfl) (fun _ _ _ h => h) (by rfl) ?_ trivial ?_
  rotate_left
  · (intro w hSw; (try dsimp only at hSw); try simp only [List.getElem_toArray, List.getElem_cons_zero, List.getElem_cons_succ]; go_simp; try (with_reducible rfl))
  try simp only [List.setIfInBounds_toArray, List.set_cons_zero, List.set_cons_succ]
  refine held_take 7 76 (v := ?_) rfl rfl (by kernel_rfl) (by kernel_rfl) (by kernel_rfl) (fun _ _ _ h => h) (by rfl) ?_ trivial ?_
  rotate_left
  · (intro w hSw; (try dsimp only at hSw); try simp only [List.getElem_toArray, List.getElem_cons_zero, List.getElem_cons_succ]; go_simp; try (with_reducible rfl))
  try simp only [List.setIfInBounds_toArray, List.set_cons_zero, List.set_cons_succ]
  refine held_call 8 77 rfl rfl (by kernel_rfl) (by rfl) (fun K hK => ?_)
  try simp only [List.getElem_toArray, List.getElem_cons_zero, List.getElem_cons_succ]
  (refine wp_copy_runI _ _ _ 31 31 rfl _ _ rfl rfl (HCP1.out _ _ _) ?_)
  try simp only [Act.put, List.setIfInBounds_toArray, List.set_cons_zero, List.set_cons_succ]
  refine hK.out _ _ _ trivial ?_
  clear hK K
  refine wpAnyH_done (by kernel_rfl) ?_ _
  go_wp2_with (refine wpList_copy_runI (o := ⟨some 82, _, _, _, _, _⟩) _ rfl _ _ 31 31 rfl _ _ rfl rfl (HCP2.out _ _) ?_)
  go_ret
  have HH2 := setRow_heap (w.drew.setRow g (splice cur ((i + 1) * 20) (flat (L.drop i)))) g _ (splice (splice cur ((i + 1) * 20) (flat (L.drop i))) (i * n20) (flat [r])) 34 (0, 0) HH1.out
  rw [flat_one] at HH2 ⊢
  rw [HLEN.out]
  exact ⟨_, rfl, row_own HH2 HB.out HLEN.out b3 HM.out (HCS.out.2.trans HSZ.out) (by have := HFIN.out; rw [HN.out] at this; exact this), Tab.Only.setRow (Tab.Only.setRow (Only.refl (fun k => k = g) w).drew (fun _ => rfl) _) (fun _ => rfl) _, fun k e => .inl e⟩
end Tab
end Go.Proofs.Ytbeoclcnajfjcaa
