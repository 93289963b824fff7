/-
  slices.Insert at routes: a new row. Conditions: those that each theorem names.
-/
import Derived.Test.YtbeoclcnajfjcaaInsB
namespace Go.Proofs.Ytbeoclcnajfjcaa
open Go Go.RowKit H2
set_option linter.unusedVariables false
set_option linter.unusedSimpArgs false
namespace Tab
theorem zc_size (k : Nat) : (Builtin.zeroCells (Value.agg (encR zR).toArray).cells k).size = k * 20 := by simp [Builtin.zeroCells, Value.cells, encR_len]
set_option maxRecDepth 100000 in
set_option maxHeartbeats 8000000 in
/-- there is none -/
theorem insert_grow (w : World) (base g n cap : Nat) (L : List Rt) (r : Rt) (bv i : Nat) (h : w.ownsRow base 34 20 (.slice (some ⟨g, 0, none⟩) n cap) n (flat L)) (hn : L.length = n) (hi : i < n) (hfull : n = cap) (hbv : w.heap[bv]? = some (.cells (encR r).toArray 34 (0, 0))) (hl : n ≤ 1000) (hbase : base ≤ w.heap.size) :
    Calls Try.prog 42 #[.slice (some ⟨g, 0, none⟩) n cap, .int .i64 i, .slice (some ⟨bv, 0, none⟩) 1 1] w fun e w' => ∃ v', e = .returned v' ∧ w'.ownsRow base 34 20 v' (L.take i ++ r :: L.drop i).length (flat (L.take i ++ r :: L.drop i)) ∧ Only (fun k => k = g) w w' ∧ Kin w (.slice (some ⟨g, 0, none⟩) n cap) v' := by
  rcases h.2 with ⟨h0, _⟩ | ⟨g', cap', cur, hv, hb, hh, hc, hm, hsz, ht⟩
  · cases h0
  simp only [Value.slice.injEq, Option.some.injEq, Addr.mk.injEq, and_true, true_and] at hv
  obtain ⟨rfl, rfl⟩ := hv
  obtain ⟨i0, hi0, hz0, hz1, hz2⟩ := infoR'
  have hgw := blk_lt hh
  have hbvw := blk_lt hbv
  have hA := own_at h
  have hold : (Builtin.firstCells i0.size i (.slice (some ⟨g, 0, none⟩) i cap)).run Try.prog w.drew = .ok (flat (L.take i)).toArray w.drew := by
    rw [hz1]
    refine run_firstCells_some w.drew 20 i ⟨g, 0, none⟩ i cap (flat (L.take i)) (by rw [flat_len, List.length_take]; omega) (fun j v hj => ?_)
    rw [Addr.add_lit]
    rw [← flat_take, List.getElem?_take] at hj
    split at hj
    · exact hA j v hj
    · cases hj
  have hrz0 := fun ty => Lib.run_append_grow_zeros w 31 3 ty 34 i0 _ .i64 .i64 Try.underlying31 Try.underlying3 hi0 hz0 (some ⟨g, 0, none⟩) i cap (flat (L.take i)) hold (n + 1 - i) (by omega) (by omega) (by omega) (by omega) (by rw [hz2]; omega) (by rw [hz2, show i + (n + 1 - i) = n + 1 by omega]; exact growslice_fits (by omega) (by omega))
  rw [show i + (n + 1 - i) = n + 1 by omega] at hrz0
  obtain ⟨G, hG⟩ : ∃ G, grownCap w (n + 1) cap 34 = G := ⟨_, rfl⟩
  have hGn : n + 1 ≤ G := by rw [← hG]; exact grownCap_ge w _ _ _
  have hGm : G ≤ maxLen := by rw [← hG]; exact grownCap_le_maxLen w (n + 1) cap 34 (by unfold maxLen; omega)
  rw [hG] at hrz0
  obtain ⟨row, hrow⟩ : ∃ row : Array Value, (flat (L.take i)).toArray ++ Builtin.zeroCells (Value.agg (encR zR).toArray).cells (n + 1 - i) ++ Builtin.zeroCells (Value.agg (encR zR).toArray).cells (G - (n + 1)) = row := ⟨_, rfl⟩
  have hrs : row.size = G * 20 := by
    rw [← hrow, Array.size_append, Array.size_append, zc_size, zc_size, List.size_toArray, flat_len, List.length_take]
    omega
  have hrt : row.toList.take (i * 20) = flat (L.take i) := by
    rw [← hrow, Array.toList_append, Array.toList_append, List.append_assoc]
    have : (flat (L.take i)).length = i * 20 := by rw [flat_len, List.length_take]; omega
    rw [← this]
    exact List.take_left
  rw [hrow] at hrz0
  have HRZ := Lib.hid hrz0
  have hG20 : (n + 1) * 20 ≤ G * 20 := Nat.mul_le_mul_right 20 hGn
  have HW1 := Lib.hid (heap_alloc_new w.drew (.cells row 34 (0, 0)))
  have HBV1 := Lib.hid ((Below.heap_alloc w.drew (.cells row 34 (0, 0)) bv hbvw).trans hbv)
  have hsrc : ∀ (W : World), At W g 0 (flat L) → ∀ j v, (flat (L.drop i))[j]? = some v → W.cell? ((⟨g, i * n20, none⟩ : Addr).add j) = some v := fun W hA j v hj => by
    rw [Addr.add_lit]
    rw [← flat_drop, List.getElem?_drop] at hj
    have := hA (i * 20 + j) v hj
    rw [Nat.zero_add] at this
    exact this
  have hcp1 := (fun ty dc => copy_run (w.drew.alloc (.cells row 34 (0, 0))) ty w.heap.size (i * n20) (n + 1 - i) dc ⟨bv, 0, none⟩ 1 1 row [r] HW1.out (by show 1 = _; simp only [Nat.min_def]; split <;> omega) (at_one HBV1.out) (by show i * 20 + 1 * 20 ≤ _; rw [hrs]; omega))
  rw [flat_one] at hcp1
  have HCP1 := Lib.hid hcp1
  clear hcp1
  have hcs : (splice row (i * 20) (encR r)).size = row.size := splice_size (by rw [encR_len, hrs]; omega)
  have HH1 := Lib.hid (setRow_heap (w.drew.alloc (.cells row 34 (0, 0))) w.heap.size row (splice row (i * 20) (encR r)) 34 (0, 0) HW1.out)
  have hA1 : At (((w.drew.alloc (.cells row 34 (0, 0))).setRow w.heap.size (splice row (i * 20) (encR r))).drew) g 0 (flat L) := fun j u hj => by
    have e : (((w.drew.alloc (.cells row 34 (0, 0))).setRow w.heap.size (splice row (i * 20) (encR r))).drew).heap[g]? = w.heap[g]? := (setRow_other _ _ _ _ (by omega)).trans (Below.heap_alloc w.drew _ g hgw)
    have := hA j u hj
    exact (World.cell?_of_block e).trans this
  have HCP2 := Lib.hid (fun ty dc sc => copy_run (((w.drew.alloc (.cells row 34 (0, 0))).setRow w.heap.size (splice row (i * 20) (encR r))).drew) ty w.heap.size ((i + 1) * n20) (n - i) dc ⟨g, i * n20, none⟩ (n - i) sc (splice row (i * 20) (encR r)) (L.drop i) HH1.out (by rw [List.length_drop, hn]; simp only [Nat.min_def]; split <;> omega) (hsrc _ hA1) (by show (i + 1) * 20 + _ ≤ _; rw [List.length_drop, hn, hcs, hrs]; omega))
  have HFIN := Lib.hid (splice_grow row L r i (by omega) (by rw [hn, hrs]; exact hG20) hrt)
  have hcs2 : (splice (splice row (i * 20) (encR r)) ((i + 1) * 20) (flat (L.drop i))).size = G * 20 := by rw [splice_size (by rw [flat_len, List.length_drop, hn, hcs, hrs]; omega), hcs, hrs]
  have HLEN := Lib.hid (show (L.take i ++ r :: L.drop i).length = n + 1 by rw [List.length_append, List.length_cons, List.length_take, List.length_drop, hn]; omega)
  have HCS := Lib.hid hcs2
  have HN := Lib.hid hn
  have HO := Lib.hid (show Only (fun k => k = g) w (w.drew.alloc (.cells row 34 (0, 0))) from (Only.refl _ _).drew.alloc _)
  have HB := Lib.hid hbase
  have HM := Lib.hid hGm
  generalize L.take i ++ r :: L.drop i = M at HFIN HLEN ⊢
  unfold maxLen at hGm
  clear h hb hh hm hsz ht hbv hsrc hcs hcs2 hG20 hold hrz0 hrow hrs hrt hA hA1 hG hgw hbvw hi0 hz0 hz1 hz2 hbase hn
  have n0 : (0 : Int) ≤ (n : Int) := by omega
  have i0' : (0 : Int) ≤ (i : Int) := by omega
  have hin : (i : Int) ≤ (n : Int) := by omega
  have hinn : i ≤ n := by omega
  have hz2 : ¬ ((i : Int) = (n : Int)) := by omega
  have hz3 : (cap : Int) < (n : Int) + 1 := by omega
  have hw1 : IntKind.i64.wrap ((n : Int) + 1) = (n : Int) + 1 := IntWalk.i64_in _ (by omega)
  have hw2 : IntKind.i64.wrap ((i : Int) + 1) = (i : Int) + 1 := IntWalk.i64_in _ (by omega)
  have hkk : ((n : Int) + 1 - (i : Int)) = ((n + 1 - i : Nat) : Int) := by omega
  have hw3 : IntKind.i64.wrap ((n + 1 - i : Nat) : Int) = ((n + 1 - i : Nat) : Int) := IntWalk.i64_in _ (by omega)
  have t2 : ((i : Int) + 1).toNat = i + 1 := by omega
  have b1 : ¬ (cap = i) := by omega
  have b2 : ¬ (G = i) := by omega
  have b3 : ¬ (G = i + 1) := by omega
  have b4 : (0 : Int) ≤ (i : Int) + 1 := by omega
  have b6 : (i : Int) ≤ (n : Int) + 1 := by omega
  have b7 : (i : Int) + 1 ≤ (n : Int) + 1 := by omega
  have b8 : (i : Int) ≤ (cap : Int) := by omega
  clear hfull
  go_enter Try.func42, Try.ntmps42
  go_upto_region 10 with (at_builtin; refine Lib.wpList_append_run _ rfl _ _ _ _ rfl _ _ rfl rfl _ _ (HRZ.out _) ?_; generalize w.drew.alloc (.cells row 34 (0, 0)) = W1 at HW1 HBV1 HCP1 HCP2 HH1 HO ⊢)
  go_upto_region 11 with (refine wpList_copy_runI (o := ⟨some 45, _, _, _, _, _⟩) _ rfl _ _ 31 31 rfl _ _ rfl rfl (HCP1.out _ _) ?_)
  have HO1 := Lib.hid (Tab.Only.setRow HO.out (g := w.heap.size) (fun h => absurd h (Nat.lt_irrefl _)) (splice row (i * 20) (encR r)))
  refine wp_region_held_drew (S := (fun _ => True)) (by kernel_rfl) trivial (fun _ => ?_)
  refine held_take 0 46 (v := ?_) rfl rfl (by kernel_rfl) (by kernel_rfl) (by kernel_rfl) (fun _ _ _ h => h) (by rfl) ?_ trivial ?_
  rotate_left
  · (intro w hSw; (try dsimp only at hSw); try simp only [List.getElem_toArray, List.getElem_cons_zero, List.getElem_cons_succ]; go_simp; try (with_reducible rfl))
  try simp only [List.setIfInBounds_toArray, List.set_cons_zero, List.set_cons_succ]
  refine held_take 1 47 (v := ?_) rfl rfl (by kernel_rfl) (by kernel_rfl) (by kernel_rfl) (fun _ _ _ h => h) (by rfl) ?_ trivial ?_
  rotate_left
  · (intro w hSw; (try dsimp only at hSw); try simp only [List.getElem_toArray, List.getElem_cons_zero, List.getElem_cons_succ]; go_simp; try (with_reducible rfl))
  try simp only [List.setIfInBounds_toArray, List.set_cons_zero, List.set_cons_succ]
  refine held_take 2 48 (v := ?_) rfl rfl (by kernel_rfl) (by kernel_rfl) (by kernel_rfl) (fun _ _ _ h => h) (by rfl) ?_ trivial ?_
  rotate_left
  · (intro w hSw; (try dsimp only at hSw); try simp only [List.getElem_toArray, List.getElem_cons_zero, List.getElem_cons_succ]; go_simp; try (with_reducible rfl))
  try simp only [List.setIfInBounds_toArray, List.set_cons_zero, List.set_cons_succ]
  refine held_take 3 49 (v := ?_) rfl rfl (by kernel_rfl) (by kernel_rfl) (by kernel_rfl) (fun _ _ _ h => h) (by rfl) ?_ trivial ?_
  rotate_left
  · (intro w hSw; (try dsimp only at hSw); try simp only [List.getElem_toArray, List.getElem_cons_zero, List.getElem_cons_succ]; go_simp; try (with_reducible rfl))
  try simp only [List.setIfInBounds_toArray, List.set_cons_zero, List.set_cons_succ]
  refine held_take 4 50 (v := ?_) rfl rfl (by kernel_rfl) (by kernel_rfl) (by kernel_rfl) (fun _ _ _ h => h) (by rfl) ?_ trivial ?_
  rotate_left
  · (intro w hSw; (try dsimp only at hSw); try simp only [List.getElem_toArray, List.getElem_cons_zero, List.getElem_cons_succ]; go_simp; try (with_reducible rfl))
  try simp only [List.setIfInBounds_toArray, List.set_cons_zero, List.set_cons_succ]
  refine held_take 5 51 (v := ?_) rfl rfl (by kernel_rfl) (by kernel_rfl) (by kernel_rfl) (fun _ _ _ h => h) (by rfl) ?_ trivial ?_
  rotate_left
  · (intro w hSw; (try dsimp only at hSw); try simp only [List.getElem_toArray, List.getElem_cons_zero, List.getElem_cons_succ]; go_simp; try (with_reducible rfl))
  try simp only [List.setIfInBounds_toArray, List.set_cons_zero, List.set_cons_succ]
  refine held_take 6 52 (v := ?_) rfl rfl (by kernel_rfl) (by kernel_rfl) (by kernel_rfl) (fun _ _ _ h => h) (by rfl) ?_ trivial ?_
  rotate_left
  · (intro w hSw; (try dsimp only at hSw); try simp only [List.getElem_toArray, List.getElem_cons_zero, List.getElem_cons_succ]; go_simp; try (with_reducible rfl))
  try simp only [List.setIfInBounds_toArray, List.set_cons_zero, List.set_cons_succ]
  refine held_take 7 53 (v := ?_) rfl rfl (by kernel_rfl) (by kernel_rfl) (by kernel_rfl) (fun _ _ _ h => h) (by rfl) ?_ trivial ?_
  rotate_left
  · (intro w hSw; (try dsimp only at hSw); try simp only [List.getElem_toArray, List.getElem_cons_zero, List.getElem_cons_succ]; go_simp; try (with_reducible rfl))
  try simp only [List.setIfInBounds_toArray, List.set_cons_zero, List.set_cons_succ]
  refine held_call 8 54 rfl rfl (by kernel_rfl) (by rfl) (fun K hK => ?_)
  try simp only [List.getElem_toArray, List.getElem_cons_zero, List.getElem_cons_succ]
  (refine wp_copy_runI _ _ _ 31 31 rfl _ _ rfl rfl (HCP2.out _ _ _) ?_)
  try simp only [Act.put, List.setIfInBounds_toArray, List.set_cons_zero, List.set_cons_succ]
  refine hK.out _ _ _ trivial ?_
  clear hK K
  refine wpAnyH_done (by kernel_rfl) ?_ _
  go_wp2
  go_ret
  have HH2 := setRow_heap _ w.heap.size _ (splice (splice row (i * 20) (encR r)) ((i + 1) * n20) (flat (L.drop i))) 34 (0, 0) HH1.out
  rw [HLEN.out]
  exact ⟨_, rfl, row_own HH2 HB.out HLEN.out hGn HM.out HCS.out (by have := HFIN.out; rw [HN.out] at this; exact this), Tab.Only.setRow HO1.out.drew (g := w.heap.size) (fun h => absurd h (Nat.lt_irrefl _)) _, fun k e => .inr (by have e' : some w.heap.size = some k := e; cases e'; exact Nat.le_refl _)⟩
end Tab
end Go.Proofs.Ytbeoclcnajfjcaa
