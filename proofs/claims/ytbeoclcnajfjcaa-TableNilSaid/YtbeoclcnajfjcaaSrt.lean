/-
  Rows of routes; slices.SortFunc at routes. Conditions: those that each theorem names.
-/
import Derived.Test.YtbeoclcnajfjcaaPfxJ
import Derived.Test.YtbeoclcnajfjcaaLay
import Derived.Shelf.SlSortCmp.NoneTotal
namespace Go.Proofs.Ytbeoclcnajfjcaa
open Go Go.RowKit H2
set_option linter.unusedVariables false
set_option linter.unusedSimpArgs false
namespace Tab
def flat (L : List Rt) : List Value := L.flatMap encR
theorem flat_nil : flat [] = [] := rfl
theorem flat_cons (r : Rt) (L : List Rt) : flat (r :: L) = encR r ++ flat L := rfl
theorem flat_app (A B : List Rt) : flat (A ++ B) = flat A ++ flat B := by simp [flat]
theorem flat_one (r : Rt) : flat [r] = encR r := by simp [flat]
theorem flat_len : ∀ L : List Rt, (flat L).length = L.length * 20
  | [] => rfl
  | r :: L => by rw [flat_cons, List.length_append, encR_len, flat_len L, List.length_cons]; omega
theorem flat_get : ∀ (L : List Rt) (i j : Nat) (hi : i < L.length), j < 20 → (flat L)[i * 20 + j]? = (encR L[i])[j]?
  | [], _, _, hi, _ => by simp at hi
  | r :: L, 0, j, _, hj => by rw [flat_cons, Nat.zero_mul, Nat.zero_add, List.getElem?_append_left (by rw [encR_len]; exact hj)]; rfl
  | r :: L, i + 1, j, hi, hj => by
    rw [flat_cons, List.getElem?_append_right (by rw [encR_len]; omega), encR_len, show (i + 1) * 20 + j - 20 = i * 20 + j by omega, flat_get L i j (by simpa using hi) hj]
    rfl
theorem flat_take : ∀ (L : List Rt) (i : Nat), (flat L).take (i * 20) = flat (L.take i)
  | [], i => by simp [flat]
  | r :: L, 0 => by simp [flat]
  | r :: L, i + 1 => by
    rw [flat_cons, List.take_succ_cons, flat_cons, List.take_append, encR_len, show (i + 1) * 20 - 20 = i * 20 by omega, flat_take L i, List.take_of_length_le (by rw [encR_len]; omega)]
theorem flat_drop : ∀ (L : List Rt) (i : Nat), (flat L).drop (i * 20) = flat (L.drop i)
  | [], i => by simp [flat]
  | r :: L, 0 => by simp [flat]
  | r :: L, i + 1 => by
    rw [flat_cons, List.drop_succ_cons, List.drop_append, encR_len, show (i + 1) * 20 - 20 = i * 20 by omega, flat_drop L i, List.drop_of_length_le (by rw [encR_len]; omega), List.nil_append]
theorem flat_one' (L : List Rt) : ∀ v ∈ flat L, v.oneCell' = true := fun v hv => by
  obtain ⟨r, _, h⟩ := List.mem_flatMap.1 hv
  exact encR_one r v h
theorem flatK_eq (L : List Rt) : Sort.flatK encR 20 L.toArray = (flat L).toArray := by
  refine Sort.ext_get! (by simp [flat_len]) (fun t ht => ?_)
  have ht' : t < L.length * 20 := by simpa using ht
  rw [Sort.get_flatK _ _ _ _ (by simpa using ht')]
  have h1 : t / 20 < L.length := by omega
  have h2 := flat_get L (t / 20) (t % 20) h1 (Nat.mod_lt _ (by omega))
  rw [show t / 20 * 20 + t % 20 = t by omega] at h2
  have e1 : L.toArray[t / 20]! = L[t / 20] := by simp [h1]
  rw [e1]
  have h3 : t % 20 < (encR L[t / 20]).length := by rw [encR_len]; exact Nat.mod_lt _ (by omega)
  rw [List.getElem?_eq_getElem h3] at h2
  have h4 : t < (flat L).length := by rw [flat_len]; exact ht'
  have h5 := (List.getElem?_eq_some_iff.1 h2).2
  simp [h3, h4, h5]
def cfR (a b : Rt) : Int := cmpP a.to b.to
theorem ltOf_cf (a b : Rt) : ltOf cfR a b = decide (Lt a.to b.to) := rfl
theorem swo_cf : Sort.SWO (ltOf cfR) where
  irrefl x := by rw [ltOf_cf]; exact decide_eq_false (lt_irrefl _)
  trans x y z h k := by
    rw [ltOf_cf, decide_eq_true_iff] at *
    exact lt_trans h k
  ntrans x y z h k := by
    rw [ltOf_cf, decide_eq_false_iff_not] at *
    exact le_le k h
/-- more, and drawn -/
theorem grown_of_grew {w w' : World} (h : Grew w w') : ∃ q os, w' = Sort.grow (w.drewN q) os := by
  obtain ⟨⟨h1, h2, h3, h4, h5⟩, h6⟩ := h
  refine ⟨w'.drawn - w.drawn, w'.heap.extract w.heap.size w'.heap.size, ?_⟩
  cases w with
  | mk heap tape drawn os output =>
  cases w' with
  | mk heap' tape' drawn' os' output' =>
    simp only at h1 h2 h3 h4 h5 h6
    subst h1 h2 h3
    simp only [Sort.grow, World.drewN, World.mk.injEq, and_true, true_and]
    refine ⟨?_, by omega⟩
    apply Array.ext_getElem?
    intro i
    by_cases hi : i < heap.size
    · rw [Array.getElem?_append_left hi]; exact h5 i hi
    · rw [Array.getElem?_append_right (by omega), Array.getElem?_extract]
      by_cases h7 : i < heap'.size
      · rw [if_pos (by omega)]
        congr 1
        omega
      · rw [if_neg (by omega), Array.getElem?_eq_none (by omega)]
theorem cmpLays (blk off size : Nat) (w : World) : CmpLays Try.prog 39 #[] encR 20 cfR blk off size w :=
  fun _ _ _ _ x y => (new2_any x y _).mono fun _ _ ⟨he, hg⟩ => ⟨he, grown_of_grew hg⟩
theorem only_grow {S : Nat → Prop} {a w : World} (h : Only S a w) (os : Array Obj) : Only S a (Sort.grow w os) :=
  ⟨h.os, h.tape, h.output, Nat.le_trans h.size (by simp [Sort.grow]), fun i hi hn => by
    rw [← h.block i hi hn]
    show (w.heap ++ os)[i]? = w.heap[i]?
    rw [Array.getElem?_append_left (Nat.lt_of_lt_of_le hi h.size)]⟩
set_option maxHeartbeats 2000000 in
theorem sort_any (w : World) (base g cap : Nat) (L : List Rt) (h : w.ownsRow base 34 20 (.slice (some ⟨g, 0, none⟩) L.length cap) L.length (flat L)) (hn : L.length < 4611686018427387904) :
    Calls Try.prog 51 #[.slice (some ⟨g, 0, none⟩) L.length cap, .func (.func 39) #[] #[]] w fun e w' =>
      e = .returned (.tuple #[]) ∧ (∃ L' : List Rt, L'.Perm L ∧ L'.Pairwise (fun a b => ¬ Lt b.to a.to) ∧ w'.ownsRow base 34 20 (.slice (some ⟨g, 0, none⟩) L.length cap) L'.length (flat L')) ∧ Only (fun i => i = g) w w' := by
  rcases h.2 with ⟨h0, _⟩ | ⟨g', cap', cur, hv, hb, hh, hc, hm, hsz, ht⟩
  · cases h0
  simp only [Value.slice.injEq, Option.some.injEq, Addr.mk.injEq, and_true, true_and] at hv
  obtain ⟨rfl, rfl⟩ := hv
  have hH : Sort.HoldsK encR 20 w g 0 L.toArray := by
    intro j hj
    rw [flatK_eq] at hj ⊢
    have hj' : j < (flat L).length := by simpa using hj
    have e : (flat L).toArray[j]! = (flat L)[j] := by simp [hj']
    rw [Nat.zero_add, e]
    refine ⟨?_, blk_free hh j⟩
    rw [blk_cell hh j]
    have h1 : cur.toList[j]? = some (flat L)[j] := by
      have : (cur.toList.take (L.length * 20))[j]? = some (flat L)[j] := by rw [ht, List.getElem?_eq_getElem hj']
      rw [List.getElem?_take] at this
      split at this
      · exact this
      · cases this
    simpa using h1
  have eg : ∀ args w, (callFunc 39 args).run Try.prog w = .ok (.enter 39 args) w := enters_of Try.func39 (by kernel_rfl) rfl
  have hcon := AnyQ.slices_SortFunc Try.sortR 20 Try.isAgg34 Try.sizeOf34 encR encR_len encR_one cfR swo_cf 39 #[] g 0 cap L.toArray w eg (cmpLays g 0 _ w) hH (blk_lt hh) (by simpa using hn)
  rw [List.size_toArray] at hcon
  refine hcon.mono ?_
  rintro e w' ⟨rfl, d', n, os, hp, hs, rfl⟩
  have hsd : d'.size = L.length := by simpa using hp.1
  have hex : d'.extract 0 L.length = d' := by rw [← hsd]; exact Array.extract_size
  refine ⟨rfl, ⟨d'.toList, ?_, ?_, ?_⟩, ?_⟩
  · have := hp.2.2
    rw [hex] at this
    simpa using this
  · rw [List.pairwise_iff_getElem]
    intro i j hi hj hij
    have hj' : j < d'.size := by simpa using hj
    have hi' : i < d'.size := by simpa using hi
    have h1 := hs i j (Nat.zero_le _) hij (by omega)
    rw [ltOf_cf, decide_eq_false_iff_not, getElem!_pos d' j hj', getElem!_pos d' i hi'] at h1
    simpa using h1
  · refine ⟨by rw [flat_len], .inr ⟨g, cap, Sort.putCells id 0 (Sort.flatK encR 20 d') cur, by simp [hsd], hb, ?_, by simpa [hsd] using hc, hm, by simpa [Sort.putCells] using hsz, ?_⟩⟩
    · show (_ ++ os)[g]? = _
      rw [Array.getElem?_append_left (by show g < ((Sort.ahead w n).heap.modify _ _).size; rw [Array.size_modify]; exact blk_lt hh)]
      show ((w.heap.modify g _)[g]?) = _
      rw [Array.getElem?_modify, if_pos rfl, hh]
      rfl
    · have e : Sort.flatK encR 20 d' = (flat d'.toList).toArray := by rw [← flatK_eq]
      rw [e]
      apply List.ext_getElem?
      intro j
      rw [List.getElem?_take]
      have hl : (flat d'.toList).length = d'.size * 20 := by rw [flat_len]; simp
      split
      · rename_i hj
        have hj' : j < d'.size * 20 := by simpa using hj
        unfold Sort.putCells
        have hjc : j < cur.size := by
          have := Nat.mul_le_mul_right 20 hc
          omega
        rw [Array.getElem?_toList, Array.getElem?_mapIdx, Array.getElem?_eq_getElem hjc]
        simp [hl, hj', List.getElem?_eq_getElem (show j < (flat d'.toList).length by omega)]
      · rename_i hj
        rw [List.getElem?_eq_none]
        rw [hl]
        simp at hj
        omega
  · refine only_grow ?_ os
    exact ⟨rfl, rfl, rfl, by show w.heap.size ≤ (w.heap.modify g _).size; simp, fun i hi hn => by
      show (w.heap.modify g _)[i]? = _
      rw [Array.getElem?_modify, if_neg (fun e => hn e.symm)]⟩
theorem sort_none (p : Option Addr) (cap : Nat) (fv : Value) (w : World) : Calls Try.prog 51 #[.slice p 0 cap, fv] w fun e w' => e = .returned (.tuple #[]) ∧ w = w' :=
  (AnyF.slices_SortFunc_none Try.sortR p cap fv w).mono fun _ _ ⟨he, hw⟩ => ⟨he, hw.symm⟩
end Tab
end Go.Proofs.Ytbeoclcnajfjcaa
