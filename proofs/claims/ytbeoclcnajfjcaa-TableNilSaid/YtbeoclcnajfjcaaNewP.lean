/-
  What table.New makes, in plain Lean. Conditions: those that each theorem names.
-/
import Derived.Test.YtbeoclcnajfjcaaColC
namespace Go.Proofs.Ytbeoclcnajfjcaa
set_option linter.unusedVariables false
namespace Tab
/-- two to one prefix -/
def dup (L : List Rt) : Bool := !decide (L.map Rt.to).Nodup
/-- one by one -/
def fold (L : List Rt) : List Rt := L.foldl ins []
def newC (L : List Rt) : Int := if L.any (fun r => !right r) = true then 1 else if dup L = true then 9 else if 300 < L.length then 7 else 0
theorem srt_of {L L' : List Rt} (h : SrtOf L L') (hd : dup L = false) : Srt L' := by
  have hn : (L.map Rt.to).Nodup := by unfold dup at hd; simpa using hd
  have hn' : (L'.map Rt.to).Nodup := (h.perm.map Rt.to).nodup_iff.2 hn
  unfold List.Nodup at hn'
  rw [List.pairwise_map] at hn'
  refine (List.Pairwise.and h.ord hn').imp (fun {a b} ⟨h1, h2⟩ => ?_)
  rcases not_lt h1 with e | e
  · exact absurd e.symm h2
  · exact e
theorem mem_fold : ∀ (L T : List Rt), Srt T → (L.map Rt.to).Nodup → (∀ r ∈ L, ∀ x ∈ T, x.to ≠ r.to) → Srt (L.foldl ins T) ∧ (∀ x, x ∈ L.foldl ins T ↔ x ∈ L ∨ x ∈ T) ∧ (L.foldl ins T).length = L.length + T.length
  | [], T, hs, _, _ => ⟨hs, fun x => by simp, by simp⟩
  | r :: L, T, hs, hn, hd => by
    rw [List.map_cons, List.nodup_cons] at hn
    have hT : ∀ q ∈ L, ∀ x ∈ ins T r, x.to ≠ q.to := fun q hq x hx e => by
      rcases (mem_ins hs).1 hx with rfl | ⟨h1, _⟩
      · exact hn.1 (e ▸ List.mem_map_of_mem hq)
      · exact hd q (List.mem_cons_of_mem _ hq) x h1 e
    obtain ⟨h1, h2, h3⟩ := mem_fold L (ins T r) (srt_ins hs r) hn.2 hT
    rw [List.foldl_cons]
    refine ⟨h1, fun x => ?_, ?_⟩
    · rw [h2, mem_ins hs, List.mem_cons]
      constructor
      · rintro (h | h | h)
        · exact .inl (.inr h)
        · exact .inl (.inl h)
        · exact .inr h.1
      · rintro ((h | h) | h)
        · exact .inr (.inl h)
        · exact .inl h
        · exact .inr (.inr ⟨h, hd r (List.mem_cons_self ..) x h⟩)
    · have hh : has T r.to = false := has_false.2 (hd r (List.mem_cons_self ..))
      rw [h3, len_ins hs, hh, List.length_cons]
      simp
      omega
theorem fold_of {L : List Rt} (hd : dup L = false) : Srt (fold L) ∧ (∀ x, x ∈ fold L ↔ x ∈ L) ∧ (fold L).length = L.length := by
  have hn : (L.map Rt.to).Nodup := by unfold dup at hd; simpa using hd
  obtain ⟨h1, h2, h3⟩ := mem_fold L [] srt_nil hn (fun _ _ x hx => by cases hx)
  exact ⟨h1, fun x => by rw [show fold L = L.foldl ins [] from rfl, h2]; simp, by show (L.foldl ins []).length = _; simpa using h3⟩
theorem sort_fold {L L' : List Rt} (h : SrtOf L L') (hd : dup L = false) : L' = fold L :=
  srt_ext (srt_of h hd) (fold_of hd).1 (fun r => by rw [(fold_of hd).2.1, h.perm.mem_iff])
/-- two alike are neighbours -/
theorem no_dup {L L' : List Rt} (h : SrtOf L L') (ha : ∀ i (hi : i + 1 < L'.length), L'[i].to ≠ L'[i + 1].to) : dup L = false := by
  have key : ∀ (M : List Rt), M.Pairwise (fun a b => ¬ Lt b.to a.to) → (∀ i (hi : i + 1 < M.length), M[i].to ≠ M[i + 1].to) → (M.map Rt.to).Nodup := by
    intro M
    induction M with
    | nil => intro _ _; exact List.nodup_nil
    | cons x M ih =>
      intro ho ha
      rw [List.pairwise_cons] at ho
      rw [List.map_cons, List.nodup_cons]
      refine ⟨fun hm => ?_, ih ho.2 (fun i hi => ha (i + 1) (by simpa using hi))⟩
      obtain ⟨y, hy, e⟩ := List.mem_map.1 hm
      cases M with
      | nil => cases hy
      | cons z M =>
        have h0 := ha 0 (by simp)
        simp only [List.getElem_cons_zero, List.getElem_cons_succ] at h0
        have h1 := ho.1 z (List.mem_cons_self ..)
        have h2 : Lt x.to z.to := (not_lt h1).resolve_left (fun e => h0 e.symm)
        rcases List.mem_cons.1 hy with rfl | hy
        · exact h0 e.symm
        · have h3 := (List.pairwise_cons.1 ho.2).1 y hy
          rw [e] at h3
          exact h3 h2
  have := key L' h.ord ha
  unfold dup
  rw [(h.perm.map Rt.to).nodup_iff] at this
  simpa using this
theorem is_dup {L L' : List Rt} (h : SrtOf L L') {i : Nat} (hi : i + 1 < L'.length) (e : L'[i].to = L'[i + 1].to) : dup L = true := by
  unfold dup
  have : ¬ (L.map Rt.to).Nodup := fun hn => by
    have hn' := (h.perm.map Rt.to).nodup_iff.2 hn
    unfold List.Nodup at hn'
    rw [List.pairwise_map] at hn'
    exact (List.pairwise_iff_getElem.1 hn') i (i + 1) (by omega) hi (by omega) e
  simpa using this
end Tab
end Go.Proofs.Ytbeoclcnajfjcaa
