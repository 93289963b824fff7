/-
  Joined texts: MendP. Conditions: those that each theorem names.
-/
import Derived.Test.YtdcbbjlbfghpbaaGreatDj
/-
  Ranges of one table replaced by another's: plain laws. Conditions: those that each theorem names.
-/
namespace Go.Proofs.YtdcbbjlbfghpbaaGreat
set_option linter.unusedVariables false
namespace Dig
open Tab
theorem srt_ne {A : List Rt} (h : Srt A) : A.Pairwise (fun a b => a.to ≠ b.to) := h.imp (fun {a b} hl e => by rw [e] at hl; exact lt_irrefl _ hl)
theorem srt_map_nodup {A : List Rt} (h : Srt A) : (A.map Rt.to).Nodup := by
  unfold List.Nodup
  rw [List.pairwise_map]
  exact srt_ne h
theorem srt_nodup {A : List Rt} (h : Srt A) : A.Nodup := (srt_ne h).imp (fun {a b} hl e => hl (by rw [e]))
/-- a table's routes of range k are replaced by another table's -/
def nx (X T' : List Rt) (k : Nat) : List Rt := (X.filter fun r => !inK k r) ++ T'.filter (inK k)
theorem inK_iff (k : Nat) (r : Rt) : inK (k : Int) r = true ↔ bk r.to = k := by
  unfold inK
  rw [decide_eq_true_eq]
  omega
/-- what has been replaced: the ranges of S are T' 's -/
def Mx (T T' X : List Rt) (S : Nat → Bool) : Prop := Srt X ∧ ∀ r, r ∈ X ↔ if S (bk r.to) = true then r ∈ T' else r ∈ T
theorem mx_start (T T' : List Rt) (h : Srt T) : Mx T T' T (fun _ => false) := ⟨h, fun r => by simp⟩
theorem mx_perm {T T' X : List Rt} {S : Nat → Bool} (hT : Srt T) (hT' : Srt T') (h : Mx T T' X S) : X.Perm ((T.filter fun r => !S (bk r.to)) ++ T'.filter fun r => S (bk r.to)) := by
  refine (List.perm_ext_iff_of_nodup (srt_nodup h.1) ?_).2 (fun r => ?_)
  · rw [List.nodup_append]
    refine ⟨(srt_nodup hT).filter _, (srt_nodup hT').filter _, fun a ha b hb e => ?_⟩
    subst e
    rw [List.mem_filter] at ha hb
    rw [hb.2] at ha
    exact absurd ha.2 (by simp)
  · rw [h.2 r, List.mem_append, List.mem_filter, List.mem_filter]
    by_cases hs : S (bk r.to) = true
    · rw [if_pos hs, hs]; simp
    · rw [if_neg hs]; simp [hs]
theorem len_two (T : List Rt) (p q : Rt → Bool) (h : ∀ r, p r = true → q r = true → False) : (T.filter p).length + (T.filter q).length ≤ T.length := by
  induction T with
  | nil => simp
  | cons x T ih =>
    simp only [List.filter_cons, List.length_cons]
    by_cases hp : p x = true
    · have hq : ¬ q x = true := fun e => h x hp e
      rw [if_pos hp, if_neg hq, List.length_cons]
      omega
    · rw [if_neg hp]
      by_cases hq : q x = true
      · rw [if_pos hq, List.length_cons]; omega
      · rw [if_neg hq]; omega
theorem mend_step {T T' X : List Rt} (hT : TOk T) (hT' : TOk T') (hl : T.length + T'.length ≤ 300) {S : Nat → Bool} (k : Nat) (hk : S k = false) (h : Mx T T' X S) :
    newC (nx X T' k) = 0 ∧ Mx T T' (fold (nx X T' k)) (fun j => S j || j == k) := by
  have hmem : ∀ r, r ∈ nx X T' k ↔ if (S (bk r.to) || bk r.to == k) = true then r ∈ T' else r ∈ T := fun r => by
    unfold nx
    rw [List.mem_append, List.mem_filter, List.mem_filter, h.2 r, inK_iff]
    by_cases hb : bk r.to = k
    · have h1 : inK (k : Int) r = true := (inK_iff k r).2 hb
      rw [h1, hb]
      simp
    · have h1 : inK (k : Int) r = false := by
        cases e : inK (k : Int) r with
        | false => rfl
        | true => exact absurd ((inK_iff k r).1 e) hb
      rw [h1]
      simp [hb]
  have hright : (nx X T' k).any (fun r => !right r) = false := by
    rw [List.any_eq_false]
    intro r hr
    have := (hmem r).1 hr
    have : right r = true := by
      split at this
      · exact hT'.ok r this
      · exact hT.ok r this
    rw [this]
    decide
  have hdup : dup (nx X T' k) = false := by
    unfold dup
    have : ((nx X T' k).map Rt.to).Nodup := by
      unfold nx List.Nodup
      rw [List.pairwise_map, List.pairwise_append]
      refine ⟨(srt_ne h.1).filter _, (srt_ne hT'.srt).filter _, fun a ha b hb e => ?_⟩
      rw [List.mem_filter] at ha hb
      have h1 := (inK_iff k b).1 hb.2
      rw [← e] at h1
      have h2 := (inK_iff k a).2 h1
      rw [h2] at ha
      exact absurd ha.2 (by decide)
    simpa using this
  have hlen : (nx X T' k).length ≤ 300 := by
    have hp := (mx_perm hT.srt hT'.srt h).filter (fun r => !inK k r)
    have e1 := hp.length_eq
    unfold nx
    rw [List.length_append, e1, List.filter_append, List.length_append, List.filter_filter, List.filter_filter]
    have a1 : (T.filter fun r => !inK k r && !S (bk r.to)).length ≤ T.length := List.length_filter_le _ _
    have a2 := len_two T' (fun r => !inK k r && S (bk r.to)) (inK k) (fun r h1 h2 => by rw [h2] at h1; simp at h1)
    omega
  have hc : newC (nx X T' k) = 0 := by
    unfold newC
    rw [if_neg (by rw [hright]; decide), if_neg (by rw [hdup]; decide), if_neg (by omega)]
  obtain ⟨f1, f2, _⟩ := fold_of hdup
  exact ⟨hc, f1, fun r => by rw [f2, hmem]⟩
theorem mend_end {T T' X : List Rt} (hT' : Srt T') {S : Nat → Bool} (h : Mx T T' X S) (ha : ∀ k, k < 17 → S k = false → T.filter (inK k) = T'.filter (inK k)) : X = T' := by
  refine srt_ext h.1 hT' (fun r => ?_)
  rw [h.2 r]
  split
  · exact Iff.rfl
  · rename_i hs
    have hs' : S (bk r.to) = false := by simpa using hs
    have := ha _ (bk_lt r.to) hs'
    have h1 : r ∈ T.filter (inK (bk r.to)) ↔ r ∈ T'.filter (inK (bk r.to)) := by rw [this]
    rw [List.mem_filter, List.mem_filter] at h1
    have h2 := (inK_iff (bk r.to) r).2 rfl
    simpa [h2] using h1
end Dig
end Go.Proofs.YtdcbbjlbfghpbaaGreat
