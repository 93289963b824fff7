/-
  A table's digests behind a change: plain laws. Conditions: those that each theorem names.
-/
import Derived.Test.YtdcbbjlbfghpbaaGreatDm
import Derived.Test.YtdcbbjlbfghpbaaGreatDo
import Derived.Test.YtdcbbjlbfghpbaaGreatDi
namespace Go.Proofs.YtdcbbjlbfghpbaaGreat
open Go Go.RowKit
set_option linter.unusedVariables false
namespace Dig
open Tab
theorem dgAdd_comm (D : Dg) (a b : Rt) : dgAdd (dgAdd D a) b = dgAdd (dgAdd D b) a := by
  funext k
  unfold dgAdd
  by_cases h1 : k = bk a.to
  · by_cases h2 : k = bk b.to
    · rw [if_pos h2, if_pos h1, if_pos h1, if_pos h2]
      apply Prod.ext
      · rfl
      · dsimp only; rw [wr64, wr64, wr64, wr64]; omega
    · rw [if_neg h2, if_pos h1, if_pos h1, if_neg h2]
  · by_cases h2 : k = bk b.to
    · rw [if_pos h2, if_neg h1, if_neg h1, if_pos h2]
    · rw [if_neg h2, if_neg h1, if_neg h1, if_neg h2]
theorem fold_add (T : List Rt) : ∀ (D : Dg) (r : Rt), T.foldl dgAdd (dgAdd D r) = dgAdd (T.foldl dgAdd D) r := by
  induction T with
  | nil => intro D r; rfl
  | cons x T ih => intro D r; rw [List.foldl_cons, List.foldl_cons, dgAdd_comm, ih]
theorem dgs_cons (r : Rt) (T : List Rt) : dgs (r :: T) = dgAdd (dgs T) r := fold_add T dg0 r
theorem dgs_perm {L M : List Rt} (h : L.Perm M) : dgs L = dgs M := by
  induction h with
  | nil => rfl
  | cons x _ ih => rw [dgs_cons, dgs_cons, ih]
  | swap x y l => rw [dgs_cons, dgs_cons, dgs_cons, dgs_cons, dgAdd_comm]
  | trans _ _ h1 h2 => exact h1.trans h2
theorem add_addF {D : Dg} {r : Rt} (h : InR (D (bk r.to))) : dgAdd D r = addF D (bk r.to) (mk r) := by
  funext k
  rw [addF_at]
  unfold dgAdd
  by_cases e : k = bk r.to
  · subst e
    have := h.n
    rw [if_pos rfl, if_pos rfl, wrap64_in (by omega), wr64]
  · rw [if_neg e, if_neg e]
theorem ins_perm {T : List Rt} (hs : Srt T) (r : Rt) : (ins T r).Perm (r :: del T r.to) := by
  have hd : Srt (del T r.to) := List.Pairwise.filter _ hs
  refine (List.perm_ext_iff_of_nodup (srt_nodup (srt_ins hs r)) ?_).2 (fun x => ?_)
  · rw [List.nodup_cons]
    refine ⟨fun h => ?_, srt_nodup hd⟩
    unfold del at h
    rw [List.mem_filter] at h
    simp at h
  · rw [mem_ins hs, List.mem_cons]
    unfold del
    rw [List.mem_filter, decide_eq_true_eq]
theorem del_perm {T : List Rt} (hs : Srt T) {x : Rt} (hx : x ∈ T) : T.Perm (x :: del T x.to) := by
  have hd : Srt (del T x.to) := List.Pairwise.filter _ hs
  refine (List.perm_ext_iff_of_nodup (srt_nodup hs) ?_).2 (fun y => ?_)
  · rw [List.nodup_cons]
    refine ⟨fun h => ?_, srt_nodup hd⟩
    unfold del at h
    rw [List.mem_filter] at h
    simp at h
  · rw [List.mem_cons]
    unfold del
    rw [List.mem_filter, decide_eq_true_eq]
    constructor
    · intro h
      by_cases e : y.to = x.to
      · left
        have h1 := mem_get hs h
        have h2 := mem_get hs hx
        rw [e, h2] at h1
        exact (Option.some.inj h1).symm
      · exact .inr ⟨h, e⟩
    · rintro (rfl | h)
      · exact hx
      · exact h.1
theorem del_none {T : List Rt} {p : Pf} (h : has T p = false) : del T p = T := by
  unfold del
  rw [List.filter_eq_self]
  intro r hr
  exact decide_eq_true (has_false.1 h r hr)
theorem inr_le {T : List Rt} (h : T.length ≤ 1000) (k : Nat) : InR (dgs T k) := by
  refine ⟨?_, fold_s T dg0 (fun j => by simp [dg0]) k⟩
  have := dgs_bound T k
  omega
theorem del_len (T : List Rt) (p : Pf) : (del T p).length ≤ T.length := List.length_filter_le _ _
/-- what is refused changes nothing -/
theorem do_no {T : List Rt} {x : In} (h : doC T x ≠ 0) : doT T x = T := by
  obtain ⟨k, r⟩ := x
  unfold doC at h
  unfold doT
  dsimp only at h ⊢
  by_cases h3 : k = 3
  · rw [if_pos h3] at h ⊢
    by_cases hr : r.metric = 0 ∧ r.seq = 0 ∧ rightP r.to = true
    · rw [if_pos hr] at h ⊢
      unfold dropC at h
      cases e : has T r.to with
      | false => exact del_none e
      | true => rw [e] at h; exact absurd rfl h
    · rw [if_neg hr]
  · rw [if_neg h3] at h ⊢
    by_cases hk : (k = 1 ∨ k = 2) ∧ right r = true
    · rw [if_pos hk] at h ⊢
      by_cases h9 : k = 1 ∧ has T r.to = true
      · rw [if_pos h9]
      · rw [if_neg h9] at h ⊢
        by_cases h8 : k = 2 ∧ has T r.to = false
        · rw [if_pos h8]
        · rw [if_neg h8] at h ⊢
          unfold putC at h
          unfold putT
          rw [if_pos hk.2] at h ⊢
          by_cases e : has T r.to = true
          · rw [if_pos e] at h; exact absurd rfl h
          · rw [if_neg e] at h ⊢
            by_cases hl : T.length < 300
            · rw [if_pos hl] at h; exact absurd rfl h
            · rw [if_neg hl]
    · rw [if_neg hk]
/-- what is done is what More tells -/
theorem do_more {T : List Rt} (hT : TOk T) {x : In} (h : doC T x = 0) : (1 ≤ x.kind ∧ x.kind ≤ 3) ∧ ∀ D : Dg, (∀ k, k < 17 → D k = dgs T k) → ∀ k, k < 17 → moreD D x ((get T x.rt.to).getD zR) k = dgs (doT T x) k := by
  obtain ⟨kd, r⟩ := x
  have hq := bk_lt r.to
  have hcong : ∀ (D E : Dg) (w : Rt), (∀ k, k < 17 → D k = E k) → ∀ k, k < 17 → moreD D ⟨kd, r⟩ w k = moreD E ⟨kd, r⟩ w k := by
    intro D E w hDE k hk
    unfold moreD
    dsimp only
    split
    · rw [addF_at, addF_at, hDE _ hq, hDE _ hk]
    · split
      · have hsub : ∀ j, j < 17 → subF D (bk r.to) (mk w) j = subF E (bk r.to) (mk w) j := fun j hj => by rw [subF_at, subF_at, hDE _ hq, hDE _ hj]
        rw [addF_at, addF_at, hsub _ hq, hsub _ hk]
      · rw [subF_at, subF_at, hDE _ hq, hDE _ hk]
  unfold doC at h
  unfold doT
  dsimp only at h ⊢
  by_cases h3 : kd = 3
  · subst h3
    refine ⟨by omega, fun D hD k hk => ?_⟩
    rw [hcong D (dgs T) _ hD k hk]
    rw [if_pos rfl] at h ⊢
    by_cases hr : r.metric = 0 ∧ r.seq = 0 ∧ rightP r.to = true
    · rw [if_pos hr] at h ⊢
      unfold dropC at h
      cases e : has T r.to with
      | false => rw [e] at h; exact absurd h (by decide)
      | true =>
        unfold has at e
        obtain ⟨x, hx⟩ := Option.isSome_iff_exists.1 e
        have hxt := get_to hx
        rw [hx, Option.getD_some, moreD3]
        have hp := dgs_perm (del_perm hT.srt (get_mem hx))
        rw [dgs_cons, hxt] at hp
        rw [hp]
        have hI : InR (dgs (del T r.to) (bk x.to)) := inr_le (by have := del_len T r.to; have := hT.len; omega) _
        rw [add_addF hI, hxt, back_add (by rw [← hxt]; rw [← hxt] at hI; exact hI)]
    · rw [if_neg hr] at h; exact absurd h (by decide)
  · rw [if_neg h3] at h ⊢
    by_cases hk : (kd = 1 ∨ kd = 2) ∧ right r = true
    · rw [if_pos hk] at h ⊢
      by_cases h9 : kd = 1 ∧ has T r.to = true
      · rw [if_pos h9] at h; exact absurd h (by decide)
      · rw [if_neg h9] at h ⊢
        by_cases h8 : kd = 2 ∧ has T r.to = false
        · rw [if_pos h8] at h; exact absurd h (by decide)
        · rw [if_neg h8] at h ⊢
          unfold putC at h
          unfold putT
          rw [if_pos hk.2] at h ⊢
          have hI : InR (dgs (del T r.to) (bk r.to)) := inr_le (by have := del_len T r.to; have := hT.len; omega) _
          have hins : dgs (ins T r) = addF (dgs (del T r.to)) (bk r.to) (mk r) := by rw [dgs_perm (ins_perm hT.srt r), dgs_cons, add_addF hI]
          rcases hk.1 with rfl | rfl
          · refine ⟨by omega, fun D hD k hk2 => ?_⟩
            rw [hcong D (dgs T) _ hD k hk2]
            have e : has T r.to = false := by
              cases e : has T r.to with
              | false => rfl
              | true => exact absurd ⟨rfl, e⟩ h9
            rw [e] at h
            rw [if_neg (by rw [e]; decide)]
            rw [if_neg (by decide)] at h
            by_cases hl : T.length < 300
            · rw [if_pos hl, moreD1, hins, del_none e]
            · rw [if_neg hl] at h; exact absurd h (by decide)
          · refine ⟨by omega, fun D hD k hk2 => ?_⟩
            rw [hcong D (dgs T) _ hD k hk2]
            have e : has T r.to = true := by
              cases e : has T r.to with
              | true => rfl
              | false => exact absurd ⟨rfl, e⟩ h8
            rw [if_pos e, moreD2, hins]
            unfold has at e
            obtain ⟨x, hx⟩ := Option.isSome_iff_exists.1 e
            have hxt := get_to hx
            have hp := dgs_perm (del_perm hT.srt (get_mem hx))
            rw [dgs_cons, hxt, add_addF (by rw [hxt]; exact hI), hxt] at hp
            rw [hx, Option.getD_some, hp, back_add hI]
    · rw [if_neg hk] at h; exact absurd h (by decide)
end Dig
end Go.Proofs.YtdcbbjlbfghpbaaGreat
