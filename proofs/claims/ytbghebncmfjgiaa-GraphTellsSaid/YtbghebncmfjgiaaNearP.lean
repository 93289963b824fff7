/-
  Going on to a nearer neighbour: plain laws. No program. Conditions: those that each law names.
-/
import Derived.Test.YtbghebncmfjgiaaLinks
namespace Go.Proofs.Ytbghebncmfjgiaa
open Go.RowKit
set_option linter.unusedVariables false
set_option linter.unusedSimpArgs false
namespace GG
/-- the neighbour that is taken, of the first k ones -/
def near (c : Nat → Nat → Int) (F : Nat → Int) (t i : Nat) : Nat → Int
  | 0 => -1
  | k + 1 => if i ≠ t ∧ F i < 65535 ∧ 0 < c i k ∧ F i = F k + c i k then (k : Int) else near c F t i k
theorem near_is (c : Nat → Nat → Int) (F : Nat → Int) (t i : Nat) : ∀ n : Nat, (near c F t i n = -1 ∧ ∀ k, k < n → ¬ (i ≠ t ∧ F i < 65535 ∧ 0 < c i k ∧ F i = F k + c i k)) ∨
    ∃ k : Nat, near c F t i n = k ∧ k < n ∧ i ≠ t ∧ F i < 65535 ∧ 0 < c i k ∧ F i = F k + c i k
  | 0 => .inl ⟨rfl, fun k hk => by omega⟩
  | n + 1 => by
    unfold near
    by_cases h : i ≠ t ∧ F i < 65535 ∧ 0 < c i n ∧ F i = F n + c i n
    · rw [if_pos h]; exact .inr ⟨n, rfl, by omega, h⟩
    · rw [if_neg h]
      rcases near_is c F t i n with ⟨h1, h2⟩ | ⟨k, h1, hk, h2⟩
      · refine .inl ⟨h1, fun k hk => ?_⟩
        by_cases e : k = n
        · subst e; exact h
        · exact h2 k (by omega)
      · exact .inr ⟨k, h1, by omega, h2⟩
structure Nears (n : Nat) (F : Nat → Int) (t : Nat) (N : Nat → Int) : Prop where
  on : ∀ i, i < n → N i = -1 ∨ ∃ k : Nat, k < n ∧ N i = k ∧ F k < F i
  off : ∀ i, i < n → F i < 65535 → i ≠ t → N i ≠ -1
theorem nears {n : Nat} {c : Nat → Nat → Int} {t : Nat} {F : Nat → Int} {N : Nat → Int} (h : GP.IsFar n c t F) (hN : ∀ i, i < n → N i = near c F t i n) : Nears n F t N := by
  refine ⟨fun i hi => ?_, fun i hi hf hne => ?_⟩
  · rw [hN i hi]
    rcases near_is c F t i n with ⟨h1, _⟩ | ⟨k, h1, hk, _, _, h3, h4⟩
    · exact .inl h1
    · exact .inr ⟨k, hk, h1, by omega⟩
  · rw [hN i hi]
    rcases near_is c F t i n with ⟨h1, h2⟩ | ⟨k, h1, hk, _, _, h3, h4⟩
    · rcases h.by_ i hi hne with h5 | ⟨k, hk, hc, h5⟩
      · omega
      · exact absurd ⟨hne, hf, hc, h5⟩ (h2 k hk)
    · omega
theorem near_fine {n : Nat} {F : Nat → Int} {t : Nat} {N : Nat → Int} (h : Nears n F t N) : ∀ (m : Nat) (out : List Int) (f : Int), n + 1 - out.length ≤ m → Fine n out → (0 ≤ f ∧ f < n → ∀ x ∈ out, F f.toNat < F x.toNat) → Fine n (way n N out f)
  | 0, out, f, hm, hf, _ => by have := fine_len n out hf; omega
  | m + 1, out, f, hm, hf, hd => by
    by_cases hr : 0 ≤ f ∧ f < n
    · have hd := hd hr
      have hn : f ∉ out := fun hh => by have := hd f hh; omega
      rw [way_on hf hr hn]
      refine near_fine h m _ _ (by simp; omega) (hf.add hr hn) (fun hr2 x hx => ?_)
      have hF : F (N f.toNat).toNat < F f.toNat := by
        rcases h.on f.toNat (by omega) with h1 | ⟨k, hk, h1, h2⟩
        · omega
        · rw [h1]; simpa using h2
      rcases List.mem_append.1 hx with hx | hx
      · have := hd x hx; omega
      · simp at hx; subst hx; exact hF
    · rw [way_out hf hr]; exact hf
theorem fine_tw {n : Nat} {L : List Int} (h : Fine n L) : tw L = false := by
  refine decide_eq_false (fun ⟨i, hi, he⟩ => ?_)
  have h1 : i < L.length := by omega
  have h2 : L.length - 1 < L.length := by omega
  rw [List.getD_eq_getElem?_getD, List.getD_eq_getElem?_getD, List.getElem?_eq_getElem h1, List.getElem?_eq_getElem h2] at he
  exact (List.pairwise_iff_getElem.1 h.nodup) i (L.length - 1) h1 h2 (by omega) he
theorem near_acy {n : Nat} {F : Nat → Int} {t : Nat} {N : Nat → Int} (h : Nears n F t N) : acy n N = true :=
  decide_eq_true (fun i hi => fine_tw (near_fine h _ [] _ (Nat.le_refl _) (Fine.nil n) (fun _ x hx => by cases hx)))
theorem near_last {n : Nat} {F : Nat → Int} {t : Nat} {N : Nat → Int} (h : Nears n F t N) : ∀ (m : Nat) (out : List Int) (f : Int), n + 1 - out.length ≤ m → Fine n out → (0 ≤ f ∧ f < n) → F f.toNat < 65535 → (∀ x ∈ out, F f.toNat < F x.toNat) →
    (way n N out f).getD ((way n N out f).length - 1) 0 = t
  | 0, out, f, hm, hf, _, _, _ => by have := fine_len n out hf; omega
  | m + 1, out, f, hm, hf, hr, h65, hd => by
    have hn : f ∉ out := fun hh => by have := hd f hh; omega
    rw [way_on hf hr hn]
    rcases h.on f.toNat (by omega) with h1 | ⟨k, hk, h1, h2⟩
    · rw [h1, way_out (hf.add hr hn) (by omega)]
      have : f.toNat = t := by
        by_cases e : f.toNat = t
        · exact e
        · exact absurd h1 (h.off f.toNat (by omega) h65 e)
      simp [List.getD_eq_getElem?_getD]
      omega
    · rw [h1]
      refine near_last h m _ _ (by simp; omega) (hf.add hr hn) (by omega) (by simp; omega) (fun x hx => ?_)
      rcases List.mem_append.1 hx with hx | hx
      · have := hd x hx; simp; omega
      · simp at hx; subst hx; simpa using h2
end GG
end Go.Proofs.Ytbghebncmfjgiaa
