/-
  Following numbers: plain laws. No program. Conditions: those that each law names.
-/
import Derived.Test.YtebkpjefdaieaaaGraphS
namespace Go.Proofs.Ytebkpjefdaieaaa
open Go.RowKit
set_option linter.unusedVariables false
set_option linter.unusedSimpArgs false
namespace GG
/-- what following comes to: out is what it came by -/
def wy (n : Nat) (N : Nat → Int) : Nat → List Int → Int → List Int
  | 0, out, _ => out
  | k + 1, out, f => if 0 ≤ f ∧ f < n then (if f ∈ out then out ++ [f] else wy n N k (out ++ [f]) (N f.toNat)) else out
/-- unlike numbers below n -/
structure Fine (n : Nat) (out : List Int) : Prop where
  nodup : out.Nodup
  range : ∀ x ∈ out, 0 ≤ x ∧ x < n
theorem fine_len : ∀ (n : Nat) (out : List Int), Fine n out → out.length ≤ n
  | 0, out, h => by
    cases out with
    | nil => simp
    | cons x l => have := h.range x (by simp); omega
  | n + 1, out, h => by
    have h1 : (out.erase (n : Int)).length ≤ n := fine_len n _ ⟨h.nodup.erase _, fun x hx => by
      have hm := (h.nodup.mem_erase_iff).1 hx
      have := h.range x hm.2
      have := hm.1
      omega⟩
    have := List.length_erase (a := (n : Int)) (l := out)
    split at this <;> omega
theorem Fine.nil (n : Nat) : Fine n [] := ⟨by simp, by simp⟩
theorem Fine.add {n : Nat} {out : List Int} {f : Int} (h : Fine n out) (hf : 0 ≤ f ∧ f < n) (hn : f ∉ out) : Fine n (out ++ [f]) :=
  ⟨by rw [List.nodup_append]; exact ⟨h.nodup, by simp, fun a ha b hb => by simp at hb; subst hb; rintro rfl; exact hn ha⟩, fun x hx => by
    rcases List.mem_append.1 hx with hx | hx
    · exact h.range x hx
    · simp at hx; subst hx; exact hf⟩
/-- with fuel enough -/
def way (n : Nat) (N : Nat → Int) (out : List Int) (f : Int) : List Int := wy n N (n + 1 - out.length) out f
theorem way_out {n : Nat} {N : Nat → Int} {out : List Int} {f : Int} (h : Fine n out) (hf : ¬ (0 ≤ f ∧ f < n)) : way n N out f = out := by
  have := fine_len n out h
  rw [way, show n + 1 - out.length = (n - out.length) + 1 from by omega, wy, if_neg hf]
theorem way_back {n : Nat} {N : Nat → Int} {out : List Int} {f : Int} (h : Fine n out) (hf : 0 ≤ f ∧ f < n) (hm : f ∈ out) : way n N out f = out ++ [f] := by
  have := fine_len n out h
  rw [way, show n + 1 - out.length = (n - out.length) + 1 from by omega, wy, if_pos hf, if_pos hm]
theorem way_on {n : Nat} {N : Nat → Int} {out : List Int} {f : Int} (h : Fine n out) (hf : 0 ≤ f ∧ f < n) (hm : f ∉ out) : way n N out f = way n N (out ++ [f]) (N f.toNat) := by
  have := fine_len n out h
  rw [way, show n + 1 - out.length = (n - out.length) + 1 from by omega, wy, if_pos hf, if_neg hm, way, List.length_append]
  congr 1
  simp only [List.length_cons, List.length_nil]
  omega
/-- what a way is: unlike numbers, and perhaps one of them once more -/
theorem way_is {n : Nat} {N : Nat → Int} : ∀ (k : Nat) (out : List Int) (f : Int), n + 1 - out.length ≤ k → Fine n out → Fine n (way n N out f) ∨ ∃ p x, way n N out f = p ++ [x] ∧ Fine n p ∧ x ∈ p
  | 0, out, f, hk, h => by have := fine_len n out h; omega
  | k + 1, out, f, hk, h => by
    by_cases hf : 0 ≤ f ∧ f < n
    · by_cases hm : f ∈ out
      · exact .inr ⟨out, f, way_back h hf hm, h, hm⟩
      · rw [way_on h hf hm]
        exact way_is k _ _ (by simp; omega) (h.add hf hm)
    · rw [way_out h hf]; exact .inl h
theorem way_pre {n : Nat} {N : Nat → Int} : ∀ (k : Nat) (out : List Int) (f : Int), n + 1 - out.length ≤ k → Fine n out → ∃ q, way n N out f = out ++ q
  | 0, out, f, hk, h => by have := fine_len n out h; omega
  | k + 1, out, f, hk, h => by
    by_cases hf : 0 ≤ f ∧ f < n
    · by_cases hm : f ∈ out
      · exact ⟨[f], way_back h hf hm⟩
      · rw [way_on h hf hm]
        obtain ⟨q, hq⟩ := way_pre k _ _ (by simp; omega) (h.add hf hm)
        exact ⟨[f] ++ q, by rw [hq]; simp⟩
    · rw [way_out h hf]; exact ⟨[], by simp⟩
theorem way_len {n : Nat} {N : Nat → Int} (f : Int) : (way n N [] f).length ≤ n + 1 := by
  rcases way_is (n := n) (N := N) _ [] f (Nat.le_refl _) (Fine.nil n) with h | ⟨p, x, e, h, _⟩
  · have := fine_len n _ h; omega
  · have := fine_len n _ h; rw [e]; simp; omega
theorem way_pos {n : Nat} {N : Nat → Int} {f : Int} (hf : 0 ≤ f ∧ f < n) : 0 < (way n N [] f).length := by
  rw [way_on (Fine.nil n) hf (by simp)]
  obtain ⟨q, hq⟩ := way_pre (N := N) _ ([] ++ [f]) (N f.toNat) (Nat.le_refl _) ((Fine.nil n).add hf (by simp))
  rw [hq]; simp
/-- is the last one there ahead, too? -/
def tw (L : List Int) : Bool := decide (∃ i, i < L.length - 1 ∧ L.getD i 0 = L.getD (L.length - 1) 0)
theorem tw_long {n : Nat} {N : Nat → Int} {f : Int} (h : n < (way n N [] f).length) : tw (way n N [] f) = true := by
  rcases way_is (n := n) (N := N) _ [] f (Nat.le_refl _) (Fine.nil n) with h' | ⟨p, x, e, h', hx⟩
  · have := fine_len n _ h'; omega
  · obtain ⟨i, hi, hxi⟩ := List.getElem_of_mem hx
    rw [e]
    refine decide_eq_true ⟨i, by simp; exact hi, ?_⟩
    simp [List.getD_eq_getElem?_getD, List.getElem?_append_left hi]
    rw [List.getElem?_eq_getElem hi, hxi]; rfl
/-- does following come back nowhere? -/
def acy (n : Nat) (N : Nat → Int) : Bool := decide (∀ i, i < n → tw (way n N [] (i : Int)) = false)
end GG
end Go.Proofs.Ytebkpjefdaieaaa
