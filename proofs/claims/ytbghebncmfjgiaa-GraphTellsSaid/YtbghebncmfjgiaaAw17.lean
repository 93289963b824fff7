/-
  The laws' awake of layer 17. Conditions: those that each theorem names.
-/
import Derived.Test.YtbghebncmfjgiaaGraphB
namespace Go.Proofs.Ytbghebncmfjgiaa
open Go Go.RowKit
set_option linter.unusedVariables false
set_option linter.unusedSimpArgs false
namespace GG
/-- costs that links may have -/
structure Good (c : Nat → Nat → Int) : Prop where
  sym : ∀ i k, c i k = c k i
  low : ∀ i k, 0 ≤ c i k
  high : ∀ i k, c i k ≤ 1000
theorem good_zero : Good (fun _ _ => 0) := ⟨fun _ _ => rfl, fun _ _ => by omega, fun _ _ => by omega⟩
theorem good_put {c : Nat → Nat → Int} (h : Good c) (a b : Nat) (x : Int) (h0 : 0 ≤ x) (h1 : x ≤ 1000) : Good (put (put c a b x) b a x) := by
  have e : ∀ i k, put (put c a b x) b a x i k = if (i = a ∧ k = b) ∨ (i = b ∧ k = a) then x else c i k := by
    intro i k
    unfold put
    by_cases h1 : i = b ∧ k = a
    · rw [if_pos h1, if_pos (.inr h1)]
    · rw [if_neg h1]
      by_cases h2 : i = a ∧ k = b
      · rw [if_pos h2, if_pos (.inl h2)]
      · rw [if_neg h2, if_neg (by rintro (h | h); exact h2 h; exact h1 h)]
  refine ⟨fun i k => ?_, fun i k => ?_, fun i k => ?_⟩
  · rw [e, e]
    by_cases h1 : (i = a ∧ k = b) ∨ (i = b ∧ k = a)
    · rw [if_pos h1, if_pos (by rcases h1 with ⟨p, q⟩ | ⟨p, q⟩; exact .inr ⟨q, p⟩; exact .inl ⟨q, p⟩)]
    · rw [if_neg h1, if_neg (fun h2 => h1 (by rcases h2 with ⟨p, q⟩ | ⟨p, q⟩; exact .inr ⟨q, p⟩; exact .inl ⟨q, p⟩)), h.sym i k]
  · rw [e]; have := h.low i k; split <;> omega
  · rw [e]; have := h.high i k; split <;> omega
theorem below_only {w W w' : World} {g : Nat} (hB : Below w.heap.size w W) (hg : w.heap.size ≤ g) (h : Only (fun i => i = g) W w') : Below w.heap.size w w' :=
  hB.trans (h.below hB.size (fun i hi e => by omega))
theorem lit_ints (w : World) (L : List Int) : Ints (w.alloc (.cells (nums L).toArray 3)) (some ⟨w.heap.size, 0, none⟩) L.length (fun i => L.getD i 0) := by
  have h : Row (w.alloc (.cells (nums L).toArray 3)) w.heap.size L := by
    show (w.alloc _).heap[w.heap.size]? = _
    simp only [World.alloc]; exact Array.getElem?_push_size
  exact h.ints
theorem Far.ints {w : World} {g n : Nat} {F : Nat → Int} (h : Far w g n F) : Ints w (some ⟨g, 0, none⟩) n F := fun i hi => ⟨g, 0, rfl, blk_lt h, by rw [Nat.zero_add]; exact h.cell i hi⟩
def c1 : Nat → Nat → Int := put (put (fun _ _ => 0) 0 1 1) 1 0 1
def c2 : Nat → Nat → Int := put (put c1 1 2 2) 2 1 2
def c3 : Nat → Nat → Int := put (put c2 0 2 5) 2 0 5
theorem good3 : Good c3 := good_put (good_put (good_put good_zero 0 1 1 (by omega) (by omega)) 1 2 2 (by omega) (by omega)) 0 2 5 (by omega) (by omega)
def F3 (i : Nat) : Int := if i = 0 then 3 else if i = 1 then 2 else 0
theorem three {p : Nat → Prop} (h0 : p 0) (h1 : p 1) (h2 : p 2) : ∀ i, i < 3 → p i := fun i hi => by
  have : i = 0 ∨ i = 1 ∨ i = 2 := by omega
  rcases this with rfl | rfl | rfl <;> assumption
theorem far3 : GP.IsFar 3 c3 2 F3 := by
  refine ⟨rfl, three (by decide) (by decide) (by decide), three (by decide) (by decide) (by decide), three (by decide) (by decide) (fun h => absurd rfl h), fun i k hi hk => ?_, three (fun _ => .inr ⟨1, by omega, by decide, by decide⟩) (fun _ => .inr ⟨2, by omega, by decide, by decide⟩) (fun h => absurd rfl h)⟩
  have a : i = 0 ∨ i = 1 ∨ i = 2 := by omega
  have b : k = 0 ∨ k = 1 ∨ k = 2 := by omega
  rcases a with rfl | rfl | rfl <;> rcases b with rfl | rfl | rfl <;> decide
theorem cst3 : cst 3 c3 2 1 = 2 := by decide
theorem lnk_a : lnk 3 0 0 1 = 2 := by decide
theorem lnk_b : lnk 3 0 1 1001 = 1 := by decide
theorem acy_a : acy 3 (fun i => ([1, -1, 1] : List Int).getD i 0) = true := by decide
theorem acy_b : acy 3 (fun i => ([1, 2, 0] : List Int).getD i 0) = false := by decide
theorem way_a : way 3 (fun i => ([1, 2, 1] : List Int).getD i 0) [] 0 = [0, 1, 2, 1] := by decide
theorem same_a (F : Nat → Int) (h : ∀ i, i < 3 → F i = F3 i) : sam 3 3 F (fun i => ([3, 2, 0] : List Int).getD i 0) = true := sam_yes (fun j hj => by
  rw [h j hj]
  have : j = 0 ∨ j = 1 ∨ j = 2 := by omega
  rcases this with rfl | rfl | rfl <;> rfl)
theorem same_b : sam 4 4 (fun i => ([0, 1, 2, 1] : List Int).getD i 0) (fun i => ([0, 1, 2, 1] : List Int).getD i 0) = true := sam_yes (fun j hj => rfl)
end GG
end Go.Proofs.Ytbghebncmfjgiaa
