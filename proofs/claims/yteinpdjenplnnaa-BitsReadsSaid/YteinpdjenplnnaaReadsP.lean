/-
  Two readers side by side: plain laws. No program. Conditions: those that each law names.
-/
import Derived.Test.YteinpdjenplnnaaBitsB
import Derived.Test.YteinpdjenplnnaaOpen04
import Derived.Test.YteinpdjenplnnaaHeld
namespace Go.Proofs.Yteinpdjenplnnaa
open Go Go.RowKit
set_option linter.unusedVariables false
set_option linter.unusedSimpArgs false
namespace BW
theorem nz_le (s : ByteArray) : ∀ (f a : Nat), a ≤ 8 * s.size → a + nz s a f ≤ 8 * s.size
  | 0, a, h => by simp [nz]; exact h
  | f + 1, a, h => by
    unfold nz
    split
    · have := nz_le s f (a + 1) (by omega); omega
    · omega
theorem rb_le (s : ByteArray) (a : Nat) (e n : Int) (h : a ≤ 8 * s.size) : (rb s a e n).2.1 ≤ 8 * s.size := by
  unfold rb
  split
  · exact h
  · split
    · exact h
    · split
      · exact h
      · simp only; omega
theorem rc_le (s : ByteArray) (a : Nat) (e : Int) (h : a ≤ 8 * s.size) : (rc s a e).2.1 ≤ 8 * s.size := by
  have := nz_le s 64 a h
  unfold rc
  split
  · exact h
  · split
    · simp only; omega
    · split
      · simp only; omega
      · split
        · simp only; omega
        · simp only; omega
theorem rb_two {s : ByteArray} {a b : Nat} {e n : Int} (h : e = 0 → b = a) : (rb s b e n).1 = (rb s a e n).1 ∧ (rb s b e n).2.2 = (rb s a e n).2.2 ∧ ((rb s a e n).2.2 = 0 → (rb s b e n).2.1 = (rb s a e n).2.1) := by
  by_cases he : e = 0
  · rw [h he]; exact ⟨rfl, rfl, fun _ => rfl⟩
  · rw [rb_off he, rb_off he]; exact ⟨rfl, rfl, fun h => absurd h he⟩
theorem rc_two {s : ByteArray} {a b : Nat} {e : Int} (h : e = 0 → b = a) : (rc s b e).1 = (rc s a e).1 ∧ (rc s b e).2.2 = (rc s a e).2.2 ∧ ((rc s a e).2.2 = 0 → (rc s b e).2.1 = (rc s a e).2.1) := by
  by_cases he : e = 0
  · rw [h he]; exact ⟨rfl, rfl, fun _ => rfl⟩
  · rw [rc_off he, rc_off he]; exact ⟨rfl, rfl, fun h => absurd h he⟩
theorem rd_two {s : ByteArray} {a b : Nat} {e : Int} (h : e = 0 → b = a) : rd s b e = rd s a e := by
  by_cases he : e = 0
  · rw [h he]
  · unfold rd; rw [if_pos he, if_pos he]
end BW
end Go.Proofs.Yteinpdjenplnnaa
