/-
  Slices of numbers: what is read, and slices.Contains. Conditions: those that each theorem names.
-/
import Derived.Test.YtebkpjefdaieaaaGraphK
namespace Go.Proofs.Ytebkpjefdaieaaa
open Go.RowKit
set_option linter.unusedVariables false
set_option linter.unusedSimpArgs false
namespace GG
/-- a slice of n numbers -/
def Ints (w : World) (A : Option Addr) (n : Nat) (V : Nat → Int) : Prop := ∀ i, i < n → ∃ b o, A = some ⟨b, o, none⟩ ∧ b < w.heap.size ∧ w.cell? ⟨b, o + i, none⟩ = some (.int .i64 (V i))
theorem Ints.keep {w w' : World} {A : Option Addr} {n : Nat} {V : Nat → Int} (h : Ints w A n V) (hb : Below w.heap.size w w') : Ints w' A n V := fun i hi => by
  obtain ⟨b, o, hA, hl, hc⟩ := h i hi
  exact ⟨b, o, hA, Nat.lt_of_lt_of_le hl hb.size, later hb hc⟩
/-- the numbers in their cells -/
def nums (L : List Int) : List Value := L.map (Value.int .i64)
theorem Ints.own {w : World} {base n : Nat} {cap : Nat} {A : Option Addr} {L : List Int} (h : w.ownsRow base 3 1 (.slice A n cap) n (nums L)) : Ints w A n (fun i => L.getD i 0) := fun i hi => by
  obtain ⟨g, c, hv, hb, hc, hl⟩ := own_form h (by omega)
  simp only [Value.slice.injEq] at hv
  obtain ⟨rfl, _, rfl⟩ := hv
  have hlen : L.length = n := by have := h.1; simpa [nums] using this
  refine ⟨g, 0, rfl, hl, ?_⟩
  rw [Nat.zero_add]
  refine own_cell h i _ ?_
  simp [nums, List.getD_eq_getElem?_getD, List.getElem?_eq_getElem (show i < L.length by omega)]
set_option maxHeartbeats 1600000 in
theorem index_any (A : Option Addr) (n cap : Nat) (V : Nat → Int) (x : Int) (w : World) (hn : n ≤ 9223372036854775807) (h : Ints w A n V) :
    Calls Try.prog 69 #[.slice A n cap, .int .i64 x] w fun e w' => (∃ r : Int, e = .returned (.int .i64 r) ∧ (0 ≤ r ↔ ∃ i, i < n ∧ V i = x)) ∧ w = w' := by
  have H := Lib.hid h
  clear h
  go_enter Try.func69, Try.ntmps69
  go_wp2
  go_loopw [8] (fun i wr => wr = w ∧ ∃ k : Nat, k ≤ n ∧ i = .int .i64 k ∧ ∀ j, j < k → V j ≠ x) (fun i _ => n - (intOf i).toNat)
  case atStart => exact ⟨rfl, 0, Nat.zero_le _, rfl, fun j hj => absurd hj (Nat.not_lt_zero _)⟩
  case round =>
    obtain ⟨rfl, k, hk, rfl, hne⟩ := hrel
    have HNE := Lib.hid hne
    clear hne
    by_cases hlt : k < n
    · have hlt' : (k : Int) < (n : Int) := by omega
      have k0 : (0 : Int) ≤ (k : Int) := by omega
      obtain ⟨b, o, rfl, hl, hc⟩ := H.out k hlt
      by_cases hx : V k = x
      · have hx' : (x == V k) = true := by simp [hx]
        go_wp2
        go_ret
        exact ⟨⟨k, rfl, ⟨fun _ => ⟨k, hlt, hx⟩, fun _ => k0⟩⟩, rfl⟩
      · have hx' : (x == V k) = false := by simp; exact fun e => hx e.symm
        go_wp2
        go_roundw
        case rel =>
          refine ⟨trivial, k + 1, by omega, by go_num, fun j hj => ?_⟩
          by_cases e : j = k
          · subst e; exact hx
          · exact HNE.out j (by omega)
        case measure => simp [intOf]; omega
    · obtain rfl : k = n := by omega
      go_wp2
      go_ret
      exact ⟨⟨-1, rfl, ⟨fun h => absurd h (by omega), fun ⟨i, hi, he⟩ => absurd he (HNE.out i hi)⟩⟩, rfl⟩
set_option maxHeartbeats 1600000 in
theorem contains_any (A : Option Addr) (n cap : Nat) (V : Nat → Int) (x : Int) (w : World) (hn : n ≤ 9223372036854775807) (h : Ints w A n V) :
    Calls Try.prog 61 #[.slice A n cap, .int .i64 x] w fun e w' => e = .returned (.bool (decide (∃ i, i < n ∧ V i = x))) ∧ w = w' := by
  go_enter Try.func61, Try.ntmps61
  go_wp2_with (go_at_call 69; refine (index_any A n cap V x w hn h).mono ?_; rintro e w' ⟨⟨r, rfl, hr⟩, rfl⟩)
  go_ret
  exact ⟨rfl, rfl⟩
end GG
end Go.Proofs.Ytebkpjefdaieaaa
