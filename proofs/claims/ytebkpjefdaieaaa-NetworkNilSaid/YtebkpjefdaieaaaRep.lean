/-
  slices.Repeat of one number, and what it leans on. Conditions: those that each theorem names.
-/
import Derived.Test.YtebkpjefdaieaaaAcycR
import Derived.Laws.CopyOwn
namespace Go.Proofs.Ytebkpjefdaieaaa
open Go.RowKit
set_option linter.unusedVariables false
set_option linter.unusedSimpArgs false
namespace GG
/-- a block of numbers -/
def Row (w : World) (g : Nat) (L : List Int) : Prop := w.heap[g]? = some (.cells (nums L).toArray 3 (0, 0))
theorem Row.cell {w : World} {g : Nat} {L : List Int} (h : Row w g L) (i : Nat) (hi : i < L.length) : w.cell? ⟨g, i, none⟩ = some (.int .i64 (L.getD i 0)) := by
  rw [blk_cell h i]
  simp [nums, List.getD_eq_getElem?_getD, List.getElem?_eq_getElem hi]
theorem Row.free {w : World} {g : Nat} {L : List Int} (h : Row w g L) (i : Nat) : w.frozen? ⟨g, i, none⟩ = false := blk_free h i
theorem Row.set {w : World} {g : Nat} {L : List Int} (h : Row w g L) (i : Nat) (x : Int) : Row (w.setCell ⟨g, i, none⟩ (.int .i64 x)) g (L.set i x) := by
  have := blk_set h i (.int .i64 x)
  simpa [Row, nums, List.map_set] using this
theorem Row.keep {w w' : World} {g : Nat} {L : List Int} (h : Row w g L) (hb : Below w.heap.size w w') : Row w' g L := (hb.block g (blk_lt h)).trans h
theorem Row.ints {w : World} {g : Nat} {L : List Int} (h : Row w g L) : Ints w (some ⟨g, 0, none⟩) L.length (fun i => L.getD i 0) := fun i hi =>
  ⟨g, 0, rfl, blk_lt h, by rw [Nat.zero_add]; exact h.cell i hi⟩
theorem Row.of_own {w : World} {base g n : Nat} {L : List Int} (h : w.ownsRow base 3 1 (.slice (some ⟨g, 0, none⟩) n n) n (nums L)) : Row w g L := by
  obtain ⟨h1, h2⟩ := h
  rcases h2 with ⟨h2, _⟩ | ⟨g', cap', cur, hv, hb, hh, hn, hm, hs, ht⟩
  · cases h2
  · simp only [Value.slice.injEq, Option.some.injEq, Addr.mk.injEq, and_true, true_and] at hv
    obtain ⟨rfl, rfl⟩ := hv
    have e : cur.toList = nums L := by
      rw [← ht]; exact (List.take_of_length_le (by simp [hs])).symm
    rw [Row, hh, ← e]
set_option maxHeartbeats 1600000 in
theorem mul64_any (n : Nat) (w : World) (h1 : 1 ≤ n) (h6 : n ≤ 6) :
    Calls Try.prog 71 #[.int .u64 1, .int .u64 n] w fun e w' => e = .returned (.tuple #[.int .u64 0, .int .u64 n]) ∧ w = w' := by
  have : n = 1 ∨ n = 2 ∨ n = 3 ∨ n = 4 ∨ n = 5 ∨ n = 6 := by omega
  rcases this with rfl | rfl | rfl | rfl | rfl | rfl
  all_goals
    go_enter Try.func71, Try.ntmps71
    go_wp2
    go_ret2
    exact ⟨rfl, rfl⟩
set_option maxHeartbeats 1600000 in
theorem mul_any (n : Nat) (w : World) (h1 : 1 ≤ n) (h6 : n ≤ 6) :
    Calls Try.prog 68 #[.int .u64 1, .int .u64 n] w fun e w' => e = .returned (.tuple #[.int .u64 0, .int .u64 n]) ∧ w = w' := by
  go_enter Try.func68, Try.ntmps68
  go_wp2_with (go_at_call 71; refine (mul64_any n w h1 h6).mono ?_; rintro e w' ⟨rfl, rfl⟩)
  go_ret2
  exact ⟨rfl, rfl⟩
end GG
end Go.Proofs.Ytebkpjefdaieaaa
