/-
  Package graph: what its methods do to its memory. Conditions: those that each theorem names.
-/
import Derived.Test.YtebkpjefdaieaaaProg
import Derived.WalkKit
import Derived.WalkLawsBesides
import Derived.KernelRfl
import Derived.Lib.Hide
import Derived.Outline
import Derived.Deep.RegionWith
import Derived.StillTailTactics
import Derived.Below
import Derived.Test.YtebkpjefdaieaaaFrame
import Derived.Test.YtebkpjefdaieaaaGen
namespace Go.Proofs.Ytebkpjefdaieaaa
open Go.RowKit
set_option linter.unusedVariables false
set_option linter.unusedSimpArgs false
namespace GG
/-- a graph in block g: n nodes, and what links cost -/
structure IsG (w : World) (g n : Nat) (c : Nat → Nat → Int) : Prop where
  blk : ∃ cs, w.heap[g]? = some (.cells cs 82 (0, 0)) ∧ cs.size = 37 ∧ cs[0]? = some (.int .i64 n) ∧ ∀ a b, a < 6 → b < 6 → cs[1 + a * 6 + b]? = some (.int .i64 (c a b))
  n1 : 1 ≤ n
  n6 : n ≤ 6
theorem IsG.len {w : World} {g n : Nat} {c : Nat → Nat → Int} (h : IsG w g n c) : w.cell? ⟨g, 0, none⟩ = some (.int .i64 n) := by
  obtain ⟨cs, hb, _, h0, _⟩ := h.blk
  rw [blk_cell hb 0, h0]
theorem IsG.cost {w : World} {g n : Nat} {c : Nat → Nat → Int} (h : IsG w g n c) {a b : Nat} (ha : a < 6) (hb : b < 6) : w.cell? ⟨g, 1 + a * 6 + b, none⟩ = some (.int .i64 (c a b)) := by
  obtain ⟨cs, hb', _, _, hc⟩ := h.blk
  rw [blk_cell hb' _, hc a b ha hb]
theorem IsG.free {w : World} {g n : Nat} {c : Nat → Nat → Int} (h : IsG w g n c) (i : Nat) : w.frozen? ⟨g, i, none⟩ = false := by
  obtain ⟨cs, hb', _⟩ := h.blk
  exact blk_free hb' i
/-- a cost set -/
def put (c : Nat → Nat → Int) (a b : Nat) (x : Int) : Nat → Nat → Int := fun i j => if i = a ∧ j = b then x else c i j
theorem IsG.set {w : World} {g n : Nat} {c : Nat → Nat → Int} (h : IsG w g n c) {a b : Nat} (ha : a < 6) (hb : b < 6) (x : Int) : IsG (w.setCell ⟨g, 1 + a * 6 + b, none⟩ (.int .i64 x)) g n (put c a b x) := by
  obtain ⟨cs, hb', hs, h0, hc⟩ := h.blk
  refine ⟨⟨cs.setIfInBounds (1 + a * 6 + b) (.int .i64 x), blk_set hb' _ _, by simpa using hs, ?_, ?_⟩, h.n1, h.n6⟩
  · rw [Array.getElem?_setIfInBounds]
    rw [if_neg (by omega)]; exact h0
  · intro i j hi hj
    rw [Array.getElem?_setIfInBounds]
    unfold put
    by_cases e : i = a ∧ j = b
    · obtain ⟨rfl, rfl⟩ := e
      simp [hs]; omega
    · rw [if_neg (by omega), if_neg e]; exact hc i j hi hj
/-- the fresh block that 'New' makes -/
theorem new_isG (w : World) (n : Nat) (h1 : 1 ≤ n) (h6 : n ≤ 6) : IsG (w.alloc (.cells (#[Value.int .i64 n] ++ Array.replicate 36 (.int .i64 0)) 82)) w.heap.size n (fun _ _ => 0) := by
  refine ⟨⟨_, by simp only [World.alloc]; exact Array.getElem?_push_size, by simp, by simp, ?_⟩, h1, h6⟩
  intro a b ha hb
  rw [Array.getElem?_append_right (by simp; omega), Array.getElem?_replicate, if_pos (by simp; omega)]
set_option maxHeartbeats 800000 in
theorem len_any (g n : Nat) (c : Nat → Nat → Int) (w : World) (h : IsG w g n c) :
    Calls Try.prog 67 #[.pointer (some ⟨g, 0, none⟩)] w fun e w' => e = .returned (.int .i64 n) ∧ w = w' := by
  have c0 := h.len
  clear h
  go_enter Try.func67, Try.ntmps67
  go_wp2
  go_ret
  exact ⟨rfl, rfl⟩
set_option maxHeartbeats 800000 in
theorem len_nil (w : World) : Calls Try.prog 67 #[.pointer none] w fun e w' => e = .returned (.int .i64 0) ∧ w = w' := by
  go_enter Try.func67, Try.ntmps67
  go_wp2
  go_ret
  exact ⟨rfl, rfl⟩
/-- is there such a node? -/
def ok (n : Nat) (a : Int) : Bool := decide (0 ≤ a) && decide (a < n)
set_option maxHeartbeats 800000 in
theorem is_any (g n : Nat) (c : Nat → Nat → Int) (i : Int) (w : World) (h : IsG w g n c) :
    Calls Try.prog 54 #[.pointer (some ⟨g, 0, none⟩), .int .i64 i] w fun e w' => e = .returned (.bool (ok n i)) ∧ w = w' := by
  unfold ok
  have H := Lib.hid h
  clear h
  by_cases h0 : 0 ≤ i
  · go_enter Try.func54, Try.ntmps54
    go_wp2_with (go_at_call 67; refine (len_any g n c w H.out).mono ?_; rintro e w' ⟨rfl, rfl⟩)
    go_ret
    exact ⟨by simp [h0], rfl⟩
  · go_enter Try.func54, Try.ntmps54
    go_wp2
    go_ret
    exact ⟨by simp; omega, rfl⟩
set_option maxHeartbeats 800000 in
theorem is_nil (i : Int) (w : World) :
    Calls Try.prog 54 #[.pointer none, .int .i64 i] w fun e w' => e = .returned (.bool false) ∧ w = w' := by
  by_cases h0 : 0 ≤ i
  · have h1 : decide (i < 0) = false := by simp; omega
    go_enter Try.func54, Try.ntmps54
    go_wp2_with (go_at_call 67; refine (len_nil w).mono ?_; rintro e w' ⟨rfl, rfl⟩)
    go_ret
    exact ⟨rfl, rfl⟩
  · go_enter Try.func54, Try.ntmps54
    go_wp2
    go_ret
    exact ⟨rfl, rfl⟩
set_option maxHeartbeats 800000 in
theorem new_any (n : Int) (w : World) (h1 : 1 ≤ n) (h6 : n ≤ 6) :
    Calls Try.prog 26 #[.int .i64 n] w fun e w' => e = .returned (.tuple #[.pointer (some ⟨w.heap.size, 0, none⟩), .int .i64 0]) ∧ w.alloc (.cells (#[Value.int .i64 n] ++ Array.replicate 36 (.int .i64 0)) 82) = w' := by
  have h1' : ¬ n < 1 := by omega
  have h6' : ¬ 6 < n := by omega
  go_enter Try.func26, Try.ntmps26
  go_wp2
  go_ret2
  exact ⟨rfl, rfl⟩
set_option maxHeartbeats 800000 in
theorem new_bad (n : Int) (w : World) (h : n < 1 ∨ 6 < n) :
    Calls Try.prog 26 #[.int .i64 n] w fun e w' => e = .returned (.tuple #[.pointer none, .int .i64 1]) ∧ w = w' := by
  by_cases h1 : n < 1
  · go_enter Try.func26, Try.ntmps26
    go_wp2
    go_ret2
    exact ⟨rfl, rfl⟩
  · have h6 : 6 < n := by omega
    go_enter Try.func26, Try.ntmps26
    go_wp2
    go_ret2
    exact ⟨rfl, rfl⟩
end GG
end Go.Proofs.Ytebkpjefdaieaaa
