/-
  Joined texts: GraphG GraphL GraphK GraphS WayP Way WayR Twice Acyc AcycR Rep Repeat GraphP Far GraphB GraphA. Conditions: those that each theorem names.
-/
import Derived.Test.YtebkpjefdaieaaaProg
import Derived.WalkKit
import Derived.WalkLawsBesides
import Derived.KernelRfl
import Derived.Lib.Hide
import Derived.Outline
import Derived.Deep.RegionWith
import Derived.StillTailTactics
import Derived.Below
import Derived.Test.YtebkpjefdaieaaaJa
import Derived.BigRegion
import Derived.Deep.DeepCutAuto
import Derived.Deep.CutBlock
import Derived.Deep.AppendLies
import Derived.OwnWalk
import Derived.Laws.CopyOwn
import Derived.ScopeJumps
/-
  Package graph: what its methods do to its memory. Conditions: those that each theorem names.
-/
namespace Go.Proofs.Ytebkpjefdaieaaa
open Go.RowKit
set_option linter.unusedVariables false
set_option linter.unusedSimpArgs false
namespace GG
/-- a graph in block g: n nodes, and what links cost -/
structure IsG (w : World) (g n : Nat) (c : Nat → Nat → Int) : Prop where
  blk : ∃ cs, w.heap[g]? = some (.cells cs 82 (0, 0)) ∧ cs.size = 37 ∧ cs[0]? = some (.int .i64 n) ∧ ∀ a b, a < 6 → b < 6 → cs[1 + a * 6 + b]? = some (.int .i64 (c a b))
  n1 : 1 ≤ n
  n6 : n ≤ 6
theorem IsG.len {w : World} {g n : Nat} {c : Nat → Nat → Int} (h : IsG w g n c) : w.cell? ⟨g, 0, none⟩ = some (.int .i64 n) := by
  obtain ⟨cs, hb, _, h0, _⟩ := h.blk
  rw [blk_cell hb 0, h0]
theorem IsG.cost {w : World} {g n : Nat} {c : Nat → Nat → Int} (h : IsG w g n c) {a b : Nat} (ha : a < 6) (hb : b < 6) : w.cell? ⟨g, 1 + a * 6 + b, none⟩ = some (.int .i64 (c a b)) := by
  obtain ⟨cs, hb', _, _, hc⟩ := h.blk
  rw [blk_cell hb' _, hc a b ha hb]
theorem IsG.free {w : World} {g n : Nat} {c : Nat → Nat → Int} (h : IsG w g n c) (i : Nat) : w.frozen? ⟨g, i, none⟩ = false := by
  obtain ⟨cs, hb', _⟩ := h.blk
  exact blk_free hb' i
/-- a cost set -/
def put (c : Nat → Nat → Int) (a b : Nat) (x : Int) : Nat → Nat → Int := fun i j => if i = a ∧ j = b then x else c i j
theorem IsG.set {w : World} {g n : Nat} {c : Nat → Nat → Int} (h : IsG w g n c) {a b : Nat} (ha : a < 6) (hb : b < 6) (x : Int) : IsG (w.setCell ⟨g, 1 + a * 6 + b, none⟩ (.int .i64 x)) g n (put c a b x) := by
  obtain ⟨cs, hb', hs, h0, hc⟩ := h.blk
  refine ⟨⟨cs.setIfInBounds (1 + a * 6 + b) (.int .i64 x), blk_set hb' _ _, by simpa using hs, ?_, ?_⟩, h.n1, h.n6⟩
  · rw [Array.getElem?_setIfInBounds]
    rw [if_neg (by omega)]; exact h0
  · intro i j hi hj
    rw [Array.getElem?_setIfInBounds]
    unfold put
    by_cases e : i = a ∧ j = b
    · obtain ⟨rfl, rfl⟩ := e
      simp [hs]; omega
    · rw [if_neg (by omega), if_neg e]; exact hc i j hi hj
/-- the fresh block that 'New' makes -/
theorem new_isG (w : World) (n : Nat) (h1 : 1 ≤ n) (h6 : n ≤ 6) : IsG (w.alloc (.cells (#[Value.int .i64 n] ++ Array.replicate 36 (.int .i64 0)) 82)) w.heap.size n (fun _ _ => 0) := by
  refine ⟨⟨_, by simp only [World.alloc]; exact Array.getElem?_push_size, by simp, by simp, ?_⟩, h1, h6⟩
  intro a b ha hb
  rw [Array.getElem?_append_right (by simp; omega), Array.getElem?_replicate, if_pos (by simp; omega)]
set_option maxHeartbeats 800000 in
theorem len_any (g n : Nat) (c : Nat → Nat → Int) (w : World) (h : IsG w g n c) :
    Calls Try.prog 67 #[.pointer (some ⟨g, 0, none⟩)] w fun e w' => e = .returned (.int .i64 n) ∧ w = w' := by
  have c0 := h.len
  clear h
  go_enter Try.func67, Try.ntmps67
  go_wp2
  go_ret
  exact ⟨rfl, rfl⟩
set_option maxHeartbeats 800000 in
theorem len_nil (w : World) : Calls Try.prog 67 #[.pointer none] w fun e w' => e = .returned (.int .i64 0) ∧ w = w' := by
  go_enter Try.func67, Try.ntmps67
  go_wp2
  go_ret
  exact ⟨rfl, rfl⟩
/-- is there such a node? -/
def ok (n : Nat) (a : Int) : Bool := decide (0 ≤ a) && decide (a < n)
set_option maxHeartbeats 800000 in
theorem is_any (g n : Nat) (c : Nat → Nat → Int) (i : Int) (w : World) (h : IsG w g n c) :
    Calls Try.prog 54 #[.pointer (some ⟨g, 0, none⟩), .int .i64 i] w fun e w' => e = .returned (.bool (ok n i)) ∧ w = w' := by
  unfold ok
  have H := Lib.hid h
  clear h
  by_cases h0 : 0 ≤ i
  · go_enter Try.func54, Try.ntmps54
    go_wp2_with (go_at_call 67; refine (len_any g n c w H.out).mono ?_; rintro e w' ⟨rfl, rfl⟩)
    go_ret
    exact ⟨by simp [h0], rfl⟩
  · go_enter Try.func54, Try.ntmps54
    go_wp2
    go_ret
    exact ⟨by simp; omega, rfl⟩
set_option maxHeartbeats 800000 in
theorem is_nil (i : Int) (w : World) :
    Calls Try.prog 54 #[.pointer none, .int .i64 i] w fun e w' => e = .returned (.bool false) ∧ w = w' := by
  by_cases h0 : 0 ≤ i
  · have h1 : decide (i < 0) = false := by simp; omega
    go_enter Try.func54, Try.ntmps54
    go_wp2_with (go_at_call 67; refine (len_nil w).mono ?_; rintro e w' ⟨rfl, rfl⟩)
    go_ret
    exact ⟨rfl, rfl⟩
  · go_enter Try.func54, Try.ntmps54
    go_wp2
    go_ret
    exact ⟨rfl, rfl⟩
set_option maxHeartbeats 800000 in
theorem new_any (n : Int) (w : World) (h1 : 1 ≤ n) (h6 : n ≤ 6) :
    Calls Try.prog 26 #[.int .i64 n] w fun e w' => e = .returned (.tuple #[.pointer (some ⟨w.heap.size, 0, none⟩), .int .i64 0]) ∧ w.alloc (.cells (#[Value.int .i64 n] ++ Array.replicate 36 (.int .i64 0)) 82) = w' := by
  have h1' : ¬ n < 1 := by omega
  have h6' : ¬ 6 < n := by omega
  go_enter Try.func26, Try.ntmps26
  go_wp2
  go_ret2
  exact ⟨rfl, rfl⟩
set_option maxHeartbeats 800000 in
theorem new_bad (n : Int) (w : World) (h : n < 1 ∨ 6 < n) :
    Calls Try.prog 26 #[.int .i64 n] w fun e w' => e = .returned (.tuple #[.pointer none, .int .i64 1]) ∧ w = w' := by
  by_cases h1 : n < 1
  · go_enter Try.func26, Try.ntmps26
    go_wp2
    go_ret2
    exact ⟨rfl, rfl⟩
  · have h6 : 6 < n := by omega
    go_enter Try.func26, Try.ntmps26
    go_wp2
    go_ret2
    exact ⟨rfl, rfl⟩
end GG
end Go.Proofs.Ytebkpjefdaieaaa

/-
  Package graph: Link and Cost. Conditions: those that each theorem names.
-/
namespace Go.Proofs.Ytebkpjefdaieaaa
open Go.RowKit
set_option linter.unusedVariables false
set_option linter.unusedSimpArgs false
namespace GG
/-- what Link answers -/
def lnk (n : Nat) (a b x : Int) : Int := if ok n a = true ∧ ok n b = true ∧ a ≠ b then (if x < 0 ∨ 1000 < x then 1 else 0) else 2
/-- the costs behind a Link -/
def lnc (n : Nat) (c : Nat → Nat → Int) (a b x : Int) : Nat → Nat → Int := if lnk n a b x = 0 then put (put c a.toNat b.toNat x) b.toNat a.toNat x else c
/-- what Cost answers -/
def cst (n : Nat) (c : Nat → Nat → Int) (a b : Int) : Int := if ok n a = true ∧ ok n b = true then c a.toNat b.toNat else 0
theorem ok_nat {n : Nat} {a : Int} (h : ok n a = true) : ∃ k : Nat, a = k ∧ k < n := by
  simp [ok] at h
  exact ⟨a.toNat, by omega, by omega⟩
set_option maxRecDepth 100000 in
set_option maxHeartbeats 1600000 in
theorem cost_any (g n : Nat) (c : Nat → Nat → Int) (a b : Int) (w : World) (h : IsG w g n c) :
    Calls Try.prog 65 #[.pointer (some ⟨g, 0, none⟩), .int .i64 a, .int .i64 b] w fun e w' => e = .returned (.int .i64 (cst n c a b)) ∧ w = w' := by
  have H := Lib.hid h
  have hn := h.n6
  clear h
  cases hA : ok n a
  · have hk : cst n c a b = 0 := by unfold cst; rw [if_neg (by rw [hA]; simp)]
    rw [hk]
    go_enter Try.func65, Try.ntmps65
    go_wp2_with (go_at_call 54; refine (is_any g n c a w H.out).mono ?_; rintro e w' ⟨rfl, rfl⟩; rw [hA])
    all_goals go_ret
    all_goals exact ⟨rfl, rfl⟩
  · cases hB : ok n b
    · have hk : cst n c a b = 0 := by unfold cst; rw [if_neg (by rw [hB]; simp)]
      rw [hk]
      go_enter Try.func65, Try.ntmps65
      go_wp2_with (first
        | (go_at_call 54; with_reducible refine (is_any g n c a w H.out).mono ?_; rintro e w' ⟨rfl, rfl⟩; rw [hA])
        | (go_at_call 54; with_reducible refine (is_any g n c b w H.out).mono ?_; rintro e w' ⟨rfl, rfl⟩; rw [hB]))
      all_goals go_ret
      all_goals exact ⟨rfl, rfl⟩
    · have hk : cst n c a b = c a.toNat b.toNat := by unfold cst; rw [if_pos ⟨hA, hB⟩]
      rw [hk]
      obtain ⟨A, rfl, hAn⟩ := ok_nat hA
      obtain ⟨B, rfl, hBn⟩ := ok_nat hB
      have hc := H.out.cost (show A < 6 by omega) (show B < 6 by omega)
      have i1 : (0 : Int) ≤ (A : Int) := by omega
      have i2 : (A : Int) < 6 := by omega
      have i3 : (0 : Int) ≤ (B : Int) := by omega
      have i4 : (B : Int) < 6 := by omega
      go_enter Try.func65, Try.ntmps65
      go_wp2_with (first
        | (go_at_call 54; with_reducible refine (is_any g n c A w H.out).mono ?_; rintro e w' ⟨rfl, rfl⟩; rw [hA])
        | (go_at_call 54; with_reducible refine (is_any g n c B w H.out).mono ?_; rintro e w' ⟨rfl, rfl⟩; rw [hB]))
      all_goals go_ret
      all_goals exact ⟨rfl, rfl⟩
set_option maxRecDepth 100000 in
set_option maxHeartbeats 1600000 in
theorem link_bad (g n : Nat) (c : Nat → Nat → Int) (a b x : Int) (w : World) (h : IsG w g n c) (hl : lnk n a b x ≠ 0) :
    Calls Try.prog 47 #[.pointer (some ⟨g, 0, none⟩), .int .i64 a, .int .i64 b, .int .i64 x] w fun e w' => e = .returned (.int .i64 (lnk n a b x)) ∧ w = w' := by
  have H := Lib.hid h
  have hn := h.n6
  clear h
  cases hA : ok n a
  · have hk : lnk n a b x = 2 := by unfold lnk; rw [if_neg (by rw [hA]; simp)]
    rw [hk]
    go_enter Try.func47, Try.ntmps47
    go_wp2_with (go_at_call 54; refine (is_any g n c a w H.out).mono ?_; rintro e w' ⟨rfl, rfl⟩; rw [hA])
    go_ret
    exact ⟨rfl, rfl⟩
  · cases hB : ok n b
    · have hk : lnk n a b x = 2 := by unfold lnk; rw [if_neg (by rw [hB]; simp)]
      rw [hk]
      go_enter Try.func47, Try.ntmps47
      go_wp2_with (first
        | (go_at_call 54; with_reducible refine (is_any g n c a w H.out).mono ?_; rintro e w' ⟨rfl, rfl⟩; rw [hA])
        | (go_at_call 54; with_reducible refine (is_any g n c b w H.out).mono ?_; rintro e w' ⟨rfl, rfl⟩; rw [hB]))
      go_ret
      exact ⟨rfl, rfl⟩
    · by_cases hab : a = b
      · have hk : lnk n a b x = 2 := by unfold lnk; rw [if_neg (by simp [hab])]
        rw [hk]
        subst hab
        go_enter Try.func47, Try.ntmps47
        go_wp2_with (go_at_call 54; refine (is_any g n c a w H.out).mono ?_; rintro e w' ⟨rfl, rfl⟩; rw [hA])
        go_ret
        exact ⟨rfl, rfl⟩
      · have hk : lnk n a b x = if x < 0 ∨ 1000 < x then 1 else 0 := by unfold lnk; rw [if_pos ⟨hA, hB, hab⟩]
        have hx : x < 0 ∨ 1000 < x := by
          by_cases hx : x < 0 ∨ 1000 < x
          · exact hx
          · rw [hk, if_neg hx] at hl; exact absurd rfl hl
        rw [if_pos hx] at hk
        rw [hk]
        have habz : (a == b) = false := by simpa using hab
        by_cases hx0 : x < 0
        · go_enter Try.func47, Try.ntmps47
          go_wp2_with (first
            | (go_at_call 54; with_reducible refine (is_any g n c a w H.out).mono ?_; rintro e w' ⟨rfl, rfl⟩; rw [hA])
            | (go_at_call 54; with_reducible refine (is_any g n c b w H.out).mono ?_; rintro e w' ⟨rfl, rfl⟩; rw [hB]))
          go_ret
          exact ⟨rfl, rfl⟩
        · have hx1 : 1000 < x := by omega
          go_enter Try.func47, Try.ntmps47
          go_wp2_with (first
            | (go_at_call 54; with_reducible refine (is_any g n c a w H.out).mono ?_; rintro e w' ⟨rfl, rfl⟩; rw [hA])
            | (go_at_call 54; with_reducible refine (is_any g n c b w H.out).mono ?_; rintro e w' ⟨rfl, rfl⟩; rw [hB]))
          go_ret
          exact ⟨rfl, rfl⟩
end GG
end Go.Proofs.Ytebkpjefdaieaaa

/-
  Package graph: Link and Cost. Conditions: those that each theorem names.
-/
namespace Go.Proofs.Ytebkpjefdaieaaa
open Go.RowKit
set_option linter.unusedVariables false
set_option linter.unusedSimpArgs false
namespace GG
set_option maxRecDepth 100000 in
set_option maxHeartbeats 1600000 in
theorem link_ok (g n : Nat) (c : Nat → Nat → Int) (A B : Nat) (x : Int) (w : World) (h : IsG w g n c) (hA' : A < n) (hB' : B < n) (hab : A ≠ B) (hx0 : 0 ≤ x) (hx1 : x ≤ 1000) :
    Calls Try.prog 47 #[.pointer (some ⟨g, 0, none⟩), .int .i64 A, .int .i64 B, .int .i64 x] w fun e w' => e = .returned (.int .i64 0) ∧ IsG w' g n (put (put c A B x) B A x) ∧ Only (fun i => i = g) w w' := by
  have H := Lib.hid h
  have hn := h.n6
  have c1 := h.cost (show A < 6 by omega) (show B < 6 by omega)
  have c2 := h.cost (show B < 6 by omega) (show A < 6 by omega)
  have z1 := h.free (1 + A * 6 + B)
  have z2 := h.free (1 + B * 6 + A)
  clear h
  have hA : ok n (A : Int) = true := by simp [ok]; omega
  have hB : ok n (B : Int) = true := by simp [ok]; omega
  have habz : ((A : Int) == (B : Int)) = false := by simp; omega
  have g1 : ¬ x < 0 := by omega
  have g2 : ¬ 1000 < x := by omega
  have i1 : (0 : Int) ≤ (A : Int) := by omega
  have i2 : (A : Int) < 6 := by omega
  have i3 : (0 : Int) ≤ (B : Int) := by omega
  have i4 : (B : Int) < 6 := by omega
  have hfin := (H.out.set (show A < 6 by omega) (show B < 6 by omega) x).set (show B < 6 by omega) (show A < 6 by omega) x
  have HF := Lib.hid (show IsG ((w.setCell ⟨g, 1 + A * 6 + B, none⟩ (.int .i64 x)).setCell ⟨g, 1 + B * 6 + A, none⟩ (.int .i64 x)).drew g n (put (put c A B x) B A x) from ⟨hfin.blk, hfin.n1, hfin.n6⟩)
  clear hfin
  go_enter Try.func47, Try.ntmps47
  go_upto_region 7 with (first
    | (go_at_call 54; with_reducible refine (is_any g n c A w H.out).mono ?_; rintro e w' ⟨rfl, rfl⟩; rw [hA])
    | (go_at_call 54; with_reducible refine (is_any g n c B w H.out).mono ?_; rintro e w' ⟨rfl, rfl⟩; rw [hB]))
  go_region
  all_goals go_wp2
  all_goals go_ret
  all_goals exact ⟨rfl, HF.out, Only.drew (Only.setCell (S := fun i => i = g) (p := ⟨g, 1 + B * 6 + A, none⟩) (Only.setCell (S := fun i => i = g) (p := ⟨g, 1 + A * 6 + B, none⟩) (Only.refl _ _) (fun _ => rfl) _) (fun _ => rfl) _)⟩
end GG
end Go.Proofs.Ytebkpjefdaieaaa

/-
  Slices of numbers: what is read, and slices.Contains. Conditions: those that each theorem names.
-/
namespace Go.Proofs.Ytebkpjefdaieaaa
open Go.RowKit
set_option linter.unusedVariables false
set_option linter.unusedSimpArgs false
namespace GG
/-- a slice of n numbers -/
def Ints (w : World) (A : Option Addr) (n : Nat) (V : Nat → Int) : Prop := ∀ i, i < n → ∃ b o, A = some ⟨b, o, none⟩ ∧ b < w.heap.size ∧ w.cell? ⟨b, o + i, none⟩ = some (.int .i64 (V i))
theorem Ints.keep {w w' : World} {A : Option Addr} {n : Nat} {V : Nat → Int} (h : Ints w A n V) (hb : Below w.heap.size w w') : Ints w' A n V := fun i hi => by
  obtain ⟨b, o, hA, hl, hc⟩ := h i hi
  exact ⟨b, o, hA, Nat.lt_of_lt_of_le hl hb.size, later hb hc⟩
/-- the numbers in their cells -/
def nums (L : List Int) : List Value := L.map (Value.int .i64)
theorem Ints.own {w : World} {base n : Nat} {cap : Nat} {A : Option Addr} {L : List Int} (h : w.ownsRow base 3 1 (.slice A n cap) n (nums L)) : Ints w A n (fun i => L.getD i 0) := fun i hi => by
  obtain ⟨g, c, hv, hb, hc, hl⟩ := own_form h (by omega)
  simp only [Value.slice.injEq] at hv
  obtain ⟨rfl, _, rfl⟩ := hv
  have hlen : L.length = n := by have := h.1; simpa [nums] using this
  refine ⟨g, 0, rfl, hl, ?_⟩
  rw [Nat.zero_add]
  refine own_cell h i _ ?_
  simp [nums, List.getD_eq_getElem?_getD, List.getElem?_eq_getElem (show i < L.length by omega)]
set_option maxHeartbeats 1600000 in
theorem index_any (A : Option Addr) (n cap : Nat) (V : Nat → Int) (x : Int) (w : World) (hn : n ≤ 9223372036854775807) (h : Ints w A n V) :
    Calls Try.prog 69 #[.slice A n cap, .int .i64 x] w fun e w' => (∃ r : Int, e = .returned (.int .i64 r) ∧ (0 ≤ r ↔ ∃ i, i < n ∧ V i = x)) ∧ w = w' := by
  have H := Lib.hid h
  clear h
  go_enter Try.func69, Try.ntmps69
  go_wp2
  go_loopw [8] (fun i wr => wr = w ∧ ∃ k : Nat, k ≤ n ∧ i = .int .i64 k ∧ ∀ j, j < k → V j ≠ x) (fun i _ => n - (intOf i).toNat)
  case atStart => exact ⟨rfl, 0, Nat.zero_le _, rfl, fun j hj => absurd hj (Nat.not_lt_zero _)⟩
  case round =>
    obtain ⟨rfl, k, hk, rfl, hne⟩ := hrel
    have HNE := Lib.hid hne
    clear hne
    by_cases hlt : k < n
    · have hlt' : (k : Int) < (n : Int) := by omega
      have k0 : (0 : Int) ≤ (k : Int) := by omega
      obtain ⟨b, o, rfl, hl, hc⟩ := H.out k hlt
      by_cases hx : V k = x
      · have hx' : (x == V k) = true := by simp [hx]
        go_wp2
        go_ret
        exact ⟨⟨k, rfl, ⟨fun _ => ⟨k, hlt, hx⟩, fun _ => k0⟩⟩, rfl⟩
      · have hx' : (x == V k) = false := by simp; exact fun e => hx e.symm
        go_wp2
        go_roundw
        case rel =>
          refine ⟨trivial, k + 1, by omega, by go_num, fun j hj => ?_⟩
          by_cases e : j = k
          · subst e; exact hx
          · exact HNE.out j (by omega)
        case measure => simp [intOf]; omega
    · obtain rfl : k = n := by omega
      go_wp2
      go_ret
      exact ⟨⟨-1, rfl, ⟨fun h => absurd h (by omega), fun ⟨i, hi, he⟩ => absurd he (HNE.out i hi)⟩⟩, rfl⟩
set_option maxHeartbeats 1600000 in
theorem contains_any (A : Option Addr) (n cap : Nat) (V : Nat → Int) (x : Int) (w : World) (hn : n ≤ 9223372036854775807) (h : Ints w A n V) :
    Calls Try.prog 61 #[.slice A n cap, .int .i64 x] w fun e w' => e = .returned (.bool (decide (∃ i, i < n ∧ V i = x))) ∧ w = w' := by
  go_enter Try.func61, Try.ntmps61
  go_wp2_with (go_at_call 69; refine (index_any A n cap V x w hn h).mono ?_; rintro e w' ⟨⟨r, rfl, hr⟩, rfl⟩)
  go_ret
  exact ⟨rfl, rfl⟩
end GG
end Go.Proofs.Ytebkpjefdaieaaa

/-
  Following numbers: plain laws. No program. Conditions: those that each law names.
-/
namespace Go.Proofs.Ytebkpjefdaieaaa
open Go.RowKit
set_option linter.unusedVariables false
set_option linter.unusedSimpArgs false
namespace GG
/-- what following comes to: out is what it came by -/
def wy (n : Nat) (N : Nat → Int) : Nat → List Int → Int → List Int
  | 0, out, _ => out
  | k + 1, out, f => if 0 ≤ f ∧ f < n then (if f ∈ out then out ++ [f] else wy n N k (out ++ [f]) (N f.toNat)) else out
/-- unlike numbers below n -/
structure Fine (n : Nat) (out : List Int) : Prop where
  nodup : out.Nodup
  range : ∀ x ∈ out, 0 ≤ x ∧ x < n
theorem fine_len : ∀ (n : Nat) (out : List Int), Fine n out → out.length ≤ n
  | 0, out, h => by
    cases out with
    | nil => simp
    | cons x l => have := h.range x (by simp); omega
  | n + 1, out, h => by
    have h1 : (out.erase (n : Int)).length ≤ n := fine_len n _ ⟨h.nodup.erase _, fun x hx => by
      have hm := (h.nodup.mem_erase_iff).1 hx
      have := h.range x hm.2
      have := hm.1
      omega⟩
    have := List.length_erase (a := (n : Int)) (l := out)
    split at this <;> omega
theorem Fine.nil (n : Nat) : Fine n [] := ⟨by simp, by simp⟩
theorem Fine.add {n : Nat} {out : List Int} {f : Int} (h : Fine n out) (hf : 0 ≤ f ∧ f < n) (hn : f ∉ out) : Fine n (out ++ [f]) :=
  ⟨by rw [List.nodup_append]; exact ⟨h.nodup, by simp, fun a ha b hb => by simp at hb; subst hb; rintro rfl; exact hn ha⟩, fun x hx => by
    rcases List.mem_append.1 hx with hx | hx
    · exact h.range x hx
    · simp at hx; subst hx; exact hf⟩
/-- with fuel enough -/
def way (n : Nat) (N : Nat → Int) (out : List Int) (f : Int) : List Int := wy n N (n + 1 - out.length) out f
theorem way_out {n : Nat} {N : Nat → Int} {out : List Int} {f : Int} (h : Fine n out) (hf : ¬ (0 ≤ f ∧ f < n)) : way n N out f = out := by
  have := fine_len n out h
  rw [way, show n + 1 - out.length = (n - out.length) + 1 from by omega, wy, if_neg hf]
theorem way_back {n : Nat} {N : Nat → Int} {out : List Int} {f : Int} (h : Fine n out) (hf : 0 ≤ f ∧ f < n) (hm : f ∈ out) : way n N out f = out ++ [f] := by
  have := fine_len n out h
  rw [way, show n + 1 - out.length = (n - out.length) + 1 from by omega, wy, if_pos hf, if_pos hm]
theorem way_on {n : Nat} {N : Nat → Int} {out : List Int} {f : Int} (h : Fine n out) (hf : 0 ≤ f ∧ f < n) (hm : f ∉ out) : way n N out f = way n N (out ++ [f]) (N f.toNat) := by
  have := fine_len n out h
  rw [way, show n + 1 - out.length = (n - out.length) + 1 from by omega, wy, if_pos hf, if_neg hm, way, List.length_append]
  congr 1
  simp only [List.length_cons, List.length_nil]
  omega
/-- what a way is: unlike numbers, and perhaps one of them once more -/
theorem way_is {n : Nat} {N : Nat → Int} : ∀ (k : Nat) (out : List Int) (f : Int), n + 1 - out.length ≤ k → Fine n out → Fine n (way n N out f) ∨ ∃ p x, way n N out f = p ++ [x] ∧ Fine n p ∧ x ∈ p
  | 0, out, f, hk, h => by have := fine_len n out h; omega
  | k + 1, out, f, hk, h => by
    by_cases hf : 0 ≤ f ∧ f < n
    · by_cases hm : f ∈ out
      · exact .inr ⟨out, f, way_back h hf hm, h, hm⟩
      · rw [way_on h hf hm]
        exact way_is k _ _ (by simp; omega) (h.add hf hm)
    · rw [way_out h hf]; exact .inl h
theorem way_pre {n : Nat} {N : Nat → Int} : ∀ (k : Nat) (out : List Int) (f : Int), n + 1 - out.length ≤ k → Fine n out → ∃ q, way n N out f = out ++ q
  | 0, out, f, hk, h => by have := fine_len n out h; omega
  | k + 1, out, f, hk, h => by
    by_cases hf : 0 ≤ f ∧ f < n
    · by_cases hm : f ∈ out
      · exact ⟨[f], way_back h hf hm⟩
      · rw [way_on h hf hm]
        obtain ⟨q, hq⟩ := way_pre k _ _ (by simp; omega) (h.add hf hm)
        exact ⟨[f] ++ q, by rw [hq]; simp⟩
    · rw [way_out h hf]; exact ⟨[], by simp⟩
theorem way_len {n : Nat} {N : Nat → Int} (f : Int) : (way n N [] f).length ≤ n + 1 := by
  rcases way_is (n := n) (N := N) _ [] f (Nat.le_refl _) (Fine.nil n) with h | ⟨p, x, e, h, _⟩
  · have := fine_len n _ h; omega
  · have := fine_len n _ h; rw [e]; simp; omega
theorem way_pos {n : Nat} {N : Nat → Int} {f : Int} (hf : 0 ≤ f ∧ f < n) : 0 < (way n N [] f).length := by
  rw [way_on (Fine.nil n) hf (by simp)]
  obtain ⟨q, hq⟩ := way_pre (N := N) _ ([] ++ [f]) (N f.toNat) (Nat.le_refl _) ((Fine.nil n).add hf (by simp))
  rw [hq]; simp
/-- is the last one there ahead, too? -/
def tw (L : List Int) : Bool := decide (∃ i, i < L.length - 1 ∧ L.getD i 0 = L.getD (L.length - 1) 0)
theorem tw_long {n : Nat} {N : Nat → Int} {f : Int} (h : n < (way n N [] f).length) : tw (way n N [] f) = true := by
  rcases way_is (n := n) (N := N) _ [] f (Nat.le_refl _) (Fine.nil n) with h' | ⟨p, x, e, h', hx⟩
  · have := fine_len n _ h'; omega
  · obtain ⟨i, hi, hxi⟩ := List.getElem_of_mem hx
    rw [e]
    refine decide_eq_true ⟨i, by simp; exact hi, ?_⟩
    simp [List.getD_eq_getElem?_getD, List.getElem?_append_left hi]
    rw [List.getElem?_eq_getElem hi, hxi]; rfl
/-- does following come back nowhere? -/
def acy (n : Nat) (N : Nat → Int) : Bool := decide (∀ i, i < n → tw (way n N [] (i : Int)) = false)
end GG
end Go.Proofs.Ytebkpjefdaieaaa

/-
  Following numbers: graph.Way and the document's Way. Conditions: those that each theorem names.
-/
namespace Go.Proofs.Ytebkpjefdaieaaa
open Go.RowKit
set_option linter.unusedVariables false
set_option linter.unusedSimpArgs false
namespace GG
theorem intinfo : (Try.prog.info? 3).map (fun i => (i.zero, i.size, i.bytes)) = some (some (.int .i64 0), 1, 8) := by kernel_rfl
theorem nums_add (L : List Int) (x : Int) : nums L ++ [.int .i64 x] = nums (L ++ [x]) := by simp [nums]
theorem mem_ex {L : List Int} {n : Nat} (h : L.length = n) (f : Int) : (∃ i, i < n ∧ L.getD i 0 = f) ↔ f ∈ L := by
  subst h
  constructor
  · rintro ⟨i, hi, e⟩
    rw [List.getD_eq_getElem?_getD, List.getElem?_eq_getElem hi] at e
    exact e ▸ List.getElem_mem hi
  · intro hm
    obtain ⟨i, hi, e⟩ := List.getElem_of_mem hm
    exact ⟨i, hi, by rw [List.getD_eq_getElem?_getD, List.getElem?_eq_getElem hi]; exact e⟩
theorem contains_list (A : Option Addr) (n cap : Nat) (L : List Int) (x : Int) (w : World) (hn : n ≤ 9223372036854775807) (hL : L.length = n) (h : Ints w A n (fun i => L.getD i 0)) :
    Calls Try.prog 61 #[.slice A n cap, .int .i64 x] w fun e w' => e = .returned (.bool (decide (x ∈ L))) ∧ w = w' := by
  have e : decide (∃ i, i < n ∧ (fun i => L.getD i 0) i = x) = decide (x ∈ L) := decide_eq_decide.2 (mem_ex hL x)
  rw [← e]
  exact contains_any A n cap _ x w hn h
theorem own_base {w : World} {base size n : Nat} {e : TypeId} {v : Value} {xs : List Value} (h : w.ownsRow base e size v n xs) {b : Nat} (hb : v.ownBlock = some b) : base ≤ b := by
  rcases h.2 with ⟨rfl, _⟩ | ⟨g, cap, cur, rfl, hb', hh, _⟩
  · cases hb
  · simp only [Value.ownBlock, Option.some.injEq] at hb
    omega
/-- behind an append -/
theorem app_below {w wr w1 : World} {size n : Nat} {e : TypeId} {v : Value} {xs : List Value} {o : Obj} (hB : Below w.heap.size w wr) (ho : wr.ownsRow w.heap.size e size v n xs) (hg : (wr.alloc o).grownBy w1 v.ownBlock) : Below w.heap.size w w1 :=
  (((Only.refl (fun i => w.heap.size ≤ i) w).of_below hB).alloc o |>.grown hg (fun q hq _ => own_base ho hq)).below (Nat.le_refl _) (fun i hi h => by omega)
/-- how long a slice is -/
def lenOf : Value → Nat
  | .slice _ k _ => k
  | _ => 0
theorem way_in {n : Nat} {N : Nat → Int} {f0 : Int} {L : List Int} {F : Nat} (hw : way n N [] f0 = way n N L F) (hf : Fine n L) (hF : F < n) (hm : (F : Int) ∈ L) : way n N [] f0 = L ++ [(F : Int)] := by
  rw [hw]; exact way_back hf ⟨by omega, by omega⟩ hm
theorem way_go {n : Nat} {N : Nat → Int} {f0 : Int} {L : List Int} {F : Nat} (hw : way n N [] f0 = way n N L F) (hf : Fine n L) (hF : F < n) (hm : (F : Int) ∉ L) : way n N [] f0 = way n N (L ++ [(F : Int)]) (N F) := by
  rw [hw, way_on hf ⟨by omega, by omega⟩ hm]; rfl
set_option maxRecDepth 100000 in
set_option maxHeartbeats 8000000 in
theorem way_any (A : Option Addr) (n cap : Nat) (N : Nat → Int) (f0 : Int) (w : World) (hn : n ≤ 1000000) (hI : Ints w A n N) :
    Calls Try.prog 60 #[.slice A n cap, .int .i64 f0] w fun e w' => (∃ v, e = .returned v ∧ w'.ownsRow w.heap.size 3 1 v (way n N [] f0).length (nums (way n N [] f0)) ∧ lenOf v = (way n N [] f0).length) ∧ Below w.heap.size w w' := by
  obtain ⟨i0, hi0, hz0, hz1, hz2⟩ := info_parts intinfo
  have HI := Lib.hid hi0
  have H := Lib.hid hI
  clear hi0 hI
  go_enter Try.func60, Try.ntmps60
  go_upto_region 1 with fail
  go_loopw [1, 4] (fun s1 s4 wr => ∃ (f : Int) (L : List Int), s1 = .int .i64 f ∧ way n N [] f0 = way n N L f ∧ Fine n L ∧ wr.ownsRow w.heap.size 3 1 s4 L.length (nums L) ∧ Below w.heap.size w wr ∧ ∃ A' cap', s4 = .slice A' L.length cap') (fun _ s4 _ => n + 1 - lenOf s4)
  case atStart => exact ⟨f0, [], rfl, rfl, Fine.nil n, ⟨by simp [nums], .inl ⟨rfl, rfl⟩⟩, Below.refl _ _, none, 0, rfl⟩
  case round =>
    obtain ⟨f, L, rfl, hway, hfine, hown, hbw, A', cap', rfl⟩ := hrel
    have HWAY := Lib.hid hway
    have HF := Lib.hid hfine
    have HO := Lib.hid hown
    have HB := Lib.hid hbw
    have hLn := fine_len n L hfine
    clear hway hfine hown hbw
    by_cases hf : 0 ≤ f ∧ f < n
    · have hf0 := hf.1
      have hf1 := hf.2
      obtain ⟨F, rfl⟩ : ∃ F : Nat, f = F := ⟨f.toNat, by omega⟩
      obtain ⟨b, o, rfl, hl, hc⟩ := H.out F (by omega)
      have HII := Lib.hid (Ints.own HO.out)
      have HC := Lib.hid hc
      clear hc
      cases hm : decide ((F : Int) ∈ L)
      · have hm' : (F : Int) ∉ L := of_decide_eq_false hm
        have HG := Lib.hid (way_go HWAY.out HF.out (by omega) hm')
        have HFA := Lib.hid (HF.out.add hf hm')
        clear hm'
        have HM := Lib.hid hm
        clear hm
        go_upto_region 6 with (first
          | (go_at_call 61; refine (contains_list A' L.length cap' L F wr (by omega) rfl HII.out).mono ?_; rintro e w1 ⟨rfl, rfl⟩; rw [HM.out])
          | (at_builtin; refine wpList_append_lies _ rfl (.tmp 17) (.tmp 19) 35 rfl w.heap.size 3 i0 _ 1 8 Try.underlying35 HI.out hz0 hz1 hz2 rfl (by omega) (.slice A' L.length cap') L.length _ rfl (HO.out.alloc _) ⟨wr.heap.size, 0, none⟩ 1 1 [.int .i64 F] rfl rfl (cell_one_new _ _ _) (by simp [Value.oneCell']) (by omega) (by unfold maxLen; omega) (by omega) (by have := HB.out.size; simp; omega) (wr.heap.size + 1) (by simp) ?_; intro g2 cap2 w1 hown1 hgrow1 hat1 hlt1; have HO1 := Lib.hid hown1; have HA1 := Lib.hid hat1; have HR1 := Lib.hid hgrow1; clear hown1 hat1 hgrow1))
        have HB1 := Lib.hid (app_below HB.out HO.out HR1.out)
        have hc1 := later HB1.out HC.out
        go_wp2
        go_roundw
        case rel => exact ⟨N F, L ++ [(F : Int)], rfl, HG.out, HFA.out, by rw [← nums_add, List.length_append]; exact HO1.out, HB1.out, _, _, by rw [List.length_append]; rfl⟩
        case measure => simp [lenOf]; omega
      · have HG := Lib.hid (way_in HWAY.out HF.out (by omega) (of_decide_eq_true hm))
        have HM := Lib.hid hm
        clear hm
        go_wp2_with (first
          | (go_at_call 61; refine (contains_list A' L.length cap' L F wr (by omega) rfl HII.out).mono ?_; rintro e w1 ⟨rfl, rfl⟩; rw [HM.out])
          | (at_builtin; refine wpList_append_lies _ rfl (.tmp 17) (.tmp 19) 35 rfl w.heap.size 3 i0 _ 1 8 Try.underlying35 HI.out hz0 hz1 hz2 rfl (by omega) (.slice A' L.length cap') L.length _ rfl (HO.out.alloc _) ⟨wr.heap.size, 0, none⟩ 1 1 [.int .i64 F] rfl rfl (cell_one_new _ _ _) (by simp [Value.oneCell']) (by omega) (by unfold maxLen; omega) (by omega) (by have := HB.out.size; simp; omega) (wr.heap.size + 1) (by simp) ?_; intro g2 cap2 w1 hown1 hgrow1 hat1 hlt1; have HO1 := Lib.hid hown1; have HA1 := Lib.hid hat1; have HR1 := Lib.hid hgrow1; clear hown1 hat1 hgrow1))
        go_ret
        refine ⟨⟨_, rfl, ?_, ?_⟩, app_below HB.out HO.out HR1.out⟩
        · rw [HG.out, ← nums_add, List.length_append]; exact HO1.out
        · rw [HG.out, List.length_append]; rfl
    · have HG := Lib.hid (HWAY.out.trans (way_out HF.out hf))
      by_cases hf0 : 0 ≤ f
      · have hf1 : ¬ f < (n : Int) := fun h => hf ⟨hf0, h⟩
        go_wp2
        go_ret
        exact ⟨⟨_, rfl, by rw [HG.out]; exact HO.out, by rw [HG.out]; rfl⟩, HB.out⟩
      · go_wp2
        go_ret
        exact ⟨⟨_, rfl, by rw [HG.out]; exact HO.out, by rw [HG.out]; rfl⟩, HB.out⟩
end GG
end Go.Proofs.Ytebkpjefdaieaaa

/-
  The document's Way, twice, and both Acyclic. Conditions: those that each theorem names.
-/
namespace Go.Proofs.Ytebkpjefdaieaaa
open Go.RowKit
set_option linter.unusedVariables false
set_option linter.unusedSimpArgs false
namespace GG
theorem mem_of {L : List Int} {i : Nat} {x : Int} (hi : i < L.length) (e : L.getD i 0 = x) : x ∈ L := (mem_ex rfl x).1 ⟨i, hi, e⟩
theorem not_mem_of {L : List Int} {x : Int} (h : ∀ j, j < L.length → L.getD j 0 ≠ x) : x ∉ L := fun hm => by
  obtain ⟨i, hi, e⟩ := (mem_ex rfl x).2 hm
  exact h i hi e
/-- x is not among the first i ones -/
def Miss (L : List Int) (i : Nat) (x : Int) : Prop := ∀ j, j < i → L.getD j 0 ≠ x
set_option maxRecDepth 100000 in
set_option maxHeartbeats 8000000 in
theorem refway_any (A : Option Addr) (n cap : Nat) (N : Nat → Int) (f0 : Int) (w : World) (hn : n ≤ 1000000) (hI : Ints w A n N) :
    Calls Try.prog 62 #[.slice A n cap, .int .i64 f0] w fun e w' => (∃ v, e = .returned v ∧ w'.ownsRow w.heap.size 3 1 v (way n N [] f0).length (nums (way n N [] f0)) ∧ lenOf v = (way n N [] f0).length) ∧ Below w.heap.size w w' := by
  obtain ⟨i0, hi0, hz0, hz1, hz2⟩ := info_parts intinfo
  have HI := Lib.hid hi0
  have H := Lib.hid hI
  clear hi0 hI
  go_enter Try.func62, Try.ntmps62
  go_upto_region 2 with fail
  go_loopw [1, 5] (fun s1 s5 wr => ∃ (f : Int) (L : List Int), s1 = .int .i64 f ∧ way n N [] f0 = way n N L f ∧ Fine n L ∧ wr.ownsRow w.heap.size 3 1 s5 L.length (nums L) ∧ Below w.heap.size w wr ∧ ∃ A' cap', s5 = .slice A' L.length cap') (fun _ s5 _ => n + 1 - lenOf s5)
  case atStart => exact ⟨f0, [], rfl, rfl, Fine.nil n, ⟨by simp [nums], .inl ⟨rfl, rfl⟩⟩, Below.refl _ _, none, 0, rfl⟩
  case round =>
    obtain ⟨f, L, rfl, hway, hfine, hown, hbw, A', cap', rfl⟩ := hrel
    have HWAY := Lib.hid hway
    have HF := Lib.hid hfine
    have HO := Lib.hid hown
    have HB := Lib.hid hbw
    have hLn := fine_len n L hfine
    clear hway hfine hown hbw
    obtain ⟨u, hu⟩ : ∃ u, u = wr := ⟨_, rfl⟩
    subst hu
    by_cases hf : 0 ≤ f ∧ f < n
    · have hf0 := hf.1
      have hf1 := hf.2
      obtain ⟨F, rfl⟩ : ∃ F : Nat, f = F := ⟨f.toNat, by omega⟩
      obtain ⟨b, o, rfl, hl, hc⟩ := H.out F (by omega)
      have HII := Lib.hid (Ints.own HO.out)
      have HC := Lib.hid hc
      clear hc
      go_upto_region 4 with fail
      go_loopw [6] (fun s6 wr => wr = u ∧ ∃ i : Nat, i ≤ L.length ∧ s6 = .int .i64 i ∧ Miss L i F) (fun s6 _ => L.length - (intOf s6).toNat)
      case atStart => exact ⟨rfl, 0, by omega, rfl, fun j hj => by omega⟩
      case round =>
        obtain ⟨rfl, i, hi, rfl, hne⟩ := hrel
        have HNE := Lib.hid hne
        clear hne
        by_cases hlt : i < L.length
        · have hlt' : (i : Int) < (L.length : Int) := by omega
          have i00 : (0 : Int) ≤ (i : Int) := by omega
          obtain ⟨b2, o2, rfl, hl2, hc3⟩ := HII.out i hlt
          obtain ⟨x, hx⟩ : ∃ x, L.getD i 0 = x := ⟨_, rfl⟩
          have hc2 : wr.cell? ⟨b2, o2 + i, none⟩ = some (.int .i64 (L.getD i 0)) := hc3
          clear hc3
          rw [hx] at hc2
          have HX := Lib.hid hx
          clear hx
          cases hxe : (x == (F : Int))
          · go_wp2
            go_roundw
            case rel =>
              refine ⟨trivial, i + 1, by omega, by go_num, fun j hj => ?_⟩
              by_cases e : j = i
              · subst e; rw [HX.out]; simpa using hxe
              · exact HNE.out j (by omega)
            case measure => simp [intOf]; omega
          · have hxF : x = (F : Int) := by simpa using hxe
            have HG := Lib.hid (way_in HWAY.out HF.out (by omega) (mem_of hlt (HX.out.trans hxF)))
            clear hxF
            go_wp2_with (at_builtin; refine wpList_append_lies _ rfl (.tmp 27) (.tmp 29) 35 rfl w.heap.size 3 i0 _ 1 8 Try.underlying35 HI.out hz0 hz1 hz2 rfl (by omega) (.slice (some ⟨b2, o2, none⟩) L.length cap') L.length _ rfl (HO.out.alloc _) ⟨wr.heap.size, 0, none⟩ 1 1 [.int .i64 F] rfl rfl (cell_one_new _ _ _) (by simp [Value.oneCell']) (by omega) (by unfold maxLen; omega) (by omega) (by have := HB.out.size; simp; omega) (wr.heap.size + 1) (by simp) ?_; intro g2 cap2 w1 hown1 hgrow1 hat1 hlt1; have HO1 := Lib.hid hown1; have HA1 := Lib.hid hat1; have HR1 := Lib.hid hgrow1; clear hown1 hat1 hgrow1)
            go_ret
            refine ⟨⟨_, rfl, ?_, ?_⟩, app_below HB.out HO.out HR1.out⟩
            · rw [HG.out, ← nums_add, List.length_append]; exact HO1.out
            · rw [HG.out, List.length_append]; rfl
        · obtain rfl : i = L.length := by omega
          have hm' := not_mem_of HNE.out
          have HG := Lib.hid (way_go HWAY.out HF.out (by omega) hm')
          have HFA := Lib.hid (HF.out.add hf hm')
          clear hm'
          go_upto_region 9 with (at_builtin; refine wpList_append_lies _ rfl (.tmp 31) (.tmp 33) 35 rfl w.heap.size 3 i0 _ 1 8 Try.underlying35 HI.out hz0 hz1 hz2 rfl (by omega) (.slice A' L.length cap') L.length _ rfl (HO.out.alloc _) ⟨wr.heap.size, 0, none⟩ 1 1 [.int .i64 F] rfl rfl (cell_one_new _ _ _) (by simp [Value.oneCell']) (by omega) (by unfold maxLen; omega) (by omega) (by have := HB.out.size; simp; omega) (wr.heap.size + 1) (by simp) ?_; intro g2 cap2 w1 hown1 hgrow1 hat1 hlt1; have HO1 := Lib.hid hown1; have HA1 := Lib.hid hat1; have HR1 := Lib.hid hgrow1; clear hown1 hat1 hgrow1)
          have HB1 := Lib.hid (app_below HB.out HO.out HR1.out)
          have hc1 := later HB1.out HC.out
          go_wp2
          go_roundw
          case rel => exact ⟨N F, L ++ [(F : Int)], rfl, HG.out, HFA.out, by rw [← nums_add, List.length_append]; exact HO1.out, HB1.out, _, _, by rw [List.length_append]; rfl⟩
          case measure => simp [lenOf]; omega
    · have HG := Lib.hid (HWAY.out.trans (way_out HF.out hf))
      by_cases hf0 : 0 ≤ f
      · have hf1 : ¬ f < (n : Int) := fun h => hf ⟨hf0, h⟩
        go_wp2
        go_ret
        exact ⟨⟨_, rfl, by rw [HG.out]; exact HO.out, by rw [HG.out]; rfl⟩, HB.out⟩
      · go_wp2
        go_ret
        exact ⟨⟨_, rfl, by rw [HG.out]; exact HO.out, by rw [HG.out]; rfl⟩, HB.out⟩
end GG
end Go.Proofs.Ytebkpjefdaieaaa

/-
  The document's twice and Same. Conditions: those that each theorem names.
-/
namespace Go.Proofs.Ytebkpjefdaieaaa
open Go.RowKit
set_option linter.unusedVariables false
set_option linter.unusedSimpArgs false
namespace GG
theorem below_drew {B : Nat} {w w' : World} (h : Below B w w') : Below B w w'.drew := ⟨h.os, h.tape, h.output, h.size, h.block⟩
/-- is the last of n numbers there ahead, too? -/
def twi (n : Nat) (V : Nat → Int) : Bool := decide (∃ i, i < n - 1 ∧ V i = V (n - 1))
/-- none of the first i ones is the last -/
def NoLast (n : Nat) (V : Nat → Int) (i : Nat) : Prop := ∀ j, j < i → V j ≠ V (n - 1)
theorem twi_yes {n : Nat} {V : Nat → Int} {i : Nat} (hi : i + 1 < n) (h : V i = V (n - 1)) : twi n V = true := decide_eq_true ⟨i, by omega, h⟩
theorem twi_no {n : Nat} {V : Nat → Int} (h : ∀ i, i + 1 < n → V i ≠ V (n - 1)) : twi n V = false := decide_eq_false (fun ⟨i, hi, e⟩ => h i (by omega) e)
attribute [local irreducible] twi
set_option maxRecDepth 100000 in
set_option maxHeartbeats 4000000 in
theorem twice_any (A : Option Addr) (n cap : Nat) (V : Nat → Int) (w : World) (hn : n ≤ 1000000) (hI : Ints w A n V) :
    Calls Try.prog 63 #[.slice A n cap] w fun e w' => e = .returned (.bool (twi n V)) ∧ Below w.heap.size w w' := by
  have H := Lib.hid hI
  clear hI
  go_enter Try.func63, Try.ntmps63
  go_upto_region 2 with fail
  go_loopw [3] (fun s3 wr => ∃ i : Nat, (i + 1 ≤ n ∨ i = 0) ∧ s3 = .int .i64 i ∧ NoLast n V i ∧ Below w.heap.size w wr) (fun s3 _ => n - (intOf s3).toNat)
  case atStart => exact ⟨0, .inr rfl, rfl, fun j hj => by omega, Below.refl _ _⟩
  case round =>
    obtain ⟨i, hi, rfl, hne, hb⟩ := hrel
    have HNE := Lib.hid hne
    have HB := Lib.hid hb
    clear hne hb
    by_cases hlt : i + 1 < n
    · have hlt' : (i : Int) + 1 < (n : Int) := by omega
      have hlt2 : (i : Int) < (n : Int) := by omega
      have i00 : (0 : Int) ≤ (i : Int) := by omega
      obtain ⟨m, hm⟩ : ∃ m, n - 1 = m := ⟨_, rfl⟩
      obtain ⟨b, o, rfl, hl, hc⟩ := H.out i (by omega)
      obtain ⟨b', o', he, hl', hd⟩ := H.out m (by omega)
      simp only [Option.some.injEq, Addr.mk.injEq] at he
      obtain ⟨rfl, rfl, _⟩ := he
      have hc' := later HB.out hc
      have hd' := later HB.out hd
      have hm0 : IntKind.i64.wrap ((n : Int) - 1) = (m : Int) := by rw [IntWalk.i64_in _ (by omega)]; omega
      have hm1 : (n : Int) - 1 = (m : Int) := by omega
      have hm5 : IntKind.i64.wrap (m : Int) = (m : Int) := IntWalk.i64_in _ (by omega)
      have hm2 : (0 : Int) ≤ (m : Int) := by omega
      have hm3 : (m : Int) < (n : Int) := by omega
      have HM := Lib.hid hm
      clear hc hd hm
      go_upto_region 4 with fail
      cases hxe : (V i == V m)
      · refine wp_region_still_lit (by kernel_rfl) (by kernel_rfl) ?_
        change wpStill _ _ wr.drew _ _ _
        repeat still_step
        refine wpStill_nil ?_
        go_wp2
        go_roundw
        case rel =>
          refine ⟨i + 1, .inl (by omega), by go_num, fun j hj => ?_, below_drew HB.out⟩
          by_cases e : j = i
          · subst e; rw [HM.out]; simpa using hxe
          · exact HNE.out j (by omega)
        case measure => simp [intOf]; omega
      · refine wp_region_still_lit (by kernel_rfl) (by kernel_rfl) ?_
        change wpStill _ _ wr.drew _ _ _
        repeat still_step
        refine wpStill_nil ?_
        go_wp2
        go_ret
        exact ⟨by rw [twi_yes hlt (by rw [HM.out]; simpa using hxe)]; rfl, below_drew HB.out⟩
    · have hlt' : ¬ (i : Int) + 1 < (n : Int) := by omega
      go_wp2
      go_ret
      exact ⟨by rw [twi_no (fun j hj => HNE.out j (by omega))]; rfl, HB.out⟩
/-- are they the same? -/
def sam (n m : Nat) (V U : Nat → Int) : Bool := decide (n = m ∧ ∀ i, i < n → V i = U i)
def SoFar (V U : Nat → Int) (i : Nat) : Prop := ∀ j, j < i → V j = U j
theorem sam_no {n m : Nat} {V U : Nat → Int} (h : n ≠ m) : sam n m V U = false := decide_eq_false (fun hh => h hh.1)
theorem sam_at {n m : Nat} {V U : Nat → Int} {i : Nat} (hi : i < n) (h : V i ≠ U i) : sam n m V U = false := decide_eq_false (fun hh => h (hh.2 i hi))
theorem sam_yes {n : Nat} {V U : Nat → Int} (h : SoFar V U n) : sam n n V U = true := decide_eq_true ⟨rfl, h⟩
attribute [local irreducible] sam
set_option maxRecDepth 100000 in
set_option maxHeartbeats 4000000 in
theorem same_any (A : Option Addr) (n cap : Nat) (V : Nat → Int) (A' : Option Addr) (n' cap' : Nat) (U : Nat → Int) (w : World) (hn : n ≤ 1000000) (hI : Ints w A n V) (hI' : Ints w A' n' U) :
    Calls Try.prog 16 #[.slice A n cap, .slice A' n' cap'] w fun e w' => e = .returned (.bool (sam n n' V U)) ∧ Below w.heap.size w w' := by
  have H := Lib.hid hI
  have H' := Lib.hid hI'
  clear hI hI'
  by_cases hnn : n = n'
  · subst hnn
    go_enter Try.func16, Try.ntmps16
    go_upto_region 4 with fail
    go_loopw [5] (fun s5 wr => ∃ i : Nat, i ≤ n ∧ s5 = .int .i64 i ∧ SoFar V U i ∧ Below w.heap.size w wr) (fun s5 _ => n - (intOf s5).toNat)
    case atStart => exact ⟨0, by omega, rfl, fun j hj => by omega, Below.refl _ _⟩
    case round =>
      obtain ⟨i, hi, rfl, hne, hb⟩ := hrel
      have HNE := Lib.hid hne
      have HB := Lib.hid hb
      clear hne hb
      by_cases hlt : i < n
      · have hlt2 : (i : Int) < (n : Int) := by omega
        have i00 : (0 : Int) ≤ (i : Int) := by omega
        obtain ⟨b, o, rfl, hl, hc⟩ := H.out i (by omega)
        obtain ⟨b', o', rfl, hl', hd⟩ := H'.out i (by omega)
        have hc' := later HB.out hc
        have hd' := later HB.out hd
        clear hc hd
        go_upto_region 6 with fail
        cases hxe : (V i != U i)
        · refine wp_region_still_lit (by kernel_rfl) (by kernel_rfl) ?_
          change wpStill _ _ wr.drew _ _ _
          repeat still_step
          refine wpStill_nil ?_
          go_wp2
          go_roundw
          case rel =>
            refine ⟨i + 1, by omega, by go_num, fun j hj => ?_, below_drew HB.out⟩
            by_cases e : j = i
            · subst e; simpa using hxe
            · exact HNE.out j (by omega)
          case measure => simp [intOf]; omega
        · refine wp_region_still_lit (by kernel_rfl) (by kernel_rfl) ?_
          change wpStill _ _ wr.drew _ _ _
          repeat still_step
          refine wpStill_nil ?_
          go_wp2
          go_ret
          exact ⟨by rw [sam_at hlt (by simpa using hxe)]; rfl, below_drew HB.out⟩
      · obtain rfl : i = n := by omega
        go_wp2
        go_ret
        exact ⟨by rw [sam_yes HNE.out]; rfl, HB.out⟩
  · have hnn' : ((n : Int) == (n' : Int)) = false := by simp; omega
    have hnn2 : ((n : Int) != (n' : Int)) = true := by simp; omega
    go_enter Try.func16, Try.ntmps16
    go_wp2
    go_ret
    exact ⟨by rw [sam_no hnn]; rfl, Below.refl _ _⟩
end GG
end Go.Proofs.Ytebkpjefdaieaaa

/-
  Acyclic, and the document's. Conditions: those that each theorem names.
-/
namespace Go.Proofs.Ytebkpjefdaieaaa
open Go.RowKit
set_option linter.unusedVariables false
set_option linter.unusedSimpArgs false
namespace GG
theorem tw_twi (L : List Int) : twi L.length (fun i => L.getD i 0) = tw L := rfl
/-- no way from the first i ones comes back -/
def Calm (n : Nat) (N : Nat → Int) (i : Nat) : Prop := ∀ j, j < i → tw (way n N [] (j : Int)) = false
theorem acy_no {n : Nat} {N : Nat → Int} {i : Nat} (hi : i < n) (h : tw (way n N [] (i : Int)) = true) : acy n N = false := decide_eq_false (fun hh => by rw [hh i hi] at h; cases h)
theorem acy_yes {n : Nat} {N : Nat → Int} (h : Calm n N n) : acy n N = true := decide_eq_true h
theorem Calm.next {n : Nat} {N : Nat → Int} {i : Nat} (h : Calm n N i) (h2 : tw (way n N [] (i : Int)) = false) : Calm n N (i + 1) := fun j hj => by
  by_cases e : j = i
  · subst e; exact h2
  · exact h j (by omega)
theorem tw_at {L : List Int} {m : Nat} (h : L.length = m + 1) : tw L = decide (∃ i, i < m ∧ L.getD i 0 = L.getD m 0) := by unfold tw; rw [h]; rfl
theorem contains_last (g m cap : Nat) (L : List Int) (w : World) (hl : L.length = m + 1) (hm : m ≤ 9223372036854775807) (h : Ints w (some ⟨g, 0, none⟩) L.length (fun i => L.getD i 0)) :
    Calls Try.prog 61 #[.slice (some ⟨g, 0, none⟩) m cap, .int .i64 (L.getD m 0)] w fun e w' => e = .returned (.bool (tw L)) ∧ w = w' := by
  rw [tw_at hl]
  exact contains_any _ m cap (fun i => L.getD i 0) _ w hm (fun i hi => h i (by omega))
attribute [local irreducible] acy tw twi way
set_option maxRecDepth 100000 in
set_option maxHeartbeats 4000000 in
theorem acyclic_any (A : Option Addr) (n cap : Nat) (N : Nat → Int) (w : World) (hn : n ≤ 1000000) (hI : Ints w A n N) :
    Calls Try.prog 44 #[.slice A n cap] w fun e w' => e = .returned (.bool (acy n N)) ∧ Below w.heap.size w w' := by
  have H := Lib.hid hI
  clear hI
  go_enter Try.func44, Try.ntmps44
  go_upto_region 2 with fail
  go_loopw [7] (fun s7 wr => ∃ i : Nat, i ≤ n ∧ s7 = .int .i64 i ∧ Calm n N i ∧ Below w.heap.size w wr) (fun s7 _ => n - (intOf s7).toNat)
  case atStart => exact ⟨0, by omega, rfl, fun j hj => by omega, Below.refl _ _⟩
  case round =>
    obtain ⟨i, hi, rfl, hne, hb⟩ := hrel
    have HNE := Lib.hid hne
    have HB := Lib.hid hb
    clear hne hb
    by_cases hlt : i < n
    · have hlt2 : (i : Int) < (n : Int) := by omega
      have i00 : (0 : Int) ≤ (i : Int) := by omega
      have hIr := H.out.keep HB.out
      have hpos := way_pos (N := N) (show (0 : Int) ≤ (i : Int) ∧ (i : Int) < (n : Int) from ⟨i00, hlt2⟩)
      have hlen := way_len (n := n) (N := N) (i : Int)
      go_upto_region 5 with (go_at_call 60; refine (way_any A n cap N i wr hn hIr).mono ?_; rintro e w1 ⟨⟨v, rfl, hown, hlv⟩, hb1⟩; have HO := Lib.hid hown; have HLV := Lib.hid hlv; have HB1 := Lib.hid hb1; clear hown hlv hb1)
      obtain ⟨g, c2, rfl, hbg, hnc, hgl⟩ := own_form HO.out hpos
      have hII := Ints.own HO.out
      obtain ⟨L, hL⟩ : ∃ L, way n N [] (i : Int) = L := ⟨_, rfl⟩
      rw [hL] at hII hpos hlen hnc
      have HL := Lib.hid hL
      rw [hL]
      obtain ⟨m, hm⟩ : ∃ m, L.length - 1 = m := ⟨_, rfl⟩
      have hlm : L.length = m + 1 := by omega
      -- GEN
      obtain ⟨b', o', he, _, hc⟩ := hII m (by omega)
      simp only [Option.some.injEq, Addr.mk.injEq] at he
      obtain ⟨rfl, rfl, _⟩ := he
      rw [Nat.zero_add] at hc
      have hc : w1.drew.cell? ⟨g, m, none⟩ = some (.int .i64 (L.getD m 0)) := hc
      have hct := contains_last g m c2 L w1.drew hlm (by omega) hII
      obtain ⟨x, hx⟩ : ∃ x, L.getD m 0 = x := ⟨_, rfl⟩
      rw [hx] at hc hct
      obtain ⟨q, hq⟩ : ∃ q, L.length = q := ⟨_, rfl⟩
      rw [hq] at hlm hnc hlen ⊢
      have hm0 : IntKind.i64.wrap ((q : Int) - 1) = (m : Int) := by rw [IntWalk.i64_in _ (by omega)]; omega
      have hm1 : (q : Int) - 1 = (m : Int) := by omega
      have hm5 : IntKind.i64.wrap (m : Int) = (m : Int) := IntWalk.i64_in _ (by omega)
      have hm2 : (0 : Int) ≤ (m : Int) := by omega
      have hm3 : (m : Int) < (q : Int) := by omega
      have hm4 : (m : Int) ≤ (c2 : Int) := by omega
      have hm6 : m ≤ c2 := by omega
      have HCT := Lib.hid hct
      clear hct hII hx hq hm hIr hlen hnc hlm
      cases htw : tw L
      · have HTW := Lib.hid htw
        rw [htw] at HCT
        refine wp_region_held_drew (S := (fun w' => w'.cell? ⟨g, m, none⟩ = some (.int .i64 x))) (by kernel_rfl) hc (fun _ => ?_)
        refine held_take 0 13 (v := ?_) rfl rfl (by kernel_rfl) (by kernel_rfl) (by kernel_rfl) (fun _ _ _ h => h) (by rfl) ?_ hc ?_
        rotate_left
        · (intro w hSw; (try dsimp only at hSw); try simp only [List.getElem_toArray, List.getElem_cons_zero, List.getElem_cons_succ]; go_simp; try (with_reducible rfl))
        try simp only [List.setIfInBounds_toArray, List.set_cons_zero, List.set_cons_succ]
        refine held_take 1 14 (v := ?_) rfl rfl (by kernel_rfl) (by kernel_rfl) (by kernel_rfl) (fun _ _ _ h => h) (by rfl) ?_ hc ?_
        rotate_left
        · (intro w hSw; (try dsimp only at hSw); try simp only [List.getElem_toArray, List.getElem_cons_zero, List.getElem_cons_succ]; go_simp; try (with_reducible rfl))
        try simp only [List.setIfInBounds_toArray, List.set_cons_zero, List.set_cons_succ]
        refine held_take 2 15 (v := ?_) rfl rfl (by kernel_rfl) (by kernel_rfl) (by kernel_rfl) (fun _ _ _ h => h) (by rfl) ?_ hc ?_
        rotate_left
        · (intro w hSw; (try dsimp only at hSw); try simp only [List.getElem_toArray, List.getElem_cons_zero, List.getElem_cons_succ]; go_simp; try (with_reducible rfl))
        try simp only [List.setIfInBounds_toArray, List.set_cons_zero, List.set_cons_succ]
        refine held_take 3 16 (v := ?_) rfl rfl (by kernel_rfl) (by kernel_rfl) (by kernel_rfl) (fun _ _ _ h => h) (by rfl) ?_ hc ?_
        rotate_left
        · (intro w hSw; (try dsimp only at hSw); try simp only [List.getElem_toArray, List.getElem_cons_zero, List.getElem_cons_succ]; go_simp; try (with_reducible rfl))
        try simp only [List.setIfInBounds_toArray, List.set_cons_zero, List.set_cons_succ]
        refine held_take 4 17 (v := ?_) rfl rfl (by kernel_rfl) (by kernel_rfl) (by kernel_rfl) (fun _ _ _ h => h) (by rfl) ?_ hc ?_
        rotate_left
        · (intro w hSw; (try dsimp only at hSw); try simp only [List.getElem_toArray, List.getElem_cons_zero, List.getElem_cons_succ]; go_simp; try (with_reducible rfl))
        try simp only [List.setIfInBounds_toArray, List.set_cons_zero, List.set_cons_succ]
        refine held_take 5 18 (v := ?_) rfl rfl (by kernel_rfl) (by kernel_rfl) (by kernel_rfl) (fun _ _ _ h => h) (by rfl) ?_ hc ?_
        rotate_left
        · (intro w hSw; (try dsimp only at hSw); try simp only [List.getElem_toArray, List.getElem_cons_zero, List.getElem_cons_succ]; go_simp; try (with_reducible rfl))
        try simp only [List.setIfInBounds_toArray, List.set_cons_zero, List.set_cons_succ]
        refine held_take 6 19 (v := ?_) rfl rfl (by kernel_rfl) (by kernel_rfl) (by kernel_rfl) (fun _ _ _ h => h) (by rfl) ?_ hc ?_
        rotate_left
        · (intro w hSw; (try dsimp only at hSw); try simp only [List.getElem_toArray, List.getElem_cons_zero, List.getElem_cons_succ]; go_simp; try (with_reducible rfl))
        try simp only [List.setIfInBounds_toArray, List.set_cons_zero, List.set_cons_succ]
        refine held_take 7 20 (v := ?_) rfl rfl (by kernel_rfl) (by kernel_rfl) (by kernel_rfl) (fun _ _ _ h => h) (by rfl) ?_ hc ?_
        rotate_left
        · (intro w hSw; (try dsimp only at hSw); try simp only [List.getElem_toArray, List.getElem_cons_zero, List.getElem_cons_succ]; go_simp; try (with_reducible rfl))
        try simp only [List.setIfInBounds_toArray, List.set_cons_zero, List.set_cons_succ]
        refine held_take 8 21 (v := ?_) rfl rfl (by kernel_rfl) (by kernel_rfl) (by kernel_rfl) (fun _ _ _ h => h) (by rfl) ?_ hc ?_
        rotate_left
        · (intro w hSw; (try dsimp only at hSw); try simp only [List.getElem_toArray, List.getElem_cons_zero, List.getElem_cons_succ]; go_simp; try (with_reducible rfl))
        try simp only [List.setIfInBounds_toArray, List.set_cons_zero, List.set_cons_succ]
        refine held_take 9 22 (v := ?_) rfl rfl (by kernel_rfl) (by kernel_rfl) (by kernel_rfl) (fun _ _ _ h => h) (by rfl) ?_ hc ?_
        rotate_left
        · (intro w hSw; (try dsimp only at hSw); try simp only [List.getElem_toArray, List.getElem_cons_zero, List.getElem_cons_succ]; go_simp; try (with_reducible rfl))
        try simp only [List.setIfInBounds_toArray, List.set_cons_zero, List.set_cons_succ]
        refine held_take 10 23 (v := ?_) rfl rfl (by kernel_rfl) (by kernel_rfl) (by kernel_rfl) (fun _ _ _ h => h) (by rfl) ?_ hc ?_
        rotate_left
        · (intro w hSw; (try dsimp only at hSw); try simp only [List.getElem_toArray, List.getElem_cons_zero, List.getElem_cons_succ]; go_simp; try (with_reducible rfl))
        try simp only [List.setIfInBounds_toArray, List.set_cons_zero, List.set_cons_succ]
        refine held_call 11 24 rfl rfl (by kernel_rfl) (by rfl) (fun K hK => ?_)
        try simp only [List.getElem_toArray, List.getElem_cons_zero, List.getElem_cons_succ]
        go_simp
        (go_at_call 61; refine (HCT.out).mono ?_; rintro e w5 ⟨rfl, rfl⟩)
        try go_wp2_with fail
        try simp only [Act.put, List.setIfInBounds_toArray, List.set_cons_zero, List.set_cons_succ]
        refine hK.out _ _ _ hc ?_
        clear hK K
        refine wpAnyH_done (by kernel_rfl) ?_ _
        go_wp2
        go_roundw
        case rel => exact ⟨i + 1, by omega, by go_num, HNE.out.next (by rw [HL.out]; exact HTW.out), below_drew (HB.out.trans (HB1.out.mono HB.out.size))⟩
        case measure => simp [intOf]; omega
      · have HTW := Lib.hid htw
        rw [htw] at HCT
        refine wp_region_held_drew (S := (fun w' => w'.cell? ⟨g, m, none⟩ = some (.int .i64 x))) (by kernel_rfl) hc (fun _ => ?_)
        refine held_take 0 13 (v := ?_) rfl rfl (by kernel_rfl) (by kernel_rfl) (by kernel_rfl) (fun _ _ _ h => h) (by rfl) ?_ hc ?_
        rotate_left
        · (intro w hSw; (try dsimp only at hSw); try simp only [List.getElem_toArray, List.getElem_cons_zero, List.getElem_cons_succ]; go_simp; try (with_reducible rfl))
        try simp only [List.setIfInBounds_toArray, List.set_cons_zero, List.set_cons_succ]
        refine held_take 1 14 (v := ?_) rfl rfl (by kernel_rfl) (by kernel_rfl) (by kernel_rfl) (fun _ _ _ h => h) (by rfl) ?_ hc ?_
        rotate_left
        · (intro w hSw; (try dsimp only at hSw); try simp only [List.getElem_toArray, List.getElem_cons_zero, List.getElem_cons_succ]; go_simp; try (with_reducible rfl))
        try simp only [List.setIfInBounds_toArray, List.set_cons_zero, List.set_cons_succ]
        refine held_take 2 15 (v := ?_) rfl rfl (by kernel_rfl) (by kernel_rfl) (by kernel_rfl) (fun _ _ _ h => h) (by rfl) ?_ hc ?_
        rotate_left
        · (intro w hSw; (try dsimp only at hSw); try simp only [List.getElem_toArray, List.getElem_cons_zero, List.getElem_cons_succ]; go_simp; try (with_reducible rfl))
        try simp only [List.setIfInBounds_toArray, List.set_cons_zero, List.set_cons_succ]
        refine held_take 3 16 (v := ?_) rfl rfl (by kernel_rfl) (by kernel_rfl) (by kernel_rfl) (fun _ _ _ h => h) (by rfl) ?_ hc ?_
        rotate_left
        · (intro w hSw; (try dsimp only at hSw); try simp only [List.getElem_toArray, List.getElem_cons_zero, List.getElem_cons_succ]; go_simp; try (with_reducible rfl))
        try simp only [List.setIfInBounds_toArray, List.set_cons_zero, List.set_cons_succ]
        refine held_take 4 17 (v := ?_) rfl rfl (by kernel_rfl) (by kernel_rfl) (by kernel_rfl) (fun _ _ _ h => h) (by rfl) ?_ hc ?_
        rotate_left
        · (intro w hSw; (try dsimp only at hSw); try simp only [List.getElem_toArray, List.getElem_cons_zero, List.getElem_cons_succ]; go_simp; try (with_reducible rfl))
        try simp only [List.setIfInBounds_toArray, List.set_cons_zero, List.set_cons_succ]
        refine held_take 5 18 (v := ?_) rfl rfl (by kernel_rfl) (by kernel_rfl) (by kernel_rfl) (fun _ _ _ h => h) (by rfl) ?_ hc ?_
        rotate_left
        · (intro w hSw; (try dsimp only at hSw); try simp only [List.getElem_toArray, List.getElem_cons_zero, List.getElem_cons_succ]; go_simp; try (with_reducible rfl))
        try simp only [List.setIfInBounds_toArray, List.set_cons_zero, List.set_cons_succ]
        refine held_take 6 19 (v := ?_) rfl rfl (by kernel_rfl) (by kernel_rfl) (by kernel_rfl) (fun _ _ _ h => h) (by rfl) ?_ hc ?_
        rotate_left
        · (intro w hSw; (try dsimp only at hSw); try simp only [List.getElem_toArray, List.getElem_cons_zero, List.getElem_cons_succ]; go_simp; try (with_reducible rfl))
        try simp only [List.setIfInBounds_toArray, List.set_cons_zero, List.set_cons_succ]
        refine held_take 7 20 (v := ?_) rfl rfl (by kernel_rfl) (by kernel_rfl) (by kernel_rfl) (fun _ _ _ h => h) (by rfl) ?_ hc ?_
        rotate_left
        · (intro w hSw; (try dsimp only at hSw); try simp only [List.getElem_toArray, List.getElem_cons_zero, List.getElem_cons_succ]; go_simp; try (with_reducible rfl))
        try simp only [List.setIfInBounds_toArray, List.set_cons_zero, List.set_cons_succ]
        refine held_take 8 21 (v := ?_) rfl rfl (by kernel_rfl) (by kernel_rfl) (by kernel_rfl) (fun _ _ _ h => h) (by rfl) ?_ hc ?_
        rotate_left
        · (intro w hSw; (try dsimp only at hSw); try simp only [List.getElem_toArray, List.getElem_cons_zero, List.getElem_cons_succ]; go_simp; try (with_reducible rfl))
        try simp only [List.setIfInBounds_toArray, List.set_cons_zero, List.set_cons_succ]
        refine held_take 9 22 (v := ?_) rfl rfl (by kernel_rfl) (by kernel_rfl) (by kernel_rfl) (fun _ _ _ h => h) (by rfl) ?_ hc ?_
        rotate_left
        · (intro w hSw; (try dsimp only at hSw); try simp only [List.getElem_toArray, List.getElem_cons_zero, List.getElem_cons_succ]; go_simp; try (with_reducible rfl))
        try simp only [List.setIfInBounds_toArray, List.set_cons_zero, List.set_cons_succ]
        refine held_take 10 23 (v := ?_) rfl rfl (by kernel_rfl) (by kernel_rfl) (by kernel_rfl) (fun _ _ _ h => h) (by rfl) ?_ hc ?_
        rotate_left
        · (intro w hSw; (try dsimp only at hSw); try simp only [List.getElem_toArray, List.getElem_cons_zero, List.getElem_cons_succ]; go_simp; try (with_reducible rfl))
        try simp only [List.setIfInBounds_toArray, List.set_cons_zero, List.set_cons_succ]
        refine held_call 11 24 rfl rfl (by kernel_rfl) (by rfl) (fun K hK => ?_)
        try simp only [List.getElem_toArray, List.getElem_cons_zero, List.getElem_cons_succ]
        go_simp
        (go_at_call 61; refine (HCT.out).mono ?_; rintro e w5 ⟨rfl, rfl⟩)
        try go_wp2_with fail
        try simp only [Act.put, List.setIfInBounds_toArray, List.set_cons_zero, List.set_cons_succ]
        refine hK.out _ _ _ hc ?_
        clear hK K
        refine wpAnyH_done (by kernel_rfl) ?_ _
        go_wp2
        go_ret
        exact ⟨by rw [acy_no hlt (by rw [HL.out]; exact HTW.out)]; rfl, below_drew (HB.out.trans (HB1.out.mono HB.out.size))⟩
    · obtain rfl : i = n := by omega
      go_wp2
      go_ret
      exact ⟨by rw [acy_yes HNE.out]; rfl, HB.out⟩
end GG
end Go.Proofs.Ytebkpjefdaieaaa

/-
  The document's Acyclic. Conditions: those that each theorem names.
-/
namespace Go.Proofs.Ytebkpjefdaieaaa
open Go.RowKit
set_option linter.unusedVariables false
set_option linter.unusedSimpArgs false
namespace GG
attribute [local irreducible] acy tw twi way
set_option maxRecDepth 100000 in
set_option maxHeartbeats 4000000 in
theorem refacyclic_any (A : Option Addr) (n cap : Nat) (N : Nat → Int) (w : World) (hn : n ≤ 1000000) (hI : Ints w A n N) :
    Calls Try.prog 45 #[.slice A n cap] w fun e w' => e = .returned (.bool (acy n N)) ∧ Below w.heap.size w w' := by
  have H := Lib.hid hI
  clear hI
  go_enter Try.func45, Try.ntmps45
  go_upto_region 2 with fail
  go_loopw [3] (fun s3 wr => ∃ i : Nat, i ≤ n ∧ s3 = .int .i64 i ∧ Calm n N i ∧ Below w.heap.size w wr) (fun s3 _ => n - (intOf s3).toNat)
  case atStart => exact ⟨0, by omega, rfl, fun j hj => by omega, Below.refl _ _⟩
  case round =>
    obtain ⟨i, hi, rfl, hne, hb⟩ := hrel
    have HNE := Lib.hid hne
    have HB := Lib.hid hb
    clear hne hb
    by_cases hlt : i < n
    · have hlt2 : (i : Int) < (n : Int) := by omega
      have i00 : (0 : Int) ≤ (i : Int) := by omega
      have HIr := Lib.hid (H.out.keep HB.out)
      have hpos := way_pos (N := N) (show (0 : Int) ≤ (i : Int) ∧ (i : Int) < (n : Int) from ⟨i00, hlt2⟩)
      have hlen := way_len (n := n) (N := N) (i : Int)
      have htl := fun h => tw_long (n := n) (N := N) (f := (i : Int)) h
      have hw1 := refway_any A n cap N i wr hn HIr.out
      have hw2 : ∀ w1, Below wr.heap.size wr w1 → Calls Try.prog 62 #[.slice A n cap, .int .i64 i] w1 fun e w' => (∃ v, e = .returned v ∧ w'.ownsRow w1.heap.size 3 1 v (way n N [] i).length (nums (way n N [] i)) ∧ lenOf v = (way n N [] i).length) ∧ Below w1.heap.size w1 w' := fun w1 hb => refway_any A n cap N i w1 hn (HIr.out.keep hb)
      obtain ⟨L, hL⟩ : ∃ L, way n N [] (i : Int) = L := ⟨_, rfl⟩
      rw [hL] at hpos hlen htl hw1 hw2
      have HW1 := Lib.hid hw1
      have HW2 := Lib.hid hw2
      have HL := Lib.hid hL
      have HTL := Lib.hid htl
      clear hw1 hw2 hL htl
      by_cases hbig : n < L.length
      · have hbig' : (n : Int) < (L.length : Int) := by omega
        have HTW := Lib.hid (HTL.out hbig)
        go_wp2_with (go_at_call 62; refine (HW1.out).mono ?_; rintro e w1 ⟨⟨v, rfl, hown, hlv⟩, hb1⟩; obtain ⟨g, c2, rfl, hbg, hnc, hgl⟩ := own_form hown hpos; have HO := Lib.hid hown; have HB1 := Lib.hid hb1; clear hown hlv hb1)
        go_ret
        exact ⟨by rw [acy_no hlt (by rw [HL.out]; exact HTW.out)]; rfl, HB.out.trans (HB1.out.mono HB.out.size)⟩
      · have hbig' : ¬ (n : Int) < (L.length : Int) := by omega
        cases htw : tw L
        · have HTW := Lib.hid htw
          clear htw
          go_wp2_with (first
            | (go_at_call 62; with_reducible refine (HW1.out).mono ?_; rintro e w1 ⟨⟨v, rfl, hown, hlv⟩, hb1⟩; obtain ⟨g, c2, rfl, hbg, hnc, hgl⟩ := own_form hown hpos; have HO := Lib.hid hown; have HB1 := Lib.hid hb1; clear hown hlv hb1)
            | (go_at_call 62; with_reducible refine (HW2.out w1 HB1.out).mono ?_; rintro e w2 ⟨⟨v, rfl, hown, hlv⟩, hb1⟩; obtain ⟨g3, c3, rfl, hbg3, hnc3, hgl3⟩ := own_form hown hpos; have HII := Lib.hid (Ints.own hown); have HB2 := Lib.hid (HB1.out.trans (hb1.mono HB1.out.size)); clear hown hlv hb1)
            | (go_at_call 63; refine (twice_any _ L.length c3 (fun i => L.getD i 0) w2 (by omega) HII.out).mono ?_; rw [tw_twi, HTW.out]; rintro e w3 ⟨rfl, hb3⟩; have HB3 := Lib.hid (HB2.out.trans (hb3.mono HB2.out.size)); clear hb3))
          go_roundw
          case rel => exact ⟨i + 1, by omega, by go_num, HNE.out.next (by rw [HL.out]; exact HTW.out), HB.out.trans (HB3.out.mono HB.out.size)⟩
          case measure => simp [intOf]; omega
        · have HTW := Lib.hid htw
          clear htw
          go_wp2_with (first
            | (go_at_call 62; with_reducible refine (HW1.out).mono ?_; rintro e w1 ⟨⟨v, rfl, hown, hlv⟩, hb1⟩; obtain ⟨g, c2, rfl, hbg, hnc, hgl⟩ := own_form hown hpos; have HO := Lib.hid hown; have HB1 := Lib.hid hb1; clear hown hlv hb1)
            | (go_at_call 62; with_reducible refine (HW2.out w1 HB1.out).mono ?_; rintro e w2 ⟨⟨v, rfl, hown, hlv⟩, hb1⟩; obtain ⟨g3, c3, rfl, hbg3, hnc3, hgl3⟩ := own_form hown hpos; have HII := Lib.hid (Ints.own hown); have HB2 := Lib.hid (HB1.out.trans (hb1.mono HB1.out.size)); clear hown hlv hb1)
            | (go_at_call 63; refine (twice_any _ L.length c3 (fun i => L.getD i 0) w2 (by omega) HII.out).mono ?_; rw [tw_twi, HTW.out]; rintro e w3 ⟨rfl, hb3⟩; have HB3 := Lib.hid (HB2.out.trans (hb3.mono HB2.out.size)); clear hb3))
          go_ret
          exact ⟨by rw [acy_no hlt (by rw [HL.out]; exact HTW.out)]; rfl, HB.out.trans (HB3.out.mono HB.out.size)⟩
    · obtain rfl : i = n := by omega
      go_wp2
      go_ret
      exact ⟨by rw [acy_yes HNE.out]; rfl, HB.out⟩
end GG
end Go.Proofs.Ytebkpjefdaieaaa

/-
  slices.Repeat of one number, and what it leans on. Conditions: those that each theorem names.
-/
namespace Go.Proofs.Ytebkpjefdaieaaa
open Go.RowKit
set_option linter.unusedVariables false
set_option linter.unusedSimpArgs false
namespace GG
/-- a block of numbers -/
def Row (w : World) (g : Nat) (L : List Int) : Prop := w.heap[g]? = some (.cells (nums L).toArray 3 (0, 0))
theorem Row.cell {w : World} {g : Nat} {L : List Int} (h : Row w g L) (i : Nat) (hi : i < L.length) : w.cell? ⟨g, i, none⟩ = some (.int .i64 (L.getD i 0)) := by
  rw [blk_cell h i]
  simp [nums, List.getD_eq_getElem?_getD, List.getElem?_eq_getElem hi]
theorem Row.free {w : World} {g : Nat} {L : List Int} (h : Row w g L) (i : Nat) : w.frozen? ⟨g, i, none⟩ = false := blk_free h i
theorem Row.set {w : World} {g : Nat} {L : List Int} (h : Row w g L) (i : Nat) (x : Int) : Row (w.setCell ⟨g, i, none⟩ (.int .i64 x)) g (L.set i x) := by
  have := blk_set h i (.int .i64 x)
  simpa [Row, nums, List.map_set] using this
theorem Row.keep {w w' : World} {g : Nat} {L : List Int} (h : Row w g L) (hb : Below w.heap.size w w') : Row w' g L := (hb.block g (blk_lt h)).trans h
theorem Row.ints {w : World} {g : Nat} {L : List Int} (h : Row w g L) : Ints w (some ⟨g, 0, none⟩) L.length (fun i => L.getD i 0) := fun i hi =>
  ⟨g, 0, rfl, blk_lt h, by rw [Nat.zero_add]; exact h.cell i hi⟩
theorem Row.of_own {w : World} {base g n : Nat} {L : List Int} (h : w.ownsRow base 3 1 (.slice (some ⟨g, 0, none⟩) n n) n (nums L)) : Row w g L := by
  obtain ⟨h1, h2⟩ := h
  rcases h2 with ⟨h2, _⟩ | ⟨g', cap', cur, hv, hb, hh, hn, hm, hs, ht⟩
  · cases h2
  · simp only [Value.slice.injEq, Option.some.injEq, Addr.mk.injEq, and_true, true_and] at hv
    obtain ⟨rfl, rfl⟩ := hv
    have e : cur.toList = nums L := by
      rw [← ht]; exact (List.take_of_length_le (by simp [hs])).symm
    rw [Row, hh, ← e]
set_option maxHeartbeats 1600000 in
theorem mul64_any (n : Nat) (w : World) (h1 : 1 ≤ n) (h6 : n ≤ 6) :
    Calls Try.prog 71 #[.int .u64 1, .int .u64 n] w fun e w' => e = .returned (.tuple #[.int .u64 0, .int .u64 n]) ∧ w = w' := by
  have : n = 1 ∨ n = 2 ∨ n = 3 ∨ n = 4 ∨ n = 5 ∨ n = 6 := by omega
  rcases this with rfl | rfl | rfl | rfl | rfl | rfl
  all_goals
    go_enter Try.func71, Try.ntmps71
    go_wp2
    go_ret2
    exact ⟨rfl, rfl⟩
set_option maxHeartbeats 1600000 in
theorem mul_any (n : Nat) (w : World) (h1 : 1 ≤ n) (h6 : n ≤ 6) :
    Calls Try.prog 68 #[.int .u64 1, .int .u64 n] w fun e w' => e = .returned (.tuple #[.int .u64 0, .int .u64 n]) ∧ w = w' := by
  go_enter Try.func68, Try.ntmps68
  go_wp2_with (go_at_call 71; refine (mul64_any n w h1 h6).mono ?_; rintro e w' ⟨rfl, rfl⟩)
  go_ret2
  exact ⟨rfl, rfl⟩
end GG
end Go.Proofs.Ytebkpjefdaieaaa

/-
  slices.Repeat of one number. Conditions: those that each theorem names.
-/
namespace Go.Proofs.Ytebkpjefdaieaaa
open Go Go.RowKit
set_option linter.unusedVariables false
set_option linter.unusedSimpArgs false
namespace GG
theorem wp_copy {P : Program} {o : Oper} {a : Act} {w : World} {K : Act → World → Prop} {Q : Exit → Act → World → Prop} (hgd : o.guard = none) (d s : Operand) (dT sT : TypeId)
    (ho : o.op = .call { callee := .builtin .copy, args := #[d, s], argTypes := #[dT, sT] }) (elem : TypeId) (hu : P.underlying dT = some (.slice elem)) (hsz : (P.info? elem).map (·.size) = some 1)
    (dp sp : Option Addr) (dLen dCap sLen sCap : Nat) (hd : a.eval d = .slice dp dLen dCap) (hs : a.eval s = .slice sp sLen sCap)
    (g off : Nat) (cur : List Value) (t : TypeId) (hg : w.heap[g]? = some (.cells cur.toArray t (0, 0))) (cs : List Value) (hn : cs.length = Nat.min sLen dLen)
    (hpos : 0 < cs.length → dp = some ⟨g, off, none⟩ ∧ ∃ ad, sp = some ad ∧ ∀ j v, cs[j]? = some v → w.cell? (ad.add j) = some v)
    (hfit : off + cs.length ≤ cur.length) (h1 : ∀ v ∈ cs, v.oneCell' = true) (B : Nat) (w0 : World) (hb : RowKit.Below B w0 w) (hBg : B ≤ g)
    (h : ∀ w', RowKit.Hid (w'.heap[g]? = some (.cells (splice cur off cs).toArray t (0, 0))) → RowKit.Below B w0 w' → K (a.put o.dst (goInt cs.length)) w') : Oper.wp P o a w K Q := by
  have hw : Region.wanted o (yielded #[] a.tmps) = true := by simp [Region.wanted, hgd]
  have := step_copy_splice (ops := #[]) (E := False) (Q := Q) hgd d s dT sT ho elem hu hsz dp sp dLen dCap sLen sCap hd hs g off cur t hg cs hn hpos hfit h1 B w0 hb hBg h
  rwa [if_pos hw] at this
/-- the first m ones are x -/
def Full (L : List Int) (m : Nat) (x : Int) : Prop := ∀ j, j < m → L[j]? = some x
theorem full_first (n : Nat) (x : Int) (hn : 1 ≤ n) : Full (splice (List.replicate n 0) 0 [x]) 1 x := by
  intro j hj
  obtain rfl : j = 0 := by omega
  simp [splice]
theorem full_more {L : List Int} {m d : Nat} {x : Int} (h : Full L m x) (hm : m + d ≤ L.length) : Full (splice L m (List.replicate d x)) (m + d) x := by
  intro j hj
  unfold splice
  by_cases hjm : j < m
  · rw [List.getElem?_append_left (by simp; omega), List.getElem?_take, if_pos hjm]; exact h j hjm
  · rw [List.getElem?_append_right (by simp; omega), List.getElem?_append_left (by simp; omega), List.getElem?_replicate, if_pos (by simp; omega)]
theorem full_all {L : List Int} {n : Nat} {x : Int} (h : Full L n x) (hl : L.length = n) : L = List.replicate n x := by
  apply List.ext_getElem?
  intro j
  by_cases hj : j < n
  · rw [h j hj, List.getElem?_replicate, if_pos hj]
  · rw [List.getElem?_eq_none (by omega), List.getElem?_eq_none (by simp; omega)]
theorem nums_splice (L : List Int) (off : Nat) (M : List Int) : splice (nums L) off (nums M) = nums (splice L off M) := by simp [splice, nums, List.map_take, List.map_drop]
theorem made_zero (n : Nat) (h1 : 1 ≤ n) (h6 : n ≤ 6) : (madeCells (Value.int .i64 0).cells (n * 1)).toList = nums (List.replicate n 0) := by
  have e : (Value.int .i64 0).cells = #[.int .i64 0] := by simp [Value.cells]
  rw [e, Nat.mul_one, toList_madeCells_one]
  simp [nums]
theorem below_none {w w1 : World} (h : w.grownBy w1 none) : Below w.heap.size w w1 := ((Only.refl (fun _ => False) w).grown h (fun _ hk _ => by cases hk)).below (Nat.le_refl _) (fun _ _ h => h)
set_option maxRecDepth 100000 in
set_option maxHeartbeats 4000000 in
theorem repeat_any (b o n cap : Nat) (x : Int) (w : World) (h1 : 1 ≤ n) (h6 : n ≤ 6) (hc : w.cell? ⟨b, o, none⟩ = some (.int .i64 x)) :
    Calls Try.prog 55 #[.slice (some ⟨b, o, none⟩) 1 cap, .int .i64 n] w fun e w' => e = .returned (.slice (some ⟨w.heap.size, 0, none⟩) n n) ∧ Row w' w.heap.size (List.replicate n x) ∧ Below w.heap.size w w' := by
  obtain ⟨i0, hi0, hz0, hz1, hz2⟩ := info_parts intinfo
  have HI := Lib.hid hi0
  clear hi0
  have n0 : (0 : Int) ≤ (n : Int) := by omega
  have n00 : ¬ (n : Int) < 0 := by omega
  have n1 : IntKind.u64.wrap (n : Int) = (n : Int) := by simp [IntKind.wrap, IntKind.bits, IntKind.signed]; omega
  have n2 : IntKind.i64.wrap (n : Int) = (n : Int) := IntWalk.i64_in _ (by omega)
  have n3 : ¬ (9223372036854775807 : Int) < (n : Int) := by omega
  go_enter Try.func55, Try.ntmps55
  go_upto_region 7 with (first
    | (go_at_call 68; refine (mul_any n w h1 h6).mono ?_; rintro e w' ⟨rfl, rfl⟩)
    | (at_make; refine wpList_make_full _ rfl _ _ 35 rfl w.heap.size 3 i0 _ 1 Try.underlying35 HI.out hz0 hz1 _ _ _ _ n rfl rfl rfl rfl (by rw [hz2]; omega) (by unfold maxLen; omega) (Nat.le_refl _) ?_; intro w1 hown1 hgrow1; have HO1 := Lib.hid hown1; have HG1 := Lib.hid hgrow1; clear hown1 hgrow1))
  have hown := HO1.out
  rw [made_zero n h1 h6] at hown
  have HR0 := Lib.hid (Row.of_own hown)
  have HB0 := Lib.hid (below_none HG1.out)
  clear hown
  have hcw := later HB0.out hc
  have HPOS : Hid (0 < (nums [x]).length → some (⟨w.heap.size, 0, none⟩ : Addr) = some ⟨w.heap.size, 0, none⟩ ∧ ∃ ad, some (⟨b, o, none⟩ : Addr) = some ad ∧ ∀ j v, (nums [x])[j]? = some v → w1.cell? (ad.add j) = some v) :=
    Lib.hid (fun _ => ⟨rfl, _, rfl, fun j v hj => by
      cases j with
      | zero => simp [nums] at hj; subst hj; rw [Addr.add_lit]; exact hcw
      | succ j => simp [nums] at hj⟩)
  obtain ⟨g, hg⟩ : ∃ g, w.heap.size = g := ⟨_, rfl⟩
  have hgw : w.heap.size ≤ g := by omega
  rw [hg] at HR0 HPOS ⊢
  have HCW := Lib.hid hcw
  have HGE := Lib.hid hg
  have hng : Nat.min 1 n = 1 := Nat.min_eq_left h1
  clear hcw hg
  go_upto_region 8 with ((with_reducible show wpList _ _ _ _ _ _); refine wpList_copy_splice rfl (.tmp 31) (.tmp 32) 35 35 rfl 3 Try.underlying35 (by kernel_rfl) (some ⟨g, 0, none⟩) (some ⟨b, o, none⟩) n n 1 cap rfl rfl g 0 (nums (List.replicate n 0)) 3 HR0.out (nums [x]) (by rw [hng]; rfl) HPOS.out (by simp [nums]; omega) (ints_oneCell _ _) w.heap.size w HB0.out hgw ?_; intro w5 hw5 hb5)
  have hrow5 : Row w5 g (splice (List.replicate n 0) 0 [x]) := by
    have := hw5.out
    rw [nums_splice] at this
    exact this
  have HR5 := Lib.hid hrow5
  have HB5 := Lib.hid hb5
  clear hrow5 hb5 hw5 HPOS HR0 HB0
  have hlen5 : (splice (List.replicate n (0 : Int)) 0 [x]).length = n := by rw [length_splice _ _ _ (by simp; omega)]; simp
  go_loopw [8] (fun s8 wr => ∃ (m : Nat) (L : List Int), 1 ≤ m ∧ m ≤ n ∧ s8 = .int .i64 m ∧ L.length = n ∧ Full L m x ∧ Row wr g L ∧ Below w.heap.size w wr) (fun s8 _ => n - (intOf s8).toNat)
  case atStart => exact ⟨1, _, by omega, h1, rfl, hlen5, full_first n x h1, HR5.out, HB5.out⟩
  case round =>
    obtain ⟨m, L, hm1, hmn, rfl, hL, hfull, hrow, hb⟩ := hrel
    have HF := Lib.hid hfull
    have HB := Lib.hid hb
    clear hfull hb hlen5
    by_cases hlt : m < n
    · have hlt' : (m : Int) < (n : Int) := by omega
      have m0 : (0 : Int) ≤ (m : Int) := by omega
      have mle : (m : Int) ≤ (n : Int) := by omega
      have hnm : ¬ n = m := by omega
      have hnm2 : ¬ n - m = 0 := by omega
      obtain ⟨d, hd⟩ : ∃ d, Nat.min m (n - m) = d := ⟨_, rfl⟩
      have hdm : d ≤ m := by rw [← hd]; exact Nat.min_le_left _ _
      have hdn : d ≤ n - m := by rw [← hd]; exact Nat.min_le_right _ _
      have hd1 : 1 ≤ d := by rw [← hd]; exact Nat.le_min.2 ⟨hm1, by omega⟩
      have HPOS : Hid (0 < (nums (List.replicate d x)).length → some (⟨g, m, none⟩ : Addr) = some ⟨g, m, none⟩ ∧ ∃ ad, some (⟨g, 0, none⟩ : Addr) = some ad ∧ ∀ j v, (nums (List.replicate d x))[j]? = some v → wr.drew.cell? (ad.add j) = some v) :=
        Lib.hid (fun _ => ⟨rfl, _, rfl, fun j v hj => by
          have hjd : j < d := by have := (List.getElem?_eq_some_iff.1 hj).1; simpa [nums] using this
          have hv : v = .int .i64 x := by
            have : (nums (List.replicate d x))[j]? = some (.int .i64 x) := by simp [nums, hjd]
            rw [this] at hj; exact (Option.some.inj hj).symm
          rw [Addr.add_lit, Nat.zero_add, hv]
          have h2 := hrow.cell j (by omega)
          rw [List.getD_eq_getElem?_getD, HF.out j (by omega)] at h2
          exact h2⟩)
      have HR := Lib.hid (show Row wr.drew g L from hrow)
      obtain ⟨q, hq⟩ : ∃ q, m + d = q := ⟨_, rfl⟩
      have hsum : IntKind.i64.wrap ((m : Int) + (d : Int)) = (q : Int) := by rw [IntWalk.i64_in _ (by omega)]; omega
      have hsum2 : (m : Int) + (d : Int) = (q : Int) := by omega
      have hsum3 : IntKind.i64.wrap (q : Int) = (q : Int) := IntWalk.i64_in _ (by omega)
      have HQ := Lib.hid hq
      clear hq
      have hnl : (nums (List.replicate d x)).length = d := by simp [nums]
      have HD := Lib.hid hd
      clear hd hrow
      go_upto_region 9 with fail
      refine wp_region_held_drew (S := (fun _ => True)) (by kernel_rfl) trivial (fun _ => ?_)
      refine held_take 0 38 (v := ?_) rfl rfl (by kernel_rfl) (by kernel_rfl) (by kernel_rfl) (fun _ _ _ h => h) (by rfl) ?_ trivial ?_
      rotate_left
      · (intro w hSw; (try dsimp only at hSw); try simp only [List.getElem_toArray, List.getElem_cons_zero, List.getElem_cons_succ]; go_simp; try (with_reducible rfl))
      try simp only [List.setIfInBounds_toArray, List.set_cons_zero, List.set_cons_succ]
      refine held_take 1 39 (v := ?_) rfl rfl (by kernel_rfl) (by kernel_rfl) (by kernel_rfl) (fun _ _ _ h => h) (by rfl) ?_ trivial ?_
      rotate_left
      · (intro w hSw; (try dsimp only at hSw); try simp only [List.getElem_toArray, List.getElem_cons_zero, List.getElem_cons_succ]; go_simp; try (with_reducible rfl))
      try simp only [List.setIfInBounds_toArray, List.set_cons_zero, List.set_cons_succ]
      refine held_take 2 40 (v := ?_) rfl rfl (by kernel_rfl) (by kernel_rfl) (by kernel_rfl) (fun _ _ _ h => h) (by rfl) ?_ trivial ?_
      rotate_left
      · (intro w hSw; (try dsimp only at hSw); try simp only [List.getElem_toArray, List.getElem_cons_zero, List.getElem_cons_succ]; go_simp; try (with_reducible rfl))
      try simp only [List.setIfInBounds_toArray, List.set_cons_zero, List.set_cons_succ]
      refine held_take 3 41 (v := ?_) rfl rfl (by kernel_rfl) (by kernel_rfl) (by kernel_rfl) (fun _ _ _ h => h) (by rfl) ?_ trivial ?_
      rotate_left
      · (intro w hSw; (try dsimp only at hSw); try simp only [List.getElem_toArray, List.getElem_cons_zero, List.getElem_cons_succ]; go_simp; try (with_reducible rfl))
      try simp only [List.setIfInBounds_toArray, List.set_cons_zero, List.set_cons_succ]
      refine held_take 4 42 (v := ?_) rfl rfl (by kernel_rfl) (by kernel_rfl) (by kernel_rfl) (fun _ _ _ h => h) (by rfl) ?_ trivial ?_
      rotate_left
      · (intro w hSw; (try dsimp only at hSw); try simp only [List.getElem_toArray, List.getElem_cons_zero, List.getElem_cons_succ]; go_simp; try (with_reducible rfl))
      try simp only [List.setIfInBounds_toArray, List.set_cons_zero, List.set_cons_succ]
      refine held_take 5 43 (v := ?_) rfl rfl (by kernel_rfl) (by kernel_rfl) (by kernel_rfl) (fun _ _ _ h => h) (by rfl) ?_ trivial ?_
      rotate_left
      · (intro w hSw; (try dsimp only at hSw); try simp only [List.getElem_toArray, List.getElem_cons_zero, List.getElem_cons_succ]; go_simp; try (with_reducible rfl))
      try simp only [List.setIfInBounds_toArray, List.set_cons_zero, List.set_cons_succ]
      refine held_take 6 44 (v := ?_) rfl rfl (by kernel_rfl) (by kernel_rfl) (by kernel_rfl) (fun _ _ _ h => h) (by rfl) ?_ trivial ?_
      rotate_left
      · (intro w hSw; (try dsimp only at hSw); try simp only [List.getElem_toArray, List.getElem_cons_zero, List.getElem_cons_succ]; go_simp; try (with_reducible rfl))
      try simp only [List.setIfInBounds_toArray, List.set_cons_zero, List.set_cons_succ]
      refine held_call 7 45 rfl rfl (by kernel_rfl) (by rfl) (fun K hK => ?_)
      try simp only [List.getElem_toArray, List.getElem_cons_zero, List.getElem_cons_succ]
      (refine wp_copy rfl (.tmp 41) (.tmp 44) 35 35 rfl 3 Try.underlying35 (by kernel_rfl) (some ⟨g, m, none⟩) (some ⟨g, 0, none⟩) (n - m) (n - m) m n rfl rfl g m (nums L) 3 HR.out (nums (List.replicate d x)) (by rw [hnl]; exact HD.out.symm) HPOS.out (by rw [hnl]; simp [nums]; omega) (ints_oneCell _ _) w.heap.size w (below_drew HB.out) hgw ?_; intro w6 hw6 hb6; rw [hnl]; simp only [goInt])
      try simp only [Act.put, List.setIfInBounds_toArray, List.set_cons_zero, List.set_cons_succ]
      refine hK.out _ _ _ trivial ?_
      clear hK K
      refine held_take 8 46 (v := ?_) rfl rfl (by kernel_rfl) (by kernel_rfl) (by kernel_rfl) (fun _ _ _ h => h) (by rfl) ?_ trivial ?_
      rotate_left
      · (intro w hSw; (try dsimp only at hSw); try simp only [List.getElem_toArray, List.getElem_cons_zero, List.getElem_cons_succ]; go_simp; try (with_reducible rfl))
      try simp only [List.setIfInBounds_toArray, List.set_cons_zero, List.set_cons_succ]
      refine held_take 9 8 (v := ?_) rfl rfl (by kernel_rfl) (by kernel_rfl) (by kernel_rfl) (fun _ _ _ h => h) (by rfl) ?_ trivial ?_
      rotate_left
      · (intro w hSw; (try dsimp only at hSw); try simp only [List.getElem_toArray, List.getElem_cons_zero, List.getElem_cons_succ]; go_simp; try (with_reducible rfl))
      try simp only [List.setIfInBounds_toArray, List.set_cons_zero, List.set_cons_succ]
      refine wpAnyH_done (by kernel_rfl) ?_ _
      have hrow6 : Row w6 g (splice L m (List.replicate d x)) := by
        have := hw6.out
        rw [nums_splice] at this
        exact this
      have HR6 := Lib.hid hrow6
      have HB6 := Lib.hid hb6
      clear hrow6 hb6 hw6
      go_wp2
      go_roundw
      case rel => exact ⟨q, splice L m (List.replicate d x), by have := HQ.out; omega, by have := HQ.out; omega, rfl, by rw [length_splice _ _ _ (by simp; omega)]; exact hL, by rw [← HQ.out]; exact full_more HF.out (by omega), HR6.out, HB6.out⟩
      case measure => have := HQ.out; simp [intOf]; omega
    · obtain rfl : m = n := by omega
      have hg0 := HGE.out
      go_wp2
      go_ret
      subst hg0
      exact ⟨rfl, by rw [← full_all HF.out hL]; exact hrow, HB.out⟩
end GG
end Go.Proofs.Ytebkpjefdaieaaa

/-
  How far nodes are: plain laws (the nearest node first; rounds). No program. Conditions: those that each law names.
-/
namespace Go.Proofs.Ytebkpjefdaieaaa
set_option linter.unusedVariables false
namespace GP

/-- how far each of n nodes is from 'tgt', by what it answers to -/
structure IsFar (n : Nat) (c : Nat → Nat → Int) (tgt : Nat) (D : Nat → Int) : Prop where
  zero : D tgt = 0
  low : ∀ i, i < n → 0 ≤ D i
  high : ∀ i, i < n → D i ≤ 65535
  pos : ∀ i, i < n → i ≠ tgt → 0 < D i
  link : ∀ i k, i < n → k < n → 0 < c i k → D i ≤ D k + c i k
  by_ : ∀ i, i < n → i ≠ tgt → D i = 65535 ∨ ∃ k, k < n ∧ 0 < c i k ∧ D i = D k + c i k

theorem IsFar.le {n c tgt D D'} (h : IsFar n c tgt D) (h' : IsFar n c tgt D') : ∀ i, i < n → D i ≤ D' i := by
  have key : ∀ (m : Nat) (i : Nat), i < n → D' i < m → D i ≤ D' i := by
    intro m
    induction m with
    | zero => intro i hi hm; have := h'.low i hi; omega
    | succ m ih =>
      intro i hi hm
      by_cases e : i = tgt
      · subst e; rw [h.zero, h'.zero]; omega
      · rcases h'.by_ i hi e with h1 | ⟨k, hk, hc, h1⟩
        · rw [h1]; exact h.high i hi
        · have := h.link i k hi hk hc
          have := ih k hk (by omega)
          omega
  intro i hi
  exact key (D' i + 1).toNat i hi (by have := h'.low i hi; omega)

theorem IsFar.unique {n c tgt D D'} (h : IsFar n c tgt D) (h' : IsFar n c tgt D') : ∀ i, i < n → D i = D' i :=
  fun i hi => Int.le_antisymm (h.le h' i hi) (h'.le h i hi)

/-- by a third node -/
theorem IsFar.third {n : Nat} {c : Nat → Nat → Int} {a b : Nat} {Da Db : Nat → Int} (hs : ∀ i k, c i k = c k i) (ha : IsFar n c a Da) (hb : IsFar n c b Db) (hbn : b < n) :
    ∀ x, x < n → Da b ≤ Da x + Db x := by
  have key : ∀ (m : Nat) (x : Nat), x < n → Db x < m → Da b ≤ Da x + Db x := by
    intro m
    induction m with
    | zero => intro i hi hm; have := hb.low i hi; omega
    | succ m ih =>
      intro x hx hm
      by_cases e : x = b
      · subst e; rw [hb.zero]; omega
      · rcases hb.by_ x hx e with h1 | ⟨k, hk, hc, h1⟩
        · have := ha.high b hbn; have := ha.low x hx; omega
        · have := ha.link k x hk hx (by rw [hs]; exact hc)
          have := ih k hk (by omega)
          have := hs x k
          omega
  intro x hx
  exact key (Db x + 1).toNat x hx (by have := hb.low x hx; omega)

theorem IsFar.sym {n : Nat} {c : Nat → Nat → Int} {a b : Nat} {Da Db : Nat → Int} (hs : ∀ i k, c i k = c k i) (ha : IsFar n c a Da) (hb : IsFar n c b Db) (han : a < n) (hbn : b < n) :
    Da b = Db a := by
  have h1 := ha.third hs hb hbn a han
  have h2 := hb.third hs ha han b hbn
  rw [ha.zero] at h1
  rw [hb.zero] at h2
  omega

/-! Dijkstra's way -/

/-- which node is taken: of the first i ones the nearest that is not done -/
def pick (done : Nat → Bool) (far : Nat → Int) : Nat → Int
  | 0 => -1
  | i + 1 => if done i = false ∧ far i < 65535 ∧ (pick done far i < 0 ∨ far i < far (pick done far i).toNat) then (i : Int) else pick done far i

theorem pick_is (done far) (n : Nat) : (pick done far n = -1 ∧ ∀ j, j < n → done j = false → 65535 ≤ far j) ∨
    ∃ a : Nat, pick done far n = (a : Int) ∧ a < n ∧ done a = false ∧ far a < 65535 ∧ ∀ j, j < n → done j = false → far a ≤ far j := by
  induction n with
  | zero => exact .inl ⟨rfl, fun j hj => by omega⟩
  | succ n ih =>
    unfold pick
    rcases ih with ⟨h1, h2⟩ | ⟨a, h1, h2, h3, h4, h5⟩
    · rw [h1]
      by_cases hc : done n = false ∧ far n < 65535
      · rw [if_pos ⟨hc.1, hc.2, .inl (by omega)⟩]
        refine .inr ⟨n, rfl, by omega, hc.1, hc.2, fun j hj hd => ?_⟩
        by_cases e : j = n
        · subst e; omega
        · have := h2 j (by omega) hd; omega
      · rw [if_neg (fun h => hc ⟨h.1, h.2.1⟩)]
        refine .inl ⟨rfl, fun j hj hd => ?_⟩
        by_cases e : j = n
        · subst e; by_cases h : far j < 65535
          · exact absurd ⟨hd, h⟩ hc
          · omega
        · exact h2 j (by omega) hd
    · rw [h1]
      by_cases hc : done n = false ∧ far n < 65535 ∧ ((a : Int) < 0 ∨ far n < far (a : Int).toNat)
      · rw [if_pos hc]
        obtain ⟨c1, c2, c3⟩ := hc
        have c4 : far n < far a := by
          rcases c3 with c3 | c3
          · omega
          · simpa using c3
        refine .inr ⟨n, rfl, by omega, c1, c2, fun j hj hd => ?_⟩
        by_cases e : j = n
        · subst e; omega
        · have := h5 j (by omega) hd; omega
      · rw [if_neg hc]
        refine .inr ⟨a, rfl, by omega, h3, h4, fun j hj hd => ?_⟩
        by_cases e : j = n
        · subst e
          apply Int.not_lt.1
          intro hlt
          exact hc ⟨hd, by omega, .inr (by simpa using hlt)⟩
        · exact h5 j (by omega) hd

/-- what is known while nodes are done one by one -/
structure Dij (n : Nat) (c : Nat → Nat → Int) (tgt : Nat) (done : Nat → Bool) (far : Nat → Int) : Prop where
  zero : far tgt = 0
  low : ∀ i, i < n → 0 ≤ far i
  high : ∀ i, i < n → far i ≤ 65535
  pos : ∀ i, i < n → i ≠ tgt → 0 < far i
  by_ : ∀ i, i < n → i ≠ tgt → far i = 65535 ∨ ∃ k, k < n ∧ done k = true ∧ 0 < c k i ∧ far i = far k + c k i
  link : ∀ k i, k < n → i < n → done k = true → 0 < c k i → far i ≤ far k + c k i
  ahead : ∀ k i, k < n → i < n → done k = true → done i = false → far k ≤ far i

def relax (c : Nat → Nat → Int) (far : Nat → Int) (a : Nat) (i : Nat) : Int := if 0 < c a i then min (far i) (far a + c a i) else far i

theorem Dij.start {n c tgt} : Dij n c tgt (fun _ => false) (fun i => if i = tgt then 0 else 65535) :=
  ⟨by simp, fun i _ => by split <;> omega, fun i _ => by split <;> omega, fun i _ h => by rw [if_neg h]; omega,
   fun i _ h => .inl (by rw [if_neg h]), fun _ _ _ _ h => (Bool.noConfusion h), fun _ _ _ _ h => (Bool.noConfusion h)⟩

theorem Dij.step {n c tgt done far} (h : Dij n c tgt done far) (htgt : tgt < n) (hc : ∀ i k, 0 ≤ c i k) {a : Nat} (ha : a < n) (hd : done a = false) (hf : far a < 65535)
    (hmin : ∀ j, j < n → done j = false → far a ≤ far j) : Dij n c tgt (fun i => if i = a then true else done i) (relax c far a) := by
  have hfa : relax c far a a = far a := by unfold relax; split <;> omega
  have hle : ∀ i, relax c far a i ≤ far i := fun i => by unfold relax; split <;> omega
  have hge : ∀ i, i < n → far i ≤ far a → relax c far a i = far i := fun i hi h' => by unfold relax; have := hc a i; split <;> omega
  have hdone : ∀ k, k < n → done k = true → relax c far a k = far k := fun k hk hdk => hge k hk (h.ahead k a hk ha hdk hd)
  have hzero : relax c far a tgt = 0 := by
    have := h.low a ha
    rw [hge tgt htgt (by rw [h.zero]; omega), h.zero]
  refine ⟨hzero, fun i hi => ?_, fun i hi => ?_, fun i hi hne => ?_, fun i hi hne => ?_, fun k i hk hi hdk hck => ?_, fun k i hk hi hdk hdi => ?_⟩
  · have := h.low i hi; have := h.low a ha; have := hc a i; unfold relax; split <;> omega
  · exact Int.le_trans (hle i) (h.high i hi)
  · have := h.pos i hi hne; have := h.low a ha; unfold relax; split <;> omega
  · by_cases hcase : relax c far a i = far i
    · rw [hcase]
      rcases h.by_ i hi hne with h1 | ⟨k, hk, hdk, hck, h1⟩
      · exact .inl h1
      · refine .inr ⟨k, hk, by split <;> simp [hdk], hck, ?_⟩
        rw [hdone k hk hdk]; exact h1
    · refine .inr ⟨a, ha, by simp, ?_, ?_⟩
      · apply Int.not_le.1; intro h'; exact hcase (by unfold relax; rw [if_neg (by omega)])
      · rw [hfa]; unfold relax at hcase ⊢; split at hcase <;> omega
  · by_cases e : k = a
    · subst e; rw [hfa]; unfold relax; rw [if_pos hck]; omega
    · have hdk' : done k = true := by simpa [e] using hdk
      rw [hdone k hk hdk']
      exact Int.le_trans (hle i) (h.link k i hk hi hdk' hck)
  · have hia : i ≠ a := fun e => by subst e; simp at hdi
    have hdi' : done i = false := by simpa [hia] using hdi
    have hmi := hmin i hi hdi'
    by_cases e : k = a
    · subst e; rw [hfa]; have := hc k i; unfold relax; split <;> omega
    · have hdk' : done k = true := by simpa [e] using hdk
      rw [hdone k hk hdk']
      have := h.ahead k i hk hi hdk' hdi'
      have := h.ahead k a hk ha hdk' hd
      have := hc a i
      unfold relax; split <;> omega

theorem Dij.isFar {n c tgt done far} (h : Dij n c tgt done far) (hs : ∀ i k, c i k = c k i) (hend : ∀ j, j < n → done j = false → 65535 ≤ far j) : IsFar n c tgt far := by
  refine ⟨h.zero, h.low, h.high, h.pos, fun i k hi hk hck => ?_, fun i hi hne => ?_⟩
  · cases hd : done k with
    | true => have := h.link k i hk hi hd (by rw [hs]; exact hck); rw [hs]; exact this
    | false => have := hend k hk hd; have := h.high i hi; omega
  · rcases h.by_ i hi hne with h1 | ⟨k, hk, _, hck, h1⟩
    · exact .inl h1
    · exact .inr ⟨k, hk, by rw [hs]; exact hck, by rw [hs]; exact h1⟩

/-! how many are done -/
def undone (done : Nat → Bool) : Nat → Nat
  | 0 => 0
  | n + 1 => undone done n + (if done n then 0 else 1)

theorem undone_congr {d d' : Nat → Bool} (n : Nat) (h : ∀ i, i < n → d i = d' i) : undone d n = undone d' n := by
  induction n with
  | zero => rfl
  | succ n ih => simp only [undone]; rw [ih (fun i hi => h i (by omega)), h n (by omega)]

theorem undone_step {d d' : Nat → Bool} (a n : Nat) (ha : a < n) (hd : d a = false) (h1 : d' a = true) (h2 : ∀ i, i ≠ a → d' i = d i) : undone d' n + 1 = undone d n := by
  induction n with
  | zero => omega
  | succ n ih =>
    simp only [undone]
    by_cases e : a = n
    · subst e
      rw [undone_congr (d := d') (d' := d) a (fun i hi => h2 i (by omega)), h1, hd]
      simp
    · have := ih (by omega)
      rw [h2 n (by omega)]
      omega

/-! the reference's rounds -/
/-- how many are nearer -/
def rank (D : Nat → Int) (v : Int) : Nat → Nat
  | 0 => 0
  | n + 1 => rank D v n + (if D n < v then 1 else 0)

theorem rank_le (D v) (n : Nat) : rank D v n ≤ n := by
  induction n with
  | zero => simp [rank]
  | succ n ih => simp only [rank]; split <;> omega

theorem rank_mono (D) {v v' : Int} (h : v ≤ v') (n : Nat) : rank D v n ≤ rank D v' n := by
  induction n with
  | zero => simp [rank]
  | succ n ih => simp only [rank]; split <;> split <;> omega

theorem rank_lt (D) {v v' : Int} (h : v < v') (n : Nat) (p : Nat) (hp : p < n) (h1 : v ≤ D p) (h2 : D p < v') : rank D v n < rank D v' n := by
  induction n with
  | zero => omega
  | succ n ih =>
    simp only [rank]
    by_cases e : p = n
    · subst e
      have := rank_mono D (Int.le_of_lt h) p
      rw [if_neg (by omega), if_pos h2]; omega
    · have := ih (by omega)
      split <;> split <;> omega

theorem rank_lt_n (D) (n i : Nat) (hi : i < n) : rank D (D i) n < n := by
  induction n with
  | zero => omega
  | succ n ih =>
    simp only [rank]
    by_cases e : i = n
    · subst e; have := rank_le D (D i) i; rw [if_neg (by omega)]; omega
    · have := ih (by omega)
      split <;> omega

/-- after k rounds: nothing is nearer than it is, and all with at most k nearer ones are right -/
structure Bell (n : Nat) (tgt : Nat) (D : Nat → Int) (k : Nat) (out : Nat → Int) : Prop where
  above : ∀ i, i < n → D i ≤ out i
  cap : ∀ i, i < n → out i ≤ 65535
  dest : out tgt = D tgt
  right : ∀ i, i < n → rank D (D i) n < k → out i = D i

/-- one step of a round -/
def bstep (c : Nat → Nat → Int) (out : Nat → Int) (a b : Nat) (i : Nat) : Int := if 0 < c a b then (if i = a then min (out a) (out b + c a b) else out i) else out i

/-- inside a round, at row a, of which b places are looked at -/
structure In (n : Nat) (c : Nat → Nat → Int) (tgt : Nat) (D : Nat → Int) (k a b : Nat) (out : Nat → Int) : Prop where
  base : Bell n tgt D k out
  rows : ∀ i, i < a → i < n → rank D (D i) n < k + 1 → out i = D i
  part : ∀ j, j < b → j < n → 0 < c a j → rank D (D j) n < k → out a ≤ D j + c a j

theorem Bell.start {n c tgt D} (h : IsFar n c tgt D) : Bell n tgt D 0 (fun i => if i = tgt then 0 else 65535) :=
  ⟨fun i hi => by
    split
    · rename_i e; subst e; rw [h.zero]; exact Int.le_refl _
    · exact h.high i hi, fun i _ => by split <;> omega, by rw [if_pos rfl, h.zero], fun i _ hr => by omega⟩

theorem Bell.begin {n c tgt D k out} (h : Bell n tgt D k out) : In n c tgt D k 0 0 out := ⟨h, fun i hi => by omega, fun j hj => by omega⟩

theorem In.step {n c tgt D k a b out} (hf : IsFar n c tgt D) (htgt : tgt < n) (h : In n c tgt D k a b out) (hb : b < n) : In n c tgt D k a (b + 1) (bstep c out a b) := by
  have habove : ∀ i, i < n → D i ≤ bstep c out a b i := fun i hi => by
    have := h.base.above i hi
    unfold bstep
    split
    · rename_i hc
      split
      · rename_i e; subst e
        have := hf.link i b hi hb hc; have := h.base.above b hb; omega
      · exact this
    · exact this
  have hle : ∀ i, bstep c out a b i ≤ out i := fun i => by
    unfold bstep
    split
    · split
      · rename_i e; subst e; omega
      · omega
    · omega
  have hkeep : ∀ i, i < n → out i = D i → bstep c out a b i = D i := fun i hi he => by
    have := habove i hi; have := hle i; omega
  refine ⟨⟨habove, fun i hi => Int.le_trans (hle i) (h.base.cap i hi), hkeep tgt htgt h.base.dest, fun i hi hr => hkeep i hi (h.base.right i hi hr)⟩, fun i hia hi hr => hkeep i hi (h.rows i hia hi hr), fun j hj hjn hc hr => ?_⟩
  by_cases e : j = b
  · subst e
    have := h.base.right j hjn hr
    unfold bstep
    rw [if_pos hc, if_pos rfl]
    omega
  · exact Int.le_trans (hle a) (h.part j (by omega) hjn hc hr)

theorem In.row {n c tgt D k a out} (hf : IsFar n c tgt D) (h : In n c tgt D k a n out) : In n c tgt D k (a + 1) 0 out := by
  refine ⟨h.base, fun i hia hi hr => ?_, fun j hj => by omega⟩
  by_cases e : i = a
  · subst e
    by_cases e2 : i = tgt
    · subst e2; exact h.base.dest
    · rcases hf.by_ i hi e2 with h1 | ⟨p, hp, hc, h1⟩
      · have := h.base.above i hi; have := h.base.cap i hi; omega
      · have hrank : rank D (D p) n < rank D (D i) n := rank_lt D (by omega) n p hp (Int.le_refl _) (by omega)
        have := h.part p hp hp hc (by omega)
        have := h.base.above i hi
        omega
  · exact h.rows i (by omega) hi hr

theorem In.round {n c tgt D k out} (h : In n c tgt D k n 0 out) : Bell n tgt D (k + 1) out :=
  ⟨h.base.above, h.base.cap, h.base.dest, fun i hi hr => h.rows i hi hi hr⟩

theorem bell_end {n c tgt D k out} (_h : IsFar n c tgt D) (hb : Bell n tgt D k out) (hk : n ≤ k) : ∀ i, i < n → out i = D i :=
  fun i hi => hb.right i hi (by have := rank_lt_n D n i hi; omega)

end GP
end Go.Proofs.Ytebkpjefdaieaaa

/-
  graph.Far. Conditions: those that each theorem names.
-/
namespace Go.Proofs.Ytebkpjefdaieaaa
open Go Go.RowKit
set_option linter.unusedVariables false
set_option linter.unusedSimpArgs false
namespace GG
theorem IsG.keep {w w' : World} {g n : Nat} {c : Nat → Nat → Int} (h : IsG w g n c) (hb : Below w.heap.size w w') : IsG w' g n c := by
  obtain ⟨⟨cs, h1, h2⟩, h3, h4⟩ := h
  exact ⟨⟨cs, (hb.block g (blk_lt h1)).trans h1, h2⟩, h3, h4⟩
/-- n numbers in a block -/
def Far (w : World) (g n : Nat) (F : Nat → Int) : Prop := Row w g ((List.range n).map F)
theorem far_get (n : Nat) (F : Nat → Int) (i : Nat) (hi : i < n) : ((List.range n).map F).getD i 0 = F i := by
  rw [List.getD_eq_getElem?_getD, List.getElem?_map, List.getElem?_range hi]; rfl
theorem Far.cell {w : World} {g n : Nat} {F : Nat → Int} (h : Far w g n F) (i : Nat) (hi : i < n) : w.cell? ⟨g, i, none⟩ = some (.int .i64 (F i)) := by
  have := Row.cell h i (by simp; exact hi)
  rwa [far_get n F i hi] at this
theorem Far.free {w : World} {g n : Nat} {F : Nat → Int} (h : Far w g n F) (i : Nat) : w.frozen? ⟨g, i, none⟩ = false := Row.free h i
theorem Far.congr {w : World} {g n : Nat} {F F' : Nat → Int} (h : Far w g n F) (he : ∀ i, i < n → F i = F' i) : Far w g n F' := by
  have : (List.range n).map F = (List.range n).map F' := List.map_congr_left (fun i hi => he i (by simpa using hi))
  unfold Far at h ⊢
  rwa [← this]
theorem Far.set {w : World} {g n : Nat} {F : Nat → Int} (h : Far w g n F) (i : Nat) (x : Int) : Far (w.setCell ⟨g, i, none⟩ (.int .i64 x)) g n (fun j => if j = i then x else F j) := by
  have := Row.set h i x
  have e : ((List.range n).map F).set i x = (List.range n).map (fun j => if j = i then x else F j) := by
    apply List.ext_getElem?
    intro k
    rw [List.getElem?_set]
    simp only [List.getElem?_map, List.length_map, List.length_range]
    by_cases hk : k < n
    · rw [List.getElem?_range hk]
      by_cases e : i = k
      · subst e; simp [hk]
      · rw [if_neg e]; simp [Ne.symm e]
    · rw [List.getElem?_eq_none (by simp; omega)]
      by_cases e : i = k
      · subst e; simp [hk]
      · rw [if_neg e]; rfl
  unfold Far
  rwa [e] at this
theorem Far.keep {w w' : World} {g n : Nat} {F : Nat → Int} (h : Far w g n F) (hb : Below w.heap.size w w') : Far w' g n F := Row.keep h hb
/-- six marks in a block -/
def Marks (w : World) (g : Nat) (D : Nat → Bool) : Prop := w.heap[g]? = some (.cells ((List.range 6).map fun i => Value.bool (D i)).toArray 98 (0, 0))
theorem Marks.cell {w : World} {g : Nat} {D : Nat → Bool} (h : Marks w g D) (i : Nat) (hi : i < 6) : w.cell? ⟨g, i, none⟩ = some (.bool (D i)) := by
  rw [blk_cell h i]
  simp [hi]
theorem Marks.free {w : World} {g : Nat} {D : Nat → Bool} (h : Marks w g D) (i : Nat) : w.frozen? ⟨g, i, none⟩ = false := blk_free h i
theorem Marks.set {w : World} {g : Nat} {D : Nat → Bool} (h : Marks w g D) (i : Nat) (x : Bool) : Marks (w.setCell ⟨g, i, none⟩ (.bool x)) g (fun j => if j = i then x else D j) := by
  have := blk_set h i (.bool x)
  have e : ((List.range 6).map fun j => Value.bool (D j)).set i (.bool x) = (List.range 6).map (fun j => Value.bool (if j = i then x else D j)) := by
    apply List.ext_getElem?
    intro k
    rw [List.getElem?_set]
    simp only [List.getElem?_map, List.length_map, List.length_range]
    by_cases hk : k < 6
    · rw [List.getElem?_range hk]
      by_cases e : i = k
      · subst e; simp [hk]
      · rw [if_neg e]; simp [Ne.symm e]
    · rw [List.getElem?_eq_none (by simp; omega)]
      by_cases e : i = k
      · subst e; simp [hk]
      · rw [if_neg e]; rfl
  unfold Marks
  rw [this, List.setIfInBounds_toArray, e]
/-- a scope with one label: what holds at the label leads on from there -/
theorem scope_at {P : Program} {a : Act} {w : World} {Q : Exit → Act → World → Prop} {c rest : Code} (l : Nat) (J : Act → World → Prop) (μ : Act → World → Nat) (hf : findLabel c l = some (Code.skip.seq rest))
    (pass : ∀ a w, J a w → rest.wp P (Exit.jump l (fun a' w' => J a' w' ∧ μ a' w' < μ a w) Q) a w)
    (first : (∀ a w, J a w → rest.wp P (Exit.jump l J Q) a w) → c.wp P (Exit.jump l J Q) a w) : (Code.scope c).wp P Q a w :=
  wp_scope_jumps l J μ hf (first (fun a w hj => Code.wp_mono (fun e a' w' h => by
    cases e with
    | goto l' => exact ⟨h.1, h.2.1⟩
    | _ => exact h) (pass a w hj))) (fun a w hj => wp_seq (wp_skip (pass a w hj)))
/-- the frame at the label -/
def frame (g : Nat) (t : Int) (gf gd n : Nat) (U : Nat → Value) : Act := { tmps := #[.pointer (some ⟨g, 0, none⟩), .int .i64 t, undef, undef, .slice none 0 0, .slice (some ⟨gf, 0, none⟩) n n, .pointer (some ⟨gd, 0, none⟩), U 7, U 8, U 9, U 10, U 11, U 12, U 13, U 14, U 15, U 16, U 17, U 18, U 19, U 20, U 21, U 22, U 23, U 24, U 25, U 26, U 27, U 28, U 29, U 30, U 31, U 32, U 33, U 34, U 35, U 36, U 37, U 38, U 39, U 40, U 41, U 42, U 43, U 44, U 45, U 46, U 47, U 48, U 49, U 50, U 51, U 52, U 53, U 54, U 55, U 56, U 57, U 58, U 59, U 60, U 61, U 62, U 63, U 64, U 65, U 66, U 67, U 68, U 69, U 70, U 71, U 72, U 73, U 74, U 75, U 76, U 77, U 78, U 79, U 80, U 81, U 82, U 83, U 84, U 85, U 86, U 87, U 88], defers := [] }
/-- a mark's worth -/
def mark : Option Value → Bool
  | some (.bool b) => b
  | _ => false
/-- how many nodes are not done -/
def left (n : Nat) (a : Act) (w : World) : Nat :=
  match a.tmps.getD 6 undef with
  | .pointer (some p) => GP.undone (fun i => mark (w.cell? ⟨p.block, i, none⟩)) n
  | _ => 0
theorem left_is {g : Nat} {t : Int} {gf gd n : Nat} {U : Nat → Value} {w : World} {D : Nat → Bool} (h : Marks w gd D) (hn : n ≤ 6) : left n (frame g t gf gd n U) w = GP.undone D n := by
  have : left n (frame g t gf gd n U) w = GP.undone (fun i => mark (w.cell? ⟨gd, i, none⟩)) n := rfl
  rw [this]
  exact GP.undone_congr n (fun i hi => by rw [h.cell i (by omega)]; rfl)
/-- what holds at the label -/
structure At (w : World) (n : Nat) (c : Nat → Nat → Int) (t gf gd : Nat) (D : Nat → Bool) (F : Nat → Int) (w' : World) : Prop where
  marks : Marks w' gd D
  far : Far w' gf n F
  dij : GP.Dij n c t D F
  gf0 : w.heap.size ≤ gf
  gd0 : w.heap.size ≤ gd
  ne : gf ≠ gd
  bel : Below w.heap.size w w'
/-- a frame at the label, as the walk has it -/
theorem at_mk {w w' : World} {n : Nat} {c : Nat → Nat → Int} {g t gf gd : Nat} {D : Nat → Bool} {F : Nat → Int} {v7 v8 v9 v10 v11 v12 v13 v14 v15 v16 v17 v18 v19 v20 v21 v22 v23 v24 v25 v26 v27 v28 v29 v30 v31 v32 v33 v34 v35 v36 v37 v38 v39 v40 v41 v42 v43 v44 v45 v46 v47 v48 v49 v50 v51 v52 v53 v54 v55 v56 v57 v58 v59 v60 v61 v62 v63 v64 v65 v66 v67 v68 v69 v70 v71 v72 v73 v74 v75 v76 v77 v78 v79 v80 v81 v82 v83 v84 v85 v86 v87 v88 : Value} (h : At w n c t gf gd D F w') :
    ∃ gf' gd' U D' F', ({ tmps := List.toArray (Value.pointer (some ⟨g, 0, none⟩) :: Value.int .i64 t :: undef :: undef :: Value.slice none 0 0 :: Value.slice (some ⟨gf, 0, none⟩) n n :: Value.pointer (some ⟨gd, 0, none⟩) :: v7 :: v8 :: v9 :: v10 :: v11 :: v12 :: v13 :: v14 :: v15 :: v16 :: v17 :: v18 :: v19 :: v20 :: v21 :: v22 :: v23 :: v24 :: v25 :: v26 :: v27 :: v28 :: v29 :: v30 :: v31 :: v32 :: v33 :: v34 :: v35 :: v36 :: v37 :: v38 :: v39 :: v40 :: v41 :: v42 :: v43 :: v44 :: v45 :: v46 :: v47 :: v48 :: v49 :: v50 :: v51 :: v52 :: v53 :: v54 :: v55 :: v56 :: v57 :: v58 :: v59 :: v60 :: v61 :: v62 :: v63 :: v64 :: v65 :: v66 :: v67 :: v68 :: v69 :: v70 :: v71 :: v72 :: v73 :: v74 :: v75 :: v76 :: v77 :: v78 :: v79 :: v80 :: v81 :: v82 :: v83 :: v84 :: v85 :: v86 :: v87 :: v88 :: []), defers := [] } : Act) = frame g t gf' gd' n U ∧ At w n c t gf' gd' D' F' w' :=
  ⟨gf, gd, fun k => #[v7, v8, v9, v10, v11, v12, v13, v14, v15, v16, v17, v18, v19, v20, v21, v22, v23, v24, v25, v26, v27, v28, v29, v30, v31, v32, v33, v34, v35, v36, v37, v38, v39, v40, v41, v42, v43, v44, v45, v46, v47, v48, v49, v50, v51, v52, v53, v54, v55, v56, v57, v58, v59, v60, v61, v62, v63, v64, v65, v66, v67, v68, v69, v70, v71, v72, v73, v74, v75, v76, v77, v78, v79, v80, v81, v82, v83, v84, v85, v86, v87, v88].getD (k - 7) undef, D, F, rfl, h⟩
theorem left_mk {w' : World} {n g t gf gd : Nat} {D : Nat → Bool} {v7 v8 v9 v10 v11 v12 v13 v14 v15 v16 v17 v18 v19 v20 v21 v22 v23 v24 v25 v26 v27 v28 v29 v30 v31 v32 v33 v34 v35 v36 v37 v38 v39 v40 v41 v42 v43 v44 v45 v46 v47 v48 v49 v50 v51 v52 v53 v54 v55 v56 v57 v58 v59 v60 v61 v62 v63 v64 v65 v66 v67 v68 v69 v70 v71 v72 v73 v74 v75 v76 v77 v78 v79 v80 v81 v82 v83 v84 v85 v86 v87 v88 : Value} (h : Marks w' gd D) (hn : n ≤ 6) : left n { tmps := List.toArray (Value.pointer (some ⟨g, 0, none⟩) :: Value.int .i64 t :: undef :: undef :: Value.slice none 0 0 :: Value.slice (some ⟨gf, 0, none⟩) n n :: Value.pointer (some ⟨gd, 0, none⟩) :: v7 :: v8 :: v9 :: v10 :: v11 :: v12 :: v13 :: v14 :: v15 :: v16 :: v17 :: v18 :: v19 :: v20 :: v21 :: v22 :: v23 :: v24 :: v25 :: v26 :: v27 :: v28 :: v29 :: v30 :: v31 :: v32 :: v33 :: v34 :: v35 :: v36 :: v37 :: v38 :: v39 :: v40 :: v41 :: v42 :: v43 :: v44 :: v45 :: v46 :: v47 :: v48 :: v49 :: v50 :: v51 :: v52 :: v53 :: v54 :: v55 :: v56 :: v57 :: v58 :: v59 :: v60 :: v61 :: v62 :: v63 :: v64 :: v65 :: v66 :: v67 :: v68 :: v69 :: v70 :: v71 :: v72 :: v73 :: v74 :: v75 :: v76 :: v77 :: v78 :: v79 :: v80 :: v81 :: v82 :: v83 :: v84 :: v85 :: v86 :: v87 :: v88 :: []), defers := [] } w' = GP.undone D n :=
  left_is (g := g) (t := t) (gf := gf) (gd := gd) (U := fun k => #[v7, v8, v9, v10, v11, v12, v13, v14, v15, v16, v17, v18, v19, v20, v21, v22, v23, v24, v25, v26, v27, v28, v29, v30, v31, v32, v33, v34, v35, v36, v37, v38, v39, v40, v41, v42, v43, v44, v45, v46, v47, v48, v49, v50, v51, v52, v53, v54, v55, v56, v57, v58, v59, v60, v61, v62, v63, v64, v65, v66, v67, v68, v69, v70, v71, v72, v73, v74, v75, v76, v77, v78, v79, v80, v81, v82, v83, v84, v85, v86, v87, v88].getD (k - 7) undef) h hn
theorem far_other {w : World} {g n : Nat} {F : Nat → Int} (h : Far w g n F) {p : Addr} (hp : p.block ≠ g) (v : Value) : Far (w.setCell p v) g n F := (Below.heap_setCell w p v g (fun e => hp e.symm)).trans h
theorem marks_other {w : World} {g : Nat} {D : Nat → Bool} (h : Marks w g D) {p : Addr} (hp : p.block ≠ g) (v : Value) : Marks (w.setCell p v) g D := (Below.heap_setCell w p v g (fun e => hp e.symm)).trans h
theorem below_set {w w' : World} (h : Below w.heap.size w w') {p : Addr} (hp : w.heap.size ≤ p.block) (v : Value) : Below w.heap.size w (w'.setCell p v) :=
  (((Only.refl (fun i => w.heap.size ≤ i) w).of_below h).setCell (fun _ => hp) v).below (Nat.le_refl _) (fun i hi h => by omega)
theorem Far.drew {w : World} {g n : Nat} {F : Nat → Int} (h : Far w g n F) : Far w.drew g n F := h
theorem Marks.drew {w : World} {g : Nat} {D : Nat → Bool} (h : Marks w g D) : Marks w.drew g D := h
theorem marks_new (w : World) : Marks (w.alloc (.cells (Array.replicate 6 (.bool false)) 98)) w.heap.size (fun _ => false) := by
  have : (w.alloc (.cells (Array.replicate 6 (.bool false)) 98)).heap[w.heap.size]? = some (.cells (Array.replicate 6 (.bool false)) 98 (0, 0)) := by simp only [World.alloc]; exact Array.getElem?_push_size
  rw [Marks, this]
  rfl
theorem far_start {w : World} {g n t : Nat} (h : Row w g (List.replicate n 65535)) : Far (w.setCell ⟨g, t, none⟩ (.int .i64 0)) g n (fun i => if i = t then 0 else 65535) := by
  have e : List.replicate n (65535 : Int) = (List.range n).map (fun _ => 65535) := by
    apply List.ext_getElem?
    intro k
    by_cases hk : k < n
    · simp [hk]
    · rw [List.getElem?_eq_none (by simp; omega), List.getElem?_eq_none (by simp; omega)]
  have h2 : Far w g n (fun _ => 65535) := by unfold Far; rw [← e]; exact h
  exact h2.set t 0
/-- far, of which i are looked at -/
def mid (c : Nat → Nat → Int) (F : Nat → Int) (a i : Nat) (j : Nat) : Int := if j < i then GP.relax c F a j else F j
theorem mid_self (c : Nat → Nat → Int) (F : Nat → Int) (a i : Nat) (hc : 0 ≤ c a a) : mid c F a i a = F a := by
  unfold mid GP.relax
  split
  · split <;> omega
  · rfl
theorem mid_next (c : Nat → Nat → Int) (F : Nat → Int) (a i j : Nat) : mid c F a (i + 1) j = if j = i then GP.relax c F a i else mid c F a i j := by
  unfold mid
  by_cases e : j = i
  · subst e; rw [if_pos (by omega), if_pos rfl]
  · rw [if_neg e]
    by_cases h : j < i
    · rw [if_pos (by omega), if_pos h]
    · rw [if_neg (by omega), if_neg h]
attribute [local irreducible] GP.pick GP.relax mid left Far Marks
set_option maxRecDepth 1000000 in
set_option maxHeartbeats 16000000 in
theorem far_ok (g n : Nat) (c : Nat → Nat → Int) (t : Nat) (w : World) (h : IsG w g n c) (ht : t < n) (hs : ∀ i k, c i k = c k i) (hc0 : ∀ i k, 0 ≤ c i k) (hc1 : ∀ i k, c i k ≤ 1000) :
    Calls Try.prog 41 #[.pointer (some ⟨g, 0, none⟩), .int .i64 t] w fun e w' => (∃ gf F, e = .returned (.slice (some ⟨gf, 0, none⟩) n n) ∧ w.heap.size ≤ gf ∧ Far w' gf n F ∧ GP.IsFar n c t F) ∧ Below w.heap.size w w' := by
  have H := Lib.hid h
  have hn := h.n6
  have hn1 := h.n1
  have hlen := h.len
  clear h
  have hok : ok n (t : Int) = true := by simp [ok]; omega
  go_enter Try.func41, Try.ntmps41
  go_wp2
  refine scope_at 0 (fun a' w' => ∃ gf gd U D F, a' = frame g t gf gd n U ∧ At w n c t gf gd D F w') (left n) rfl ?_ (fun hrest => ?_)
  · rintro a' w' ⟨gf, gd, U, D, F, rfl, hat⟩
    have HAT := Lib.hid hat
    have HL := Lib.hid (left_is (g := g) (t := t) (gf := gf) (U := U) hat.marks hn)
    clear hat
    simp only [frame]
    obtain ⟨u, hu⟩ : ∃ u, u = w' := ⟨_, rfl⟩
    subst hu
    go_upto_region 8 with fail
    go_loopw [7, 27] (fun s7 s27 wr => wr = u ∧ ∃ i : Nat, i ≤ n ∧ s27 = .int .i64 i ∧ s7 = .int .i64 (GP.pick D F i)) (fun _ s27 _ => n - (intOf s27).toNat)
    case atStart => exact ⟨rfl, 0, by omega, rfl, by unfold GP.pick; rfl⟩
    case round =>
      obtain ⟨rfl, i, hi, rfl, rfl⟩ := hrel
      by_cases hlt : i < n
      · have hlt2 : (i : Int) < (n : Int) := by omega
        have i00 : (0 : Int) ≤ (i : Int) := by omega
        have i6 : (i : Int) < 6 := by omega
        have hdc := HAT.out.marks.cell i (by omega)
        have hfc := HAT.out.far.cell i hlt
        have hnext : GP.pick D F (i + 1) = if D i = false ∧ F i < 65535 ∧ (GP.pick D F i < 0 ∨ F i < F (GP.pick D F i).toNat) then (i : Int) else GP.pick D F i := by rw [GP.pick]
        have HN := Lib.hid hnext
        have hpick := GP.pick_is D F i
        clear hnext
        cases hD : D i
        · rw [hD] at hdc
          by_cases hF : F i < 65535
          · rcases hpick with ⟨hp, _⟩ | ⟨a, hp, ha, _⟩
            · have HP := Lib.hid (show GP.pick D F (i + 1) = (i : Int) by rw [HN.out, if_pos ⟨hD, hF, .inl (by omega)⟩])
              rw [hp]
              clear hp hD
              go_wp2
              go_roundw
              case rel => exact ⟨trivial, i + 1, by omega, by go_num, by rw [HP.out]⟩
              case measure => simp [intOf]; omega
            · have a0 : (0 : Int) ≤ (a : Int) := by omega
              have an : (a : Int) < (n : Int) := by omega
              have hfa := HAT.out.far.cell a (by omega)
              by_cases hFA : F i < F a
              · have HP := Lib.hid (show GP.pick D F (i + 1) = (i : Int) by rw [HN.out, hp, if_pos ⟨hD, hF, .inr (by simpa using hFA)⟩])
                rw [hp]
                clear hp hD
                go_wp2
                go_roundw
                case rel => exact ⟨trivial, i + 1, by omega, by go_num, by rw [HP.out]⟩
                case measure => simp [intOf]; omega
              · have HP := Lib.hid (show GP.pick D F (i + 1) = (a : Int) by
                  rw [HN.out, hp, if_neg]
                  rintro ⟨_, _, h | h⟩
                  · omega
                  · exact hFA (by simpa using h))
                rw [hp]
                clear hp hD
                go_wp2
                go_roundw
                case rel => exact ⟨trivial, i + 1, by omega, by go_num, by rw [HP.out]⟩
                case measure => simp [intOf]; omega
          · have HP := Lib.hid (show GP.pick D F (i + 1) = GP.pick D F i by rw [HN.out, if_neg (fun h => hF h.2.1)])
            clear hpick hD
            go_wp2
            go_roundw
            case rel => exact ⟨trivial, i + 1, by omega, by go_num, by rw [HP.out]⟩
            case measure => simp [intOf]; omega
        · have HP := Lib.hid (show GP.pick D F (i + 1) = GP.pick D F i by rw [HN.out, if_neg (fun h => by rw [hD] at h; cases h.1)])
          rw [hD] at hdc
          clear hpick hD
          go_wp2
          go_roundw
          case rel => exact ⟨trivial, i + 1, by omega, by go_num, by rw [HP.out]⟩
          case measure => simp [intOf]; omega
      · obtain rfl : i = n := by omega
        rcases GP.pick_is D F i with ⟨hp, hend⟩ | ⟨a, hp, han, hda, hfa, hmin⟩
        · have HE := Lib.hid hend
          rw [hp]
          clear hp hend
          go_wp2
          simp only [Exit.jump]
          go_ret
          exact ⟨⟨gf, F, rfl, HAT.out.gf0, HAT.out.far, HAT.out.dij.isFar hs HE.out⟩, HAT.out.bel⟩
        · have HM := Lib.hid hmin
          have HDA := Lib.hid hda
          have HFA := Lib.hid hfa
          rw [hp]
          have a0 : (0 : Int) ≤ (a : Int) := by omega
          have an : (a : Int) < (i : Int) := by omega
          have a6 : (a : Int) < 6 := by omega
          have a00 : ¬ (a : Int) < 0 := by omega
          have hdc := HAT.out.marks.cell a (by omega)
          have hdf := HAT.out.marks.free a
          clear hp hmin hda hfa
          go_upto_region 17 with fail
          have HW0 := Lib.hid (HAT.out.marks.set a true)
          have HF0 := Lib.hid (far_other HAT.out.far (p := ⟨gd, a, none⟩) (fun e => HAT.out.ne e.symm) (.bool true))
          have HB0 := Lib.hid (below_set HAT.out.bel (p := ⟨gd, a, none⟩) HAT.out.gd0 (.bool true))
          generalize wr.setCell ⟨gd, a, none⟩ (.bool true) = W at HW0 HF0 HB0 ⊢
          go_loopw [61] (fun s61 wr => ∃ k : Nat, k ≤ i ∧ s61 = .int .i64 k ∧ Far wr gf i (mid c F a k) ∧ Marks wr gd (fun j => if j = a then true else D j) ∧ Below w.heap.size w wr) (fun s61 _ => i - (intOf s61).toNat)
          case atStart => exact ⟨0, by omega, rfl, HF0.out.congr (fun j _ => by unfold mid; simp), HW0.out, HB0.out⟩
          case round =>
            obtain ⟨k, hk, rfl, hfar, hmk, hbel⟩ := hrel
            have HFR := Lib.hid hfar
            have HMK := Lib.hid hmk
            have HBL := Lib.hid hbel
            clear hfar hmk hbel
            by_cases hlt : k < i
            · have hlt2 : (k : Int) < (i : Int) := by omega
              have k00 : (0 : Int) ≤ (k : Int) := by omega
              have k6 : (k : Int) < 6 := by omega
              have hcc := later HBL.out (H.out.cost (show a < 6 by omega) (show k < 6 by omega))
              have hfk := HFR.out.cell k hlt
              have hfz := HFR.out.free k
              have hfa := HFR.out.cell a han
              have e1 : mid c F a k k = F k := by unfold mid; rw [if_neg (by omega)]
              have e2 : mid c F a k a = F a := mid_self c F a k (hc0 a a)
              rw [e1] at hfk
              rw [e2] at hfa
              have hca := hc0 a k
              have hcb := hc1 a k
              have hfal := HAT.out.dij.low a han
              have hfah := HAT.out.dij.high a han
              have hrl : GP.relax c F a k = if 0 < c a k then min (F k) (F a + c a k) else F k := by unfold GP.relax; rfl
              by_cases hpos : 0 < c a k
              · rw [if_pos hpos] at hrl
                have HRL := Lib.hid hrl
                obtain ⟨x, hx⟩ : ∃ x, c a k = x := ⟨_, rfl⟩
                obtain ⟨y, hy⟩ : ∃ y, F a = y := ⟨_, rfl⟩
                obtain ⟨z, hz⟩ : ∃ z, F k = z := ⟨_, rfl⟩
                rw [hx] at hcc hca hcb hpos
                rw [hy] at hfa hfal hfah
                rw [hz] at hfk
                have hwr : IntKind.i64.wrap (y + x) = y + x := IntWalk.i64_in _ (by omega)
                have HXYZ := Lib.hid (And.intro hx (And.intro hy hz))
                clear hx hy hz hrl e1 e2
                go_upto_region 21 with fail
                refine wp_region_still_tail 14 (by kernel_rfl) (by kernel_rfl) ?_
                simp only [List.take_succ_cons, List.take_zero, List.drop_succ_cons, List.drop_zero]
                change wpStill _ _ wr.drew _ _ _
                repeat still_step
                refine wpStill_nil ?_
                change wpList _ _ _ _ _ wr.drew
                go_wp2
                go_roundw
                case rel =>
                  have hv : (if y + x < z then y + x else z) = GP.relax c F a k := by
                    rw [HRL.out, HXYZ.out.1, HXYZ.out.2.1, HXYZ.out.2.2]
                    split <;> omega
                  refine ⟨k + 1, by omega, by go_num, Far.drew ((HFR.out.set k _).congr (fun j _ => ?_)), Marks.drew (marks_other HMK.out (p := ⟨gf, k, none⟩) HAT.out.ne _), below_drew (below_set HBL.out (p := ⟨gf, k, none⟩) HAT.out.gf0 _)⟩
                  rw [mid_next, hv]
                case measure => simp [intOf]; omega
              · rw [if_neg hpos] at hrl
                have HRL := Lib.hid hrl
                have e3 : c a k = 0 := by omega
                rw [e3] at hcc
                clear hrl e1 e2 e3 hca hcb hpos
                go_wp2
                go_roundw
                case rel => exact ⟨k + 1, by omega, by go_num, HFR.out.congr (fun j _ => by rw [mid_next]; split; (rename_i e; subst e; rw [HRL.out]; unfold mid; rw [if_neg (by omega)]); rfl), HMK.out, HBL.out⟩
                case measure => simp [intOf]; omega
            · obtain rfl : k = i := by omega
              have hdij := HAT.out.dij.step ht hc0 han HDA.out HFA.out HM.out
              have HD2 := Lib.hid hdij
              have hfin : Far wr gf k (GP.relax c F a) := HFR.out.congr (fun j hj => by unfold mid; rw [if_pos hj])
              have HFIN := Lib.hid hfin
              have hund := GP.undone_step (d := D) (d' := fun j => if j = a then true else D j) a k han HDA.out (by simp) (fun j hj => by simp [hj])
              have HUN := Lib.hid hund
              clear hdij hfin hund
              go_wp2
              go_step3
              exact ⟨rfl, at_mk ⟨HMK.out, HFIN.out, HD2.out, HAT.out.gf0, HAT.out.gd0, HAT.out.ne, HBL.out⟩, Nat.lt_of_lt_of_eq (Nat.lt_of_le_of_lt (Nat.le_of_eq (left_mk HMK.out hn)) (Nat.lt_of_succ_le (Nat.le_of_eq HUN.out))) HL.out.symm⟩
  · have HR := Lib.hid hrest
    clear hrest
    have HLEN := Lib.hid hlen
    have hlw : (w.alloc (.cells #[.int .i64 65535] 3)).cell? ⟨g, 0, none⟩ = some (.int .i64 n) := later ((Below.refl _ _).alloc (Nat.le_refl _) _) hlen
    clear hlen
    have hrep := repeat_any w.heap.size 0 n 1 65535 (w.alloc (.cells #[.int .i64 65535] 3)) hn1 hn (by have := cell_one_new w (.int .i64 65535) 3 0 (.int .i64 65535) rfl; rwa [Addr.add_lit] at this)
    have HREP := Lib.hid hrep
    clear hrep
    go_upto_region 4 with (first
      | (go_at_call 54; refine (is_any g n c t w H.out).mono ?_; rintro e w' ⟨rfl, rfl⟩; rw [hok])
      | (go_at_call 55; refine (HREP.out).mono ?_; rintro e w1 ⟨rfl, hrow, hb1⟩; have HROW := Lib.hid hrow; have HB1 := Lib.hid hb1; clear hrow hb1))
    have hfree := HROW.out.free t
    have hcell := HROW.out.cell t (by simpa using ht)
    have t0 : (0 : Int) ≤ (t : Int) := by omega
    have tn : (t : Int) < (n : Int) := by omega
    have hlt1 := blk_lt HROW.out
    have hsz : (w.alloc (.cells #[.int .i64 65535] 3)).heap.size = w.heap.size + 1 := by simp
    have HBA := Lib.hid (((Below.refl w.heap.size w).alloc (Nat.le_refl _) (.cells #[.int .i64 65535] 3)).trans (HB1.out.mono (by simp)))
    rw [hsz] at hfree hcell hlt1
    have HROW2 := Lib.hid (show Row w1 (w.heap.size + 1) (List.replicate n 65535) by have := HROW.out; rw [hsz] at this; exact this)
    clear hsz
    go_upto_region 6 with fail
    have HF1 := Lib.hid (far_start (t := t) HROW2.out)
    have HB2 := Lib.hid (below_set HBA.out (p := ⟨w.heap.size + 1, t, none⟩) (Nat.le_succ _) (.int .i64 0))
    have hz2 : w.heap.size + 1 < (w1.setCell ⟨w.heap.size + 1, t, none⟩ (.int .i64 0)).heap.size := by simpa using hlt1
    have hzW : (w1.setCell ⟨w.heap.size + 1, t, none⟩ (.int .i64 0)).heap.size = w1.heap.size := by simp
    generalize w1.setCell ⟨w.heap.size + 1, t, none⟩ (.int .i64 0) = W at HF1 HB2 hz2 hzW ⊢
    rw [← hzW]
    have HMN := Lib.hid (marks_new W)
    have HB3 := Lib.hid (HB2.out.alloc HB2.out.size (.cells (Array.replicate 6 (.bool false)) 98))
    have HF3 := Lib.hid (HF1.out.keep ((Below.refl _ _).alloc (Nat.le_refl _) (.cells (Array.replicate 6 (.bool false)) 98)))
    go_step3
    rename_i K hK
    exact hK _ _ (HR.out _ _ (at_mk ⟨HMN.out, HF3.out, GP.Dij.start, Nat.le_succ _, HB2.out.size, Nat.ne_of_lt hz2, HB3.out⟩))
end GG
end Go.Proofs.Ytebkpjefdaieaaa

/-
  Package graph on none, and beyond its nodes. Conditions: those that each theorem names.
-/
namespace Go.Proofs.Ytebkpjefdaieaaa
open Go Go.RowKit
set_option linter.unusedVariables false
set_option linter.unusedSimpArgs false
namespace GG
set_option maxRecDepth 1000000 in
set_option maxHeartbeats 4000000 in
theorem far_bad (g n : Nat) (c : Nat → Nat → Int) (t : Int) (w : World) (h : IsG w g n c) (hk : ok n t = false) :
    Calls Try.prog 41 #[.pointer (some ⟨g, 0, none⟩), .int .i64 t] w fun e w' => e = .returned (.slice none 0 0) ∧ w = w' := by
  have H := Lib.hid h
  clear h
  go_enter Try.func41, Try.ntmps41
  go_wp2
  go_step3
  go_wp2_with (go_at_call 54; refine (is_any g n c t w H.out).mono ?_; rintro e w' ⟨rfl, rfl⟩; rw [hk])
  simp only [Exit.noGoto_ret]
  go_ret
  exact ⟨rfl, rfl⟩
set_option maxRecDepth 1000000 in
set_option maxHeartbeats 4000000 in
theorem far_nil (t : Int) (w : World) :
    Calls Try.prog 41 #[.pointer none, .int .i64 t] w fun e w' => e = .returned (.slice none 0 0) ∧ w = w' := by
  go_enter Try.func41, Try.ntmps41
  go_wp2
  go_step3
  go_wp2_with (go_at_call 54; refine (is_nil t w).mono ?_; rintro e w' ⟨rfl, rfl⟩)
  simp only [Exit.noGoto_ret]
  go_ret
  exact ⟨rfl, rfl⟩
set_option maxHeartbeats 1600000 in
theorem cost_nil (a b : Int) (w : World) :
    Calls Try.prog 65 #[.pointer none, .int .i64 a, .int .i64 b] w fun e w' => e = .returned (.int .i64 0) ∧ w = w' := by
  go_enter Try.func65, Try.ntmps65
  go_wp2_with (go_at_call 54; refine (is_nil a w).mono ?_; rintro e w' ⟨rfl, rfl⟩)
  go_ret
  exact ⟨rfl, rfl⟩
set_option maxHeartbeats 1600000 in
theorem link_nil (a b x : Int) (w : World) :
    Calls Try.prog 47 #[.pointer none, .int .i64 a, .int .i64 b, .int .i64 x] w fun e w' => e = .returned (.int .i64 10) ∧ w = w' := by
  go_enter Try.func47, Try.ntmps47
  go_wp2
  go_ret
  exact ⟨rfl, rfl⟩
end GG
end Go.Proofs.Ytebkpjefdaieaaa

/-
  Package graph: Link, whatever it is asked; costs that links may have. Conditions: those that each theorem names.
-/
namespace Go.Proofs.Ytebkpjefdaieaaa
open Go Go.RowKit
set_option linter.unusedVariables false
set_option linter.unusedSimpArgs false
namespace GG
/-- costs that links may have -/
structure Good (c : Nat → Nat → Int) : Prop where
  sym : ∀ i k, c i k = c k i
  low : ∀ i k, 0 ≤ c i k
  high : ∀ i k, c i k ≤ 1000
theorem good_zero : Good (fun _ _ => 0) := ⟨fun _ _ => rfl, fun _ _ => by omega, fun _ _ => by omega⟩
theorem good_put {c : Nat → Nat → Int} (h : Good c) (a b : Nat) (x : Int) (h0 : 0 ≤ x) (h1 : x ≤ 1000) : Good (put (put c a b x) b a x) := by
  have e : ∀ i k, put (put c a b x) b a x i k = if (i = a ∧ k = b) ∨ (i = b ∧ k = a) then x else c i k := by
    intro i k
    unfold put
    by_cases h1 : i = b ∧ k = a
    · rw [if_pos h1, if_pos (.inr h1)]
    · rw [if_neg h1]
      by_cases h2 : i = a ∧ k = b
      · rw [if_pos h2, if_pos (.inl h2)]
      · rw [if_neg h2, if_neg (by rintro (h | h); exact h2 h; exact h1 h)]
  refine ⟨fun i k => ?_, fun i k => ?_, fun i k => ?_⟩
  · rw [e, e]
    by_cases h1 : (i = a ∧ k = b) ∨ (i = b ∧ k = a)
    · rw [if_pos h1, if_pos (by rcases h1 with ⟨p, q⟩ | ⟨p, q⟩; exact .inr ⟨q, p⟩; exact .inl ⟨q, p⟩)]
    · rw [if_neg h1, if_neg (fun h2 => h1 (by rcases h2 with ⟨p, q⟩ | ⟨p, q⟩; exact .inr ⟨q, p⟩; exact .inl ⟨q, p⟩)), h.sym i k]
  · rw [e]; have := h.low i k; split <;> omega
  · rw [e]; have := h.high i k; split <;> omega
theorem good_lnc {n : Nat} {c : Nat → Nat → Int} (h : Good c) (a b x : Int) : Good (lnc n c a b x) := by
  unfold lnc
  split
  · rename_i hl
    have hx : ¬ (x < 0 ∨ 1000 < x) := by
      intro hx
      unfold lnk at hl
      split at hl
      · cases hl
      · cases hl
    exact good_put h _ _ x (by omega) (by omega)
  · exact h
theorem link_any (g n : Nat) (c : Nat → Nat → Int) (a b x : Int) (w : World) (h : IsG w g n c) :
    Calls Try.prog 47 #[.pointer (some ⟨g, 0, none⟩), .int .i64 a, .int .i64 b, .int .i64 x] w fun e w' => e = .returned (.int .i64 (lnk n a b x)) ∧ IsG w' g n (lnc n c a b x) ∧ Only (fun i => i = g) w w' := by
  by_cases hl : lnk n a b x = 0
  · have hk : (ok n a = true ∧ ok n b = true ∧ a ≠ b) ∧ ¬ (x < 0 ∨ 1000 < x) := by
      unfold lnk at hl
      split at hl
      · rename_i h1
        split at hl
        · cases hl
        · rename_i h2; exact ⟨h1, h2⟩
      · cases hl
    obtain ⟨⟨h1, h2, h3⟩, h4⟩ := hk
    obtain ⟨A, rfl, hA⟩ := ok_nat h1
    obtain ⟨B, rfl, hB⟩ := ok_nat h2
    have e : lnc n c (A : Int) (B : Int) x = put (put c A B x) B A x := by unfold lnc; rw [if_pos hl]; rfl
    rw [hl, e]
    exact link_ok g n c A B x w h hA hB (fun e => h3 (by rw [e])) (by omega) (by omega)
  · have e : lnc n c a b x = c := by unfold lnc; rw [if_neg hl]
    rw [e]
    exact (link_bad g n c a b x w h hl).mono fun e w' ⟨he, hw⟩ => ⟨he, hw ▸ h, hw ▸ Only.refl _ _⟩
theorem rem6 (n : Int) : ∃ N : Nat, 1 ≤ N ∧ N ≤ 6 ∧ (N : Int) = 1 + (IntKind.u64.wrap n).tmod 6 := by
  have h0 : 0 ≤ IntKind.u64.wrap n ∧ IntKind.u64.wrap n ≤ 18446744073709551615 := by simp [IntKind.wrap, IntKind.bits, IntKind.signed]; omega
  have h1 : (IntKind.u64.wrap n).tmod 6 = IntKind.u64.wrap n % 6 := Int.tmod_eq_emod_of_nonneg h0.1
  refine ⟨(1 + IntKind.u64.wrap n % 6).toNat, by omega, by omega, ?_⟩
  rw [h1]
  omega
end GG
end Go.Proofs.Ytebkpjefdaieaaa
