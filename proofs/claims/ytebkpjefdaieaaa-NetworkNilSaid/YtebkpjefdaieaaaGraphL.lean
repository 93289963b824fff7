/-
  Package graph: Link and Cost. Conditions: those that each theorem names.
-/
import Derived.Test.YtebkpjefdaieaaaGraphG
import Derived.BigRegion
namespace Go.Proofs.Ytebkpjefdaieaaa
open Go.RowKit
set_option linter.unusedVariables false
set_option linter.unusedSimpArgs false
namespace GG
/-- what Link answers -/
def lnk (n : Nat) (a b x : Int) : Int := if ok n a = true ∧ ok n b = true ∧ a ≠ b then (if x < 0 ∨ 1000 < x then 1 else 0) else 2
/-- the costs behind a Link -/
def lnc (n : Nat) (c : Nat → Nat → Int) (a b x : Int) : Nat → Nat → Int := if lnk n a b x = 0 then put (put c a.toNat b.toNat x) b.toNat a.toNat x else c
/-- what Cost answers -/
def cst (n : Nat) (c : Nat → Nat → Int) (a b : Int) : Int := if ok n a = true ∧ ok n b = true then c a.toNat b.toNat else 0
theorem ok_nat {n : Nat} {a : Int} (h : ok n a = true) : ∃ k : Nat, a = k ∧ k < n := by
  simp [ok] at h
  exact ⟨a.toNat, by omega, by omega⟩
set_option maxRecDepth 100000 in
set_option maxHeartbeats 1600000 in
theorem cost_any (g n : Nat) (c : Nat → Nat → Int) (a b : Int) (w : World) (h : IsG w g n c) :
    Calls Try.prog 65 #[.pointer (some ⟨g, 0, none⟩), .int .i64 a, .int .i64 b] w fun e w' => e = .returned (.int .i64 (cst n c a b)) ∧ w = w' := by
  have H := Lib.hid h
  have hn := h.n6
  clear h
  cases hA : ok n a
  · have hk : cst n c a b = 0 := by unfold cst; rw [if_neg (by rw [hA]; simp)]
    rw [hk]
    go_enter Try.func65, Try.ntmps65
    go_wp2_with (go_at_call 54; refine (is_any g n c a w H.out).mono ?_; rintro e w' ⟨rfl, rfl⟩; rw [hA])
    all_goals go_ret
    all_goals exact ⟨rfl, rfl⟩
  · cases hB : ok n b
    · have hk : cst n c a b = 0 := by unfold cst; rw [if_neg (by rw [hB]; simp)]
      rw [hk]
      go_enter Try.func65, Try.ntmps65
      go_wp2_with (first
        | (go_at_call 54; with_reducible refine (is_any g n c a w H.out).mono ?_; rintro e w' ⟨rfl, rfl⟩; rw [hA])
        | (go_at_call 54; with_reducible refine (is_any g n c b w H.out).mono ?_; rintro e w' ⟨rfl, rfl⟩; rw [hB]))
      all_goals go_ret
      all_goals exact ⟨rfl, rfl⟩
    · have hk : cst n c a b = c a.toNat b.toNat := by unfold cst; rw [if_pos ⟨hA, hB⟩]
      rw [hk]
      obtain ⟨A, rfl, hAn⟩ := ok_nat hA
      obtain ⟨B, rfl, hBn⟩ := ok_nat hB
      have hc := H.out.cost (show A < 6 by omega) (show B < 6 by omega)
      have i1 : (0 : Int) ≤ (A : Int) := by omega
      have i2 : (A : Int) < 6 := by omega
      have i3 : (0 : Int) ≤ (B : Int) := by omega
      have i4 : (B : Int) < 6 := by omega
      go_enter Try.func65, Try.ntmps65
      go_wp2_with (first
        | (go_at_call 54; with_reducible refine (is_any g n c A w H.out).mono ?_; rintro e w' ⟨rfl, rfl⟩; rw [hA])
        | (go_at_call 54; with_reducible refine (is_any g n c B w H.out).mono ?_; rintro e w' ⟨rfl, rfl⟩; rw [hB]))
      all_goals go_ret
      all_goals exact ⟨rfl, rfl⟩
set_option maxRecDepth 100000 in
set_option maxHeartbeats 1600000 in
theorem link_bad (g n : Nat) (c : Nat → Nat → Int) (a b x : Int) (w : World) (h : IsG w g n c) (hl : lnk n a b x ≠ 0) :
    Calls Try.prog 47 #[.pointer (some ⟨g, 0, none⟩), .int .i64 a, .int .i64 b, .int .i64 x] w fun e w' => e = .returned (.int .i64 (lnk n a b x)) ∧ w = w' := by
  have H := Lib.hid h
  have hn := h.n6
  clear h
  cases hA : ok n a
  · have hk : lnk n a b x = 2 := by unfold lnk; rw [if_neg (by rw [hA]; simp)]
    rw [hk]
    go_enter Try.func47, Try.ntmps47
    go_wp2_with (go_at_call 54; refine (is_any g n c a w H.out).mono ?_; rintro e w' ⟨rfl, rfl⟩; rw [hA])
    go_ret
    exact ⟨rfl, rfl⟩
  · cases hB : ok n b
    · have hk : lnk n a b x = 2 := by unfold lnk; rw [if_neg (by rw [hB]; simp)]
      rw [hk]
      go_enter Try.func47, Try.ntmps47
      go_wp2_with (first
        | (go_at_call 54; with_reducible refine (is_any g n c a w H.out).mono ?_; rintro e w' ⟨rfl, rfl⟩; rw [hA])
        | (go_at_call 54; with_reducible refine (is_any g n c b w H.out).mono ?_; rintro e w' ⟨rfl, rfl⟩; rw [hB]))
      go_ret
      exact ⟨rfl, rfl⟩
    · by_cases hab : a = b
      · have hk : lnk n a b x = 2 := by unfold lnk; rw [if_neg (by simp [hab])]
        rw [hk]
        subst hab
        go_enter Try.func47, Try.ntmps47
        go_wp2_with (go_at_call 54; refine (is_any g n c a w H.out).mono ?_; rintro e w' ⟨rfl, rfl⟩; rw [hA])
        go_ret
        exact ⟨rfl, rfl⟩
      · have hk : lnk n a b x = if x < 0 ∨ 1000 < x then 1 else 0 := by unfold lnk; rw [if_pos ⟨hA, hB, hab⟩]
        have hx : x < 0 ∨ 1000 < x := by
          by_cases hx : x < 0 ∨ 1000 < x
          · exact hx
          · rw [hk, if_neg hx] at hl; exact absurd rfl hl
        rw [if_pos hx] at hk
        rw [hk]
        have habz : (a == b) = false := by simpa using hab
        by_cases hx0 : x < 0
        · go_enter Try.func47, Try.ntmps47
          go_wp2_with (first
            | (go_at_call 54; with_reducible refine (is_any g n c a w H.out).mono ?_; rintro e w' ⟨rfl, rfl⟩; rw [hA])
            | (go_at_call 54; with_reducible refine (is_any g n c b w H.out).mono ?_; rintro e w' ⟨rfl, rfl⟩; rw [hB]))
          go_ret
          exact ⟨rfl, rfl⟩
        · have hx1 : 1000 < x := by omega
          go_enter Try.func47, Try.ntmps47
          go_wp2_with (first
            | (go_at_call 54; with_reducible refine (is_any g n c a w H.out).mono ?_; rintro e w' ⟨rfl, rfl⟩; rw [hA])
            | (go_at_call 54; with_reducible refine (is_any g n c b w H.out).mono ?_; rintro e w' ⟨rfl, rfl⟩; rw [hB]))
          go_ret
          exact ⟨rfl, rfl⟩
end GG
end Go.Proofs.Ytebkpjefdaieaaa
