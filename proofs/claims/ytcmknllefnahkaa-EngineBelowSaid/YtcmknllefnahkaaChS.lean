/-
  What is chosen: plain laws. No program. Conditions: those that each law names.
-/
import Derived.Test.YtcmknllefnahkaaFloat
namespace Go.Proofs.Ytcmknllefnahkaa
open Go Go.RowKit FR FP
set_option linter.unusedVariables false
set_option linter.unusedSimpArgs false
namespace ChS
/-- may offer j be taken? -/
def May (om os cm : Nat → Int) (m : Nat) (fm fs : Int) (j : Nat) : Prop := j < m ∧ fea (om j) (os j) fm fs = true ∧ 0 < cm j ∧ addm (om j) (cm j) < 65535
theorem bet_chain {a b c d e f : Int} (h : bet a b c d = true) (h2 : bet e f c d = false) : bet e f a b = false := by
  rw [bet_iff] at h
  rw [bet_false] at h2 ⊢
  omega
theorem bet_self (a b : Int) : bet a b a b = false := by rw [bet_false]; omega
theorem ch_state (om os cm : Nat → Int) (m : Nat) (fm fs : Int) : ∀ k : Nat,
    (ch om os cm m fm fs k = (-1, 65535, 0) ∧ ∀ j, j < k → ¬ May om os cm m fm fs j) ∨
    ∃ a : Nat, ch om os cm m fm fs k = ((a : Int), addm (om a) (cm a), os a) ∧ a < k ∧ May om os cm m fm fs a ∧ ∀ j, j < k → May om os cm m fm fs j → bet (addm (om j) (cm j)) (os j) (addm (om a) (cm a)) (os a) = false
  | 0 => .inl ⟨rfl, fun j hj => by omega⟩
  | k + 1 => by
    have ih := ch_state om os cm m fm fs k
    by_cases hm : May om os cm m fm fs k
    · rcases ih with ⟨h1, h2⟩ | ⟨a, h1, ha, hma, h2⟩
      · refine .inr ⟨k, ch_yes ⟨hm.1, hm.2.1, hm.2.2.1, hm.2.2.2, .inl (by rw [h1]; decide)⟩, by omega, hm, fun j hj hj2 => ?_⟩
        by_cases e : j = k
        · subst e; exact bet_self _ _
        · exact absurd hj2 (h2 j (by omega))
      · cases hb : bet (addm (om k) (cm k)) (os k) (addm (om a) (cm a)) (os a)
        · refine .inr ⟨a, ?_, by omega, hma, fun j hj hj2 => ?_⟩
          · rw [ch_no, h1]
            rintro ⟨_, _, _, _, h | h⟩
            · rw [h1] at h; simp only at h; omega
            · rw [h1] at h; simp only at h; rw [hb] at h; cases h
          · by_cases e : j = k
            · subst e; exact hb
            · exact h2 j (by omega) hj2
        · refine .inr ⟨k, ch_yes ⟨hm.1, hm.2.1, hm.2.2.1, hm.2.2.2, .inr (by rw [h1]; exact hb)⟩, by omega, hm, fun j hj hj2 => ?_⟩
          by_cases e : j = k
          · subst e; exact bet_self _ _
          · exact bet_chain hb (h2 j (by omega) hj2)
    · have hn : ch om os cm m fm fs (k + 1) = ch om os cm m fm fs k := ch_no (fun h => hm ⟨h.1, h.2.1, h.2.2.1, h.2.2.2.1⟩)
      rcases ih with ⟨h1, h2⟩ | ⟨a, h1, ha, hma, h2⟩
      · refine .inl ⟨by rw [hn, h1], fun j hj => ?_⟩
        by_cases e : j = k
        · subst e; exact hm
        · exact h2 j (by omega)
      · refine .inr ⟨a, by rw [hn, h1], by omega, hma, fun j hj hj2 => ?_⟩
        by_cases e : j = k
        · subst e; exact absurd hj2 hm
        · exact h2 j (by omega) hj2
theorem ch_stop (om os cm : Nat → Int) (m : Nat) (fm fs : Int) (j : Nat) : ch om os cm m fm fs (m + j) = ch om os cm m fm fs m := by
  induction j with
  | zero => rfl
  | succ j ih => rw [← Nat.add_assoc, ch_no (fun h => by omega), ih]
theorem ch_end {om os cm : Nat → Int} {m n k : Nat} {fm fs : Int} (hk : k ≤ n) (h : k = n ∨ k = m) : ch om os cm m fm fs k = ch om os cm m fm fs n := by
  rcases h with rfl | rfl
  · rfl
  · obtain ⟨d, rfl⟩ := Nat.exists_eq_add_of_le hk
    exact (ch_stop om os cm k fm fs d).symm
end ChS
end Go.Proofs.Ytcmknllefnahkaa
