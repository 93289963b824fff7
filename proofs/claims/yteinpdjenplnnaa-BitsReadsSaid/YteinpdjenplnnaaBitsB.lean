/-
  What was written is read as it was: plain laws. No program. Conditions: those that each law names.
-/
import Derived.Test.YteinpdjenplnnaaBitsOneP
namespace Go.Proofs.Yteinpdjenplnnaa
open Go Go.RowKit
set_option linter.unusedVariables false
set_option linter.unusedSimpArgs false
namespace BW
theorem rb_str (pre post : List Bool) (v : Int) (N : Nat) (hv : 0 ≤ v) (hN : N ≤ 64) : rb (str (pre ++ low v N ++ post)) pre.length 0 N = (v % 2 ^ N, pre.length + N, 0) := by
  have hl : (pre ++ low v N ++ post).length = pre.length + N + post.length := by simp [low_len]; omega
  have hz : (str (pre ++ low v N ++ post)).size = (pre.length + N + post.length + 7) / 8 := by rw [str_size, hl]
  rw [rb_ok hN (by omega) (by omega), seg_str _ _ _ (by omega), List.append_assoc, List.drop_left, List.take_append_of_le_length (by rw [low_len]; exact Nat.le_refl _), List.take_of_length_le (by rw [low_len]; exact Nat.le_refl _), val_low v N hv]
theorem rc_str (pre post : List Bool) (v : Int) (hv : 0 ≤ v) : rc (str (pre ++ cd v ++ post)) pre.length 0 = (min v 9223372036854775808, pre.length + (cd v).length, 0) := by
  obtain ⟨_, hk, h1, h2⟩ := ck_spec v hv
  have hcl := cd_len v
  have hl : (pre ++ cd v ++ post).length = pre.length + (2 * ck v + 1) + post.length := by simp [hcl]; omega
  have hz : (str (pre ++ cd v ++ post)).size = (pre.length + (2 * ck v + 1) + post.length + 7) / 8 := by rw [str_size, hl]
  have hget : ∀ i, i < (cd v).length → (pre ++ cd v ++ post).getD (pre.length + i) false = (cd v).getD i false := by
    intro i hi
    rw [List.getD_eq_getElem?_getD, List.getD_eq_getElem?_getD, List.append_assoc, List.getElem?_append_right (by omega), Nat.add_sub_cancel_left, List.getElem?_append_left hi]
  have hnz : nz (str (pre ++ cd v ++ post)) pre.length 64 = ck v := by
    refine nz_eq _ 64 _ _ (by omega) (fun i hi => ⟨by omega, ?_⟩) (.inr (fun h => ?_))
    · rw [bit_str _ _ (by omega), hget i (by omega), List.getD_eq_getElem?_getD, cd_get_low hi]; rfl
    · have h3 := h.2
      rw [bit_str _ _ (by omega), hget (ck v) (by omega), List.getD_eq_getElem?_getD, cd_get_one] at h3
      cases h3
  rw [rc_ok hnz (by omega) (by omega) (by omega), seg_str _ _ _ (by omega)]
  have hdrop : ((pre ++ cd v ++ post).drop (pre.length + ck v + 1)).take (ck v) = low (cv v) (ck v) := by
    have e : pre ++ cd v ++ post = (pre ++ (List.replicate (ck v) false ++ [true])) ++ (low (cv v) (ck v) ++ post) := by simp [cd]
    have el : (pre ++ (List.replicate (ck v) false ++ [true])).length = pre.length + ck v + 1 := by simp; omega
    rw [e, ← el, List.drop_left, List.take_append_of_le_length (by rw [low_len]; exact Nat.le_refl _), List.take_of_length_le (by rw [low_len]; exact Nat.le_refl _)]
  have hc := cv_range v hv
  rw [hdrop, val_low _ _ (by omega)]
  have hp : (0 : Int) < 2 ^ ck v := Int.pow_pos (by omega)
  rw [Int.pow_succ] at h2
  have hm : cv v % 2 ^ ck v = cv v - 2 ^ ck v := by
    rw [← Int.sub_emod_right (cv v) (2 ^ ck v)]
    exact Int.emod_eq_of_lt (by omega) (by omega)
  rw [hm]
  have hcv : cv v = min v 9223372036854775808 + 1 := rfl
  congr 1
  · omega
  · congr 1
    omega
theorem val_rep (n : Nat) : val (List.replicate n false) = 0 := by
  induction n with
  | zero => rfl
  | succ n ih => simp [List.replicate_succ, val, ih]
theorem rd_str (bs : List Bool) : rd (str bs) bs.length 0 = 0 := by
  have hz := str_size bs
  rw [rd, if_neg (by simp), if_neg]
  have : seg (str bs) bs.length (8 * (str bs).size - bs.length) = List.replicate (8 * (str bs).size - bs.length) false := by
    apply List.ext_getElem?
    intro k
    rcases Nat.lt_or_ge k (8 * (str bs).size - bs.length) with hk | hk
    · simp only [seg, List.getElem?_map, List.getElem?_range hk, Option.map_some]
      rw [bit_str bs _ (by omega), List.getD_eq_getElem?_getD, List.getElem?_eq_none (by omega)]
      simp [hk]
    · rw [List.getElem?_eq_none (by rw [seg_len]; exact hk), List.getElem?_eq_none (by simpa using hk)]
  rw [this, val_rep]
  omega
/-- items, one behind the other -/
def cat (f : Nat → List Bool) : Nat → List Bool
  | 0 => []
  | k + 1 => cat f k ++ f k
theorem cat_split (f : Nat → List Bool) : ∀ n k, k < n → ∃ post, cat f n = cat f k ++ f k ++ post
  | 0, k, h => by omega
  | n + 1, k, h => by
    rcases Nat.lt_or_ge k n with hl | hl
    · obtain ⟨post, hp⟩ := cat_split f n k hl
      exact ⟨post ++ f n, by rw [cat, hp]; simp⟩
    · obtain rfl : k = n := by omega
      exact ⟨[], by simp [cat]⟩
theorem cat_len (f : Nat → List Bool) (m : Nat) (n : Nat) (h : ∀ i, i < n → (f i).length ≤ m) : (cat f n).length ≤ m * n := by
  induction n with
  | zero => simp [cat]
  | succ n ih =>
    have h1 := ih (fun i hi => h i (by omega))
    have h2 := h n (by omega)
    rw [cat, List.length_append, Nat.mul_succ]
    omega
end BW
end Go.Proofs.Yteinpdjenplnnaa
