/-
  Codes are one of a kind: plain laws. Conditions: none.
-/
import Derived.Test.YteinpdjenplnnaaBitsS
namespace Go.Proofs.Yteinpdjenplnnaa
open Go.RowKit
set_option linter.unusedVariables false
set_option linter.unusedSimpArgs false
namespace BW
theorem IsW.only {w w' : World} {base g : Nat} {sv : Value} {bs : List Bool} {S : Nat → Prop} (h : IsW w base g sv bs) (ho : Only S w w') (hg : ¬ S g) (hs : ∀ k, sv.ownBlock = some k → ¬ S k) : IsW w' base g sv bs :=
  ⟨ho.obj h.blk hg, ho.own h.own hs⟩
theorem pow_split (v : Int) (n : Nat) : v % (2 ^ n * 2) = v % 2 ^ n + 2 ^ n * (v / 2 ^ n % 2) := by
  have hp : (0 : Int) < 2 ^ n := Int.pow_pos (by omega)
  generalize (2 : Int) ^ n = p at hp
  have h1 := Int.emod_add_mul_ediv v (p * 2)
  have h2 := Int.emod_add_mul_ediv v p
  have h3 := Int.emod_add_mul_ediv (v / p) 2
  have h4 : v / p / 2 = v / (p * 2) := Int.ediv_ediv_of_nonneg (by omega)
  rw [h4] at h3
  have h5 : p * (v / p) = p * (v / p % 2) + p * 2 * (v / (p * 2)) := by
    rw [Int.mul_assoc, ← Int.mul_add, h3]
  omega
theorem val_low (v : Int) (n : Nat) (h : 0 ≤ v) : val (low v n) = v % 2 ^ n := by
  induction n with
  | zero => simp [low, val]
  | succ n ih =>
    rw [low_succ, val_snoc, ih, low_len]
    have hp : (0 : Int) < 2 ^ n := Int.pow_pos (by omega)
    have e : (2 : Int) ^ (n + 1) = 2 ^ n * 2 := Int.pow_succ _ _
    rw [e]
    have h2 := pow_split v n
    rw [h2]
    have h3 : v / 2 ^ n % 2 = 0 ∨ v / 2 ^ n % 2 = 1 := by omega
    rcases h3 with h3 | h3 <;> rw [h3] <;> simp
theorem ck_mono {a b : Int} (ha : 0 ≤ a) (hb : 0 ≤ b) (h : cv a ≤ cv b) : ck a ≤ ck b := by
  obtain ⟨_, _, h1, _⟩ := ck_spec a ha
  obtain ⟨_, _, _, h2⟩ := ck_spec b hb
  rcases Nat.lt_or_ge (ck b) (ck a) with hl | hl
  · exfalso
    have hm : (2 : Int) ^ (ck b + 1) ≤ 2 ^ (ck a) := by
      have := Nat.pow_le_pow_right (n := 2) (by omega) hl
      have h5 : ((2 ^ (ck b + 1) : Nat) : Int) ≤ ((2 ^ (ck a) : Nat) : Int) := by exact_mod_cast this
      rw [Int.natCast_pow, Int.natCast_pow] at h5
      exact h5
    omega
  · exact hl
theorem cd_get_low {a : Int} {i : Nat} (h : i < ck a) : (cd a)[i]? = some false := by
  rw [cd, List.append_assoc, List.getElem?_append_left (by simpa using h)]
  simp [h]
theorem cd_get_one {a : Int} : (cd a)[ck a]? = some true := by
  rw [cd, List.append_assoc, List.getElem?_append_right (by simp)]
  simp
theorem cd_ne {a b : Int} (ha : 0 ≤ a) (hb : 0 ≤ b) (h : cv a ≠ cv b) {k : Nat} (hk : k = min (cd a).length (cd b).length) : (cd a).take k ≠ (cd b).take k := by
  intro he
  have hl1 := cd_len a
  have hl2 := cd_len b
  have hget : ∀ i, i < k → (cd a)[i]? = (cd b)[i]? := by
    intro i hi
    have := congrArg (fun l => l[i]?) he
    simpa [List.getElem?_take, hi] using this
  rcases Nat.lt_trichotomy (ck a) (ck b) with hc | hc | hc
  · have := hget (ck a) (by omega)
    rw [cd_get_one, cd_get_low hc] at this
    cases this
  · have e1 : (cd a).take k = cd a := List.take_of_length_le (by omega)
    have e2 : (cd b).take k = cd b := List.take_of_length_le (by omega)
    rw [e1, e2, cd, cd, hc] at he
    have he2 := List.append_cancel_left he
    have hv := congrArg val he2
    have ca := cv_range a ha
    have cb := cv_range b hb
    rw [val_low _ _ (by omega), val_low _ _ (by omega)] at hv
    obtain ⟨_, _, h1, h2⟩ := ck_spec a ha
    obtain ⟨_, _, h3, h4⟩ := ck_spec b hb
    rw [hc] at h1 h2
    rw [Int.pow_succ] at h2 h4
    have hp : (0 : Int) < 2 ^ ck b := Int.pow_pos (by omega)
    have f : ∀ c : Int, 2 ^ ck b ≤ c → c < 2 ^ ck b * 2 → c % 2 ^ ck b = c - 2 ^ ck b := by
      intro c hc1 hc2
      rw [← Int.sub_emod_right c (2 ^ ck b)]
      exact Int.emod_eq_of_lt (by omega) (by omega)
    rw [f _ h1 h2, f _ h3 h4] at hv
    omega
  · have := hget (ck b) (by omega)
    rw [cd_get_one, cd_get_low hc] at this
    cases this
theorem str01_inj {a b : List Bool} (h : str01 a = str01 b) : a = b := by
  have h1 := congrArg (fun s => s.data.toList) h
  simp only [str01] at h1
  have hi : ∀ x y : Bool, ch01 x = ch01 y → x = y := by decide
  exact List.map_inj_right hi |>.1 h1
theorem str_back (bs : List Bool) : (str01 (bitL (str bs))).extract 0 bs.length = str01 bs := by
  rw [bitL_seg, seg_ext (str bs) 0 (8 * (str bs).size) 0 bs.length (by omega) (by rw [str_size]; omega), Nat.sub_zero, seg_str bs (0 + 0) bs.length (by omega), List.drop_zero, List.take_length]
theorem bitL_len (s : ByteArray) : (bitL s).length = 8 * s.size := by simp [bitL]
theorem two_isW (w : World) : IsW ((w.alloc (.cells #[.slice none 0 0, .int .i64 0] 26)).alloc (.cells #[.slice none 0 0, .int .i64 0] 26)) (w.heap.size + 2) w.heap.size (.slice none 0 0) [] ∧
    IsW ((w.alloc (.cells #[.slice none 0 0, .int .i64 0] 26)).alloc (.cells #[.slice none 0 0, .int .i64 0] 26)) (w.heap.size + 2) (w.heap.size + 1) (.slice none 0 0) [] := by
  refine ⟨⟨(Below.heap_alloc _ _ _ (by simp)).trans (alloc_new w _), ⟨by simp [pk, vals], .inl ⟨rfl, rfl⟩⟩⟩, ⟨?_, ⟨by simp [pk, vals], .inl ⟨rfl, rfl⟩⟩⟩⟩
  have := alloc_new (w.alloc (.cells #[.slice none 0 0, .int .i64 0] 26)) (.cells #[.slice none 0 0, .int .i64 0] 26)
  rw [show (w.alloc (.cells #[.slice none 0 0, .int .i64 0] 26)).heap.size = w.heap.size + 1 from by simp] at this
  exact this
theorem cd_congr {a b : Int} (h : cv a = cv b) : cd a = cd b := by unfold cd ck; rw [h]
end BW
end Go.Proofs.Yteinpdjenplnnaa
