/-
  Bits and bytes: plain laws. No program. Conditions: those that each law names.
-/
import Derived.WalkLawsBesides
import Derived.Laws.BitsAllLaws
namespace Go.Proofs.Yteinpdjenplnnaa
open Go
set_option linter.unusedVariables false
namespace BW
/-- the byte that eight bits (lowest first) make, from place i on -/
def byteOf (bs : List Bool) (j : Nat) : Nat → Int
  | 0 => 0
  | i + 1 => byteOf bs j i + (if bs.getD (8 * j + i) false then 2 ^ i else 0)
/-- all bytes -/
def pk (bs : List Bool) : List Int := (List.range ((bs.length + 7) / 8)).map fun j => byteOf bs j 8
def vals (xs : List Int) : List Value := xs.map fun x => .int .u8 x
/-- all bytes, with a place for one more bit -/
def pk0 (bs : List Bool) : List Int := if bs.length % 8 = 0 then pk bs ++ [0] else pk bs
/-- the bits of a number, the lowest first -/
def low (v : Int) : Nat → List Bool
  | 0 => []
  | n + 1 => low v n ++ [decide (v / 2 ^ n % 2 = 1)]
theorem low_len (v : Int) (n : Nat) : (low v n).length = n := by
  induction n with
  | zero => rfl
  | succ n ih => simp [low, ih]
theorem pk_len (bs : List Bool) : (pk bs).length = (bs.length + 7) / 8 := by simp [pk]
theorem byteOf_congr {bs cs : List Bool} {j : Nat} : ∀ i, (∀ k, k < i → bs.getD (8 * j + k) false = cs.getD (8 * j + k) false) → byteOf bs j i = byteOf cs j i := by
  intro i
  induction i with
  | zero => intro _; rfl
  | succ i ih =>
    intro h
    simp only [byteOf]
    rw [ih (fun k hk => h k (by omega)), h i (by omega)]
theorem byteOf_range (bs : List Bool) (j : Nat) : ∀ i, 0 ≤ byteOf bs j i ∧ byteOf bs j i < 2 ^ i := by
  intro i
  induction i with
  | zero => simp [byteOf]
  | succ i ih =>
    simp only [byteOf]
    have hp : (0 : Int) < 2 ^ i := Int.pow_pos (by omega)
    have e : (2 : Int) ^ (i + 1) = 2 * 2 ^ i := by rw [Int.pow_succ]; omega
    split <;> omega
theorem byteOf_end {bs : List Bool} {j r : Nat} (hr : 8 * j + r = bs.length) : ∀ d, byteOf bs j (r + d) = byteOf bs j r := by
  intro d
  induction d with
  | zero => rfl
  | succ d ih =>
    show byteOf bs j (r + d) + (if bs.getD (8 * j + (r + d)) false then 2 ^ (r + d) else 0) = _
    rw [ih, List.getD_eq_getElem?_getD, List.getElem?_eq_none (by omega)]
    simp
theorem or_add (x r : Nat) (b : Nat) (hb : b ≤ 1) (hx : x < 2 ^ r) : x ||| b * 2 ^ r = x + b * 2 ^ r := by
  have := Nat.two_pow_add_eq_or_of_lt hx b
  rw [Nat.or_comm, Nat.mul_comm b, ← this, Nat.add_comm]
theorem u8_or_bit (x : Int) (r : Nat) (bt : Int) (hr : r < 8) (h0 : 0 ≤ x) (h1 : x < 2 ^ r) (hb0 : 0 ≤ bt) (hb1 : bt ≤ 1) : bits .or .u8 x (bt * 2 ^ r % 256) = x + bt * 2 ^ r := by
  obtain ⟨X, rfl⟩ := Int.eq_ofNat_of_zero_le h0
  obtain ⟨B, rfl⟩ := Int.eq_ofNat_of_zero_le hb0
  have hp : 2 ^ r ≤ 128 := by
    have : 2 ^ r ≤ 2 ^ 7 := Nat.pow_le_pow_right (by omega) (by omega)
    omega
  have h1' : X < 2 ^ r := by
    have : ((X : Nat) : Int) < ((2 ^ r : Nat) : Int) := by rw [Int.natCast_pow]; exact h1
    omega
  have hB : B ≤ 1 := by omega
  have hlt : B * 2 ^ r ≤ 128 := by
    rcases Nat.le_one_iff_eq_zero_or_eq_one.1 hB with rfl | rfl <;> omega
  have e : ((B : Int) * 2 ^ r) % 256 = ((B * 2 ^ r : Nat) : Int) := by
    rw [Int.natCast_mul, Int.natCast_pow]
    refine Int.emod_eq_of_lt (Int.mul_nonneg (by omega) (Int.le_of_lt (Int.pow_pos (by omega)))) ?_
    have : ((B * 2 ^ r : Nat) : Int) < 256 := by omega
    rw [Int.natCast_mul, Int.natCast_pow] at this
    exact this
  rw [e, u8_or_nat X _ (by omega) (by omega), or_add X r B hB h1']
  rw [Int.natCast_add, Int.natCast_mul, Int.natCast_pow]
  rfl
theorem pk_get (bs : List Bool) (j : Nat) (hj : j < (bs.length + 7) / 8) : (pk bs)[j]? = some (byteOf bs j 8) := by
  simp [pk, List.getElem?_map, List.getElem?_range hj]
theorem pk0_len (bs : List Bool) : (pk0 bs).length = bs.length / 8 + 1 := by
  unfold pk0
  split
  · simp [pk_len]; omega
  · rw [pk_len]; omega
theorem pk0_get (bs : List Bool) (j : Nat) (hj : j < bs.length / 8 + 1) : (pk0 bs)[j]? = some (byteOf bs j 8) := by
  unfold pk0
  split
  · rename_i h
    by_cases e : j < (bs.length + 7) / 8
    · rw [List.getElem?_append_left (by rw [pk_len]; exact e)]
      exact pk_get bs j e
    · have hj2 : j = (bs.length + 7) / 8 := by omega
      rw [List.getElem?_append_right (by rw [pk_len]; omega), pk_len, hj2, Nat.sub_self]
      have := byteOf_end (bs := bs) (j := (bs.length + 7) / 8) (r := 0) (by omega) 8
      simp only [Nat.zero_add] at this
      rw [this]
      rfl
  · exact pk_get bs j (by omega)
theorem pk_step (B : List Bool) (b : Bool) (M R : Nat) (x bt : Int) (hM : B.length / 8 = M) (hR : B.length % 8 = R) (hx : (pk0 B)[M]? = some x) (hbt : bt = if b then 1 else 0) :
    pk (B ++ [b]) = (pk0 B).set M (bits .or .u8 x (bt * 2 ^ R % 256)) := by
  have hxe : x = byteOf B M R := by
    rw [pk0_get B M (by omega)] at hx
    injection hx with hx
    rw [← hx]
    have := byteOf_end (bs := B) (j := M) (r := R) (by omega) (8 - R)
    rw [show R + (8 - R) = 8 from by omega] at this
    exact this
  have hr := byteOf_range B M R
  rw [u8_or_bit x R bt (by omega) (by rw [hxe]; exact hr.1) (by rw [hxe]; exact hr.2) (by rw [hbt]; split <;> omega) (by rw [hbt]; split <;> omega)]
  apply List.ext_getElem?
  intro j
  rw [List.getElem?_set, pk0_len]
  by_cases hj : j < B.length / 8 + 1
  · rw [pk_get (B ++ [b]) j (by simp; omega)]
    by_cases e : M = j
    · subst e
      rw [if_pos rfl, if_pos (by omega)]
      congr 1
      have hlen : 8 * M + R = B.length := by omega
      have e8 := byteOf_end (bs := B ++ [b]) (j := M) (r := R + 1) (by simp; omega) (7 - R)
      rw [show R + 1 + (7 - R) = 8 from by omega] at e8
      rw [e8]
      show byteOf (B ++ [b]) M R + (if (B ++ [b]).getD (8 * M + R) false then 2 ^ R else 0) = _
      rw [byteOf_congr (cs := B) R (fun k hk => by simp only [List.getD_eq_getElem?_getD]; rw [List.getElem?_append_left (by omega)]), ← hxe]
      have hb : (B ++ [b]).getD (8 * M + R) false = b := by simp [List.getD_eq_getElem?_getD, hlen]
      rw [hb, hbt]
      cases b <;> simp
    · rw [if_neg e, pk0_get B j hj]
      congr 1
      refine byteOf_congr 8 (fun k hk => ?_)
      simp only [List.getD_eq_getElem?_getD]
      rw [List.getElem?_append_left (by omega)]
  · rw [List.getElem?_eq_none (by rw [pk_len]; simp; omega)]
    split
    · split
      · omega
      · rfl
    · rw [List.getElem?_eq_none (by rw [pk0_len]; omega)]
theorem vals_set (xs : List Int) (i : Nat) (x : Int) : vals (xs.set i x) = (vals xs).set i (.int .u8 x) := by simp [vals, List.map_set]
end BW
end Go.Proofs.Yteinpdjenplnnaa
