/-
  Bits as bytes and back: plain laws. No program. Conditions: those that each law names.
-/
import Derived.Test.YteinpdjenplnnaaOpen04
namespace Go.Proofs.Yteinpdjenplnnaa
open Go Go.RowKit
set_option linter.unusedVariables false
set_option linter.unusedSimpArgs false
namespace BW
theorem and_one_i64 (y : Int) : Go.bits .and .i64 y 1 = y % 2 := by
  show IntKind.i64.wrap ((BitVec.ofInt 64 y &&& BitVec.ofInt 64 1).toNat : Int) = _
  rw [BitVec.toNat_and, BitVec.toNat_ofInt]
  have h1 : (BitVec.ofInt 64 1).toNat = 1 := by decide
  rw [h1, Nat.and_one_is_mod]
  have h2 : (((y % (2 ^ 64 : Nat)).toNat % 2 : Nat) : Int) = y % 2 := by omega
  rw [h2]
  exact IntWalk.i64_in _ (by omega)
theorem byteOf_bit (bs : List Bool) (j : Nat) : ∀ n R, R < n → byteOf bs j n / 2 ^ R % 2 = if bs.getD (8 * j + R) false then 1 else 0
  | 0, R, h => by omega
  | n + 1, R, h => by
    have hx := byteOf_range bs j n
    simp only [byteOf]
    rcases Nat.lt_or_ge R n with hl | hl
    · rw [← byteOf_bit bs j n R hl]
      obtain ⟨d, rfl⟩ := Nat.exists_eq_add_of_lt hl
      have hp : (0 : Int) < 2 ^ R := Int.pow_pos (by omega)
      have e : (2 : Int) ^ (R + d + 1) = 2 ^ R * (2 * 2 ^ d) := by rw [Int.pow_succ, Int.pow_add, Int.mul_assoc, Int.mul_comm ((2 : Int) ^ d) 2]
      split
      · rw [e, Int.add_mul_ediv_left _ _ (by omega), Int.add_mul_emod_self_left]
      · rw [Int.add_zero]
    · obtain rfl : R = n := by omega
      have hp : (0 : Int) < 2 ^ R := Int.pow_pos (by omega)
      have h0 : byteOf bs j R / 2 ^ R = 0 := Int.ediv_eq_zero_of_lt hx.1 hx.2
      split
      · have := Int.add_mul_ediv_left (byteOf bs j R) 1 (show (2 : Int) ^ R ≠ 0 by omega)
        rw [Int.mul_one] at this
        rw [this, h0]; rfl
      · rw [Int.add_zero, h0]; rfl
/-- the bytes that bits make -/
def str (bs : List Bool) : ByteArray := strOfNums (pk bs)
theorem str_size (bs : List Bool) : (str bs).size = (bs.length + 7) / 8 := by rw [str, strOfNums_size, pk_len]
theorem str_get (bs : List Bool) (j : Nat) (h : j < (str bs).size) : (((str bs)[j]).toNat : Int) = byteOf bs j 8 := by
  have hj : j < (bs.length + 7) / 8 := by rw [str_size] at h; exact h
  have hr := byteOf_range bs j 8
  have e : (str bs)[j] = UInt8.ofNat (byteOf bs j 8).toNat := by
    rw [ByteArray.getElem_eq_getElem_data]
    simp only [str, strOfNums, List.getElem_toArray, List.getElem_map]
    congr 2
    have := pk_get bs j hj
    rw [List.getElem?_eq_getElem (by rw [pk_len]; exact hj)] at this
    injection this
  rw [e, UInt8.toNat_ofNat']
  omega
theorem bit_str (bs : List Bool) (i : Nat) (h : i < 8 * (str bs).size) : bit (str bs) i = bs.getD i false := by
  have hj : i / 8 < (str bs).size := by omega
  have e : (str bs).data.getD (i / 8) 0 = (str bs)[i / 8] := by simp [Array.getD, ByteArray.getElem_eq_getElem_data, show i / 8 < (str bs).size from hj]
  have hb := byteOf_bit bs (i / 8) 8 (i % 8) (by omega)
  rw [← str_get bs (i / 8) hj, show 8 * (i / 8) + i % 8 = i from by omega] at hb
  unfold bit
  rw [e]
  have e2 : ((str bs)[i / 8].toNat : Int) / 2 ^ (i % 8) % 2 = (((str bs)[i / 8].toNat / 2 ^ (i % 8) % 2 : Nat) : Int) := by rw [Int.natCast_emod, Int.natCast_ediv, Int.natCast_pow]; rfl
  rw [e2] at hb
  cases hbb : bs.getD i false
  · rw [hbb] at hb; simp at hb ⊢; omega
  · rw [hbb] at hb; simp at hb ⊢; omega
/-- .. as the walk spells it -/
theorem bit_walk (bs : List Bool) (i M R : Nat) (hi : i < bs.length) (hM : i / 8 = M) (hR : i % 8 = R) (h : M < (str bs).size) : ((str bs)[M].toNat : Int) / 2 ^ R % 2 = if bs.getD i false then 1 else 0 := by
  subst hM hR
  have hb := byteOf_bit bs (i / 8) 8 (i % 8) (by omega)
  rw [← str_get bs (i / 8) h, show 8 * (i / 8) + i % 8 = i from by omega] at hb
  exact hb
theorem seg_str (bs : List Bool) (a n : Nat) (h : a + n ≤ bs.length) : seg (str bs) a n = (bs.drop a).take n := by
  apply List.ext_getElem?
  intro k
  rcases Nat.lt_or_ge k n with hk | hk
  · rw [List.getElem?_take, if_pos hk, List.getElem?_drop, List.getElem?_eq_getElem (show a + k < bs.length by omega)]
    simp only [seg, List.getElem?_map, List.getElem?_range hk, Option.map_some]
    rw [bit_str bs (a + k) (by rw [str_size]; omega), List.getD_eq_getElem?_getD, List.getElem?_eq_getElem (show a + k < bs.length by omega)]
    rfl
  · rw [List.getElem?_eq_none (by rw [seg_len]; exact hk), List.getElem?_eq_none (by rw [List.length_take]; omega)]
end BW
end Go.Proofs.Yteinpdjenplnnaa
