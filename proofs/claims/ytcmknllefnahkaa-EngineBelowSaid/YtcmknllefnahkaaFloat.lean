/-
  Plain laws on doubles that are whole numbers of 32 bits: they compare, add and subtract as the numbers do; and the words of the layer 'feasible' on whole numbers. Conditions: those that each law names.
-/
import Derived.WalkLawsBesides
import Derived.Below
import Derived.Test.YtcmknllefnahkaaGen
namespace Go.Proofs.Ytcmknllefnahkaa.F64
open Ieee Go

/-- the bits of the double that is the whole number n -/
def fb (n : Int) : Nat := FloatKind.f64.nearest n

theorem cut_exact (s : Bool) (way : Toward) (n drop : Nat) (h : drop ≤ n.log2 + 2) (hd : 2 ^ drop ∣ n) : way.cut s n drop = n / 2 ^ drop := by
  obtain ⟨c, rfl⟩ := hd
  have hp : 0 < 2 ^ drop := Nat.two_pow_pos _
  unfold Toward.cut
  rw [Nat.min_eq_left h, Nat.one_shiftLeft]
  simp only [Nat.mul_mod_right]
  cases way <;> simp

theorem log2_le {m : Nat} (h : m < 2 ^ 53) (h0 : m ≠ 0) : m.log2 ≤ 52 := by
  have := (Nat.log2_lt h0).2 h
  omega

theorem nearest_scaled (neg : Bool) (m k : Nat) (h : m < 2 ^ 53) (h0 : m ≠ 0) (_hk : k ≤ 1074) :
    double.nearest neg (m * 2 ^ k) (-(k : Int)) = double.word neg ((m.log2 + 1022) * 2 ^ 52 + m * 2 ^ (52 - m.log2)) := by
  have hl := log2_le h h0
  have hp : 0 < 2 ^ k := Nat.two_pow_pos _
  have hmk : m * 2 ^ k ≠ 0 := Nat.mul_ne_zero h0 (by omega)
  have hlog : (m * 2 ^ k).log2 = m.log2 + k := by
    rw [Nat.log2_eq_iff hmk]
    have h1 := Nat.log2_self_le h0
    have h2 := Nat.lt_log2_self (n := m)
    constructor
    · rw [Nat.pow_add]; exact Nat.mul_le_mul_right _ h1
    · rw [show m.log2 + k + 1 = (m.log2 + 1) + k from by omega, Nat.pow_add]; exact Nat.mul_lt_mul_of_pos_right h2 hp
  have hself := Nat.log2_self_le h0
  have hlt := Nat.lt_log2_self (n := m)
  have hlast : max (-(k : Int) + (m * 2 ^ k).log2 - double.fractionBits) double.leastPlace = (m.log2 : Int) - 52 := by
    rw [hlog]
    have : double.leastPlace = -1074 := by decide
    rw [this]
    simp only [double]
    omega
  have hkept : Toward.even.cut neg ((m * 2 ^ k) <<< (-(k : Int) - ((m.log2 : Int) - 52)).toNat) (((m.log2 : Int) - 52) - -(k : Int)).toNat = m * 2 ^ (52 - m.log2) := by
    rw [Nat.shiftLeft_eq]
    by_cases hc : m.log2 + k ≤ 52
    · rw [show (-(k : Int) - ((m.log2 : Int) - 52)).toNat = 52 - m.log2 - k from by omega, show (((m.log2 : Int) - 52) - -(k : Int)).toNat = 0 from by omega]
      rw [cut_exact _ _ _ _ (by omega) (by simp)]
      rw [Nat.mul_assoc, ← Nat.pow_add]
      simp
      congr 2
      omega
    · rw [show (-(k : Int) - ((m.log2 : Int) - 52)).toNat = 0 from by omega, show (((m.log2 : Int) - 52) - -(k : Int)).toNat = m.log2 + k - 52 from by omega]
      rw [Nat.pow_zero, Nat.mul_one]
      have hsp : m * 2 ^ k = m * 2 ^ (52 - m.log2) * 2 ^ (m.log2 + k - 52) := by
        rw [Nat.mul_assoc, ← Nat.pow_add]
        congr 2
        omega
      rw [cut_exact _ _ _ _ (by omega) (by rw [hsp]; exact Nat.dvd_mul_left _ _)]
      rw [hsp, Nat.mul_div_cancel _ (Nat.two_pow_pos _)]
  unfold Format.nearest
  rw [if_neg hmk]
  simp only [hlast, hkept]
  have hlp : double.leastPlace = -1074 := by decide
  have hb : double.binade = 2 ^ 52 := by decide
  have hi : double.infRung = 2047 * 2 ^ 52 := by decide
  rw [hlp, hb, hi]
  rw [show ((m.log2 : Int) - 52 - -1074).toNat = m.log2 + 1022 from by omega]
  have hup : m * 2 ^ (52 - m.log2) < 2 ^ 53 := by
    have : m * 2 ^ (52 - m.log2) < 2 ^ (m.log2 + 1) * 2 ^ (52 - m.log2) := Nat.mul_lt_mul_of_pos_right hlt (Nat.two_pow_pos _)
    rw [← Nat.pow_add, show m.log2 + 1 + (52 - m.log2) = 53 from by omega] at this
    exact this
  rw [Nat.min_eq_left]
  have : (m.log2 + 1022) * 2 ^ 52 ≤ 1074 * 2 ^ 52 := Nat.mul_le_mul_right _ (by omega)
  exact Nat.le_trans (Nat.add_le_add this (Nat.le_of_lt hup)) (by decide)

/-- what a whole number's double stands for -/
def dat (n : Int) : Datum := if n = 0 then .number false 0 (-1074) else .number (decide (n < 0)) (n.natAbs * 2 ^ (52 - n.natAbs.log2)) ((n.natAbs.log2 : Int) - 52)

theorem read_word (neg : Bool) (m : Nat) (h : m < 2 ^ 53) (h0 : m ≠ 0) :
    double.read (double.word neg ((m.log2 + 1022) * 2 ^ 52 + m * 2 ^ (52 - m.log2))) = .number neg (m * 2 ^ (52 - m.log2)) ((m.log2 : Int) - 52) := by
  have hl := log2_le h h0
  have hself := Nat.log2_self_le h0
  have hlt := Nat.lt_log2_self (n := m)
  have hup : m * 2 ^ (52 - m.log2) < 2 ^ 53 := by
    have : m * 2 ^ (52 - m.log2) < 2 ^ (m.log2 + 1) * 2 ^ (52 - m.log2) := Nat.mul_lt_mul_of_pos_right hlt (Nat.two_pow_pos _)
    rw [← Nat.pow_add, show m.log2 + 1 + (52 - m.log2) = 53 from by omega] at this
    exact this
  have hlo : 2 ^ 52 ≤ m * 2 ^ (52 - m.log2) := by
    have : 2 ^ m.log2 * 2 ^ (52 - m.log2) ≤ m * 2 ^ (52 - m.log2) := Nat.mul_le_mul_right _ hself
    rw [← Nat.pow_add, show m.log2 + (52 - m.log2) = 52 from by omega] at this
    exact this
  generalize m * 2 ^ (52 - m.log2) = q at hup hlo ⊢
  generalize m.log2 = l at hl ⊢
  have hs : double.signWeight = 2 ^ 63 := by decide
  have hb : double.binade = 2 ^ 52 := by decide
  have hi : double.infRung = 2047 * 2 ^ 52 := by decide
  have hlp : double.leastPlace = -1074 := by decide
  unfold Format.read Format.word
  rw [hs, hb, hi, hlp]
  have hr : (if neg = true then 2 ^ 63 + ((l + 1022) * 2 ^ 52 + q) else (l + 1022) * 2 ^ 52 + q) % 2 ^ 63 = (l + 1022) * 2 ^ 52 + q := by
    split <;> omega
  have hn : ((if neg = true then 2 ^ 63 + ((l + 1022) * 2 ^ 52 + q) else (l + 1022) * 2 ^ 52 + q) / 2 ^ 63 % 2 == 1) = neg := by
    cases neg
    · rw [if_neg (by decide), show ((l + 1022) * 2 ^ 52 + q) / 2 ^ 63 % 2 = 0 from by omega]; rfl
    · rw [if_pos rfl, show (2 ^ 63 + ((l + 1022) * 2 ^ 52 + q)) / 2 ^ 63 % 2 = 1 from by omega]; rfl
  rw [hr, hn]
  dsimp only
  rw [if_neg (by omega), if_pos (by omega)]
  congr 1 <;> omega

theorem read_fb (n : Int) (h : n.natAbs < 2 ^ 53) : double.read (fb n) = dat n := by
  unfold dat
  by_cases h0 : n = 0
  · subst h0; decide
  · rw [if_neg h0]
    have := nearest_scaled (decide (n < 0)) n.natAbs 0 h (by omega) (by omega)
    simp only [Nat.pow_zero, Nat.mul_one] at this
    show double.read (double.nearest (decide (n < 0)) n.natAbs 0) = _
    rw [show (-(((0 : Nat)) : Int)) = 0 from rfl] at this
    rw [this, read_word _ _ h (by omega)]

theorem signed_dat (n : Int) (h : n.natAbs < 2 ^ 53) (h0 : n ≠ 0) (k : Nat) (hk : 52 - n.natAbs.log2 ≤ k) :
    signed (decide (n < 0)) (n.natAbs * 2 ^ (52 - n.natAbs.log2)) (((n.natAbs.log2 : Int) - 52 - -(k : Int)).toNat) = n * 2 ^ k := by
  have hl := log2_le h (by omega)
  unfold signed
  rw [Nat.shiftLeft_eq, Nat.mul_assoc, ← Nat.pow_add, show 52 - n.natAbs.log2 + ((n.natAbs.log2 : Int) - 52 - -(k : Int)).toNat = k from by omega]
  by_cases hn : n < 0
  · simp only [hn, decide_true, if_true, Int.natCast_mul, Int.natCast_pow]
    rw [show ((n.natAbs : Nat) : Int) = -n from by omega, Int.neg_mul, Int.neg_neg]
    rfl
  · simp only [hn, decide_false, Bool.false_eq_true, if_false, Int.natCast_mul, Int.natCast_pow]
    rw [show ((n.natAbs : Nat) : Int) = n from by omega]
    rfl

/-- all of a whole number's double at one place -/
theorem dat_num (n : Int) (h : n.natAbs < 2 ^ 53) : ∃ (m : Nat) (k : Nat), dat n = .number (decide (n < 0)) m (-(k : Int)) ∧ k ≤ 1074 ∧ ∀ j : Nat, k ≤ j → signed (decide (n < 0)) m ((-(k : Int) - -(j : Int)).toNat) = n * 2 ^ j := by
  by_cases h0 : n = 0
  · subst h0
    exact ⟨0, 1074, by decide, by omega, fun j _ => by simp [signed]⟩
  · have hl := log2_le h (show n.natAbs ≠ 0 by omega)
    refine ⟨n.natAbs * 2 ^ (52 - n.natAbs.log2), 52 - n.natAbs.log2, ?_, by omega, fun j hj => ?_⟩
    · unfold dat
      rw [if_neg h0]
      congr 1
      omega
    · have := signed_dat n h h0 j hj
      rw [← this]
      congr 2
      omega

theorem compare_scaled (a b : Int) (k : Nat) : compare (a * 2 ^ k) (b * 2 ^ k) = compare a b := by
  have hp : (0 : Int) < 2 ^ k := Int.pow_pos (by omega)
  rcases Int.lt_trichotomy a b with h | h | h
  · rw [Int.compare_eq_lt.2 h, Int.compare_eq_lt.2 (Int.mul_lt_mul_of_pos_right h hp)]
  · subst h; simp
  · rw [Int.compare_eq_gt.2 h, Int.compare_eq_gt.2 (Int.mul_lt_mul_of_pos_right h hp)]

theorem order_fb (a b : Int) (ha : a.natAbs < 2 ^ 53) (hb : b.natAbs < 2 ^ 53) : double.order (fb a) (fb b) = some (compare a b) := by
  unfold Format.order
  rw [read_fb a ha, read_fb b hb]
  obtain ⟨m, i, e1, hi, f1⟩ := dat_num a ha
  obtain ⟨n, j, e2, hj, f2⟩ := dat_num b hb
  rw [e1, e2]
  simp only [Datum.order]
  rcases Nat.le_total i j with h | h
  · rw [show min (-(i : Int)) (-(j : Int)) = -(j : Int) from by omega, f1 j h, f2 j (by omega), compare_scaled]
  · rw [show min (-(i : Int)) (-(j : Int)) = -(i : Int) from by omega, f1 i (by omega), f2 i h, compare_scaled]

theorem write_sum (neg : Bool) (t : Int) (h : t.natAbs < 2 ^ 53) (k : Nat) (hk : k ≤ 1074) (hneg : neg = decide (t < 0)) :
    double.write (.number neg (t * 2 ^ k).natAbs (-(k : Int))) = fb t := by
  subst hneg
  by_cases h0 : t = 0
  · subst h0; simp [Format.write, Format.nearest]; decide
  · have e : (t * 2 ^ k).natAbs = t.natAbs * 2 ^ k := by rw [Int.natAbs_mul, Int.natAbs_pow]; rfl
    show double.nearest _ _ _ = double.nearest (decide (t < 0)) t.natAbs 0
    rw [e, nearest_scaled _ _ k h (by omega) hk]
    have := nearest_scaled (decide (t < 0)) t.natAbs 0 h (by omega) (by omega)
    simp only [Nat.pow_zero, Nat.mul_one] at this
    rw [show (-(((0 : Nat)) : Int)) = 0 from rfl] at this
    rw [this]

theorem sum_fb (a b : Int) (ha : a.natAbs < 2 ^ 53) (hb : b.natAbs < 2 ^ 53) (hs : (a + b).natAbs < 2 ^ 53) (h0 : 0 ≤ a) :
    double.add (fb a) (fb b) = some (fb (a + b)) := by
  unfold Format.add
  rw [read_fb a ha, read_fb b hb]
  obtain ⟨m, i, e1, hi, f1⟩ := dat_num a ha
  obtain ⟨n, j, e2, hj, f2⟩ := dat_num b hb
  rw [e1, e2]
  simp only [Datum.sum, Option.map_some]
  have hp : ∀ k : Nat, (0 : Int) < 2 ^ k := fun k => Int.pow_pos (by omega)
  have key : ∀ k : Nat, i ≤ k → j ≤ k → k ≤ 1074 → double.write (.number (if a * 2 ^ k + b * 2 ^ k = 0 then decide (a < 0) && decide (b < 0) else decide (a * 2 ^ k + b * 2 ^ k < 0)) (a * 2 ^ k + b * 2 ^ k).natAbs (-(k : Int))) = fb (a + b) := by
    intro k _ _ hk
    rw [← Int.add_mul]
    refine write_sum _ _ hs k hk ?_
    by_cases hz : a + b = 0
    · rw [hz]; simp; omega
    · rw [if_neg (by intro h; rcases Int.mul_eq_zero.1 h with h | h; exact hz h; have := hp k; omega)]
      congr 1
      refine propext ⟨fun h => ?_, fun h => ?_⟩
      · apply Int.not_le.1; intro h'; have := Int.mul_nonneg h' (Int.le_of_lt (hp k)); omega
      · have := Int.mul_lt_mul_of_pos_right h (hp k); simpa using this
  congr 1
  rcases Nat.le_total i j with h | h
  · rw [show min (-(i : Int)) (-(j : Int)) = -(j : Int) from by omega, f1 j h, f2 j (by omega)]
    exact key j h (Nat.le_refl _) hj
  · rw [show min (-(i : Int)) (-(j : Int)) = -(i : Int) from by omega, f1 i (by omega), f2 i h]
    exact key i (Nat.le_refl _) h hi

theorem opp_dat (b : Int) (hb : b.natAbs < 2 ^ 53) : ∃ (m : Nat) (j : Nat), (dat b).opposite = .number (!decide (b < 0)) m (-(j : Int)) ∧ j ≤ 1074 ∧ ∀ k : Nat, j ≤ k → signed (!decide (b < 0)) m ((-(j : Int) - -(k : Int)).toNat) = -b * 2 ^ k := by
  obtain ⟨n, j, e2, hj, f2⟩ := dat_num b hb
  refine ⟨n, j, by rw [e2]; rfl, hj, fun k hk => ?_⟩
  have := f2 k hk
  rw [Int.neg_mul, ← this]
  unfold signed
  cases decide (b < 0) <;> simp

theorem sub_fb (a b : Int) (ha : a.natAbs < 2 ^ 53) (hb : b.natAbs < 2 ^ 53) (hs : (a - b).natAbs < 2 ^ 53) (h0 : 0 ≤ a) :
    double.sub (fb a) (fb b) = some (fb (a - b)) := by
  unfold Format.sub
  rw [read_fb a ha, read_fb b hb]
  obtain ⟨m, i, e1, hi, f1⟩ := dat_num a ha
  obtain ⟨n, j, e2, hj, f2⟩ := opp_dat b hb
  rw [e1, e2]
  simp only [Datum.sum, Option.map_some]
  have hp : ∀ k : Nat, (0 : Int) < 2 ^ k := fun k => Int.pow_pos (by omega)
  have key : ∀ k : Nat, i ≤ k → j ≤ k → k ≤ 1074 → double.write (.number (if a * 2 ^ k + -b * 2 ^ k = 0 then decide (a < 0) && !decide (b < 0) else decide (a * 2 ^ k + -b * 2 ^ k < 0)) (a * 2 ^ k + -b * 2 ^ k).natAbs (-(k : Int))) = fb (a - b) := by
    intro k _ _ hk
    rw [← Int.add_mul, ← Int.sub_eq_add_neg]
    refine write_sum _ _ hs k hk ?_
    by_cases hz : a - b = 0
    · rw [hz]; simp; omega
    · rw [if_neg (by intro h; rcases Int.mul_eq_zero.1 h with h | h; exact hz h; have := hp k; omega)]
      congr 1
      refine propext ⟨fun h => ?_, fun h => ?_⟩
      · apply Int.not_le.1; intro h'; have := Int.mul_nonneg h' (Int.le_of_lt (hp k)); omega
      · have := Int.mul_lt_mul_of_pos_right h (hp k); simpa using this
  congr 1
  rcases Nat.le_total i j with h | h
  · rw [show min (-(i : Int)) (-(j : Int)) = -(j : Int) from by omega, f1 j h, f2 j (by omega)]
    exact key j h (Nat.le_refl _) hj
  · rw [show min (-(i : Int)) (-(j : Int)) = -(i : Int) from by omega, f1 i (by omega), f2 i h]
    exact key i (Nat.le_refl _) h hi

theorem toInt_fb (a : Int) (ha : a.natAbs < 2 ^ 53) : (FloatKind.f64.decode (fb a)).toInt .zero = some a := by
  show (double.read (fb a)).toInt .zero = some a
  rw [read_fb a ha]
  by_cases h0 : a = 0
  · subst h0; decide
  · have hl := log2_le ha (show a.natAbs ≠ 0 by omega)
    unfold dat
    rw [if_neg h0]
    simp only [Datum.toInt, Datum.integral]
    rw [show ((a.natAbs.log2 : Int) - 52).toNat = 0 from by omega, show (-((a.natAbs.log2 : Int) - 52)).toNat = 52 - a.natAbs.log2 from by omega, Nat.shiftLeft_eq, Nat.pow_zero, Nat.mul_one]
    rw [cut_exact _ _ _ _ ?_ (Nat.dvd_mul_left _ _), Nat.mul_div_cancel _ (Nat.two_pow_pos _)]
    · unfold signed
      simp only [Nat.shiftLeft_zero, Option.some.injEq]
      by_cases hn : a < 0
      · simp [hn]; omega
      · simp [hn]; omega
    · have h1 : a.natAbs * 2 ^ (52 - a.natAbs.log2) ≠ 0 := Nat.mul_ne_zero (by omega) (by have := Nat.two_pow_pos (52 - a.natAbs.log2); omega)
      have h2 : 52 - a.natAbs.log2 ≤ (a.natAbs * 2 ^ (52 - a.natAbs.log2)).log2 := by
        rw [Nat.le_log2 h1]
        have : 1 * 2 ^ (52 - a.natAbs.log2) ≤ a.natAbs * 2 ^ (52 - a.natAbs.log2) := Nat.mul_le_mul_right _ (by omega)
        omega
      omega

end Go.Proofs.Ytcmknllefnahkaa.F64
namespace Go.Proofs.Ytcmknllefnahkaa.FR
open Go F64
/-- a whole number that fits 32 bits -/
def Sm (a : Int) : Prop := 0 ≤ a ∧ a ≤ 4294967295
instance (a : Int) : Decidable (Sm a) := inferInstanceAs (Decidable (_ ∧ _))
theorem Sm.lo {a : Int} (h : Sm a) : 0 ≤ a := h.1
theorem Sm.hi {a : Int} (h : Sm a) : a ≤ 4294967295 := h.2
theorem Sm.nat {a : Int} (h : Sm a) : a.natAbs < 2 ^ 53 := by unfold Sm at h; omega
theorem fi_fb (a : Int) : floatOfInt .f64 a = fb a := rfl
theorem order_sm {a b : Int} (ha : Sm a) (hb : Sm b) : FloatKind.f64.format.order (floatOfInt .f64 a) (floatOfInt .f64 b) = some (compare a b) := order_fb a b ha.nat hb.nat
theorem fi_zero : floatOfInt .f64 0 = 0 := by decide
theorem fi_inf : floatOfInt .f64 65535 = 4679239875398991872 := by decide
theorem order_sub0 {a b : Int} (ha : Sm a) (hb : Sm b) : FloatKind.f64.format.order (floatOfInt .f64 (a - b)) 0 = some (compare a b) := by
  rw [← fi_zero]
  have := order_fb (a - b) 0 (by unfold Sm at ha hb; omega) (by decide)
  rw [show FloatKind.f64.format.order (floatOfInt .f64 (a - b)) (floatOfInt .f64 0) = _ from this]
  congr 1
  rcases Int.lt_trichotomy a b with h | h | h
  · rw [Int.compare_eq_lt.2 h, Int.compare_eq_lt.2 (by omega)]
  · subst h; simp
  · rw [Int.compare_eq_gt.2 h, Int.compare_eq_gt.2 (by omega)]
theorem order_inf {a : Int} (ha : Sm a) : FloatKind.f64.format.order (floatOfInt .f64 a) 4679239875398991872 = some (compare a 65535) := by
  rw [← fi_inf]; exact order_sm ha ⟨by omega, by omega⟩
theorem cmp_lt (a b : Int) : (compare a b == Ordering.lt) = decide (a < b) := by
  by_cases h : a < b
  · simp [h, Int.compare_eq_lt.2 h]
  · have : compare a b ≠ .lt := fun e => h (Int.compare_eq_lt.1 e)
    simp [h, this]
theorem cmp_gt (a b : Int) : (compare a b == Ordering.gt) = decide (b < a) := by
  by_cases h : b < a
  · simp [h, Int.compare_eq_gt.2 h]
  · have : compare a b ≠ .gt := fun e => h (Int.compare_eq_gt.1 e)
    simp [h, this]
theorem cmp_eq (a b : Int) : (compare a b == Ordering.eq) = decide (a = b) := by
  by_cases h : a = b
  · subst h; simp
  · have : compare a b ≠ .eq := fun e => h (Int.compare_eq_eq.1 e)
    simp [h, this]
theorem cmp_ne (a b : Int) : (some (compare a b) != some Ordering.eq) = decide (a ≠ b) := by
  have := cmp_eq a b
  simp only [bne]
  simp [this]
section
variable {P : Program} (w : World)
theorem run_fsub {a b : Int} (ha : Sm a) (hb : Sm b) (t : TypeId) : (binOp .sub t (.float .f64 (floatOfInt .f64 a)) (.float .f64 (floatOfInt .f64 b))).run P w = .ok (.float .f64 (floatOfInt .f64 (a - b))) w :=
  run_float_arith w .sub t .f64 _ _ _ (sub_fb a b ha.nat hb.nat (by unfold Sm at ha hb; omega) ha.1)
theorem run_cadd {a b s : Int} (ha : Sm a) (hb : Sm b) (hs : Sm s) (t : TypeId) : (binOp .add t (.complex .f64 (floatOfInt .f64 a) (floatOfInt .f64 s)) (.complex .f64 (floatOfInt .f64 b) 0)).run P w = .ok (.complex .f64 (floatOfInt .f64 (a + b)) (floatOfInt .f64 s)) w := by
  refine run_complex_sum w .add (.inl rfl) t .f64 _ _ _ _ _ _ ?_
  have h1 : floatBits .add .f64 (floatOfInt .f64 a) (floatOfInt .f64 b) = some (floatOfInt .f64 (a + b)) := sum_fb a b ha.nat hb.nat (by unfold Sm at ha hb; omega) ha.1
  have h2 : floatBits .add .f64 (floatOfInt .f64 s) 0 = some (floatOfInt .f64 s) := by
    have := sum_fb s 0 hs.nat (by decide) (by have := hs.nat; simpa using this) hs.1
    rw [Int.add_zero, ← fi_fb, ← fi_fb, fi_zero] at this
    exact this
  simp [cSumBits, h1, h2]
theorem run_toI64 {a : Int} (ha : Sm a) (src dst : TypeId) (hs : (P.underlying src).isSome = true) (hd : P.underlying dst = some (.int .i64)) : (convert src dst (.float .f64 (floatOfInt .f64 a))).run P w = .ok (.int .i64 a) w := by
  refine run_convert_float_int w src dst .f64 .i64 _ a hs hd ?_
  unfold floatToIntVal
  rw [fi_fb, toInt_fb a ha.nat]
  unfold Sm at ha
  have h1 : IntKind.i64.min = -9223372036854775808 := by decide
  have h2 : IntKind.i64.max = 9223372036854775807 := by decide
  rw [h1, h2]
  dsimp only
  rw [if_pos (by omega)]
theorem run_toU32 {a : Int} (ha : Sm a) (src dst : TypeId) (hs : (P.underlying src).isSome = true) (hd : P.underlying dst = some (.int .u32)) : (convert src dst (.float .f64 (floatOfInt .f64 a))).run P w = .ok (.int .u32 a) w := by
  refine run_convert_float_int w src dst .f64 .u32 _ a hs hd ?_
  unfold floatToIntVal
  rw [fi_fb, toInt_fb a ha.nat]
  unfold Sm at ha
  have h1 : IntKind.u32.min = 0 := by decide
  have h2 : IntKind.u32.max = 4294967295 := by decide
  rw [h1, h2]
  dsimp only
  rw [if_pos ha]
end
/-- a distance -/
abbrev dv (m s : Int) : Value := .complex .f64 (floatOfInt .f64 m) (floatOfInt .f64 s)
end Go.Proofs.Ytcmknllefnahkaa.FR
namespace Go.Proofs.Ytcmknllefnahkaa.FP
/-- as the program takes a metric -/
def cl (m : Int) : Int := min (max m 0) 65535
theorem cl_range (m : Int) : 0 ≤ cl m ∧ cl m ≤ 65535 := by unfold cl; omega
theorem max_ite (m : Int) : (if m < 0 then (0 : Int) else m) = max m 0 := by split <;> omega
theorem min_ite (m : Int) : (if 65535 < m then (65535 : Int) else m) = min m 65535 := by split <;> omega
theorem cl_fold (m : Int) : min (max m 0) 65535 = cl m := rfl
def bet (m s m' s' : Int) : Bool := decide (s' < s) || (s == s' && decide (m < m'))
theorem bet_iff (m s m' s' : Int) : bet m s m' s' = true ↔ s' < s ∨ s = s' ∧ m < m' := by simp [bet]
theorem bet_false (m s m' s' : Int) : bet m s m' s' = false ↔ ¬ (s' < s ∨ s = s' ∧ m < m') := by rw [← bet_iff]; simp
/-- the metric behind a link -/
def addm (m c : Int) : Int := min (m + cl c) 65535
def fea (m s fm fs : Int) : Bool := decide (m < 65535) && (decide (65535 ≤ fm) || bet m s fm fs)
theorem fea_iff (m s fm fs : Int) : fea m s fm fs = true ↔ m < 65535 ∧ (65535 ≤ fm ∨ bet m s fm fs = true) := by simp [fea]
/-- what is chosen of the first i offers (metrics om, numbers os; m links of costs cm): the place, and how far it is -/
def ch (om os cm : Nat → Int) (m : Nat) (fm fs : Int) : Nat → Int × Int × Int
  | 0 => (-1, 65535, 0)
  | i + 1 => if i < m ∧ fea (om i) (os i) fm fs = true ∧ 0 < cm i ∧ addm (om i) (cm i) < 65535 ∧ ((ch om os cm m fm fs i).1 < 0 ∨ bet (addm (om i) (cm i)) (os i) (ch om os cm m fm fs i).2.1 (ch om os cm m fm fs i).2.2 = true)
      then (i, addm (om i) (cm i), os i) else ch om os cm m fm fs i
theorem ch_yes {om os cm : Nat → Int} {m : Nat} {fm fs : Int} {i : Nat} (h : i < m ∧ fea (om i) (os i) fm fs = true ∧ 0 < cm i ∧ addm (om i) (cm i) < 65535 ∧ ((ch om os cm m fm fs i).1 < 0 ∨ bet (addm (om i) (cm i)) (os i) (ch om os cm m fm fs i).2.1 (ch om os cm m fm fs i).2.2 = true)) :
    ch om os cm m fm fs (i + 1) = ((i : Int), addm (om i) (cm i), os i) := by rw [ch, if_pos h]
theorem ch_no {om os cm : Nat → Int} {m : Nat} {fm fs : Int} {i : Nat} (h : ¬ (i < m ∧ fea (om i) (os i) fm fs = true ∧ 0 < cm i ∧ addm (om i) (cm i) < 65535 ∧ ((ch om os cm m fm fs i).1 < 0 ∨ bet (addm (om i) (cm i)) (os i) (ch om os cm m fm fs i).2.1 (ch om os cm m fm fs i).2.2 = true))) :
    ch om os cm m fm fs (i + 1) = ch om os cm m fm fs i := by rw [ch, if_neg h]
theorem addm_range {m : Int} (c : Int) (h0 : 0 ≤ m) : 0 ≤ addm m c ∧ addm m c ≤ 65535 := by have := cl_range c; unfold addm; omega
theorem addm_add (m x y : Int) (h0 : 0 ≤ m) (hx : 0 ≤ x) (hy : 0 ≤ y) : addm (addm m x) y = addm m (x + y) := by unfold addm cl; omega
theorem ch_range (om os cm : Nat → Int) (m : Nat) (fm fs : Int) (N : Nat) (h : ∀ i, i < N → 0 ≤ om i ∧ (0 ≤ os i ∧ os i ≤ 4294967295)) (n : Nat) (hn : n ≤ N) :
    -1 ≤ (ch om os cm m fm fs n).1 ∧ (ch om os cm m fm fs n).1 ≤ (n : Int) - 1 ∧ (0 ≤ (ch om os cm m fm fs n).2.1 ∧ (ch om os cm m fm fs n).2.1 ≤ 65535) ∧ (0 ≤ (ch om os cm m fm fs n).2.2 ∧ (ch om os cm m fm fs n).2.2 ≤ 4294967295) := by
  induction n with
  | zero => simp [ch]
  | succ n ih =>
    have ih := ih (by omega)
    unfold ch
    split
    · rename_i hc
      have h1 := h n (by omega)
      have h2 := addm_range (cm n) h1.1
      exact ⟨by dsimp only; omega, by dsimp only; omega, h2, h1.2⟩
    · exact ⟨ih.1, by omega, ih.2.2⟩
theorem sm_addm {m : Int} (c : Int) (h0 : FR.Sm m) : FR.Sm (addm m c) := by have := addm_range c h0.1; exact ⟨by omega, by omega⟩
theorem addm_le {m : Int} (c : Int) (h0 : FR.Sm m) : addm m c ≤ 65535 := (addm_range c h0.1).2
end Go.Proofs.Ytcmknllefnahkaa.FP
