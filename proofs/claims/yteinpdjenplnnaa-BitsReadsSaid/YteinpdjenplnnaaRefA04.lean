/-
  The functions of package signpostref04: what they return. Conditions: those that each theorem names.
-/
import Derived.Test.YteinpdjenplnnaaBitsRC
namespace Go.Proofs.Yteinpdjenplnnaa
open Go.RowKit
set_option linter.unusedVariables false
set_option linter.unusedSimpArgs false
namespace BW
/-- noughts and ones as a text -/
def ch01 (b : Bool) : UInt8 := if b then 49 else 48
def str01 (bs : List Bool) : ByteArray := ⟨(bs.map ch01).toArray⟩
theorem str01_size (bs : List Bool) : (str01 bs).size = bs.length := by simp [str01, ByteArray.size]
theorem str01_append (a b : List Bool) : str01 a ++ str01 b = str01 (a ++ b) := by
  apply ByteArray.ext
  simp [str01, ByteArray.data_append]
theorem str01_get (bs : List Bool) (i : Nat) (h : i < (str01 bs).size) : (str01 bs)[i] = ch01 (bs.getD i false) := by
  have h2 : i < bs.length := by rw [str01_size] at h; exact h
  rw [ByteArray.getElem_eq_getElem_data]
  simp [str01, List.getD_eq_getElem?_getD, List.getElem?_eq_getElem h2]
theorem str01_extract (bs : List Bool) (i j : Nat) : (str01 bs).extract i j = str01 ((bs.take j).drop i) := by
  apply ByteArray.ext
  simp [str01, ByteArray.data_extract, ← List.map_take, ← List.map_drop, List.drop_take]
theorem low_succ (v : Int) (k : Nat) : low v (k + 1) = low v k ++ [decide (v / 2 ^ k % 2 = 1)] := rfl
theorem conv_one (wr : World) (x : Int) : (convert 24 9 (.slice (some ⟨wr.heap.size, 0, none⟩) 1 1)).run Try.prog (wr.alloc (.cells #[.int .u8 x] 5)) = .ok (.string (strOfNums [x])) (wr.alloc (.cells #[.int .u8 x] 5)) := by
  refine run_convert_bytes_arg (wr.alloc (.cells #[.int .u8 x] 5)) 24 5 Try.underlying24 Try.underlying5 wr.heap.size 0 1 1 [x] rfl (fun i hi => ?_) 9 Try.underlying9
  obtain rfl : i = 0 := by omega
  simp
theorem conv_ch (v : Int) (k : Nat) (bt : Int) (h : v / 2 ^ k % 2 = bt) (hb : 0 ≤ bt ∧ bt ≤ 1) : strOfNums [48 + bt] = str01 [decide (v / 2 ^ k % 2 = 1)] := by
  rw [h]
  rcases (show bt = 0 ∨ bt = 1 by omega) with rfl | rfl <;> rfl
attribute [local irreducible] low
set_option maxRecDepth 100000 in
set_option maxHeartbeats 800000 in
theorem refbits_any (v n : Int) (w : World) (hv0 : 0 ≤ v) (hv1 : v ≤ 18446744073709551615) :
    Calls Try.prog 11 #[.int .u64 v, .int .i64 n] w fun e w' => e = .returned (.string (str01 (low v (min n 64).toNat))) ∧ Below w.heap.size w w' := by
  go_enter Try.func11, Try.ntmps11
  go_wp2
  go_loopw [5, 6] (fun s5 s6 wr => ∃ k : Nat, (k : Int) ≤ max (min n 64) 0 ∧ s6 = .int .i64 k ∧ s5 = .string (str01 (low v k)) ∧ Below w.heap.size w wr) (fun _ s6 _ => 64 - (intOf s6).toNat)
  case atStart => exact ⟨0, by omega, rfl, by unfold low str01; rfl, Below.refl _ _⟩
  case round =>
    obtain ⟨k, hk, rfl, rfl, hb⟩ := hrel
    have hz := (low_len v k)
    by_cases hlt : (k : Int) < min n 64
    · have h1 : (k : Int) < n := by omega
      have h2 : (k : Int) < 64 := by omega
      have j0 : (0 : Int) ≤ (k : Int) := by omega
      have vb0 : 0 ≤ v / 2 ^ k := Int.ediv_nonneg hv0 (by have := Int.pow_pos (n := 2) (m := k) (by omega); omega)
      have hbt : 0 ≤ v / 2 ^ k % 2 ∧ v / 2 ^ k % 2 ≤ 1 := by omega
      have va : (v / 2 ^ k).tmod 2 = v / 2 ^ k % 2 := Int.tmod_eq_emod_of_nonneg vb0
      generalize hbv : v / 2 ^ k % 2 = bt at va hbt
      have HBV := Lib.hid hbv
      clear hbv
      have w1 : IntKind.u64.wrap (48 + bt) = 48 + bt := IntWalk.u64_in _ (by omega)
      have w2 : (48 + bt) % 256 = 48 + bt := by omega
      have hc := conv_one wr (48 + bt)
      rw [conv_ch v k bt HBV.out hbt] at hc
      have hsum : ¬ (9223372036854775807 < (str01 (low v k)).size + (str01 [decide (v / 2 ^ k % 2 = 1)]).size) := by rw [str01_size, str01_size, hz]; simp; omega
      go_wp2
      go_roundw
      case rel => exact ⟨k + 1, by omega, by go_num, by rw [str01_append, low_succ], hb.alloc hb.size _⟩
      case measure => simp [intOf]; omega
    · have hkn : (min n 64).toNat = k := by omega
      have HK := Lib.hid hkn
      clear hkn
      by_cases h1 : (k : Int) < n
      · have h2 : ¬ (k : Int) < 64 := by omega
        go_wp2
        go_ret
        exact ⟨by rw [HK.out]; rfl, hb⟩
      · go_wp2
        go_ret
        exact ⟨by rw [HK.out]; rfl, hb⟩
attribute [local irreducible] val
set_option maxRecDepth 100000 in
set_option maxHeartbeats 800000 in
theorem refvalue_any (bs : List Bool) (w : World) (hl : bs.length ≤ 64) :
    Calls Try.prog 19 #[.string (str01 bs)] w fun e w' => e = .returned (.int .u64 (val bs)) ∧ w = w' := by
  have hz := str01_size bs
  go_enter Try.func19, Try.ntmps19
  go_wp2
  go_loopw [3, 4] (fun s3 s4 wr => ∃ k : Nat, k ≤ bs.length ∧ s4 = .int .i64 k ∧ s3 = .int .u64 (val (bs.take k)) ∧ w = wr) (fun _ s4 _ => 64 - (intOf s4).toNat)
  case atStart => exact ⟨0, by omega, rfl, by simp [val], rfl⟩
  case round =>
    obtain ⟨k, hk, rfl, rfl, rfl⟩ := hrel
    by_cases hlt : k < bs.length
    · have h1 : (k : Int) < ((str01 bs).size : Int) := by omega
      have j0 : (0 : Int) ≤ (k : Int) := by omega
      have hks : k < (str01 bs).size := by omega
      have hg := str01_get bs k hks
      have hv := val_range (bs.take k)
      have htl : (bs.take k).length = k := by simp; omega
      rw [htl] at hv
      have hp : (2 : Int) ^ k ≤ 9223372036854775808 := by
        have : 2 ^ k ≤ 2 ^ 63 := Nat.pow_le_pow_right (by omega) (by omega)
        have h2 : ((2 ^ k : Nat) : Int) ≤ ((2 ^ 63 : Nat) : Int) := by exact_mod_cast this
        rw [Int.natCast_pow] at h2
        simpa using h2
      have hmin : min k 64 = k := by omega
      have hst : val (bs.take (k + 1)) = val (bs.take k) + (if bs.getD k false then 1 else 0) * 2 ^ k := by
        rw [List.take_add_one, List.getElem?_eq_getElem hlt]
        have : bs.getD k false = bs[k] := by simp [List.getD_eq_getElem?_getD, List.getElem?_eq_getElem hlt]
        simp only [Option.toList_some]
        rw [val_snoc, htl, this]
      generalize hb : bs.getD k false = b at hg hst
      generalize hx : val (bs.take k) = x at hv hst ⊢
      generalize hpe : (2 : Int) ^ k = p at hv hp hst
      have wr1 : IntKind.u64.wrap p = p := IntWalk.u64_in _ (by omega)
      have wr2 : IntKind.u64.wrap (x + p) = x + p := IntWalk.u64_in _ (by omega)
      cases b
      · go_wp2
        go_roundw
        case rel => exact ⟨k + 1, by omega, by go_num, by rw [hst]; simp, trivial⟩
        case measure => simp [intOf]; omega
      · go_wp2
        go_roundw
        case rel => exact ⟨k + 1, by omega, by go_num, by rw [hst]; simp, trivial⟩
        case measure => simp [intOf]; omega
    · obtain rfl : k = bs.length := by omega
      have h1 : ¬ ((bs.length : Nat) : Int) < ((str01 bs).size : Int) := by omega
      go_wp2
      go_ret
      exact ⟨rfl, rfl⟩
theorem low_map (v : Int) (n : Nat) : low v n = (List.range n).map fun k => decide (v / 2 ^ k % 2 = 1) := by
  induction n with
  | zero => unfold low; rfl
  | succ n ih => rw [low_succ, ih, List.range_succ]; simp
theorem seg_append (s : ByteArray) (a m n : Nat) : seg s a (m + n) = seg s a m ++ seg s (a + m) n := by
  simp only [seg, List.range_add, List.map_append, List.map_map]
  congr 1
  apply List.map_congr_left
  intro k _
  simp [Nat.add_assoc]
theorem low_byte (s : ByteArray) (i : Nat) (h : i < s.size) : low (s[i].toNat : Int) 8 = seg s (8 * i) 8 := by
  rw [low_map]
  unfold seg
  apply List.map_congr_left
  intro k hk
  have hk8 : k < 8 := by simpa using hk
  unfold bit
  rw [show (8 * i + k) / 8 = i from by omega, show (8 * i + k) % 8 = k from by omega]
  have : s.data.getD i 0 = s[i] := by simp [Array.getD, ByteArray.getElem_eq_getElem_data, show i < s.size from h]
  rw [this]
  have e : (s[i].toNat : Int) / 2 ^ k % 2 = ((s[i].toNat / 2 ^ k % 2 : Nat) : Int) := by rw [Int.natCast_emod, Int.natCast_ediv, Int.natCast_pow]; rfl
  rw [e]
  simp only [decide_eq_decide]
  omega
theorem bitL_seg (s : ByteArray) : bitL s = seg s 0 (8 * s.size) := by simp [bitL, seg]
attribute [local irreducible] seg bit
set_option maxRecDepth 100000 in
set_option maxHeartbeats 1600000 in
theorem refof_any (s : ByteArray) (w : World) (hs : s.size ≤ 1000000) :
    Calls Try.prog 22 #[.string s] w fun e w' => e = .returned (.string (str01 (bitL s))) ∧ Below w.heap.size w w' := by
  rw [bitL_seg]
  go_enter Try.func22, Try.ntmps22
  go_wp2
  go_loopw [3, 4] (fun s3 s4 wr => ∃ k : Nat, k ≤ s.size ∧ s4 = .int .i64 k ∧ s3 = .string (str01 (seg s 0 (8 * k))) ∧ Below w.heap.size w wr) (fun _ s4 _ => s.size - (intOf s4).toNat)
  case atStart => exact ⟨0, by omega, rfl, by unfold seg str01; rfl, Below.refl _ _⟩
  case round =>
    obtain ⟨k, hk, rfl, rfl, hb⟩ := hrel
    by_cases hlt : k < s.size
    · have h1 : (k : Int) < (s.size : Int) := by omega
      have j0 : (0 : Int) ≤ (k : Int) := by omega
      have hx : s[k].toNat < 256 := s[k].toNat_lt
      have hlb := low_byte s k hlt
      have hst : seg s 0 (8 * (k + 1)) = seg s 0 (8 * k) ++ seg s (8 * k) 8 := by rw [show 8 * (k + 1) = 8 * k + 8 from by omega, seg_append, Nat.zero_add]
      have HLB := Lib.hid hlb
      have HST := Lib.hid hst
      clear hlb hst
      generalize hxx : s[k].toNat = x at hx HLB
      have w1 : IntKind.u64.wrap (x : Int) = x := IntWalk.u64_in _ (by omega)
      have hsum : ¬ (9223372036854775807 < (str01 (seg s 0 (8 * k))).size + (str01 (seg s (8 * k) 8)).size) := by rw [str01_size, str01_size, seg_len, seg_len]; omega
      go_wp2_with (go_at_call 11; refine (refbits_any x 8 wr (by omega) (by omega)).mono ?_; rintro y w2 ⟨rfl, hb2⟩; rw [show (min (8 : Int) 64).toNat = 8 from rfl, HLB.out])
      go_roundw
      case rel => exact ⟨k + 1, by omega, by go_num, by rw [str01_append, HST.out], hb.trans (hb2.mono hb.size)⟩
      case measure => simp [intOf]; omega
    · obtain rfl : k = s.size := by omega
      go_wp2
      go_ret
      exact ⟨rfl, hb⟩
theorem ck_top (v : Int) (h0 : 0 ≤ v) (j : Nat) (hj : j ≤ ck v) : (j < 63 → 0 < cv v / 2 ^ (j + 1) → j + 1 ≤ ck v) ∧ (¬ (j < 63 ∧ 0 < cv v / 2 ^ (j + 1)) → j = ck v) := by
  obtain ⟨h1, h2, h3, h4⟩ := ck_spec v h0
  have hc := cv_range v h0
  have key : ∀ i : Nat, 0 < cv v / 2 ^ i ↔ i ≤ ck v := by
    intro i
    have hp : (0 : Int) < 2 ^ i := Int.pow_pos (by omega)
    constructor
    · intro h
      rcases Nat.lt_or_ge (ck v) i with hi | hi
      · exfalso
        have hm : (2 : Int) ^ (ck v + 1) ≤ 2 ^ i := by
          have := Nat.pow_le_pow_right (n := 2) (by omega) hi
          have h5 : ((2 ^ (ck v + 1) : Nat) : Int) ≤ ((2 ^ i : Nat) : Int) := by exact_mod_cast this
          rw [Int.natCast_pow, Int.natCast_pow] at h5
          exact h5
        have := Int.ediv_eq_zero_of_lt (a := cv v) (b := 2 ^ i) (by omega) (by omega)
        omega
      · exact hi
    · intro hi
      have hm : (2 : Int) ^ i ≤ 2 ^ (ck v) := by
        have := Nat.pow_le_pow_right (n := 2) (by omega) hi
        have h5 : ((2 ^ i : Nat) : Int) ≤ ((2 ^ (ck v) : Nat) : Int) := by exact_mod_cast this
        rw [Int.natCast_pow, Int.natCast_pow] at h5
        exact h5
      exact Int.lt_of_lt_of_le (by omega) ((Int.le_ediv_iff_mul_le hp).2 (by omega) : (1 : Int) ≤ cv v / 2 ^ i)
  refine ⟨fun _ h => (key (j + 1)).1 h, fun h => ?_⟩
  rcases Nat.lt_or_ge j (ck v) with hl | hl
  · exfalso
    apply h
    exact ⟨by omega, (key (j + 1)).2 (by omega)⟩
  · omega
theorem rep_str (k : Nat) : str01 (List.replicate k false) ++ ⟨#[48]⟩ = str01 (List.replicate (k + 1) false) := by
  rw [List.replicate_succ', ← str01_append]; rfl
set_option maxRecDepth 100000 in
set_option maxHeartbeats 1600000 in
theorem refcode_any (v : Int) (w : World) (hv0 : 0 ≤ v) (hv1 : v ≤ 18446744073709551615) :
    Calls Try.prog 13 #[.int .u64 v] w fun e w' => e = .returned (.string (str01 (cd v))) ∧ Below w.heap.size w w' := by
  have htop := ck_top v hv0
  obtain ⟨s1, s2, _, _⟩ := ck_spec v hv0
  have hc := cv_range v hv0
  have hcd : cd v = List.replicate (ck v) false ++ [true] ++ low (cv v) (ck v) := rfl
  have HCD := Lib.hid hcd
  have HT := Lib.hid htop
  obtain ⟨m, hm⟩ : ∃ m, min v 9223372036854775808 = m := ⟨_, rfl⟩
  have hcm : cv v = m + 1 := by unfold cv; omega
  clear hcd htop s1
  generalize ck v = K at *
  rw [hcm] at hc HT HCD
  go_enter Try.func13, Try.ntmps13
  have hb : 9223372036854775808 < v ∧ 9223372036854775808 = m ∨ ¬ 9223372036854775808 < v ∧ v = m := by omega
  have wp1 : IntKind.u64.wrap (m + 1) = m + 1 := IntWalk.u64_in _ (by omega)
  have HM := Lib.hid hm
  clear hm hcm
  rcases hb with ⟨hv, hm'⟩ | ⟨hv, hm'⟩
  all_goals
    have HM' := Lib.hid hm'
    clear hm'
    go_upto_region 3 with fail
    rw [HM'.out]
    have HV := Lib.hid hv
    clear hv
    go_upto_region 4 with fail
    go_loopw [3] (fun s3 wr => ∃ j : Nat, j ≤ K ∧ s3 = .int .i64 j ∧ w = wr) (fun s3 _ => 64 - (intOf s3).toNat)
    case atStart => exact ⟨0, by omega, rfl, rfl⟩
    case round =>
      obtain ⟨j, hj, rfl, rfl⟩ := hrel
      have j0 : (0 : Int) ≤ (j : Int) + 1 := by omega
      have hjm : min (j + 1) 64 = j + 1 := by omega
      by_cases hcnd : j < 63 ∧ 0 < (m + 1) / 2 ^ (j + 1)
      · have h63' : (j : Int) < 63 := by omega
        have hd := hcnd.2
        have hnext := (HT.out j hj).1 hcnd.1 hcnd.2
        go_wp2
        go_roundw
        case rel => exact ⟨j + 1, hnext, by go_num, trivial⟩
        case measure => simp [intOf]; omega
      · have hjK := (HT.out j hj).2 hcnd
        subst hjK
        by_cases h63 : j < 63
        all_goals
          first
          | have hd : ¬ 0 < (m + 1) / 2 ^ (j + 1) := fun h => hcnd ⟨h63, h⟩
          | skip
          have h63' := h63
          have h63i : (j : Int) < 63 ↔ j < 63 := by omega
          rw [← h63i] at h63'
          clear hcnd h63i
          go_upto_region 8 with fail
          go_loopw [4, 5] (fun s4 s5 wr => ∃ i : Nat, i ≤ j ∧ s5 = .int .i64 i ∧ s4 = .string (str01 (List.replicate i false)) ∧ w = wr) (fun _ s5 _ => 64 - (intOf s5).toNat)
          case atStart => exact ⟨0, by omega, rfl, rfl, rfl⟩
          case round =>
            obtain ⟨i, hi, rfl, rfl, rfl⟩ := hrel
            have hsz : (str01 (List.replicate i false)).size = i := by rw [str01_size]; simp
            by_cases hlt : i < j
            · have hlt' : (i : Int) < (j : Int) := by omega
              have hsum : ¬ (9223372036854775807 < (str01 (List.replicate i false)).size + 1) := by omega
              go_wp2
              go_roundw
              case rel => exact ⟨i + 1, by omega, by go_num, by rw [← rep_str], trivial⟩
              case measure => simp [intOf]; omega
            · obtain rfl : i = j := by omega
              have hsum : ¬ (9223372036854775807 < (str01 (List.replicate i false)).size + 1) := by omega
              have h49 : str01 (List.replicate i false) ++ ⟨#[49]⟩ = str01 (List.replicate i false ++ [true]) := by rw [← str01_append]; rfl
              have hsum2 : ¬ (9223372036854775807 < (str01 (List.replicate i false ++ [true])).size + (str01 (low (m + 1) i)).size) := by rw [str01_size, str01_size, low_len]; simp; omega
              go_wp2_with (go_at_call 11; refine (refbits_any (m + 1) i w (by omega) (by omega)).mono ?_; rintro y w2 ⟨rfl, hb2⟩; rw [show (min (i : Int) 64).toNat = i from by omega])
              go_ret
              exact ⟨by rw [HCD.out]; exact congrArg (fun x => Ending.returned (.string x)) (str01_append _ _), hb2⟩
end BW
end Go.Proofs.Yteinpdjenplnnaa
