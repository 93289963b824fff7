/-
  The reader of package bits: what its methods answer. Conditions: those that each theorem names.
-/
import Derived.Test.YteinpdjenplnnaaBitsC
namespace Go.Proofs.Yteinpdjenplnnaa
open Go.RowKit
set_option linter.unusedVariables false
set_option linter.unusedSimpArgs false
namespace BW
/-- bit i of some bytes, from the lowest bit of the first byte on -/
def bit (s : ByteArray) (i : Nat) : Bool := decide ((s.data.getD (i / 8) 0).toNat / 2 ^ (i % 8) % 2 = 1)
def bitL (s : ByteArray) : List Bool := (List.range (8 * s.size)).map (bit s)
/-- the number that some bits are, the lowest first -/
def val : List Bool → Int
  | [] => 0
  | b :: bs => (if b then 1 else 0) + 2 * val bs
theorem val_range : ∀ bs : List Bool, 0 ≤ val bs ∧ val bs < 2 ^ bs.length
  | [] => by simp [val]
  | b :: bs => by
    have := val_range bs
    simp only [val, List.length_cons]
    have e : (2 : Int) ^ (bs.length + 1) = 2 * 2 ^ bs.length := by rw [Int.pow_succ]; omega
    rw [e]
    split <;> omega
theorem val_snoc : ∀ (bs : List Bool) (b : Bool), val (bs ++ [b]) = val bs + (if b then 1 else 0) * 2 ^ bs.length
  | [], b => by simp [val]
  | c :: bs, b => by
    simp only [List.cons_append, val, List.length_cons]
    rw [val_snoc bs b, Int.pow_succ]
    cases b <;> simp <;> omega
/-- n bits from place a on -/
def seg (s : ByteArray) (a n : Nat) : List Bool := (List.range n).map fun k => bit s (a + k)
theorem seg_len (s : ByteArray) (a n : Nat) : (seg s a n).length = n := by simp [seg]
theorem seg_succ (s : ByteArray) (a n : Nat) : seg s a (n + 1) = seg s a n ++ [bit s (a + n)] := by simp [seg, List.range_succ]
/-- a reader in block g -/
def IsR (w : World) (g : Nat) (s : ByteArray) (a : Nat) (e : Int) : Prop := w.heap[g]? = some (.cells #[.string s, .int .i64 a, .int .i64 e] 58 (0, 0))
/-- what the reader's Bits answers -/
def rb (s : ByteArray) (a : Nat) (e n : Int) : Int × Nat × Int :=
  if e ≠ 0 then (0, a, e) else if n < 0 ∨ 64 < n then (0, a, 1) else if (8 * s.size - a : Int) < n then (0, a, 3) else (val (seg s a n.toNat), a + n.toNat, 0)
set_option maxHeartbeats 800000 in
theorem err_any (g : Nat) (s : ByteArray) (a : Nat) (e : Int) (w : World) (hr : IsR w g s a e) :
    Calls Try.prog 25 #[.pointer (some ⟨g, 0, none⟩)] w fun x w' => x = .returned (.int .i64 e) ∧ w = w' := by
  have c2 := blk_cell hr 2
  simp at c2
  clear hr
  go_enter Try.func25, Try.ntmps25
  go_wp2
  go_ret
  exact ⟨rfl, rfl⟩
set_option maxHeartbeats 800000 in
theorem left_any (g : Nat) (s : ByteArray) (a : Nat) (e : Int) (w : World) (hr : IsR w g s a e) (hs : s.size ≤ 1000000) (ha : a ≤ 8 * s.size) :
    Calls Try.prog 26 #[.pointer (some ⟨g, 0, none⟩)] w fun x w' => x = .returned (.int .i64 (8 * s.size - a)) ∧ w.drew = w' := by
  have c0 := blk_cell hr 0
  have c1 := blk_cell hr 1
  simp at c0 c1
  have x1 : IntKind.i64.wrap (8 * (s.size : Int)) = 8 * s.size := IntWalk.i64_in _ (by omega)
  have x2 : IntKind.i64.wrap (8 * (s.size : Int) - a) = 8 * s.size - a := IntWalk.i64_in _ (by omega)
  clear hr
  go_enter Try.func26, Try.ntmps26
  go_wp2
  refine wp_region_still_lit (by kernel_rfl) (by kernel_rfl) ?_
  change wpStill _ _ w.drew _ _ _
  repeat still_step
  refine wpStill_nil ?_
  go_wp2
  go_ret
  exact ⟨rfl, rfl⟩
set_option maxHeartbeats 800000 in
theorem fail_any (g : Nat) (s : ByteArray) (a : Nat) (e x : Int) (w : World) (hr : IsR w g s a e) :
    Calls Try.prog 29 #[.pointer (some ⟨g, 0, none⟩), .int .i64 x] w fun y w' => y = .returned (.int .u64 0) ∧ w.setCell ⟨g, 2, none⟩ (.int .i64 x) = w' := by
  have c2 := blk_cell hr 2
  have z2 := blk_free hr 2
  simp at c2
  clear hr
  go_enter Try.func29, Try.ntmps29
  go_wp2
  go_ret
  exact ⟨rfl, rfl⟩
set_option maxHeartbeats 800000 in
theorem new_any (s : ByteArray) (w : World) :
    Calls Try.prog 17 #[.string s] w fun y w' => y = .returned (.pointer (some ⟨w.heap.size, 0, none⟩)) ∧ w.alloc (.cells #[.string s, .int .i64 0, .int .i64 0] 58) = w' := by
  go_enter Try.func17, Try.ntmps17
  go_wp2
  go_ret
  exact ⟨rfl, rfl⟩
theorem fail_isR {w : World} {g : Nat} {s : ByteArray} {a : Nat} {e : Int} (hr : IsR w g s a e) (x : Int) : IsR (w.setCell ⟨g, 2, none⟩ (.int .i64 x)) g s a x := by
  have := blk_set hr 2 (.int .i64 x)
  simpa [IsR] using this
theorem rb_off {s : ByteArray} {a : Nat} {e n : Int} (h : e ≠ 0) : rb s a e n = (0, a, e) := by unfold rb; rw [if_pos h]
theorem rb_arg {s : ByteArray} {a : Nat} {n : Int} (h : n < 0 ∨ 64 < n) : rb s a 0 n = (0, a, 1) := by unfold rb; rw [if_neg (by simp), if_pos h]
theorem rb_short {s : ByteArray} {a : Nat} {n : Int} (h : ¬ (n < 0 ∨ 64 < n)) (h3 : (8 * s.size - a : Int) < n) : rb s a 0 n = (0, a, 3) := by unfold rb; rw [if_neg (by simp), if_neg h, if_pos h3]
theorem rb_ok {s : ByteArray} {a N : Nat} (h : N ≤ 64) (h3 : N ≤ 8 * s.size - a) (h4 : a ≤ 8 * s.size) : rb s a 0 (N : Int) = (val (seg s a N), a + N, 0) := by unfold rb; rw [if_neg (by simp), if_neg (by omega), if_neg (by omega)]; rfl
theorem u64_or_bit (x b : Int) (i : Nat) (hi : i < 64) (h0 : 0 ≤ x) (h1 : x < 2 ^ i) (hb0 : 0 ≤ b) (hb1 : b ≤ 1) : bits .or .u64 x (b * 2 ^ i) = x + b * 2 ^ i := by
  obtain ⟨X, rfl⟩ := Int.eq_ofNat_of_zero_le h0
  obtain ⟨B, rfl⟩ := Int.eq_ofNat_of_zero_le hb0
  have hp : 2 ^ i ≤ 2 ^ 63 := Nat.pow_le_pow_right (by omega) (by omega)
  have h1' : X < 2 ^ i := by
    have : ((X : Nat) : Int) < ((2 ^ i : Nat) : Int) := by rw [Int.natCast_pow]; exact h1
    omega
  have hB : B ≤ 1 := by omega
  have hlt : B * 2 ^ i ≤ 2 ^ 63 := by
    rcases Nat.le_one_iff_eq_zero_or_eq_one.1 hB with rfl | rfl <;> omega
  have e : ((B : Int) * 2 ^ i) = ((B * 2 ^ i : Nat) : Int) := by rw [Int.natCast_mul, Int.natCast_pow]; rfl
  rw [e, u64_or_nat X _ (by omega) (by omega), or_add X i B hB h1']
  rw [Int.natCast_add]
theorem and_one_u8 (x : Nat) (h : x < 256) : bits .and .u8 (x : Int) 1 = (x : Int) % 2 := by
  have := u8_and_nat x 1 h (by omega)
  rw [Nat.and_one_is_mod] at this
  simpa using this
theorem seg_step (s : ByteArray) (a k C M R : Nat) (hC : a + k = C) (hM : C / 8 = M) (hR : C % 8 = R) (hl : M < s.size) (hk : k < 64) :
    bits .or .u64 (val (seg s a k)) (IntKind.u64.wrap (IntKind.u64.wrap (bits .and .u8 ((s[M].toNat : Int) / 2 ^ R) 1) * 2 ^ k)) = val (seg s a (k + 1)) := by
  have hx : s[M].toNat < 256 := s[M].toNat_lt
  have e1 : ((s[M].toNat : Int) / 2 ^ R) = ((s[M].toNat / 2 ^ R : Nat) : Int) := by rw [Int.natCast_ediv, Int.natCast_pow]; rfl
  have hd : s[M].toNat / 2 ^ R ≤ s[M].toNat := Nat.div_le_self _ _
  rw [e1, and_one_u8 _ (by omega)]
  have e2 : bit s (a + k) = decide (s[M].toNat / 2 ^ R % 2 = 1) := by
    unfold bit
    rw [hC, hM, hR]
    have : s.data.getD M 0 = s[M] := by simp [Array.getD, ByteArray.getElem_eq_getElem_data, show M < s.size from hl]
    rw [this]
  have hv := val_range (seg s a k)
  rw [seg_len] at hv
  generalize hb : s[M].toNat / 2 ^ R % 2 = b at e2
  have hb2 : b ≤ 1 := by omega
  have e3 : ((s[M].toNat / 2 ^ R : Nat) : Int) % 2 = (b : Int) := by rw [← hb]; omega
  rw [e3]
  have hp : (2 : Int) ^ k ≤ 9223372036854775808 := by
    have : 2 ^ k ≤ 2 ^ 63 := Nat.pow_le_pow_right (by omega) (by omega)
    have h2 : ((2 ^ k : Nat) : Int) ≤ ((2 ^ 63 : Nat) : Int) := by exact_mod_cast this
    rw [Int.natCast_pow] at h2
    simpa using h2
  have hp0 : (0 : Int) < 2 ^ k := Int.pow_pos (by omega)
  have w1 : IntKind.u64.wrap (b : Int) = b := IntWalk.u64_in _ (by omega)
  have hbk : 0 ≤ (b : Int) * 2 ^ k ∧ (b : Int) * 2 ^ k ≤ 9223372036854775808 := by
    rcases Nat.le_one_iff_eq_zero_or_eq_one.1 hb2 with rfl | rfl <;> constructor <;> simp <;> omega
  have w2 : IntKind.u64.wrap ((b : Int) * 2 ^ k) = b * 2 ^ k := IntWalk.u64_in _ (by omega)
  rw [w1, w2, u64_or_bit _ _ k hk hv.1 hv.2 (by omega) (by omega), seg_succ, val_snoc, seg_len, e2]
  rcases Nat.le_one_iff_eq_zero_or_eq_one.1 hb2 with rfl | rfl <;> simp
attribute [local irreducible] seg val bit
set_option maxRecDepth 100000 in
set_option maxHeartbeats 1600000 in
theorem rbits_any (g : Nat) (s : ByteArray) (a : Nat) (e n : Int) (w : World) (hr : IsR w g s a e) (hs : s.size ≤ 1000000) (ha : a ≤ 8 * s.size) :
    Calls Try.prog 18 #[.pointer (some ⟨g, 0, none⟩), .int .i64 n] w fun y w' => y = .returned (.int .u64 (rb s a e n).1) ∧ IsR w' g s (rb s a e n).2.1 (rb s a e n).2.2 ∧ Only (fun i => i = g) w w' := by
  have c0 := blk_cell hr 0
  have c1 := blk_cell hr 1
  have c2 := blk_cell hr 2
  simp at c0 c1 c2
  have HR := Lib.hid hr
  clear hr
  by_cases he : e = 0
  · subst he
    by_cases h1 : n < 0
    · go_enter Try.func18, Try.ntmps18
      go_wp2_with (go_at_call 29; refine (fail_any g s a 0 1 w HR.out).mono ?_; rintro y w' ⟨rfl, rfl⟩)
      go_ret
      rw [rb_arg (.inl h1)]
      exact ⟨rfl, fail_isR HR.out 1, Only.setCell (S := fun i => i = g) (p := ⟨g, 2, none⟩) (Only.refl _ _) (fun _ => rfl) _⟩
    · by_cases h2 : 64 < n
      · go_enter Try.func18, Try.ntmps18
        go_wp2_with (go_at_call 29; refine (fail_any g s a 0 1 w HR.out).mono ?_; rintro y w' ⟨rfl, rfl⟩)
        go_ret
        rw [rb_arg (.inr h2)]
        exact ⟨rfl, fail_isR HR.out 1, Only.setCell (S := fun i => i = g) (p := ⟨g, 2, none⟩) (Only.refl _ _) (fun _ => rfl) _⟩
      · have hrd : IsR w.drew g s a 0 := HR.out
        have HRD := Lib.hid hrd
        clear hrd
        by_cases h3 : (8 * s.size - a : Int) < n
        · go_enter Try.func18, Try.ntmps18
          go_wp2_with (first | (go_at_call 26; refine (left_any g s a 0 w HR.out hs ha).mono ?_; rintro y w' ⟨rfl, rfl⟩) | (go_at_call 29; refine (fail_any g s a 0 3 w.drew HRD.out).mono ?_; rintro y w' ⟨rfl, rfl⟩))
          go_ret
          rw [rb_short (by omega) h3]
          exact ⟨rfl, fail_isR HRD.out 3, Only.drew (Only.setCell (S := fun i => i = g) (p := ⟨g, 2, none⟩) (Only.refl _ _) (fun _ => rfl) _)⟩
        · obtain ⟨N, rfl⟩ := Int.eq_ofNat_of_zero_le (a := n) (by omega)
          rw [rb_ok (N := N) (by omega) (by omega) ha]
          go_enter Try.func18, Try.ntmps18
          go_wp2_with (first | (go_at_call 26; refine (left_any g s a 0 w HR.out hs ha).mono ?_; rintro y w' ⟨rfl, rfl⟩))
          go_loopw [4, 33] (fun s4 s33 wr => ∃ k : Nat, k ≤ N ∧ s33 = .int .i64 k ∧ s4 = .int .u64 (val (seg s a k)) ∧ IsR wr g s (a + k) 0 ∧ Only (fun i => i = g) w wr) (fun _ s33 _ => 64 - (intOf s33).toNat)
          case atStart => exact ⟨0, by omega, rfl, by rw [show seg s a 0 = [] from by unfold seg; rfl]; unfold val; rfl, HR.out, Only.drew (Only.refl _ _)⟩
          case round =>
            obtain ⟨k, hk, rfl, rfl, hrk, ho⟩ := hrel
            by_cases hlt : k < N
            · obtain ⟨C, hC⟩ : ∃ C, a + k = C := ⟨_, rfl⟩
              rw [hC] at hrk
              obtain ⟨M, hM⟩ : ∃ M, C / 8 = M := ⟨_, rfl⟩
              obtain ⟨R, hR⟩ : ∃ R, C % 8 = R := ⟨_, rfl⟩
              have i0 : M < s.size := by omega
              have i1 : (0 : Int) ≤ (M : Int) := by omega
              have i2 : (M : Int) < (s.size : Int) := by omega
              have j1 : (C : Int) / 8 = (M : Int) := by omega
              have j2 : (C : Int) % 8 = (R : Int) := by omega
              have j0 : (C : Int).tdiv 8 = (M : Int) := by rw [Int.tdiv_eq_ediv_of_nonneg (by omega)]; exact j1
              have j5 : (C : Int).tmod 8 = (R : Int) := by rw [Int.tmod_eq_emod_of_nonneg (by omega)]; exact j2
              have j3 : IntKind.i64.wrap (M : Int) = (M : Int) := IntWalk.i64_in _ (by omega)
              have j4 : IntKind.i64.wrap (R : Int) = (R : Int) := IntWalk.i64_in _ (by omega)
              have j9 : (0 : Int) ≤ (R : Int) := by omega
              have j10 : (0 : Int) ≤ (k : Int) := by omega
              have hR8 : R < 8 := by omega
              have d0 := blk_cell hrk 0
              have d1 := blk_cell hrk 1
              have y1 := blk_free hrk 1
              simp at d0 d1
              have HRK := Lib.hid hrk
              have HO := Lib.hid ho
              clear hrk ho
              go_wp2_with fail
              refine wp_region_still_lit (by kernel_rfl) (by kernel_rfl) ?_
              change wpStill _ _ wr.drew _ _ _
              repeat still_step
              refine wpStill_nil ?_
              have hst := seg_step s a k C M R hC hM hR i0 (by omega)
              generalize bits BinOp.or IntKind.u64 (val (seg s a k)) (IntKind.u64.wrap (IntKind.u64.wrap (bits BinOp.and IntKind.u8 ((s[M].toNat : Int) / 2 ^ R) 1) * 2 ^ k)) = vn at hst ⊢
              have j11 : IntKind.i64.wrap ((C : Int) + 1) = (C : Int) + 1 := IntWalk.i64_in _ (by omega)
              go_wp2
              go_roundw
              case rel =>
                refine ⟨k + 1, by omega, by go_num, by rw [hst], ?_, Only.setCell (S := fun i => i = g) (p := ⟨g, 1, none⟩) (Only.drew HO.out) (fun _ => rfl) _⟩
                have := blk_set HRK.out 1 (.int .i64 ((C : Int) + 1))
                rw [show a + (k + 1) = C + 1 from by omega]
                have h2 : IsR (wr.setCell ⟨g, 1, none⟩ (.int .i64 ((C : Int) + 1))) g s (C + 1) 0 := by simpa [IsR] using this
                exact h2
              case measure => simp [intOf]; omega
            · obtain rfl : k = N := by omega
              go_wp2
              go_ret
              exact ⟨rfl, hrk, ho⟩
  · go_enter Try.func18, Try.ntmps18
    go_wp2
    go_ret
    refine ⟨by simp [rb, he], ?_, Only.refl _ _⟩
    simpa [rb, he] using HR.out
end BW
end Go.Proofs.Yteinpdjenplnnaa
