/-
  The reader of package bits: Code, Done, and a reader that is none. Conditions: those that each theorem names.
-/
import Derived.Test.YteinpdjenplnnaaBitsR
namespace Go.Proofs.Yteinpdjenplnnaa
open Go.RowKit
set_option linter.unusedVariables false
set_option linter.unusedSimpArgs false
namespace BW
/-- how many noughts stand from place a on, at most f -/
def nz (s : ByteArray) (a : Nat) : Nat → Nat
  | 0 => 0
  | f + 1 => if a < 8 * s.size ∧ bit s a = false then nz s (a + 1) f + 1 else 0
theorem nz_eq (s : ByteArray) : ∀ (f a k : Nat), k ≤ f → (∀ i, i < k → a + i < 8 * s.size ∧ bit s (a + i) = false) → (k = f ∨ ¬ (a + k < 8 * s.size ∧ bit s (a + k) = false)) → nz s a f = k
  | 0, a, k, hk, h, h2 => by simp [nz]; omega
  | f + 1, a, 0, hk, h, h2 => by
    simp only [nz]
    rw [if_neg]
    rcases h2 with h2 | h2
    · omega
    · simpa using h2
  | f + 1, a, k + 1, hk, h, h2 => by
    simp only [nz]
    rw [if_pos (by simpa using h 0 (by omega)), nz_eq s f (a + 1) k (by omega) (fun i hi => by have := h (i + 1) (by omega); rw [show a + (i + 1) = a + 1 + i from by omega] at this; exact this)
      (by rcases h2 with h2 | h2
          · exact .inl (by omega)
          · exact .inr (by rw [show a + 1 + k = a + (k + 1) from by omega]; exact h2))]
/-- what the reader's Code answers -/
def rc (s : ByteArray) (a : Nat) (e : Int) : Int × Nat × Int :=
  if e ≠ 0 then (0, a, e) else
  if nz s a 64 = 64 then (0, a + 64, 4) else
  if a + nz s a 64 = 8 * s.size then (0, a + nz s a 64, 3) else
  if 8 * s.size < a + 2 * nz s a 64 + 1 then (0, a + nz s a 64 + 1, 3) else
  (val (seg s (a + nz s a 64 + 1) (nz s a 64)) + 2 ^ nz s a 64 - 1, a + 2 * nz s a 64 + 1, 0)
theorem rc_off {s : ByteArray} {a : Nat} {e : Int} (h : e ≠ 0) : rc s a e = (0, a, e) := by unfold rc; rw [if_pos h]
theorem rc_form {s : ByteArray} {a : Nat} (h : nz s a 64 = 64) : rc s a 0 = (0, a + 64, 4) := by unfold rc; rw [if_neg (by simp), if_pos h]
theorem rc_out {s : ByteArray} {a k : Nat} (h : nz s a 64 = k) (hk : k ≠ 64) (h2 : a + k = 8 * s.size) : rc s a 0 = (0, a + k, 3) := by unfold rc; rw [if_neg (by simp), h, if_neg hk, if_pos h2]
theorem rc_short {s : ByteArray} {a k : Nat} (h : nz s a 64 = k) (hk : k ≠ 64) (h2 : a + k ≠ 8 * s.size) (h3 : 8 * s.size < a + 2 * k + 1) : rc s a 0 = (0, a + k + 1, 3) := by unfold rc; rw [if_neg (by simp), h, if_neg hk, if_neg h2, if_pos h3]
theorem rc_ok {s : ByteArray} {a k : Nat} (h : nz s a 64 = k) (hk : k ≠ 64) (h2 : a + k ≠ 8 * s.size) (h3 : ¬ 8 * s.size < a + 2 * k + 1) : rc s a 0 = (val (seg s (a + k + 1) k) + 2 ^ k - 1, a + 2 * k + 1, 0) := by unfold rc; rw [if_neg (by simp), h, if_neg hk, if_neg h2, if_neg h3]
theorem rb_one {s : ByteArray} {a : Nat} (h : a < 8 * s.size) : rb s a 0 1 = (if bit s a then 1 else 0, a + 1, 0) := by
  have := rb_ok (s := s) (a := a) (N := 1) (by omega) (by omega) (by omega)
  rw [show ((1 : Nat) : Int) = 1 from rfl] at this
  rw [this]
  simp [seg, val]
theorem rb_none {s : ByteArray} {a : Nat} (h : a = 8 * s.size) : rb s a 0 1 = (0, a, 3) := rb_short (by omega) (by omega)
attribute [local irreducible] seg val bit nz
set_option maxRecDepth 100000 in
set_option maxHeartbeats 3200000 in
theorem rcode_any (g : Nat) (s : ByteArray) (a : Nat) (e : Int) (w : World) (hr : IsR w g s a e) (hs : s.size ≤ 1000000) (ha : a ≤ 8 * s.size) :
    Calls Try.prog 20 #[.pointer (some ⟨g, 0, none⟩)] w fun y w' => y = .returned (.int .u64 (rc s a e).1) ∧ IsR w' g s (rc s a e).2.1 (rc s a e).2.2 ∧ Only (fun i => i = g) w w' := by
  have c2 := blk_cell hr 2
  simp at c2
  have HR := Lib.hid hr
  clear hr
  by_cases he : e = 0
  · subst he
    go_enter Try.func20, Try.ntmps20
    go_wp2
    go_loopw [3] (fun s3 wr => ∃ k : Nat, k ≤ 64 ∧ s3 = .int .i64 k ∧ Only (fun i => i = g) w wr ∧ ((IsR wr g s (a + k) 0 ∧ a + k ≤ 8 * s.size ∧ ∀ i, i < k → a + i < 8 * s.size ∧ bit s (a + i) = false) ∨
      ∃ j, k = j + 1 ∧ IsR wr g s (a + j) 3 ∧ a + j = 8 * s.size ∧ ∀ i, i < j → a + i < 8 * s.size ∧ bit s (a + i) = false)) (fun s3 _ => 64 - (intOf s3).toNat)
    case atStart => exact ⟨0, by omega, rfl, Only.refl _ _, .inl ⟨HR.out, ha, fun i hi => by omega⟩⟩
    case round =>
      obtain ⟨k, hk, rfl, ho, hrel⟩ := hrel
      have HO := Lib.hid ho
      clear ho
      rcases hrel with ⟨hrk, hle, hz⟩ | ⟨j, rfl, hrk, hle, hz⟩
      · have d2 := blk_cell hrk 2
        simp at d2
        have HRK := Lib.hid hrk
        have HZ := Lib.hid hz
        clear hrk hz
        by_cases h64 : k = 64
        · subst h64
          go_wp2_with (go_at_call 29; refine (fail_any g s (a + 64) 0 4 wr HRK.out).mono ?_; rintro y w' ⟨rfl, rfl⟩)
          go_ret
          rw [rc_form (nz_eq s 64 a 64 (by omega) HZ.out (.inl rfl))]
          exact ⟨rfl, fail_isR HRK.out 4, Only.setCell (S := fun i => i = g) (p := ⟨g, 2, none⟩) HO.out (fun _ => rfl) _⟩
        · have hk64 : (k : Int) < 64 := by omega
          have hk65 : ¬ ((k : Int) = 64) := by omega
          by_cases hend : a + k = 8 * s.size
          · go_wp2_with (go_at_call 18; refine (rbits_any g s (a + k) 0 1 wr HRK.out hs (by omega)).mono ?_; rintro y w1 ⟨rfl, hr1, ho1⟩; rw [rb_none hend] at hr1 ⊢)
            go_roundw
            case rel => exact ⟨k + 1, by omega, by go_num, HO.out.trans ho1 (fun _ _ h => h), .inr ⟨k, rfl, hr1, hend, HZ.out⟩⟩
            case measure => simp [intOf]; omega
          · cases hb : bit s (a + k)
            · go_wp2_with (go_at_call 18; refine (rbits_any g s (a + k) 0 1 wr HRK.out hs (by omega)).mono ?_; rintro y w1 ⟨rfl, hr1, ho1⟩; rw [rb_one (by omega), hb] at hr1 ⊢; simp only [Bool.false_eq_true, if_false] at hr1 ⊢)
              go_roundw
              case rel => exact ⟨k + 1, by omega, by go_num, HO.out.trans ho1 (fun _ _ h => h), .inl ⟨hr1, by omega, fun i hi => if h : i < k then HZ.out i h else by rw [show i = k from by omega]; exact ⟨by omega, hb⟩⟩⟩
              case measure => simp [intOf]; omega
            · have hnz : nz s a 64 = k := nz_eq s 64 a k hk HZ.out (.inr (by rw [hb]; simp))
              have HNZ := Lib.hid hnz
              clear hnz
              go_upto_region 6 with (go_at_call 18; refine (rbits_any g s (a + k) 0 1 wr HRK.out hs (by omega)).mono ?_; rintro y w1 ⟨rfl, hr1, ho1⟩; rw [rb_one (by omega), hb] at hr1 ⊢; simp only [if_true] at hr1 ⊢; have f2 := blk_cell hr1 2; simp at f2; have HR1 := Lib.hid hr1; have HO1 := Lib.hid (HO.out.trans ho1 (fun _ _ h => h)); clear hr1 ho1)
              by_cases h3 : 8 * s.size < a + 2 * k + 1
              · have HRC := Lib.hid (rc_short HNZ.out h64 hend h3)
                have hrb : rb s (a + k + 1) 0 k = (0, a + k + 1, 3) := rb_short (by omega) (by omega)
                have HRB := Lib.hid hrb
                clear hrb
                go_wp2_with (go_at_call 18; refine (rbits_any g s (a + k + 1) 0 k w1 HR1.out hs (by omega)).mono ?_; rintro y w2 ⟨rfl, hr2, ho2⟩; rw [HRB.out] at hr2 ⊢; simp only at hr2 ⊢; have q2 := blk_cell hr2 2; simp at q2; have HR2 := Lib.hid hr2; have HO2 := Lib.hid (HO1.out.trans ho2 (fun _ _ h => h)); clear hr2 ho2)
                go_ret
                rw [HRC.out]
                exact ⟨rfl, HR2.out, HO2.out⟩
              · have HRC := Lib.hid (rc_ok HNZ.out h64 hend h3)
                have hrb : rb s (a + k + 1) 0 k = (val (seg s (a + k + 1) k), a + k + 1 + k, 0) := rb_ok (by omega) (by omega) (by omega)
                have HRB := Lib.hid hrb
                clear hrb
                have hv := val_range (seg s (a + k + 1) k)
                rw [seg_len] at hv
                generalize val (seg s (a + k + 1) k) = v at hv HRB HRC
                have hp : (2 : Int) ^ k ≤ 9223372036854775808 := by
                  have : 2 ^ k ≤ 2 ^ 63 := Nat.pow_le_pow_right (by omega) (by omega)
                  have h2 : ((2 ^ k : Nat) : Int) ≤ ((2 ^ 63 : Nat) : Int) := by exact_mod_cast this
                  rw [Int.natCast_pow] at h2
                  simpa using h2
                have hp0 : (0 : Int) < 2 ^ k := Int.pow_pos (by omega)
                have hk0 : (0 : Int) ≤ (k : Int) := by omega
                have hmin : min k 64 = k := by omega
                generalize hpe : (2 : Int) ^ k = p at hv hp hp0 HRC
                have wr1 : IntKind.u64.wrap p = p := IntWalk.u64_in _ (by omega)
                have wr2 : IntKind.u64.wrap (v + p) = v + p := IntWalk.u64_in _ (by omega)
                have wr3 : IntKind.u64.wrap (v + p - 1) = v + p - 1 := IntWalk.u64_in _ (by omega)
                go_wp2_with (go_at_call 18; refine (rbits_any g s (a + k + 1) 0 k w1 HR1.out hs (by omega)).mono ?_; rintro y w2 ⟨rfl, hr2, ho2⟩; rw [HRB.out] at hr2 ⊢; simp only at hr2 ⊢; have q2 := blk_cell hr2 2; simp at q2; have HR2 := Lib.hid hr2; have HO2 := Lib.hid (HO1.out.trans ho2 (fun _ _ h => h)); clear hr2 ho2)
                go_ret
                rw [HRC.out]
                exact ⟨rfl, by rw [show a + 2 * k + 1 = a + k + 1 + k from by omega]; exact HR2.out, HO2.out⟩
      · have d2 := blk_cell hrk 2
        simp at d2
        go_wp2
        all_goals go_ret
        all_goals rw [rc_out (nz_eq s 64 a j (by omega) hz (.inr (by omega))) (by omega) hle]
        all_goals exact ⟨rfl, hrk, HO.out⟩
  · go_enter Try.func20, Try.ntmps20
    go_wp2
    go_ret
    rw [rc_off he]
    exact ⟨rfl, HR.out, Only.refl _ _⟩
theorem alloc_new (w : World) (o : Obj) : (w.alloc o).heap[w.heap.size]? = some o := by simp only [World.alloc]; exact Array.getElem?_push_size
/-- what the reader's Done answers -/
def rd (s : ByteArray) (a : Nat) (e : Int) : Int := if e ≠ 0 then e else if 8 ≤ 8 * s.size - a ∨ val (seg s a (8 * s.size - a)) ≠ 0 then 4 else 0
set_option maxRecDepth 100000 in
set_option maxHeartbeats 1600000 in
theorem done_any (g : Nat) (s : ByteArray) (a : Nat) (e : Int) (w : World) (hr : IsR w g s a e) (hs : s.size ≤ 1000000) (ha : a ≤ 8 * s.size) :
    Calls Try.prog 21 #[.pointer (some ⟨g, 0, none⟩)] w fun y w' => y = .returned (.int .i64 (rd s a e)) ∧ Below w.heap.size w w' := by
  have c0 := blk_cell hr 0
  have c1 := blk_cell hr 1
  have c2 := blk_cell hr 2
  simp at c0 c1 c2
  have hg := blk_lt hr
  have HR := Lib.hid hr
  clear hr
  by_cases he : e = 0
  · subst he
    go_enter Try.func21, Try.ntmps21
    go_upto_region 5 with (go_at_call 25; refine (err_any g s a 0 w HR.out).mono ?_; rintro y w1 ⟨rfl, rfl⟩)
    generalize hW : w.alloc (.cells #[.string s, .int .i64 a, .int .i64 0] 58) = W
    have hbW : Below w.heap.size w W := by rw [← hW]; exact (Below.refl _ _).alloc (Nat.le_refl _) _
    have hrW : IsR W g s a 0 := (hbW.block g hg).trans HR.out
    have hrN : IsR W w.heap.size s a 0 := by rw [← hW]; exact alloc_new w _
    have HBW := Lib.hid hbW
    have HRW := Lib.hid hrW
    have HRN := Lib.hid (show IsR W.drew w.heap.size s a 0 from hrN)
    clear hW hbW hrW hrN
    obtain ⟨N, hN⟩ : ∃ N, 8 * s.size - a = N := ⟨_, rfl⟩
    have hNi : (8 * s.size - a : Int) = (N : Int) := by omega
    by_cases h8 : 8 ≤ N
    · have h8' : (8 : Int) ≤ (N : Int) := by omega
      have HRD := Lib.hid (show rd s a 0 = 4 by rw [rd, if_neg (by simp), if_pos (.inl (by omega))])
      go_wp2_with (go_at_call 26; refine (left_any g s a 0 W HRW.out hs ha).mono ?_; rintro y w1 ⟨rfl, rfl⟩; rw [hNi])
      go_ret
      exact ⟨by rw [HRD.out]; rfl, HBW.out.drew⟩
    · have h8' : ¬ (8 : Int) ≤ (N : Int) := by omega
      have hrb : rb s a 0 N = (val (seg s a N), a + N, 0) := rb_ok (by omega) (by omega) ha
      have HRB := Lib.hid hrb
      clear hrb
      by_cases hv : val (seg s a N) = 0
      · have HRD := Lib.hid (show rd s a 0 = 0 by rw [rd, if_neg (by simp), if_neg (by rw [hN, hv]; omega)])
        go_wp2_with (first | (go_at_call 26; refine (left_any g s a 0 W HRW.out hs ha).mono ?_; rintro y w1 ⟨rfl, rfl⟩; rw [hNi]) | (go_at_call 18; refine (rbits_any w.heap.size s a 0 N W.drew HRN.out hs ha).mono ?_; rintro y w2 ⟨rfl, hr2, ho2⟩; rw [HRB.out] at hr2 ⊢; simp only at hr2 ⊢; rw [hv]))
        go_ret
        exact ⟨by rw [HRD.out]; rfl, HBW.out.drew.trans (ho2.below HBW.out.size (fun i hi e => by omega))⟩
      · have hvb : (val (seg s a N) != 0) = true := by simpa using hv
        have HRD := Lib.hid (show rd s a 0 = 4 by rw [rd, if_neg (by simp), if_pos (.inr (by rw [hN]; exact hv))])
        go_wp2_with (first | (go_at_call 26; refine (left_any g s a 0 W HRW.out hs ha).mono ?_; rintro y w1 ⟨rfl, rfl⟩; rw [hNi]) | (go_at_call 18; refine (rbits_any w.heap.size s a 0 N W.drew HRN.out hs ha).mono ?_; rintro y w2 ⟨rfl, hr2, ho2⟩; rw [HRB.out] at hr2 ⊢; simp only at hr2 ⊢))
        go_ret
        exact ⟨by rw [HRD.out]; rfl, HBW.out.drew.trans (ho2.below HBW.out.size (fun i hi e => by omega))⟩
  · go_enter Try.func21, Try.ntmps21
    go_wp2_with (go_at_call 25; refine (err_any g s a e w HR.out).mono ?_; rintro y w1 ⟨rfl, rfl⟩)
    go_ret
    exact ⟨by rw [rd, if_pos he]; rfl, Below.refl _ _⟩
set_option maxHeartbeats 800000 in
theorem rerr_nil (w : World) : Calls Try.prog 25 #[.pointer none] w fun y w' => y = .returned (.int .i64 10) ∧ w = w' := by
  go_enter Try.func25, Try.ntmps25
  go_wp2
  go_ret
  exact ⟨rfl, rfl⟩
set_option maxHeartbeats 800000 in
theorem rleft_nil (w : World) : Calls Try.prog 26 #[.pointer none] w fun y w' => y = .returned (.int .i64 0) ∧ w = w' := by
  go_enter Try.func26, Try.ntmps26
  go_wp2
  go_ret
  exact ⟨rfl, rfl⟩
set_option maxRecDepth 100000 in
set_option maxHeartbeats 800000 in
theorem rbits_nil (n : Int) (w : World) : Calls Try.prog 18 #[.pointer none, .int .i64 n] w fun y w' => y = .returned (.int .u64 0) ∧ w = w' := by
  go_enter Try.func18, Try.ntmps18
  go_wp2
  go_ret
  exact ⟨rfl, rfl⟩
set_option maxRecDepth 100000 in
set_option maxHeartbeats 800000 in
theorem rcode_nil (w : World) : Calls Try.prog 20 #[.pointer none] w fun y w' => y = .returned (.int .u64 0) ∧ w = w' := by
  go_enter Try.func20, Try.ntmps20
  go_wp2
  go_ret
  exact ⟨rfl, rfl⟩
set_option maxHeartbeats 800000 in
theorem done_nil (w : World) : Calls Try.prog 21 #[.pointer none] w fun y w' => y = .returned (.int .i64 10) ∧ w = w' := by
  go_enter Try.func21, Try.ntmps21
  go_wp2_with (go_at_call 25; refine (rerr_nil _).mono ?_; rintro y w1 ⟨rfl, rfl⟩)
  go_ret
  exact ⟨rfl, rfl⟩
end BW
end Go.Proofs.Yteinpdjenplnnaa
