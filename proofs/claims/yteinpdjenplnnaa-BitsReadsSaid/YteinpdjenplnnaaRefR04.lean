/-
  The reader of package signpostref04. Conditions: those that each theorem names.
-/
import Derived.Test.YteinpdjenplnnaaRefB04
import Derived.Lib.QuietBelow
namespace Go.Proofs.Yteinpdjenplnnaa
open Go.RowKit
set_option linter.unusedVariables false
set_option linter.unusedSimpArgs false
namespace BW
/-- the document's reader in block g: what is left is from place a on -/
def IsQ (w : World) (g : Nat) (s : ByteArray) (a : Nat) (e : Int) : Prop := w.heap[g]? = some (.cells #[.string (str01 (seg s a (8 * s.size - a))), .int .i64 e] 47 (0, 0))
theorem seg_take (s : ByteArray) (a n L : Nat) (h : n ≤ L) : (seg s a L).take n = seg s a n := by
  obtain ⟨d, rfl⟩ := Nat.exists_eq_add_of_le h
  rw [seg_append, List.take_append_of_le_length (by rw [seg_len]; exact Nat.le_refl _), List.take_of_length_le (by rw [seg_len]; exact Nat.le_refl _)]
theorem seg_drop (s : ByteArray) (a n L : Nat) (h : n ≤ L) : (seg s a L).drop n = seg s (a + n) (L - n) := by
  obtain ⟨d, rfl⟩ := Nat.exists_eq_add_of_le h
  rw [seg_append, List.drop_append_of_le_length (by rw [seg_len]; exact Nat.le_refl _), List.drop_of_length_le (by rw [seg_len]; exact Nat.le_refl _), Nat.add_sub_cancel_left]
  rfl
theorem seg_ext (s : ByteArray) (a L i j : Nat) (h : i ≤ j) (hj : j ≤ L) : (str01 (seg s a L)).extract i j = str01 (seg s (a + i) (j - i)) := by
  rw [str01_extract, seg_take s a j L hj, seg_drop s a i j h]
theorem seg_get (s : ByteArray) (a L k : Nat) (h : k < L) : (seg s a L).getD k false = bit s (a + k) := by simp [seg, List.getD_eq_getElem?_getD, List.getElem?_map, List.getElem?_range h]
theorem qset {w : World} {g : Nat} {s : ByteArray} {a : Nat} {e : Int} (h : IsQ w g s a e) (x : Int) : IsQ (w.setCell ⟨g, 1, none⟩ (.int .i64 x)) g s a x := by
  have := blk_set h 1 (.int .i64 x)
  simpa [IsQ] using this
theorem qmove {w : World} {g : Nat} {s : ByteArray} {a b : Nat} {e : Int} (h : IsQ w g s a e) : IsQ (w.setCell ⟨g, 0, none⟩ (.string (str01 (seg s b (8 * s.size - b))))) g s b e := by
  have := blk_set h 0 (.string (str01 (seg s b (8 * s.size - b))))
  simpa [IsQ] using this
attribute [local irreducible] seg val bit nz
set_option maxRecDepth 100000 in
set_option maxHeartbeats 1600000 in
theorem qbits_any (g : Nat) (s : ByteArray) (a : Nat) (e n : Int) (w : World) (hr : IsQ w g s a e) (hs : s.size ≤ 1000000) (ha : a ≤ 8 * s.size) :
    Calls Try.prog 23 #[.pointer (some ⟨g, 0, none⟩), .int .i64 n] w fun y w' => y = .returned (.int .u64 (rb s a e n).1) ∧ IsQ w' g s (rb s a e n).2.1 (rb s a e n).2.2 ∧ Only (fun i => i = g) w w' := by
  have c0 := blk_cell hr 0
  have c1 := blk_cell hr 1
  have z0 := blk_free hr 0
  have z1 := blk_free hr 1
  simp at c0 c1
  have HR := Lib.hid hr
  clear hr
  have hsz : (str01 (seg s a (8 * s.size - a))).size = 8 * s.size - a := by rw [str01_size, seg_len]
  by_cases he : e = 0
  · subst he
    by_cases h1 : n < 0
    · go_enter Try.func23, Try.ntmps23
      go_wp2
      go_ret
      rw [rb_arg (.inl h1)]
      exact ⟨rfl, qset HR.out 1, Only.setCell (S := fun i => i = g) (p := ⟨g, 1, none⟩) (Only.refl _ _) (fun _ => rfl) _⟩
    · by_cases h2 : 64 < n
      · go_enter Try.func23, Try.ntmps23
        go_wp2
        go_ret
        rw [rb_arg (.inr h2)]
        exact ⟨rfl, qset HR.out 1, Only.setCell (S := fun i => i = g) (p := ⟨g, 1, none⟩) (Only.refl _ _) (fun _ => rfl) _⟩
      · obtain ⟨L, hL⟩ : ∃ L, 8 * s.size - a = L := ⟨_, rfl⟩
        rw [hL] at c0 hsz
        have hsz' : ((str01 (seg s a L)).size : Int) = (L : Int) := by omega
        by_cases h3 : (L : Int) < n
        · go_enter Try.func23, Try.ntmps23
          go_wp2
          go_ret
          rw [rb_short (by omega) (by omega)]
          exact ⟨rfl, qset HR.out 3, Only.setCell (S := fun i => i = g) (p := ⟨g, 1, none⟩) (Only.refl _ _) (fun _ => rfl) _⟩
        · obtain ⟨N, rfl⟩ := Int.eq_ofNat_of_zero_le (a := n) (by omega)
          have hN : N ≤ L := by omega
          have hx1 := seg_ext s a L 0 N (by omega) hN
          have hx2 := seg_ext s a L N L hN (by omega)
          rw [Nat.sub_zero, Nat.add_zero] at hx1
          have HX1 := Lib.hid hx1
          have HX2 := Lib.hid hx2
          clear hx1 hx2
          have HRB := Lib.hid (rb_ok (s := s) (a := a) (N := N) (by omega) (by omega) ha)
          go_enter Try.func23, Try.ntmps23
          go_wp2_with (go_at_call 19; rw [HX1.out]; refine (refvalue_any (seg s a N) w (by rw [seg_len]; omega)).mono ?_; rintro y w2 ⟨rfl, rfl⟩)
          go_ret
          rw [HRB.out, HX2.out]
          refine ⟨rfl, ?_, Only.setCell (S := fun i => i = g) (p := ⟨g, 0, none⟩) (Only.refl _ _) (fun _ => rfl) _⟩
          have := qmove (b := a + N) HR.out
          rw [show 8 * s.size - (a + N) = L - N from by omega] at this
          exact this
  · go_enter Try.func23, Try.ntmps23
    go_wp2
    go_ret
    rw [rb_off he]
    exact ⟨rfl, HR.out, Only.refl _ _⟩
theorem rc_err {s : ByteArray} {a k : Nat} (h : nz s a 64 = k) (hk : k ≠ 64) (ha : a ≤ 8 * s.size) (h3 : 8 * s.size < a + 2 * k + 1) : (rc s a 0).1 = 0 ∧ (rc s a 0).2.2 = 3 := by
  by_cases h2 : a + k = 8 * s.size
  · rw [rc_out h hk h2]; exact ⟨rfl, rfl⟩
  · rw [rc_short h hk h2 h3]; exact ⟨rfl, rfl⟩
set_option maxRecDepth 100000 in
set_option maxHeartbeats 3200000 in
theorem qcode_any (g : Nat) (s : ByteArray) (a : Nat) (e : Int) (w : World) (hr : IsQ w g s a e) (hs : s.size ≤ 1000000) (ha : a ≤ 8 * s.size) :
    Calls Try.prog 24 #[.pointer (some ⟨g, 0, none⟩)] w fun y w' => y = .returned (.int .u64 (rc s a e).1) ∧ (∃ b, b ≤ 8 * s.size ∧ IsQ w' g s b (rc s a e).2.2 ∧ ((rc s a e).2.2 = 0 → b = (rc s a e).2.1)) ∧ Only (fun i => i = g) w w' := by
  have c0 := blk_cell hr 0
  have c1 := blk_cell hr 1
  have z0 := blk_free hr 0
  have z1 := blk_free hr 1
  simp at c0 c1
  have HR := Lib.hid hr
  clear hr
  have hsz : (str01 (seg s a (8 * s.size - a))).size = 8 * s.size - a := by rw [str01_size, seg_len]
  by_cases he : e = 0
  · subst he
    obtain ⟨L, hL⟩ : ∃ L, 8 * s.size - a = L := ⟨_, rfl⟩
    rw [hL] at c0 hsz
    have hsz' : ((str01 (seg s a L)).size : Int) = (L : Int) := by omega
    go_enter Try.func24, Try.ntmps24
    go_wp2
    go_loopw [3] (fun s3 wr => ∃ k : Nat, k ≤ 64 ∧ s3 = .int .i64 k ∧ w = wr ∧ (∀ i, i < k → a + i < 8 * s.size ∧ bit s (a + i) = false)) (fun s3 _ => 64 - (intOf s3).toNat)
    case atStart => exact ⟨0, by omega, rfl, rfl, fun i hi => by omega⟩
    case round =>
      obtain ⟨k, hk, rfl, rfl, hz⟩ := hrel
      have hkL : k ≤ L := by
        rcases Nat.lt_or_ge L k with h | h
        · have := (hz (k - 1) (by omega)).1; omega
        · exact h
      have HZ := Lib.hid hz
      clear hz
      have j0 : (0 : Int) ≤ (k : Int) := by omega
      by_cases hcnd : k < 64 ∧ a + k < 8 * s.size ∧ bit s (a + k) = false
      · obtain ⟨h64, hend, hb⟩ := hcnd
        have h64' : (k : Int) < 64 := by omega
        have hkl : k < L := by omega
        have hkl' : (k : Int) < (L : Int) := by omega
        have hks : k < (str01 (seg s a L)).size := by omega
        have hg := str01_get (seg s a L) k hks
        have hgb : (seg s a L).getD k false = false := by rw [seg_get s a L k hkl, hb]
        rw [hgb] at hg
        go_wp2
        go_roundw
        case rel => exact ⟨k + 1, by omega, by go_num, trivial, fun i hi => if h : i < k then HZ.out i h else by rw [show i = k from by omega]; exact ⟨hend, hb⟩⟩
        case measure => simp [intOf]; omega
      · have hnz : nz s a 64 = k := nz_eq s 64 a k hk HZ.out (by
          by_cases h : k = 64
          · exact .inl h
          · exact .inr (fun h2 => hcnd ⟨by omega, h2⟩))
        have HNZ := Lib.hid hnz
        clear hnz
        have hcases : (¬ k < L) ∨ (k < L ∧ bit s (a + k) = true) ∨ (k < L ∧ k = 64 ∧ bit s (a + k) = false) := by
          cases hb : bit s (a + k)
          · by_cases hkl : k < L
            · have h64 : k = 64 := by
                rcases Nat.lt_or_ge k 64 with h | h
                · exact absurd ⟨h, by omega, hb⟩ hcnd
                · omega
              exact .inr (.inr ⟨hkl, h64, rfl⟩)
            · exact .inl hkl
          · by_cases hkl : k < L
            · exact .inr (.inl ⟨hkl, rfl⟩)
            · exact .inl hkl
        clear hcnd
        rcases hcases with hkl | ⟨hkl, hb⟩ | ⟨hkl, h64, hb⟩
        · have hkl' : ¬ (k : Int) < (L : Int) := by omega
          go_upto_region 6 with fail
          by_cases e64 : k = 64
          · have HRC := Lib.hid (rc_form (s := s) (a := a) (HNZ.out.trans e64))
            have hki : (k : Int) = 64 := by omega
            go_wp2
            go_ret
            rw [HRC.out]
            exact ⟨rfl, ⟨a, ha, qset HR.out 4, fun h => absurd (show (4 : Int) = 0 from h) (by decide)⟩, Only.setCell (S := fun i => i = g) (p := ⟨g, 1, none⟩) (Only.refl _ _) (fun _ => rfl) _⟩
          · have hki : ¬ (k : Int) = 64 := by omega
            by_cases h3 : 8 * s.size < a + 2 * k + 1
            · have HRC := Lib.hid (rc_err HNZ.out e64 ha h3)
              have hgt : (L : Int) < 2 * (k : Int) + 1 := by omega
              go_wp2
              go_ret
              rw [HRC.out.1, HRC.out.2]
              exact ⟨rfl, ⟨a, ha, qset HR.out 3, fun h => absurd h (by decide)⟩, Only.setCell (S := fun i => i = g) (p := ⟨g, 1, none⟩) (Only.refl _ _) (fun _ => rfl) _⟩
            · exfalso; omega
        · have hkl' : (k : Int) < (L : Int) := by omega
          have hks : k < (str01 (seg s a L)).size := by omega
          have hg := str01_get (seg s a L) k hks
          rw [seg_get s a L k hkl, hb] at hg
          go_upto_region 6 with fail
          by_cases e64 : k = 64
          · have HRC := Lib.hid (rc_form (s := s) (a := a) (HNZ.out.trans e64))
            have hki : (k : Int) = 64 := by omega
            go_wp2
            go_ret
            rw [HRC.out]
            exact ⟨rfl, ⟨a, ha, qset HR.out 4, fun h => absurd (show (4 : Int) = 0 from h) (by decide)⟩, Only.setCell (S := fun i => i = g) (p := ⟨g, 1, none⟩) (Only.refl _ _) (fun _ => rfl) _⟩
          · have hki : ¬ (k : Int) = 64 := by omega
            by_cases h3 : 8 * s.size < a + 2 * k + 1
            · have HRC := Lib.hid (rc_err HNZ.out e64 ha h3)
              have hgt : (L : Int) < 2 * (k : Int) + 1 := by omega
              go_wp2
              go_ret
              rw [HRC.out.1, HRC.out.2]
              exact ⟨rfl, ⟨a, ha, qset HR.out 3, fun h => absurd h (by decide)⟩, Only.setCell (S := fun i => i = g) (p := ⟨g, 1, none⟩) (Only.refl _ _) (fun _ => rfl) _⟩
            · have hgt : ¬ (L : Int) < 2 * (k : Int) + 1 := by omega
              have HRC := Lib.hid (rc_ok HNZ.out e64 (by omega) h3)
              have hx1 := seg_ext s a L (k + 1) (2 * k + 1) (by omega) (by omega)
              rw [show 2 * k + 1 - (k + 1) = k from by omega, show a + (k + 1) = a + k + 1 from by omega] at hx1
              have hx2 := seg_ext s a L (2 * k + 1) L (by omega) (by omega)
              have HX1 := Lib.hid hx1
              have HX2 := Lib.hid hx2
              clear hx1 hx2
              have hv := val_range (seg s (a + k + 1) k)
              rw [seg_len] at hv
              have hp : (2 : Int) ^ k ≤ 9223372036854775808 := by
                have : 2 ^ k ≤ 2 ^ 63 := Nat.pow_le_pow_right (by omega) (by omega)
                have h2 : ((2 ^ k : Nat) : Int) ≤ ((2 ^ 63 : Nat) : Int) := by exact_mod_cast this
                rw [Int.natCast_pow] at h2
                simpa using h2
              have hp0 : (0 : Int) < 2 ^ k := Int.pow_pos (by omega)
              have hmin : min k 64 = k := by omega
              generalize hvv : val (seg s (a + k + 1) k) = v at hv HRC
              have HVV := Lib.hid hvv
              clear hvv
              generalize hpe : (2 : Int) ^ k = p at hv hp hp0 HRC
              have wr1 : IntKind.u64.wrap p = p := IntWalk.u64_in _ (by omega)
              have wr2 : IntKind.u64.wrap (v + p) = v + p := IntWalk.u64_in _ (by omega)
              have wr3 : IntKind.u64.wrap (v + p - 1) = v + p - 1 := IntWalk.u64_in _ (by omega)
              have wr4 : IntKind.i64.wrap (2 * (k : Int)) = 2 * (k : Int) := IntWalk.i64_in _ (by omega)
              have wr5 : IntKind.i64.wrap (2 * (k : Int) + 1) = 2 * (k : Int) + 1 := IntWalk.i64_in _ (by omega)
              have wr6 : IntKind.i64.wrap ((k : Int) + 1) = (k : Int) + 1 := IntWalk.i64_in _ (by omega)
              have y1 : (0 : Int) ≤ (k : Int) + 1 := by omega
              have y2 : (k : Int) + 1 ≤ 2 * (k : Int) + 1 := by omega
              have y3 : 2 * (k : Int) + 1 ≤ (L : Int) := by omega
              have y4 : (0 : Int) ≤ 2 * (k : Int) + 1 := by omega
              have y5 : ((k : Int) + 1).toNat = k + 1 := by omega
              have y6 : (2 * (k : Int) + 1).toNat = 2 * k + 1 := by omega
              have y7 : 2 * (k : Int) + 1 ≤ ((str01 (seg s a L)).size : Int) := by omega
              have k00 := cell_regrown c0
              go_upto_region 12 with fail
              refine wp_region_quiet_below (by kernel_rfl) (by kernel_rfl) ?_
              repeat (quiet_step ((go_at_call 19; rw [HX1.out]; exact Calls.regrown_of ((refvalue_any (seg s (a + k + 1) k) _ (by rw [seg_len]; omega)).mono (fun e w' h => ⟨h.1, h.2 ▸ Below.refl _ _⟩)))))
              refine wpQuiet_nil ?_
              intro w1 hw1
              have hb1 : Below w.heap.size w w1 := by obtain ⟨p, rfl⟩ := hw1; exact below_regrown _ _ _
              clear hw1
              have hg0 := blk_lt HR.out
              have HR1 := Lib.hid (show IsQ w1 g s a 0 from (hb1.block g hg0).trans HR.out)
              have d0 := blk_cell HR1.out 0
              have x0 := blk_free HR1.out 0
              simp at d0
              rw [hL] at d0
              rw [HVV.out, wr2, wr3]
              have hfin : IsQ (w1.setCell ⟨g, 0, none⟩ (.string (str01 (seg s (a + 2 * k + 1) (L - (2 * k + 1)))))) g s (a + 2 * k + 1) 0 := by
                have := qmove (b := a + 2 * k + 1) HR1.out
                rw [show 8 * s.size - (a + 2 * k + 1) = L - (2 * k + 1) from by omega] at this
                exact this
              have HF := Lib.hid hfin
              clear hfin
              have ho1 : Only (fun i => i = g) w w1 := Only.of_below (Only.refl _ _) hb1
              have HO1 := Lib.hid ho1
              clear ho1
              go_wp2
              go_ret
              rw [HRC.out, HX2.out]
              exact ⟨rfl, ⟨a + 2 * k + 1, by omega, HF.out, fun _ => rfl⟩, Only.setCell (S := fun i => i = g) (p := ⟨g, 0, none⟩) HO1.out (fun _ => rfl) _⟩
        · subst h64
          have hkl' : (64 : Int) < (L : Int) := by omega
          have hks : 64 < (str01 (seg s a L)).size := by omega
          have hg := str01_get (seg s a L) 64 hks
          rw [seg_get s a L 64 hkl, hb] at hg
          have HRC := Lib.hid (rc_form (s := s) (a := a) HNZ.out)
          go_wp2
          go_ret
          rw [HRC.out]
          exact ⟨rfl, ⟨a, ha, qset HR.out 4, fun h => absurd (show (4 : Int) = 0 from h) (by decide)⟩, Only.setCell (S := fun i => i = g) (p := ⟨g, 1, none⟩) (Only.refl _ _) (fun _ => rfl) _⟩
  · go_enter Try.func24, Try.ntmps24
    go_wp2
    go_ret
    rw [rc_off he]
    exact ⟨rfl, ⟨a, ha, HR.out, fun _ => rfl⟩, Only.refl _ _⟩
set_option maxRecDepth 100000 in
set_option maxHeartbeats 1600000 in
theorem qdone_any (g : Nat) (s : ByteArray) (a : Nat) (e : Int) (w : World) (hr : IsQ w g s a e) (hs : s.size ≤ 1000000) (ha : a ≤ 8 * s.size) :
    Calls Try.prog 27 #[.pointer (some ⟨g, 0, none⟩)] w fun y w' => y = .returned (.int .i64 (rd s a e)) ∧ w = w' := by
  have c0 := blk_cell hr 0
  have c1 := blk_cell hr 1
  simp at c0 c1
  have HR := Lib.hid hr
  clear hr
  have hsz : (str01 (seg s a (8 * s.size - a))).size = 8 * s.size - a := by rw [str01_size, seg_len]
  by_cases he : e = 0
  · subst he
    obtain ⟨L, hL⟩ : ∃ L, 8 * s.size - a = L := ⟨_, rfl⟩
    rw [hL] at c0 hsz
    have hsz' : ((str01 (seg s a L)).size : Int) = (L : Int) := by omega
    by_cases h8 : 8 ≤ L
    · have h8' : (8 : Int) ≤ (L : Int) := by omega
      have HRD := Lib.hid (show rd s a 0 = 4 by rw [rd, if_neg (by simp), if_pos (.inl (by omega))])
      go_enter Try.func27, Try.ntmps27
      go_wp2
      go_ret
      exact ⟨by rw [HRD.out]; rfl, rfl⟩
    · have h8' : ¬ (8 : Int) ≤ (L : Int) := by omega
      by_cases hv : val (seg s a L) = 0
      · have HRD := Lib.hid (show rd s a 0 = 0 by rw [rd, if_neg (by simp), if_neg (by rw [hL, hv]; omega)])
        go_enter Try.func27, Try.ntmps27
        go_wp2_with (go_at_call 19; refine (refvalue_any (seg s a L) w (by rw [seg_len]; omega)).mono ?_; rintro y w2 ⟨rfl, rfl⟩; rw [hv])
        go_ret
        exact ⟨by rw [HRD.out]; rfl, rfl⟩
      · have hvb : (val (seg s a L) != 0) = true := by simpa using hv
        have HRD := Lib.hid (show rd s a 0 = 4 by rw [rd, if_neg (by simp), if_pos (.inr (by rw [hL]; exact hv))])
        go_enter Try.func27, Try.ntmps27
        go_wp2_with (go_at_call 19; refine (refvalue_any (seg s a L) w (by rw [seg_len]; omega)).mono ?_; rintro y w2 ⟨rfl, rfl⟩)
        go_ret
        exact ⟨by rw [HRD.out]; rfl, rfl⟩
  · go_enter Try.func27, Try.ntmps27
    go_wp2
    go_ret
    exact ⟨by rw [rd, if_pos he]; rfl, rfl⟩
end BW
end Go.Proofs.Yteinpdjenplnnaa
