/-
  varint.Reader: a byte, a number. Conditions: those that each theorem names.
-/
import Derived.Test.YtdcbbjlbfghpbaaGreatDg
import Derived.Laws.BitsAllLaws
namespace Go.Proofs.YtdcbbjlbfghpbaaGreat
open Go Go.RowKit H2
set_option linter.unusedVariables false
set_option linter.unusedSimpArgs false
namespace Vr
open Byt
theorem str_at0 (c : UInt8) (t : List UInt8) (w : World) : Sem.run Tryz.prog (Instr.index 9 (.string (str (c :: t))) (.int .i64 0)) w = .ok (.int .u8 (c.toNat : Int)) w := by
  rw [run_index_string (P := Tryz.prog) (w := w) _ _ _ _ Tryz.underlying9, dif_pos (show (0 : Int) ≤ 0 ∧ (0 : Int) < (str (c :: t)).size by rw [str_sz]; simp)]
  simp [str, ByteArray.getElem_eq_getElem_data]
/-- Byte -/
def byteM (l : List UInt8) (e : Int) : Nat × List UInt8 × Int := if e = 0 then (match l with | [] => (0, [], 3) | c :: t => (c.toNat, t, 0)) else (0, l, e)
set_option maxRecDepth 100000 in
theorem rbyte_any (b : Nat) (l : List UInt8) (e : Int) (w : World) (h : Rr b l e w) : Calls Tryz.prog 74 #[.pointer (some ⟨b, 0, none⟩)] w fun r w' => r = .returned (.int .u8 ((byteM l e).1 : Int)) ∧ Rk b (byteM l e).2.1 (byteM l e).2.2 w w' := by
  have HC := Lib.hid (rraw_any b l e 1 w h)
  clear h
  by_cases he : e = 0
  · subst he
    cases l with
    | nil =>
      have hr : rawM [] 0 1 = ([], [], 3) := by decide
      have HD := Lib.hid (show byteM [] 0 = (0, [], 3) from rfl)
      rw [hr] at HC
      have hn := str_eq_nil []
      rw [decide_eq_true rfl] at hn
      go_enter Tryz.func74, Tryz.ntmps74
      go_wp2_with (go_at_call 86; (with_reducible refine (HC.out).mono ?_); rintro r w1 ⟨rfl, h3⟩; have H3 := Lib.hid h3; clear h3)
      go_ret
      rw [HD.out]
      exact ⟨rfl, H3.out⟩
    | cons c t =>
      have hr : rawM (c :: t) 0 1 = ([c], t, 0) := by
        unfold rawM
        rw [if_pos rfl, if_neg (by decide), if_neg (by rw [List.length_cons]; omega)]
        rfl
      have HD := Lib.hid (show byteM (c :: t) 0 = (c.toNat, t, 0) from rfl)
      rw [hr] at HC
      have hn := str_eq_nil [c]
      rw [decide_eq_false (by simp)] at hn
      have hi := fun w => str_at0 c [] w
      go_enter Tryz.func74, Tryz.ntmps74
      go_wp2_with (go_at_call 86; (with_reducible refine (HC.out).mono ?_); rintro r w1 ⟨rfl, h3⟩; have H3 := Lib.hid h3; clear h3; have hi := hi w1)
      go_ret
      rw [HD.out]
      exact ⟨rfl, H3.out⟩
  · have hr : rawM l e 1 = ([], l, e) := by unfold rawM; rw [if_neg he]
    have HD := Lib.hid (show byteM l e = (0, l, e) by unfold byteM; rw [if_neg he])
    rw [hr] at HC
    have hn := str_eq_nil []
    rw [decide_eq_true rfl] at hn
    clear he
    go_enter Tryz.func74, Tryz.ntmps74
    go_wp2_with (go_at_call 86; (with_reducible refine (HC.out).mono ?_); rintro r w1 ⟨rfl, h3⟩; have H3 := Lib.hid h3; clear h3)
    go_ret
    rw [HD.out]
    exact ⟨rfl, H3.out⟩
theorem and127 : ∀ x : Fin 256, bits .and .u8 (x.val : Int) 127 = ((x.val % 128 : Nat) : Int) := by decide +kernel
theorem u64_or_seven (n c i : Nat) (hi : i < 10) (hn : n < 2 ^ (7 * i)) (hc : c < 128) (h9 : i = 9 → c ≤ 1) : bits .or .u64 (n : Int) ((c * 2 ^ (7 * i) : Nat) : Int) = ((n + c * 2 ^ (7 * i) : Nat) : Int) := by
  have hp : c * 2 ^ (7 * i) < 18446744073709551616 := by
    rcases Nat.lt_or_ge i 9 with h | h
    · have h1 : 2 ^ (7 * i) ≤ 2 ^ 56 := Nat.pow_le_pow_right (by omega) (by omega)
      have h2 : c * 2 ^ (7 * i) ≤ 127 * 2 ^ 56 := Nat.mul_le_mul (by omega) h1
      rw [show (2 : Nat) ^ 56 = 72057594037927936 by simp] at h2
      omega
    · obtain rfl : i = 9 := by omega
      have := h9 rfl
      rw [show (2 : Nat) ^ (7 * 9) = 9223372036854775808 by simp]
      omega
  have hq : n < 18446744073709551616 := by
    have h1 : 2 ^ (7 * i) ≤ 2 ^ 63 := Nat.pow_le_pow_right (by omega) (by omega)
    rw [show (2 : Nat) ^ 63 = 9223372036854775808 by simp] at h1
    omega
  rw [u64_or_nat n _ hq hp]
  congr 1
  have := Nat.two_pow_add_eq_or_of_lt hn c
  rw [Nat.or_comm, Nat.mul_comm c, ← this, Nat.add_comm]
set_option maxHeartbeats 4000000 in
set_option maxRecDepth 100000 in
theorem ruint_any (b : Nat) (l : List UInt8) (e : Int) (w : World) (h : Rr b l e w) : Calls Tryz.prog 46 #[.pointer (some ⟨b, 0, none⟩)] w fun r w' => r = .returned (.int .u64 ((uintM l e).1 : Int)) ∧ Rk b (uintM l e).2.1 (uintM l e).2.2 w w' := by
  by_cases he : e = 0
  · subst he
    have H := Lib.hid h
    clear h
    have HU := Lib.hid (show uintM l 0 = ug 10 0 0 l from rfl)
    go_enter Tryz.func46, Tryz.ntmps46
    go_wp2
    go_loopw [2, 7] (fun s2 s7 wr => ∃ (i n : Nat) (l' : List UInt8), i ≤ 10 ∧ s7 = .int .i64 i ∧ s2 = .int .u64 n ∧ n < 2 ^ (7 * i) ∧ Rk b l' 0 w wr ∧ ug (10 - i) i n l' = ug 10 0 0 l) (fun _ s7 _ => 10 - (intOf s7).toNat)
    case atStart => exact ⟨0, 0, l, by omega, rfl, rfl, by simp, Rk.refl H.out, rfl⟩
    case round =>
      clear H
      obtain ⟨i, n, l', hi, rfl, rfl, hn, hk, hu⟩ := hrel
      have HK := Lib.hid hk
      have HV := Lib.hid hu
      have HB := Lib.hid (rbyte_any b l' 0 wr hk.at')
      have HN := Lib.hid hn
      clear hk hu hn
      by_cases hlt : i < 10
      · have hlt' : (i : Int) < 10 := by omega
        cases l' with
        | nil =>
          rw [show byteM [] 0 = (0, [], 3) from rfl] at HB
          have HZ := Lib.hid (show ug 10 0 0 l = (0, [], 3) by rw [← HV.out, show 10 - i = (9 - i) + 1 by omega]; rfl)
          have H9 : ((i : Int) == 9) = decide (i = 9) := by rw [Bool.eq_iff_iff]; simp; omega
          go_wp2_with (go_at_call 74; (with_reducible refine (HB.out).mono ?_); rintro r w1 ⟨rfl, h3⟩; have H3 := Lib.hid h3; have c1 := h3.at'.c1; clear h3)
          all_goals (go_ret; rw [HU.out, HZ.out]; exact ⟨rfl, HK.out.trans H3.out⟩)
        | cons c t =>
          rw [show byteM (c :: t) 0 = (c.toNat, t, 0) from rfl] at HB
          have HS := Lib.hid (show ug 10 0 0 l = if (i = 9 ∧ 1 < c.toNat) ∨ (0 < i ∧ c.toNat = 0) then (0, t, 4) else if c.toNat < 128 then (n + c.toNat % 128 * 2 ^ (7 * i), t, 0) else ug (9 - i) (i + 1) (n + c.toNat % 128 * 2 ^ (7 * i)) t by rw [← HV.out, show 10 - i = (9 - i) + 1 by omega]; rfl)
          obtain ⟨C, hC⟩ : ∃ C, c.toNat = C := ⟨_, rfl⟩
          have hCl : C < 256 := hC ▸ c.toNat_lt
          rw [hC] at HB HS
          clear hC
          clear HV
          go_upto_region 7 with (go_at_call 74; (with_reducible refine (HB.out).mono ?_); rintro r w1 ⟨rfl, h3⟩; have H3 := Lib.hid (HK.out.trans h3); have c1 := h3.at'.c1; clear h3)
          clear HB HK
          by_cases hbad : (i = 9 ∧ 1 < C) ∨ (0 < i ∧ C = 0)
          · have HZ := Lib.hid (show ug 10 0 0 l = (0, t, 4) by rw [HS.out, if_pos hbad])
            have HF := Lib.hid (rfail_any b t 0 4 w1 H3.out.at')
            rcases hbad with ⟨rfl, h1⟩ | ⟨h0, rfl⟩
            · have h1' : (1 : Int) < (C : Int) := by omega
              go_wp2_with (go_at_call 75; (with_reducible refine (HF.out).mono ?_); rintro r w2 ⟨rfl, h4⟩; have H4 := Lib.hid (H3.out.trans h4); have c2 := h4.at'.c1; clear h4)
              all_goals (go_ret; rw [HU.out, HZ.out]; exact ⟨rfl, H4.out⟩)
            · have h0' : (0 : Int) < (i : Int) := by omega
              go_wp2_with (go_at_call 75; (with_reducible refine (HF.out).mono ?_); rintro r w2 ⟨rfl, h4⟩; have H4 := Lib.hid (H3.out.trans h4); have c2 := h4.at'.c1; clear h4)
              all_goals (go_ret; rw [HU.out, HZ.out]; exact ⟨rfl, H4.out⟩)
          · have HS := Lib.hid (HS.out.trans (if_neg hbad))
            have hb1 : i = 9 → C ≤ 1 := fun e => by
              rcases Nat.lt_or_ge 1 C with h | h
              · exact absurd (Or.inl ⟨e, h⟩) hbad
              · exact h
            have hb2 : 0 < i → C ≠ 0 := fun e h => hbad (Or.inr ⟨e, h⟩)
            have HB1 := Lib.hid hb1
            clear hbad
            have ha : bits .and .u8 (C : Int) 127 = ((C % 128 : Nat) : Int) := and127 ⟨C, hCl⟩
            go_upto_region 12 with fail
            · obtain rfl : i = 9 := by omega
              have hor := u64_or_seven n (C % 128) 9 (by omega) HN.out (by omega) (fun _ => by have := HB1.out rfl; omega)
              obtain ⟨N, hNN⟩ : ∃ N, n + C % 128 * 2 ^ (7 * 9) = N := ⟨_, rfl⟩
              rw [hNN] at hor HS
              have hC1 : C < 128 := by have := HB1.out rfl; omega
              have HZ := Lib.hid (show ug 10 0 0 l = (N, t, 0) by rw [HS.out, if_pos hC1])
              have hor' : bits .or .u64 (n : Int) ((C : Int) % 128 * 9223372036854775808) = (N : Int) := by
                rw [← hor]; congr 1
              rw [hor']
              have hC2 : (C : Int) < 128 := by omega
              clear hor hor' hNN
              go_wp2
              go_ret
              rw [HU.out, HZ.out]
              exact ⟨rfl, H3.out⟩
            · have hne9 : i ≠ 9 := by omega
              have hor := u64_or_seven n (C % 128) i hlt HN.out (by omega) (fun e => absurd e hne9)
              have hlt2 : n + C % 128 * 2 ^ (7 * i) < 2 ^ (7 * (i + 1)) := by
                have h1 : C % 128 ≤ 127 := by omega
                have h2 : C % 128 * 2 ^ (7 * i) ≤ 127 * 2 ^ (7 * i) := Nat.mul_le_mul_right _ h1
                have h3 := HN.out
                rw [show 7 * (i + 1) = 7 * i + 7 by omega, Nat.pow_add]
                omega
              have hw : IntKind.u64.wrap ((C : Int) % 128 * 2 ^ (7 * i)) = ((C % 128 * 2 ^ (7 * i) : Nat) : Int) := by
                have h1 : C % 128 * 2 ^ (7 * i) < 2 ^ (7 * (i + 1)) := by omega
                have h2 : 2 ^ (7 * (i + 1)) ≤ 2 ^ 63 := Nat.pow_le_pow_right (by omega) (by omega)
                rw [show (2 : Nat) ^ 63 = 9223372036854775808 by simp] at h2
                have e : (C : Int) % 128 * 2 ^ (7 * i) = ((C % 128 * 2 ^ (7 * i) : Nat) : Int) := by
                  rw [Int.natCast_mul, Int.natCast_pow]; rfl
                rw [e]
                simp only [IntKind.wrap, IntKind.bits, IntKind.signed]
                generalize C % 128 * 2 ^ (7 * i) = Z at h1 ⊢
                simp
                omega
              obtain ⟨N, hNN⟩ : ∃ N, n + C % 128 * 2 ^ (7 * i) = N := ⟨_, rfl⟩
              rw [hNN] at hor HS hlt2
              rw [hw, hor]
              have HL := Lib.hid hlt2
              clear hor hNN hw hlt2
              by_cases hC1 : C < 128
              · have HZ := Lib.hid (show ug 10 0 0 l = (N, t, 0) by rw [HS.out, if_pos hC1])
                have hC2 : (C : Int) < 128 := by omega
                go_wp2
                go_ret
                rw [HU.out, HZ.out]
                exact ⟨rfl, H3.out⟩
              · have HZ := Lib.hid (show ug (9 - i) (i + 1) N t = ug 10 0 0 l by rw [HS.out, if_neg hC1])
                have hC2 : ¬ (C : Int) < 128 := by omega
                go_wp2
                go_roundw
                case rel => exact ⟨i + 1, N, t, by omega, by go_num, rfl, HL.out, H3.out, by rw [show 10 - (i + 1) = 9 - i by omega]; exact HZ.out⟩
                case measure => simp [intOf]; omega
            · have hne9 : i ≠ 9 := by omega
              have hor := u64_or_seven n (C % 128) i hlt HN.out (by omega) (fun e => absurd e hne9)
              have hlt2 : n + C % 128 * 2 ^ (7 * i) < 2 ^ (7 * (i + 1)) := by
                have h1 : C % 128 ≤ 127 := by omega
                have h2 : C % 128 * 2 ^ (7 * i) ≤ 127 * 2 ^ (7 * i) := Nat.mul_le_mul_right _ h1
                have h3 := HN.out
                rw [show 7 * (i + 1) = 7 * i + 7 by omega, Nat.pow_add]
                omega
              have hw : IntKind.u64.wrap ((C : Int) % 128 * 2 ^ (7 * i)) = ((C % 128 * 2 ^ (7 * i) : Nat) : Int) := by
                have h1 : C % 128 * 2 ^ (7 * i) < 2 ^ (7 * (i + 1)) := by omega
                have h2 : 2 ^ (7 * (i + 1)) ≤ 2 ^ 63 := Nat.pow_le_pow_right (by omega) (by omega)
                rw [show (2 : Nat) ^ 63 = 9223372036854775808 by simp] at h2
                have e : (C : Int) % 128 * 2 ^ (7 * i) = ((C % 128 * 2 ^ (7 * i) : Nat) : Int) := by
                  rw [Int.natCast_mul, Int.natCast_pow]; rfl
                rw [e]
                simp only [IntKind.wrap, IntKind.bits, IntKind.signed]
                generalize C % 128 * 2 ^ (7 * i) = Z at h1 ⊢
                simp
                omega
              obtain ⟨N, hNN⟩ : ∃ N, n + C % 128 * 2 ^ (7 * i) = N := ⟨_, rfl⟩
              rw [hNN] at hor HS hlt2
              rw [hw, hor]
              have HL := Lib.hid hlt2
              clear hor hNN hw hlt2
              by_cases hC1 : C < 128
              · have HZ := Lib.hid (show ug 10 0 0 l = (N, t, 0) by rw [HS.out, if_pos hC1])
                have hC2 : (C : Int) < 128 := by omega
                go_wp2
                go_ret
                rw [HU.out, HZ.out]
                exact ⟨rfl, H3.out⟩
              · have HZ := Lib.hid (show ug (9 - i) (i + 1) N t = ug 10 0 0 l by rw [HS.out, if_neg hC1])
                have hC2 : ¬ (C : Int) < 128 := by omega
                go_wp2
                go_roundw
                case rel => exact ⟨i + 1, N, t, by omega, by go_num, rfl, HL.out, H3.out, by rw [show 10 - (i + 1) = 9 - i by omega]; exact HZ.out⟩
                case measure => simp [intOf]; omega
      · obtain rfl : i = 10 := by omega
        have HZ := Lib.hid (show ug 10 0 0 l = (0, l', 0) from HV.out.symm)
        rw [show ((10 : Nat) : Int) = 10 from rfl]
        go_wp2
        go_ret
        rw [HU.out, HZ.out]
        exact ⟨rfl, HK.out⟩
  · have HD := Lib.hid (show uintM l e = (0, l, e) by unfold uintM; rw [if_neg he])
    have HB := Lib.hid (show byteM l e = (0, l, e) by unfold byteM; rw [if_neg he])
    have HC := Lib.hid (rbyte_any b l e w h)
    rw [HB.out] at HC
    have h2 : (e == 0) = false := by simpa using he
    clear h HB
    go_enter Tryz.func46, Tryz.ntmps46
    go_wp2
    go_loopw [2, 7] (fun s2 s7 wr => s7 = .int .i64 0 ∧ s2 = .int .u64 0 ∧ w = wr) (fun _ _ _ => 0)
    case atStart => exact ⟨rfl, rfl, rfl⟩
    case round =>
      obtain ⟨rfl, rfl, rfl⟩ := hrel
      go_wp2_with (go_at_call 74; (with_reducible refine (HC.out).mono ?_); rintro r w1 ⟨rfl, h3⟩; have H3 := Lib.hid h3; have c1 := h3.at'.c1; clear h3)
      go_ret
      rw [HD.out]
      exact ⟨rfl, H3.out⟩
end Vr
end Go.Proofs.YtdcbbjlbfghpbaaGreat
