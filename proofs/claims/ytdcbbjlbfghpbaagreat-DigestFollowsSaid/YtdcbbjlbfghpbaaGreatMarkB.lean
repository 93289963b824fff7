/-
  A route's mark: the program's, walked. Conditions: those that each theorem names.
-/
import Derived.Test.YtdcbbjlbfghpbaaGreatDe
namespace Go.Proofs.YtdcbbjlbfghpbaaGreat
open Go Go.RowKit H2
set_option linter.unusedVariables false
set_option linter.unusedSimpArgs false
namespace Dig
open Tab Byt
theorem n16_take {r : Rt} (j : Nat) (hj : j < 16) : pbs r.to ++ (num16 r).take (j + 1) = (pbs r.to ++ (num16 r).take j) ++ [(num16 r)[j]'(by rw [num16_len]; exact hj)] := by
  rw [List.append_assoc, List.take_append_getElem]
theorem n16_lo {r : Rt} (j : Nat) (hj : j < 8) : (num16 r)[j]'(by rw [num16_len]; omega) = b8 (IntKind.u64.wrap r.metric) j := by
  unfold num16
  rw [List.getElem_append_left (by rw [be8_len]; exact hj)]
  simp [be8]
theorem n16_hi {r : Rt} (j : Nat) (hj : j < 8) : (num16 r)[8 + j]'(by rw [num16_len]; omega) = b8 (IntKind.u64.wrap r.seq) j := by
  unfold num16
  rw [List.getElem_append_right (by rw [be8_len]; omega)]
  simp [be8]
theorem idx0 (M S : Int) (w : World) : Sem.run Tryz.prog (Instr.index 103 (.agg #[.int .u64 M, .int .u64 S]) (.int .i64 0)) w = .ok (.int .u64 M) w := by kernel_rfl
theorem idx1 (M S : Int) (w : World) : Sem.run Tryz.prog (Instr.index 103 (.agg #[.int .u64 M, .int .u64 S]) (.int .i64 1)) w = .ok (.int .u64 S) w := by kernel_rfl
set_option maxRecDepth 100000 in
set_option maxHeartbeats 16000000 in
theorem mark_any (r : Rt) (w : World) : Calls Tryz.prog 23 #[.agg (encR r).toArray] w fun e w' => e = .returned (.int .u64 (mk r)) ∧ Below w.heap.size w w' := by
  have HPL := Lib.hid (pbs_len r.to)
  obtain ⟨M, hM⟩ : ∃ M, IntKind.u64.wrap r.metric = M := ⟨_, rfl⟩
  obtain ⟨S, hS⟩ : ∃ S, IntKind.u64.wrap r.seq = S := ⟨_, rfl⟩
  have HLO := Lib.hid (fun j (hj : j < 8) => hM ▸ (n16_lo (r := r) j hj))
  have HHI := Lib.hid (fun j (hj : j < 8) => hS ▸ (n16_hi (r := r) j hj))
  have HST := Lib.hid (fun j (hj : j < 16) => n16_take (r := r) j hj)
  have HALL := Lib.hid (show pbs r.to ++ (num16 r).take 16 = mby r by unfold mby; rw [List.take_of_length_le (by rw [num16_len]; exact Nat.le_refl _)])
  have HLEN := Lib.hid (fun j => show (pbs r.to ++ (num16 r).take j).length ≤ 10000 by have := pbs_len r.to; rw [List.length_append, List.length_take, num16_len]; omega)
  have HML := Lib.hid (mby_len r)
  have HMS := Lib.hid (fun i (hi : i < (mby r).length) => mixes_step hi)
  have HBY := Lib.hid (fun V => bytes_all r.to V)
  have HCV := Lib.hid (fun V => by_conv V (pbs r.to) (by have := pbs_len r.to; unfold maxLen; omega))
  go_enter Tryz.func23, Tryz.ntmps23
  go_upto_region 1 with fail
  have H := Lib.hid (rAt_new w r 36 (0, 0))
  have hb := Lib.hid (show Below w.heap.size w (w.alloc (.cells (encR r).toArray 36 (0, 0))) from (Below.refl _ _).alloc (Nat.le_refl _) _)
  generalize w.alloc _ = W at H hb ⊢
  generalize w.heap.size = B at H ⊢
  have c0 := H.out.to.all.load (k := n18) (encP_n _) Tryz.prog
  go_upto_region 2 with (go_at_call 52; (with_reducible refine (HBY.out _).mono ?_); rintro e w3 ⟨rfl, h1⟩; have H := Lib.hid (H.out.below h1); have hb := Lib.hid (hb.out.trans (h1.mono hb.out.size)); clear h1 c0; have hcv := (HCV.out w3).1)
  have HG0 := Lib.hid (HCV.out w3).2
  clear hcv
  generalize Lib.bytesWorld w3 _ _ = W4 at HG0 ⊢
  generalize grownCap w3 _ _ _ = gc at HG0 ⊢
  obtain ⟨b3, hb3⟩ : ∃ b, w3.heap.size = b := ⟨_, rfl⟩
  rw [hb3] at HG0 ⊢
  clear hb3
  have H := Lib.hid (H.out.below HG0.out.bel)
  have z1 := H.out.met
  have z2 := H.out.seq
  go_wp2
  clear z1 z2
  go_loopw [3, 20] (fun s3 s20 wr => ∃ q : Nat, q ≤ 2 ∧ s20 = .int .i64 q ∧ Gb w3 wr s3 (pbs r.to ++ (num16 r).take (8 * q)) ∧ (∃ x y z, s3 = .slice x y z)) (fun _ s20 _ => 2 - (intOf s20).toNat)
  case atStart => exact ⟨0, by omega, rfl, by rw [Nat.mul_zero, List.take_zero, List.append_nil]; exact HG0.out, _, _, _, rfl⟩
  case round =>
    clear HG0
    obtain ⟨q, hq, rfl, hg, x3, y3, z3, rfl⟩ := hrel
    have HG := Lib.hid hg
    clear hg
    obtain rfl | rfl | rfl : q = 0 ∨ q = 1 ∨ q = 2 := by omega
    · have hix := idx0 M S wr
      rw [show ((0 : Nat) : Int) = 0 from rfl]
      go_wp2
      clear hix
      go_loopw [3, 23] (fun s3 s23 wr => ∃ i : Nat, i ≤ 8 ∧ s23 = .int .i64 i ∧ Gb w3 wr s3 (pbs r.to ++ (num16 r).take (8 * 0 + i)) ∧ (∃ x y z, s3 = .slice x y z)) (fun _ s23 _ => 8 - (intOf s23).toNat)
      case atStart => exact ⟨0, by omega, rfl, HG.out, _, _, _, rfl⟩
      case round =>
        clear HG
        obtain ⟨i, hi, rfl, hg, x3, y3, z3, rfl⟩ := hrel
        have HG := Lib.hid hg
        clear hg
        rcases i with _ | _ | _ | _ | _ | _ | _ | _ | _ | i
        · have HT := Lib.hid (HST.out (8 * 0 + 0) (by decide))
          rw [show (num16 r)[8 * 0 + 0]'(by rw [num16_len]; decide) = b8 M 0 from HLO.out 0 (by decide)] at HT
          go_wp2_with (refine wpList_appBv rfl (.tmp 26) (.tmp 33) rfl _ _ (b8 M 0) _ (by have := b8_nat M 0; simpa using this) rfl rfl HG.out (HLEN.out _) ?_; rintro v7 w7 h7 ⟨x7, y7, z7, rfl⟩; have H7 := Lib.hid h7; clear h7)
          go_roundw
          case rel => exact ⟨0 + 1, by omega, by go_num, HT.out ▸ H7.out, _, _, _, rfl⟩
          case measure => simp [intOf]
        · have HT := Lib.hid (HST.out (8 * 0 + 1) (by decide))
          rw [show (num16 r)[8 * 0 + 1]'(by rw [num16_len]; decide) = b8 M 1 from HLO.out 1 (by decide)] at HT
          go_wp2_with (refine wpList_appBv rfl (.tmp 26) (.tmp 33) rfl _ _ (b8 M 1) _ (by have := b8_nat M 1; simpa using this) rfl rfl HG.out (HLEN.out _) ?_; rintro v7 w7 h7 ⟨x7, y7, z7, rfl⟩; have H7 := Lib.hid h7; clear h7)
          go_roundw
          case rel => exact ⟨1 + 1, by omega, by go_num, HT.out ▸ H7.out, _, _, _, rfl⟩
          case measure => simp [intOf]
        · have HT := Lib.hid (HST.out (8 * 0 + 2) (by decide))
          rw [show (num16 r)[8 * 0 + 2]'(by rw [num16_len]; decide) = b8 M 2 from HLO.out 2 (by decide)] at HT
          go_wp2_with (refine wpList_appBv rfl (.tmp 26) (.tmp 33) rfl _ _ (b8 M 2) _ (by have := b8_nat M 2; simpa using this) rfl rfl HG.out (HLEN.out _) ?_; rintro v7 w7 h7 ⟨x7, y7, z7, rfl⟩; have H7 := Lib.hid h7; clear h7)
          go_roundw
          case rel => exact ⟨2 + 1, by omega, by go_num, HT.out ▸ H7.out, _, _, _, rfl⟩
          case measure => simp [intOf]
        · have HT := Lib.hid (HST.out (8 * 0 + 3) (by decide))
          rw [show (num16 r)[8 * 0 + 3]'(by rw [num16_len]; decide) = b8 M 3 from HLO.out 3 (by decide)] at HT
          go_wp2_with (refine wpList_appBv rfl (.tmp 26) (.tmp 33) rfl _ _ (b8 M 3) _ (by have := b8_nat M 3; simpa using this) rfl rfl HG.out (HLEN.out _) ?_; rintro v7 w7 h7 ⟨x7, y7, z7, rfl⟩; have H7 := Lib.hid h7; clear h7)
          go_roundw
          case rel => exact ⟨3 + 1, by omega, by go_num, HT.out ▸ H7.out, _, _, _, rfl⟩
          case measure => simp [intOf]
        · have HT := Lib.hid (HST.out (8 * 0 + 4) (by decide))
          rw [show (num16 r)[8 * 0 + 4]'(by rw [num16_len]; decide) = b8 M 4 from HLO.out 4 (by decide)] at HT
          go_wp2_with (refine wpList_appBv rfl (.tmp 26) (.tmp 33) rfl _ _ (b8 M 4) _ (by have := b8_nat M 4; simpa using this) rfl rfl HG.out (HLEN.out _) ?_; rintro v7 w7 h7 ⟨x7, y7, z7, rfl⟩; have H7 := Lib.hid h7; clear h7)
          go_roundw
          case rel => exact ⟨4 + 1, by omega, by go_num, HT.out ▸ H7.out, _, _, _, rfl⟩
          case measure => simp [intOf]
        · have HT := Lib.hid (HST.out (8 * 0 + 5) (by decide))
          rw [show (num16 r)[8 * 0 + 5]'(by rw [num16_len]; decide) = b8 M 5 from HLO.out 5 (by decide)] at HT
          go_wp2_with (refine wpList_appBv rfl (.tmp 26) (.tmp 33) rfl _ _ (b8 M 5) _ (by have := b8_nat M 5; simpa using this) rfl rfl HG.out (HLEN.out _) ?_; rintro v7 w7 h7 ⟨x7, y7, z7, rfl⟩; have H7 := Lib.hid h7; clear h7)
          go_roundw
          case rel => exact ⟨5 + 1, by omega, by go_num, HT.out ▸ H7.out, _, _, _, rfl⟩
          case measure => simp [intOf]
        · have HT := Lib.hid (HST.out (8 * 0 + 6) (by decide))
          rw [show (num16 r)[8 * 0 + 6]'(by rw [num16_len]; decide) = b8 M 6 from HLO.out 6 (by decide)] at HT
          go_wp2_with (refine wpList_appBv rfl (.tmp 26) (.tmp 33) rfl _ _ (b8 M 6) _ (by have := b8_nat M 6; simpa using this) rfl rfl HG.out (HLEN.out _) ?_; rintro v7 w7 h7 ⟨x7, y7, z7, rfl⟩; have H7 := Lib.hid h7; clear h7)
          go_roundw
          case rel => exact ⟨6 + 1, by omega, by go_num, HT.out ▸ H7.out, _, _, _, rfl⟩
          case measure => simp [intOf]
        · have HT := Lib.hid (HST.out (8 * 0 + 7) (by decide))
          rw [show (num16 r)[8 * 0 + 7]'(by rw [num16_len]; decide) = b8 M 7 from HLO.out 7 (by decide)] at HT
          go_wp2_with (refine wpList_appBv rfl (.tmp 26) (.tmp 33) rfl _ _ (b8 M 7) _ (by have := b8_nat M 7; simpa using this) rfl rfl HG.out (HLEN.out _) ?_; rintro v7 w7 h7 ⟨x7, y7, z7, rfl⟩; have H7 := Lib.hid h7; clear h7)
          go_roundw
          case rel => exact ⟨7 + 1, by omega, by go_num, HT.out ▸ H7.out, _, _, _, rfl⟩
          case measure => simp [intOf]
        · go_wp2
          go_roundw
          case rel => exact ⟨0 + 1, by omega, by go_num, HG.out, _, _, _, rfl⟩
          case measure => simp [intOf]
        · omega
    · have hix := idx1 M S wr
      rw [show ((1 : Nat) : Int) = 1 from rfl]
      go_wp2
      clear hix
      go_loopw [3, 23] (fun s3 s23 wr => ∃ i : Nat, i ≤ 8 ∧ s23 = .int .i64 i ∧ Gb w3 wr s3 (pbs r.to ++ (num16 r).take (8 * 1 + i)) ∧ (∃ x y z, s3 = .slice x y z)) (fun _ s23 _ => 8 - (intOf s23).toNat)
      case atStart => exact ⟨0, by omega, rfl, HG.out, _, _, _, rfl⟩
      case round =>
        clear HG
        obtain ⟨i, hi, rfl, hg, x3, y3, z3, rfl⟩ := hrel
        have HG := Lib.hid hg
        clear hg
        rcases i with _ | _ | _ | _ | _ | _ | _ | _ | _ | i
        · have HT := Lib.hid (HST.out (8 * 1 + 0) (by decide))
          rw [show (num16 r)[8 * 1 + 0]'(by rw [num16_len]; decide) = b8 S 0 from HHI.out 0 (by decide)] at HT
          go_wp2_with (refine wpList_appBv rfl (.tmp 26) (.tmp 33) rfl _ _ (b8 S 0) _ (by have := b8_nat S 0; simpa using this) rfl rfl HG.out (HLEN.out _) ?_; rintro v7 w7 h7 ⟨x7, y7, z7, rfl⟩; have H7 := Lib.hid h7; clear h7)
          go_roundw
          case rel => exact ⟨0 + 1, by omega, by go_num, HT.out ▸ H7.out, _, _, _, rfl⟩
          case measure => simp [intOf]
        · have HT := Lib.hid (HST.out (8 * 1 + 1) (by decide))
          rw [show (num16 r)[8 * 1 + 1]'(by rw [num16_len]; decide) = b8 S 1 from HHI.out 1 (by decide)] at HT
          go_wp2_with (refine wpList_appBv rfl (.tmp 26) (.tmp 33) rfl _ _ (b8 S 1) _ (by have := b8_nat S 1; simpa using this) rfl rfl HG.out (HLEN.out _) ?_; rintro v7 w7 h7 ⟨x7, y7, z7, rfl⟩; have H7 := Lib.hid h7; clear h7)
          go_roundw
          case rel => exact ⟨1 + 1, by omega, by go_num, HT.out ▸ H7.out, _, _, _, rfl⟩
          case measure => simp [intOf]
        · have HT := Lib.hid (HST.out (8 * 1 + 2) (by decide))
          rw [show (num16 r)[8 * 1 + 2]'(by rw [num16_len]; decide) = b8 S 2 from HHI.out 2 (by decide)] at HT
          go_wp2_with (refine wpList_appBv rfl (.tmp 26) (.tmp 33) rfl _ _ (b8 S 2) _ (by have := b8_nat S 2; simpa using this) rfl rfl HG.out (HLEN.out _) ?_; rintro v7 w7 h7 ⟨x7, y7, z7, rfl⟩; have H7 := Lib.hid h7; clear h7)
          go_roundw
          case rel => exact ⟨2 + 1, by omega, by go_num, HT.out ▸ H7.out, _, _, _, rfl⟩
          case measure => simp [intOf]
        · have HT := Lib.hid (HST.out (8 * 1 + 3) (by decide))
          rw [show (num16 r)[8 * 1 + 3]'(by rw [num16_len]; decide) = b8 S 3 from HHI.out 3 (by decide)] at HT
          go_wp2_with (refine wpList_appBv rfl (.tmp 26) (.tmp 33) rfl _ _ (b8 S 3) _ (by have := b8_nat S 3; simpa using this) rfl rfl HG.out (HLEN.out _) ?_; rintro v7 w7 h7 ⟨x7, y7, z7, rfl⟩; have H7 := Lib.hid h7; clear h7)
          go_roundw
          case rel => exact ⟨3 + 1, by omega, by go_num, HT.out ▸ H7.out, _, _, _, rfl⟩
          case measure => simp [intOf]
        · have HT := Lib.hid (HST.out (8 * 1 + 4) (by decide))
          rw [show (num16 r)[8 * 1 + 4]'(by rw [num16_len]; decide) = b8 S 4 from HHI.out 4 (by decide)] at HT
          go_wp2_with (refine wpList_appBv rfl (.tmp 26) (.tmp 33) rfl _ _ (b8 S 4) _ (by have := b8_nat S 4; simpa using this) rfl rfl HG.out (HLEN.out _) ?_; rintro v7 w7 h7 ⟨x7, y7, z7, rfl⟩; have H7 := Lib.hid h7; clear h7)
          go_roundw
          case rel => exact ⟨4 + 1, by omega, by go_num, HT.out ▸ H7.out, _, _, _, rfl⟩
          case measure => simp [intOf]
        · have HT := Lib.hid (HST.out (8 * 1 + 5) (by decide))
          rw [show (num16 r)[8 * 1 + 5]'(by rw [num16_len]; decide) = b8 S 5 from HHI.out 5 (by decide)] at HT
          go_wp2_with (refine wpList_appBv rfl (.tmp 26) (.tmp 33) rfl _ _ (b8 S 5) _ (by have := b8_nat S 5; simpa using this) rfl rfl HG.out (HLEN.out _) ?_; rintro v7 w7 h7 ⟨x7, y7, z7, rfl⟩; have H7 := Lib.hid h7; clear h7)
          go_roundw
          case rel => exact ⟨5 + 1, by omega, by go_num, HT.out ▸ H7.out, _, _, _, rfl⟩
          case measure => simp [intOf]
        · have HT := Lib.hid (HST.out (8 * 1 + 6) (by decide))
          rw [show (num16 r)[8 * 1 + 6]'(by rw [num16_len]; decide) = b8 S 6 from HHI.out 6 (by decide)] at HT
          go_wp2_with (refine wpList_appBv rfl (.tmp 26) (.tmp 33) rfl _ _ (b8 S 6) _ (by have := b8_nat S 6; simpa using this) rfl rfl HG.out (HLEN.out _) ?_; rintro v7 w7 h7 ⟨x7, y7, z7, rfl⟩; have H7 := Lib.hid h7; clear h7)
          go_roundw
          case rel => exact ⟨6 + 1, by omega, by go_num, HT.out ▸ H7.out, _, _, _, rfl⟩
          case measure => simp [intOf]
        · have HT := Lib.hid (HST.out (8 * 1 + 7) (by decide))
          rw [show (num16 r)[8 * 1 + 7]'(by rw [num16_len]; decide) = b8 S 7 from HHI.out 7 (by decide)] at HT
          go_wp2_with (refine wpList_appBv rfl (.tmp 26) (.tmp 33) rfl _ _ (b8 S 7) _ (by have := b8_nat S 7; simpa using this) rfl rfl HG.out (HLEN.out _) ?_; rintro v7 w7 h7 ⟨x7, y7, z7, rfl⟩; have H7 := Lib.hid h7; clear h7)
          go_roundw
          case rel => exact ⟨7 + 1, by omega, by go_num, HT.out ▸ H7.out, _, _, _, rfl⟩
          case measure => simp [intOf]
        · go_wp2
          go_roundw
          case rel => exact ⟨1 + 1, by omega, by go_num, HG.out, _, _, _, rfl⟩
          case measure => simp [intOf]
        · omega
    · rename World => wa
      have HG := Lib.hid (show Gb w3 wa (.slice x3 y3 z3) (mby r) by have := HG.out; rw [← HALL.out]; exact this)
      obtain ⟨A, cap, hv, hlc, hcm, hcells⟩ := HG.out.own.form
      have HCE := Lib.hid hcells
      rw [hv]
      clear hcells hv
      have hl33 := HML.out
      obtain ⟨m, hm⟩ : ∃ m, (mby r).length = m := ⟨_, rfl⟩
      have HMM := Lib.hid hm
      rw [hm] at hl33 ⊢
      rw [show ((2 : Nat) : Int) = 2 from rfl]
      clear hm hlc hcm
      go_wp2
      go_loopw [2, 39] (fun s2 s39 wr => ∃ i : Nat, i ≤ m ∧ s39 = .int .i64 i ∧ s2 = .int .u64 (mixes ((mby r).take i)) ∧ Below wa.heap.size wa wr) (fun _ s39 _ => m - (intOf s39).toNat)
      case atStart => exact ⟨0, by omega, rfl, by rw [List.take_zero]; rfl, Below.refl _ _⟩
      case round =>
        obtain ⟨i, hi, rfl, rfl, hww⟩ := hrel
        have HW := Lib.hid hww
        clear hww
        by_cases hlt : i < m
        · have hlt' : (i : Int) < (m : Int) := by omega
          have i0 : (0 : Int) ≤ (i : Int) := by omega
          have hil : i < (mby r).length := by rw [HMM.out]; exact hlt
          have HX := Lib.hid (HMS.out i hil)
          obtain ⟨g, rfl, hc⟩ := HCE.out i (Byt.u8 (mby r)[i]) (by simp [encB, List.getElem?_eq_getElem hil])
          generalize (mby r)[i] = c at HX hc
          have z0 : wr.cell? ⟨g, i, none⟩ = some (.int .u8 (c.toNat : Int)) := later HW.out hc
          have hc64 : IntKind.u64.wrap (c.toNat : Int) = (c.toNat : Int) := by have := c.toNat_lt; simp [IntKind.wrap, IntKind.bits, IntKind.signed]; omega
          generalize mixes ((mby r).take i) = x at HX ⊢
          clear hc
          go_wp2_with (go_at_call 53; (with_reducible refine (mix_any _ _).mono ?_); rintro e w9 ⟨rfl, rfl⟩)
          go_roundw
          case rel => exact ⟨i + 1, by omega, by go_num, by rw [HX.out], HW.out⟩
          case measure => simp [intOf]; omega
        · obtain rfl : i = m := by omega
          have hii : ¬ (i : Int) < (i : Int) := by omega
          have HZ := Lib.hid (show mixes ((mby r).take i) = mk r by unfold mk; rw [List.take_of_length_le (by rw [HMM.out]; exact Nat.le_refl _)])
          generalize mixes ((mby r).take i) = x at HZ ⊢
          go_wp2
          go_ret
          rw [HZ.out]
          exact ⟨rfl, hb.out.trans ((HG.out.bel.trans (HW.out.mono HG.out.bel.size)).mono hb.out.size)⟩
end Dig
end Go.Proofs.YtdcbbjlbfghpbaaGreat
