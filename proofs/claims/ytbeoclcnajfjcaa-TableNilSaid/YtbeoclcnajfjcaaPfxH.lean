/-
  The document's package on prefixes: Compare. Conditions: those that each theorem names.
-/
import Derived.Test.YtbeoclcnajfjcaaPfxG
namespace Go.Proofs.Ytbeoclcnajfjcaa
open Go Go.RowKit H2
set_option linter.unusedVariables false
set_option linter.unusedSimpArgs false
namespace Tab
theorem nums_get (p : Pf) (j : Nat) (h : j < 16) : p.nums.drop j = ((p.addr.toList.getD j 0).toNat : Int) :: p.nums.drop (j + 1) := by
  have hl : j < p.nums.length := by rw [nums_len]; exact h
  rw [List.drop_eq_getElem_cons hl]
  congr 1
  have e : p.nums[j]? = some ((p.addr.toList.getD j 0).toNat : Int) := by
    unfold Pf.nums
    rw [List.getElem?_map, List.getD_eq_getElem?_getD, List.getElem?_eq_getElem (by simpa using h)]
    rfl
  exact (List.getElem?_eq_some_iff.1 e).2
theorem cmpP_six {a b : Pf} (h : a.six ≠ b.six) : cmpP a b = if b.six = true then -1 else 1 := by
  rw [cmpP_or]
  unfold or3 cmpI
  cases ha : a.six <;> cases hb : b.six <;> simp [ha, hb, kindOf] at h ⊢
theorem cmpP_same {a b : Pf} (h : a.six = b.six) : cmpP a b = if cmpL a.nums b.nums ≠ 0 then cmpL a.nums b.nums else cmpI a.len b.len := by
  rw [cmpP_or, h]
  unfold or3
  rw [if_neg]
  simp [cmpI]
theorem PAt.byte {w : World} {B : Nat} {p : Pf} (h : PAt w B 0 p) (j : Nat) (hj : j < 16) : w.cell? ⟨B, 1 + j, none⟩ = some (.int .u8 ((p.addr.toList.getD j 0).toNat : Int)) := by
  have := h.addr j _ (enc_getD p.addr j hj)
  rwa [Nat.zero_add] at this
set_option maxRecDepth 100000 in
set_option maxHeartbeats 8000000 in
theorem refCompare_any (a b : Pf) (w : World) : Calls Try.prog 33 #[.agg (encP a).toArray, .agg (encP b).toArray] w fun e w' => e = .returned (.int .i64 (cmpP a b)) ∧ Below w.heap.size w w' := by
  by_cases hs : a.six = b.six
  · have HC := Lib.hid (cmpP_same hs)
    have hs' : (a.six != b.six) = false := by rw [hs]; cases b.six <;> rfl
    go_enter Try.func33, Try.ntmps33
    go_upto_region 1 with fail
    have H1 := Lib.hid ((PAt.mk (at_new w (encP a) 25 (0, 0))).below ((Below.refl _ _).alloc (Nat.le_refl _) (.cells (encP b).toArray 25 (0, 0))))
    have H2 := Lib.hid (PAt.mk (at_new (w.alloc (.cells (encP a).toArray 25 (0, 0))) (encP b) 25 (0, 0)))
    rw [show (w.alloc (.cells (encP a).toArray 25 (0, 0))).heap.size = w.heap.size + 1 by simp] at H2
    have hb := Lib.hid (show Below w.heap.size w ((w.alloc (.cells (encP a).toArray 25 (0, 0))).alloc (.cells (encP b).toArray 25 (0, 0))) from (((Below.refl _ _).alloc (Nat.le_refl _) _).alloc (by simp) _))
    generalize (w.alloc _).alloc _ = W at H1 H2 hb ⊢
    obtain ⟨B2, hB2⟩ : ∃ b, w.heap.size + 1 = b := ⟨_, rfl⟩
    rw [hB2] at H2 ⊢
    obtain ⟨B, hB⟩ : ∃ b, w.heap.size = b := ⟨_, rfl⟩
    rw [hB] at H1 ⊢
    clear hB hB2
    have c0 := H1.out.six
    have d0 := H2.out.six
    rw [hs] at c0
    have hq : (b.six != b.six) = false := by cases b.six <;> rfl
    have hq2 : (b.six == b.six) = true := by cases b.six <;> rfl
    generalize b.six = s6 at c0 d0 hq hq2
    clear hs hs'
    go_upto_region 5 with fail
    go_wp2
    clear c0 d0
    go_loopw [5] (fun s5 wr => ∃ k : Nat, k ≤ 16 ∧ s5 = .int .i64 k ∧ cmpL a.nums b.nums = cmpL (a.nums.drop k) (b.nums.drop k) ∧ PAt wr B 0 a ∧ PAt wr B2 0 b ∧ Below w.heap.size w wr) (fun s5 _ => 16 - (intOf s5).toNat)
    case atStart => exact ⟨0, by omega, rfl, rfl, H1.out, H2.out, hb.out⟩
    case round =>
      obtain ⟨k, hk, rfl, he, h1, h2, h3⟩ := hrel
      have HE := Lib.hid he
      have P1 := Lib.hid h1
      have P2 := Lib.hid h2
      have PB := Lib.hid h3
      clear he h1 h2 h3 H1 H2 hb
      by_cases hlt : k < 16
      · have hlt' : (k : Int) < 16 := by omega
        have k0 : (0 : Int) ≤ (k : Int) := by omega
        have c1 := P1.out.byte k hlt
        have d1 := P2.out.byte k hlt
        have ha := nums_get a k hlt
        have hb := nums_get b k hlt
        generalize a.addr.toList.getD k 0 = x at c1 ha
        generalize b.addr.toList.getD k 0 = y at d1 hb
        have hcc : cmpL a.nums b.nums = if (x.toNat : Int) < (y.toNat : Int) then -1 else if (y.toNat : Int) < (x.toNat : Int) then 1 else cmpL (a.nums.drop (k + 1)) (b.nums.drop (k + 1)) := by rw [HE.out, ha, hb, cmpL]
        have HCC := Lib.hid hcc
        clear ha hb hcc
        by_cases hxy : (x.toNat : Int) < (y.toNat : Int)
        · have hv : cmpP a b = -1 := by rw [HC.out, HCC.out, if_pos hxy]; rfl
          have HV := Lib.hid hv
          clear hv
          go_wp2
          go_quiet (fail)
          go_wp2
          go_ret
          rw [HV.out]
          exact ⟨rfl, bdN PB.out _⟩
        · by_cases hyx : (y.toNat : Int) < (x.toNat : Int)
          · have hv : cmpP a b = 1 := by rw [HC.out, HCC.out, if_neg hxy, if_pos hyx]; rfl
            have HV := Lib.hid hv
            clear hv
            go_wp2
            go_quiet (fail)
            go_wp2
            go_quiet (fail)
            go_wp2
            go_ret
            rw [HV.out]
            exact ⟨rfl, bdN (bdN PB.out _) _⟩
          · have hv : cmpL a.nums b.nums = cmpL (a.nums.drop (k + 1)) (b.nums.drop (k + 1)) := by rw [HCC.out, if_neg hxy, if_neg hyx]
            have HV := Lib.hid hv
            clear hv
            go_wp2
            go_quiet (fail)
            go_wp2
            go_quiet (fail)
            go_wp2
            go_roundw
            case rel => exact ⟨k + 1, by omega, by go_num, HV.out, P1.out.drewN _, P2.out.drewN _, bdN PB.out _⟩
            case measure => simp [intOf]; omega
      · obtain rfl : 16 = k := by omega
        have hv : cmpP a b = cmpI a.len b.len := by
          rw [HC.out, HE.out, List.drop_of_length_le (by rw [nums_len]; omega), List.drop_of_length_le (by rw [nums_len]; omega)]
          rfl
        have HV := Lib.hid hv
        clear hv
        have c1 := P1.out.len
        have d1 := P2.out.len
        by_cases h1 : a.len < b.len
        · have HW := Lib.hid (show cmpP a b = -1 by rw [HV.out]; unfold cmpI; rw [if_pos h1])
          go_wp2
          go_ret
          rw [HW.out]
          exact ⟨rfl, PB.out⟩
        · by_cases h2 : b.len < a.len
          · have HW := Lib.hid (show cmpP a b = 1 by rw [HV.out]; unfold cmpI; rw [if_neg h1, if_pos h2])
            go_wp2
            go_ret
            rw [HW.out]
            exact ⟨rfl, PB.out⟩
          · have HW := Lib.hid (show cmpP a b = 0 by rw [HV.out]; unfold cmpI; rw [if_neg h1, if_neg h2])
            go_wp2
            go_ret
            rw [HW.out]
            exact ⟨rfl, PB.out⟩
  · have HC := Lib.hid (cmpP_six hs)
    have HS := Lib.hid hs
    clear hs
    go_enter Try.func33, Try.ntmps33
    go_upto_region 1 with fail
    have H1 := Lib.hid ((PAt.mk (at_new w (encP a) 25 (0, 0))).below ((Below.refl _ _).alloc (Nat.le_refl _) (.cells (encP b).toArray 25 (0, 0))))
    have H2 := Lib.hid (PAt.mk (at_new (w.alloc (.cells (encP a).toArray 25 (0, 0))) (encP b) 25 (0, 0)))
    rw [show (w.alloc (.cells (encP a).toArray 25 (0, 0))).heap.size = w.heap.size + 1 by simp] at H2
    have hb := Lib.hid (show Below w.heap.size w ((w.alloc (.cells (encP a).toArray 25 (0, 0))).alloc (.cells (encP b).toArray 25 (0, 0))) from (((Below.refl _ _).alloc (Nat.le_refl _) _).alloc (by simp) _))
    generalize (w.alloc _).alloc _ = W at H1 H2 hb ⊢
    obtain ⟨B2, hB2⟩ : ∃ b, w.heap.size + 1 = b := ⟨_, rfl⟩
    rw [hB2] at H2 ⊢
    obtain ⟨B, hB⟩ : ∃ b, w.heap.size = b := ⟨_, rfl⟩
    rw [hB] at H1 ⊢
    clear hB hB2
    have c0 := H1.out.six
    have d0 := H2.out.six
    cases h6 : b.six
    · have h7 : a.six = true := by have := HS.out; cases h : a.six <;> simp_all
      rw [h6] at d0
      rw [h7] at c0
      have H7 := Lib.hid h7
      have H6 := Lib.hid h6
      clear h6 h7
      go_wp2
      go_ret
      rw [HC.out, H6.out]
      exact ⟨rfl, hb.out⟩
    · have h7 : a.six = false := by have := HS.out; cases h : a.six <;> simp_all
      rw [h6] at d0
      rw [h7] at c0
      have H7 := Lib.hid h7
      have H6 := Lib.hid h6
      clear h6 h7
      go_wp2
      go_ret
      rw [HC.out, H6.out]
      exact ⟨rfl, hb.out⟩
end Tab
end Go.Proofs.Ytbeoclcnajfjcaa
