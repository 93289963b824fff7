/-
  The writer of package bits: Code, Len, String, and a writer that is none. Conditions: those that each theorem names.
-/
import Derived.Test.YteinpdjenplnnaaBitsW
import Derived.Test.YteinpdjenplnnaaLen64
import Derived.Lib.ItoaNum
import Derived.Laws.BytesArg
import Derived.Deep.DeepCutAuto
import Derived.Deep.CutBlock
namespace Go.Proofs.Yteinpdjenplnnaa
open Go.RowKit
set_option linter.unusedVariables false
set_option linter.unusedSimpArgs false
namespace BW
/-- the number that a code holds, with one more -/
def cv (v : Int) : Int := min v 9223372036854775808 + 1
/-- how many bits lie behind a code's one -/
def ck (v : Int) : Nat := Lib.bitLen (cv v).toNat - 1
/-- a number's code -/
def cd (v : Int) : List Bool := List.replicate (ck v) false ++ [true] ++ low (cv v) (ck v)
theorem cv_range (v : Int) (h : 0 ≤ v) : 1 ≤ cv v ∧ cv v ≤ 9223372036854775809 := by unfold cv; omega
theorem ck_spec (v : Int) (h : 0 ≤ v) : Lib.bitLen (cv v).toNat = ck v + 1 ∧ ck v ≤ 63 ∧ (2 : Int) ^ ck v ≤ cv v ∧ cv v < 2 ^ (ck v + 1) := by
  have hc := cv_range v h
  have hb := Lib.bitLenAux_bounds 64 (cv v).toNat (by omega) (by omega)
  obtain ⟨h1, h2, h3⟩ := hb
  have e : Lib.bitLen (cv v).toNat = Lib.bitLenAux 64 (cv v).toNat := rfl
  have hk : ck v = Lib.bitLenAux 64 (cv v).toNat - 1 := rfl
  rw [e, hk]
  refine ⟨by omega, ?_, ?_, ?_⟩
  · rcases Nat.lt_or_ge 63 (Lib.bitLenAux 64 (cv v).toNat - 1) with h4 | h4
    · have := Nat.pow_le_pow_right (n := 2) (by omega) h4
      omega
    · exact h4
  · have : ((2 ^ (Lib.bitLenAux 64 (cv v).toNat - 1) : Nat) : Int) ≤ ((cv v).toNat : Int) := by exact_mod_cast h2
    rw [Int.natCast_pow] at this
    have e3 : ((cv v).toNat : Int) = cv v := Int.toNat_of_nonneg (by omega)
    rw [e3] at this
    exact this
  · have : ((cv v).toNat : Int) < ((2 ^ (Lib.bitLenAux 64 (cv v).toNat) : Nat) : Int) := by exact_mod_cast h3
    rw [Int.natCast_pow] at this
    have e3 : ((cv v).toNat : Int) = cv v := Int.toNat_of_nonneg (by omega)
    rw [e3] at this
    rw [show Lib.bitLenAux 64 (cv v).toNat - 1 + 1 = Lib.bitLenAux 64 (cv v).toNat from by omega]
    exact this
theorem low_zero (k : Nat) : low 0 k = List.replicate k false := by
  induction k with
  | zero => rfl
  | succ k ih => simp [low, ih, List.replicate_succ']
theorem low_one : low 1 1 = [true] := by simp [low]
theorem cd_len (v : Int) : (cd v).length = 2 * ck v + 1 := by simp [cd, low_len]; omega
/-- what a call did to a writer's memory: only its own blocks turned, and its slice's block is the one that was, or new -/
def Grew (g : Nat) (sv : Value) (w : World) (sv' : Value) (w' : World) : Prop := Only (Ws g sv) w w' ∧ (sv'.ownBlock = sv.ownBlock ∨ ∃ b, sv'.ownBlock = some b ∧ w.heap.size ≤ b)
theorem Grew.refl (g : Nat) (sv : Value) (w : World) : Grew g sv w sv w := ⟨Only.refl _ _, .inl rfl⟩
theorem Grew.trans {g : Nat} {sv sv1 sv2 : Value} {w w1 w2 : World} (h : Grew g sv w sv1 w1) (k : Grew g sv1 w1 sv2 w2) : Grew g sv w sv2 w2 := by
  obtain ⟨ho, hs⟩ := h
  obtain ⟨ho2, hs2⟩ := k
  refine ⟨ho.trans ho2 (fun i hi h => ?_), ?_⟩
  · rcases h with h | h
    · exact .inl h
    · rcases hs with e | ⟨b, e, hb⟩
      · exact .inr (e ▸ h)
      · rw [h] at e; injection e with e; omega
  · have hz := ho.size
    rcases hs2 with e2 | ⟨b, e2, hb⟩
    · rcases hs with e | ⟨b, e, hb⟩
      · exact .inl (e2.trans e)
      · exact .inr ⟨b, e2.trans e, hb⟩
    · exact .inr ⟨b, e2, by omega⟩
theorem min_ite63 (n : Int) : (if 9223372036854775808 < n then (9223372036854775808 : Int) else n) = min n 9223372036854775808 := by split <;> omega
attribute [local go_sem] min_ite63
attribute [local irreducible] low
set_option maxHeartbeats 800000 in
theorem code_any (g base : Nat) (sv : Value) (bs : List Bool) (v : Int) (w : World) (hv0 : 0 ≤ v) (hv1 : v ≤ 18446744073709551615) (hl : bs.length ≤ 900000) (hw : IsW w base g sv bs) (hb : base ≤ w.heap.size) :
    Calls Try.prog 12 #[.pointer (some ⟨g, 0, none⟩), .int .u64 v] w fun e w' => e = .returned (.tuple #[]) ∧
      ∃ sv', IsW w' base g sv' (bs ++ cd v) ∧ Only (Ws g sv) w w' ∧ (sv'.ownBlock = sv.ownBlock ∨ ∃ b, sv'.ownBlock = some b ∧ w.heap.size ≤ b) := by
  have hc := cv_range v hv0
  obtain ⟨s1, s2, _, _⟩ := ck_spec v hv0
  have e1 : min v 9223372036854775808 + 1 = cv v := rfl
  have HW := Lib.hid hw
  clear hw
  generalize hk : ck v = k at s1 s2
  have HK := Lib.hid hk
  clear hk
  generalize hcv : cv v = c at hc s1 e1
  have HC := Lib.hid hcv
  clear hcv
  have t1 : ((Lib.bitLen c.toNat : Nat) : Int) - 1 = (k : Int) := by omega
  go_enter Try.func12, Try.ntmps12
  go_upto_region 2 with (go_at_call 28; refine (bits_Len64 _ _ (by omega) (by omega)).mono ?_; rintro e w' ⟨rfl, hw'⟩; have hw' := hw'.symm; subst hw')
  go_upto_region 3 with (go_at_call 10; refine (bits_any g base sv bs 0 k w (by omega) (by omega) (by omega) HW.out hb).mono ?_; rintro e w1 ⟨rfl, sv1, hw1, ho1, hs1⟩; have HW1 := Lib.hid hw1; have HO1 := Lib.hid ho1; have HS1 := Lib.hid hs1; have hb1 : base ≤ w1.heap.size := Nat.le_trans hb ho1.size; have hl1 : (bs ++ low 0 (min (k : Int) 64).toNat).length ≤ 900064 := (by rw [List.length_append, low_len]; omega); clear hw1 ho1 hs1)
  go_upto_region 4 with (go_at_call 10; refine (bits_any g base sv1 _ 1 1 w1 (by omega) (by omega) (by omega) HW1.out hb1).mono ?_; rintro e w2 ⟨rfl, sv2, hw2, ho2, hs2⟩; have HW2 := Lib.hid hw2; have HO2 := Lib.hid ho2; have HS2 := Lib.hid hs2; have hb2 : base ≤ w2.heap.size := Nat.le_trans hb1 ho2.size; have hl2 : (bs ++ low 0 (min (k : Int) 64).toNat ++ low 1 (min (1 : Int) 64).toNat).length ≤ 1000000 := (by rw [List.length_append, List.length_append, low_len, low_len]; omega); clear hw2 ho2 hs2)
  go_wp2_with (go_at_call 10; refine (bits_any g base sv2 _ c k w2 (by omega) (by omega) hl2 HW2.out hb2).mono ?_; rintro e w3 ⟨rfl, sv3, hw3, ho3, hs3⟩)
  go_end0
  have t2 : (min (k : Int) 64).toNat = k := by omega
  have t3 : (min (1 : Int) 64).toNat = 1 := by omega
  have hk := HK.out
  have hcv := HC.out
  have g1 := Grew.trans ⟨HO1.out, HS1.out⟩ (Grew.trans ⟨HO2.out, HS2.out⟩ ⟨ho3, hs3⟩)
  refine ⟨rfl, sv3, ?_, g1.1, g1.2⟩
  rw [t2, t3] at hw3
  rw [cd, hk, hcv]
  rw [low_zero, low_one] at hw3
  simpa [List.append_assoc] using hw3
set_option maxHeartbeats 800000 in
theorem len_any (g base : Nat) (sv : Value) (bs : List Bool) (w : World) (hw : IsW w base g sv bs) :
    Calls Try.prog 14 #[.pointer (some ⟨g, 0, none⟩)] w fun e w' => e = .returned (.int .i64 bs.length) ∧ w = w' := by
  have c1 := blk_cell hw.blk 1
  simp at c1
  clear hw
  go_enter Try.func14, Try.ntmps14
  go_wp2
  go_ret
  exact ⟨rfl, rfl⟩
set_option maxHeartbeats 800000 in
theorem str_any (g base : Nat) (sv : Value) (bs : List Bool) (w : World) (hw : IsW w base g sv bs) :
    Calls Try.prog 15 #[.pointer (some ⟨g, 0, none⟩)] w fun e w' => e = .returned (.string (strOfNums (pk bs))) ∧ w = w' := by
  have c0 := blk_cell hw.blk 0
  simp at c0
  have hconv : ∀ dst, Try.prog.underlying dst = some .string → (convert 24 dst sv).run Try.prog w = .ok (.string (strOfNums (pk bs))) w := by
    have ho := hw.own
    rcases ho.2 with ⟨rfl, h0⟩ | ⟨b, cap, cur, rfl, hb, hh, hn, hm, hs, ht⟩
    · have e : pk bs = [] := by simp [pk, h0]
      rw [e]
      exact run_convert_bytes_nil w _ _ Try.underlying24 Try.underlying5 _ _
    · refine run_convert_bytes_arg w _ _ Try.underlying24 Try.underlying5 _ _ _ _ _ (pk_len bs) (fun i hi => ?_)
      have := own_cell ho i (.int .u8 ((pk bs).getD i 0)) (by rw [vals, List.getElem?_map, List.getD_eq_getElem?_getD, List.getElem?_eq_getElem (by rw [pk_len]; exact hi)]; rfl)
      simpa using this
  clear hw
  go_enter Try.func15, Try.ntmps15
  go_wp2
  go_ret
  exact ⟨rfl, rfl⟩
set_option maxHeartbeats 800000 in
theorem bits_nil (v n : Int) (w : World) :
    Calls Try.prog 10 #[.pointer none, .int .u64 v, .int .i64 n] w fun e w' => e = .returned (.tuple #[]) ∧ w = w' := by
  go_enter Try.func10, Try.ntmps10
  go_wp2
  refine bodyPost_ret (results_none rfl _ _ _) rfl ?_
  exact ⟨rfl, rfl⟩
set_option maxHeartbeats 800000 in
theorem len_nil (w : World) :
    Calls Try.prog 14 #[.pointer none] w fun e w' => e = .returned (.int .i64 0) ∧ w = w' := by
  go_enter Try.func14, Try.ntmps14
  go_wp2
  go_ret
  exact ⟨rfl, rfl⟩
set_option maxHeartbeats 800000 in
theorem str_nil (w : World) :
    Calls Try.prog 15 #[.pointer none] w fun e w' => e = .returned (.string ByteArray.empty) ∧ w = w' := by
  go_enter Try.func15, Try.ntmps15
  go_wp2
  go_ret
  exact ⟨rfl, rfl⟩
set_option maxHeartbeats 800000 in
theorem code_nil (v : Int) (w : World) (hv0 : 0 ≤ v) (hv1 : v ≤ 18446744073709551615) :
    Calls Try.prog 12 #[.pointer none, .int .u64 v] w fun e w' => e = .returned (.tuple #[]) ∧ w = w' := by
  have hc := cv_range v hv0
  obtain ⟨s1, s2, _, _⟩ := ck_spec v hv0
  have e1 : min v 9223372036854775808 + 1 = cv v := rfl
  generalize hk : ck v = k at s1 s2
  clear hk
  generalize hcv : cv v = c at hc s1 e1
  clear hcv
  have t1 : ((Lib.bitLen c.toNat : Nat) : Int) - 1 = (k : Int) := by omega
  go_enter Try.func12, Try.ntmps12
  go_upto_region 2 with (go_at_call 28; refine (bits_Len64 _ _ (by omega) (by omega)).mono ?_; rintro e w' ⟨rfl, hw'⟩; have hw' := hw'.symm; subst hw')
  go_wp2_with (go_at_call 10; refine (bits_nil _ _ _).mono ?_; rintro e w' ⟨rfl, rfl⟩)
  go_end0
  exact ⟨rfl, rfl⟩
end BW
end Go.Proofs.Yteinpdjenplnnaa
