/-
  The walk of the law BitsOne. Conditions: none.
-/
import Derived.Test.YteinpdjenplnnaaBitsOneP
import Derived.Deep.DeepCutAuto
import Derived.Deep.CutBlock
import Derived.Lib.QuietBelow
import Derived.BigQuiet
namespace Go.Proofs.Yteinpdjenplnnaa
open Go.RowKit
set_option linter.unusedVariables false
set_option linter.unusedSimpArgs false
namespace BitsOne
open BW
theorem text_ne {s t : ByteArray} (h : s ≠ t) : (s.toList == t.toList) = false := by
  rw [beq_eq_false_iff_ne]
  intro he
  rw [ByteArray.toList_eq, ByteArray.toList_eq] at he
  exact h (ByteArray.ext (Array.toList_inj.1 he))
theorem min_itez (x y : Int) : (if y < x then y else x) = min x y := by split <;> omega
attribute [local go_sem] min_ite63 min_itez
attribute [local irreducible] cd low str01 bitL cv
set_option maxRecDepth 100000 in
set_option maxHeartbeats 8000000 in
theorem walk (a b : Int) (w : World) (ha : (Lit.int .u64 a).wf = true) (hb : (Lit.int .u64 b).wf = true) : Calls Try.prog 5 #[.int .u64 a, .int .u64 b] w fun e w' => e = .returned (.bool true) ∧ Below w.heap.size w w' := by
  obtain ⟨ha0, ha1⟩ := bounds_u64 ha
  obtain ⟨hb0, hb1⟩ := bounds_u64 hb
  clear ha hb
  go_enter Try.func5, Try.ntmps5
  go_upto_region 2 with fail
  obtain ⟨x1, y1⟩ := two_isW w
  have b1 : Below w.heap.size w ((w.alloc (.cells #[.slice none 0 0, .int .i64 0] 26)).alloc (.cells #[.slice none 0 0, .int .i64 0] 26)) := ((Below.refl _ _).alloc (Nat.le_refl _) _).alloc (by simp) _
  generalize hW : (w.alloc (.cells #[.slice none 0 0, .int .i64 0] 26)).alloc (.cells #[.slice none 0 0, .int .i64 0] 26) = W at x1 y1 b1
  have hz : w.heap.size + 2 ≤ W.heap.size := by rw [← hW]; simp
  clear hW
  have X1 := Lib.hid x1
  have Y1 := Lib.hid y1
  have B1 := Lib.hid b1
  clear x1 y1 b1
  have hla := cd_len a
  have hlb := cd_len b
  have hka := (ck_spec a ha0).2.1
  have hkb := (ck_spec b hb0).2.1
  go_upto_region 3 with (go_at_call 12; refine (code_any w.heap.size (w.heap.size + 2) _ [] a W ha0 ha1 (by simp) X1.out hz).mono ?_; rintro e w1 ⟨rfl, sv1, hw1, hg1⟩; rw [List.nil_append] at hw1; have X2 := Lib.hid hw1; have O2 := Lib.hid hg1.1; have hz1 := Nat.le_trans hz hg1.1.size; have Y2 := Lib.hid (Y1.out.only hg1.1 (fun h => by rcases h with h | h; omega; cases h) (fun k h => by cases h)); clear hw1 hg1)
  go_upto_region 4 with (go_at_call 12; refine (code_any (w.heap.size + 1) (w.heap.size + 2) _ [] b w1 hb0 hb1 (by simp) Y2.out hz1).mono ?_; rintro e w2 ⟨rfl, sv2, hw2, hg2⟩; rw [List.nil_append] at hw2; have Y3 := Lib.hid hw2; have O3 := Lib.hid hg2.1; have X3 := Lib.hid (X2.out.only hg2.1 (fun h => by rcases h with h | h; omega; cases h) (fun k hk h => by have := (own_lt X2.out.own hk).1; rcases h with h | h; omega; cases h)); clear hw2 hg2)
  have B3 : Hid (Below w.heap.size w w2) := Lib.hid (B1.out.trans (((O2.out.below B1.out.size (fun i hi h => by rcases h with h | h; omega; cases h))).trans (O3.out.below (Nat.le_trans B1.out.size O2.out.size) (fun i hi h => by rcases h with h | h; omega; cases h))))
  clear X1 Y1 B1 X2 Y2 O2 O3 hz hz1
  obtain ⟨ca, hca⟩ : ∃ c, min a 9223372036854775808 = c := ⟨_, rfl⟩
  obtain ⟨cb, hcb⟩ : ∃ c, min b 9223372036854775808 = c := ⟨_, rfl⟩
  have hva : cv a = ca + 1 := by unfold cv; omega
  have hvb : cv b = cb + 1 := by unfold cv; omega
  go_upto_region 5 with fail
  have HCA := Lib.hid hca
  have HCB := Lib.hid hcb
  clear hca hcb
  have s1 : (((cd a).length : Nat) : Int) ≤ ((str01 (bitL (strOfNums (pk (cd a))))).size : Int) := by rw [str01_size, bitL_len, ← str, str_size]; omega
  have s2 : (((cd b).length : Nat) : Int) ≤ ((str01 (bitL (strOfNums (pk (cd b))))).size : Int) := by rw [str01_size, bitL_len, ← str, str_size]; omega
  have s3 : (0 : Int) ≤ (((cd a).length : Nat) : Int) := by omega
  have s4 : (0 : Int) ≤ (((cd b).length : Nat) : Int) := by omega
  have z1 : (strOfNums (pk (cd a))).size ≤ 1000000 := by rw [← str, str_size]; omega
  have z2 : (strOfNums (pk (cd b))).size ≤ 1000000 := by rw [← str, str_size]; omega
  have HLA := Lib.hid hla
  have HLB := Lib.hid hlb
  clear hla hlb
  refine wp_region_quiet_below (by kernel_rfl) (by kernel_rfl) ?_
  repeat (quiet_step (first
    | (go_at_call 15; first | with_reducible exact Calls.regrown_of (quiet_same (str_any w.heap.size (w.heap.size + 2) sv1 _ _ (X3.out.keep (below_regrown _ _ _)))) | with_reducible exact Calls.regrown_of (quiet_same (str_any (w.heap.size + 1) (w.heap.size + 2) sv2 _ _ (Y3.out.keep (below_regrown _ _ _)))))
    | (go_at_call 14; first | with_reducible exact Calls.regrown_of (quiet_same (len_any w.heap.size (w.heap.size + 2) sv1 _ _ (X3.out.keep (below_regrown _ _ _)))) | with_reducible exact Calls.regrown_of (quiet_same (len_any (w.heap.size + 1) (w.heap.size + 2) sv2 _ _ (Y3.out.keep (below_regrown _ _ _)))))
    | (go_at_call 22; first | with_reducible exact Calls.regrown_of (refof_any (strOfNums (pk (cd a))) _ z1) | with_reducible exact Calls.regrown_of (refof_any (strOfNums (pk (cd b))) _ z2))))
  refine wpQuiet_nil ?_
  intro w3 hw3
  have hb3 : Below w2.heap.size w2 w3 := by obtain ⟨p, rfl⟩ := hw3; exact below_regrown _ _ _
  have B4 := Lib.hid (B3.out.trans (hb3.mono B3.out.size))
  clear hw3 hb3 X3 Y3 B3 s1 s2 s3 s4 z1 z2
  rw [show (str01 (bitL (strOfNums (pk (cd a))))).extract 0 (cd a).length = str01 (cd a) from str_back (cd a), show (str01 (bitL (strOfNums (pk (cd b))))).extract 0 (cd b).length = str01 (cd b) from str_back (cd b)]
  have la : (str01 (cd a)).size = 2 * ck a + 1 := by rw [str01_size]; exact HLA.out
  have lb : (str01 (cd b)).size = 2 * ck b + 1 := by rw [str01_size]; exact HLB.out
  obtain ⟨k, hk⟩ : ∃ k, min (2 * ck a + 1) (2 * ck b + 1) = k := ⟨_, rfl⟩
  have hkz : min (2 * (ck a : Int) + 1) (2 * (ck b : Int) + 1) = (k : Int) := by omega
  have hext : ∀ c : Int, (str01 (cd c)).extract 0 k = str01 ((cd c).take k) := fun c => by rw [str01_extract]; rfl
  have hdiff : cv a ≠ cv b → (str01 (cd a)).extract 0 k ≠ (str01 (cd b)).extract 0 k := by
    intro hne he
    rw [hext, hext] at he
    exact cd_ne ha0 hb0 hne (by rw [HLA.out, HLB.out]; exact hk.symm) (str01_inj he)
  have hsame : cv a = cv b → str01 (cd a) = str01 (cd b) := fun h => by rw [cd_congr h]
  have hne2 : cv a ≠ cv b → str01 (cd a) ≠ str01 (cd b) := fun hne he => hdiff hne (by rw [he])
  have hmono : cv a ≤ cv b → ck a ≤ ck b := ck_mono ha0 hb0
  rw [hva, hvb] at hdiff hsame hne2 hmono
  generalize str01 (cd a) = S at la hdiff hsame hne2 ⊢
  generalize str01 (cd b) = T at lb hdiff hsame hne2 ⊢
  clear hext
  have k0 : (0 : Int) ≤ (k : Int) := by omega
  have k1 : (k : Int) ≤ (S.size : Int) := by omega
  have k2 : (k : Int) ≤ (T.size : Int) := by omega
  have laz : (S.size : Int) = 2 * (ck a : Int) + 1 := by omega
  have lbz : (T.size : Int) = 2 * (ck b : Int) + 1 := by omega
  have hmz : min (S.size : Int) (T.size : Int) = (k : Int) := by omega
  have LA := Lib.hid laz
  have LB := Lib.hid lbz
  have HK := Lib.hid hk
  clear la lb laz lbz hkz hk
  by_cases e : ca = cb
  · have hST := hsame (by omega)
    clear hsame hne2 hdiff
    subst e
    subst hST
    have HMO := Lib.hid hmono
    clear hmono
    have f1 : (S.size : Int) ≤ (S.size : Int) := by omega
    go_upto_region 7 with fail
    refine wp_region_quiet_below (by kernel_rfl) (by kernel_rfl) ?_
    repeat (go_big_quiet_step ((go_at_call 9; exact Calls.regrown_of (awake_any _))))
    refine wpQuiet_nil ?_
    intro w4 hw4
    have hb4 : Below w3.heap.size w3 w4 := by obtain ⟨p, rfl⟩ := hw4; exact below_regrown _ _ _
    go_wp2
    go_ret
    exact ⟨rfl, B4.out.trans (hb4.mono B4.out.size)⟩
  · have hx1 := hdiff (by omega)
    have hx2 := hne2 (by omega)
    clear hsame hne2 hdiff
    have f1 : (S.toList == T.toList) = false := text_ne hx2
    have f2 : ((S.extract 0 k).toList == (T.extract 0 k).toList) = false := text_ne hx1
    have f3 : (ca == cb) = false := by simpa using e
    have HX := Lib.hid (And.intro hx1 hx2)
    clear hx1 hx2
    by_cases hgt : cb < ca
    · have HMO := Lib.hid hmono
      clear hmono
      go_upto_region 7 with fail
      refine wp_region_quiet_below (by kernel_rfl) (by kernel_rfl) ?_
      repeat (go_big_quiet_step ((go_at_call 9; exact Calls.regrown_of (awake_any _))))
      refine wpQuiet_nil ?_
      intro w4 hw4
      have hb4 : Below w3.heap.size w3 w4 := by obtain ⟨p, rfl⟩ := hw4; exact below_regrown _ _ _
      go_wp2
      go_ret
      exact ⟨rfl, B4.out.trans (hb4.mono B4.out.size)⟩
    · have hle := hmono (by omega)
      clear hmono
      have f4 : (S.size : Int) ≤ (T.size : Int) := by rw [LA.out, LB.out]; omega
      go_upto_region 7 with fail
      refine wp_region_quiet_below (by kernel_rfl) (by kernel_rfl) ?_
      repeat (go_big_quiet_step ((go_at_call 9; exact Calls.regrown_of (awake_any _))))
      refine wpQuiet_nil ?_
      intro w4 hw4
      have hb4 : Below w3.heap.size w3 w4 := by obtain ⟨p, rfl⟩ := hw4; exact below_regrown _ _ _
      go_wp2
      go_ret
      exact ⟨rfl, B4.out.trans (hb4.mono B4.out.size)⟩
end BitsOne
end Go.Proofs.Yteinpdjenplnnaa
