/-
  The document's twice and Same. Conditions: those that each theorem names.
-/
import Derived.Test.YtebkpjefdaieaaaWayR
namespace Go.Proofs.Ytebkpjefdaieaaa
open Go.RowKit
set_option linter.unusedVariables false
set_option linter.unusedSimpArgs false
namespace GG
theorem below_drew {B : Nat} {w w' : World} (h : Below B w w') : Below B w w'.drew := ⟨h.os, h.tape, h.output, h.size, h.block⟩
/-- is the last of n numbers there ahead, too? -/
def twi (n : Nat) (V : Nat → Int) : Bool := decide (∃ i, i < n - 1 ∧ V i = V (n - 1))
/-- none of the first i ones is the last -/
def NoLast (n : Nat) (V : Nat → Int) (i : Nat) : Prop := ∀ j, j < i → V j ≠ V (n - 1)
theorem twi_yes {n : Nat} {V : Nat → Int} {i : Nat} (hi : i + 1 < n) (h : V i = V (n - 1)) : twi n V = true := decide_eq_true ⟨i, by omega, h⟩
theorem twi_no {n : Nat} {V : Nat → Int} (h : ∀ i, i + 1 < n → V i ≠ V (n - 1)) : twi n V = false := decide_eq_false (fun ⟨i, hi, e⟩ => h i (by omega) e)
attribute [local irreducible] twi
set_option maxRecDepth 100000 in
set_option maxHeartbeats 4000000 in
theorem twice_any (A : Option Addr) (n cap : Nat) (V : Nat → Int) (w : World) (hn : n ≤ 1000000) (hI : Ints w A n V) :
    Calls Try.prog 63 #[.slice A n cap] w fun e w' => e = .returned (.bool (twi n V)) ∧ Below w.heap.size w w' := by
  have H := Lib.hid hI
  clear hI
  go_enter Try.func63, Try.ntmps63
  go_upto_region 2 with fail
  go_loopw [3] (fun s3 wr => ∃ i : Nat, (i + 1 ≤ n ∨ i = 0) ∧ s3 = .int .i64 i ∧ NoLast n V i ∧ Below w.heap.size w wr) (fun s3 _ => n - (intOf s3).toNat)
  case atStart => exact ⟨0, .inr rfl, rfl, fun j hj => by omega, Below.refl _ _⟩
  case round =>
    obtain ⟨i, hi, rfl, hne, hb⟩ := hrel
    have HNE := Lib.hid hne
    have HB := Lib.hid hb
    clear hne hb
    by_cases hlt : i + 1 < n
    · have hlt' : (i : Int) + 1 < (n : Int) := by omega
      have hlt2 : (i : Int) < (n : Int) := by omega
      have i00 : (0 : Int) ≤ (i : Int) := by omega
      obtain ⟨m, hm⟩ : ∃ m, n - 1 = m := ⟨_, rfl⟩
      obtain ⟨b, o, rfl, hl, hc⟩ := H.out i (by omega)
      obtain ⟨b', o', he, hl', hd⟩ := H.out m (by omega)
      simp only [Option.some.injEq, Addr.mk.injEq] at he
      obtain ⟨rfl, rfl, _⟩ := he
      have hc' := later HB.out hc
      have hd' := later HB.out hd
      have hm0 : IntKind.i64.wrap ((n : Int) - 1) = (m : Int) := by rw [IntWalk.i64_in _ (by omega)]; omega
      have hm1 : (n : Int) - 1 = (m : Int) := by omega
      have hm5 : IntKind.i64.wrap (m : Int) = (m : Int) := IntWalk.i64_in _ (by omega)
      have hm2 : (0 : Int) ≤ (m : Int) := by omega
      have hm3 : (m : Int) < (n : Int) := by omega
      have HM := Lib.hid hm
      clear hc hd hm
      go_upto_region 4 with fail
      cases hxe : (V i == V m)
      · refine wp_region_still_lit (by kernel_rfl) (by kernel_rfl) ?_
        change wpStill _ _ wr.drew _ _ _
        repeat still_step
        refine wpStill_nil ?_
        go_wp2
        go_roundw
        case rel =>
          refine ⟨i + 1, .inl (by omega), by go_num, fun j hj => ?_, below_drew HB.out⟩
          by_cases e : j = i
          · subst e; rw [HM.out]; simpa using hxe
          · exact HNE.out j (by omega)
        case measure => simp [intOf]; omega
      · refine wp_region_still_lit (by kernel_rfl) (by kernel_rfl) ?_
        change wpStill _ _ wr.drew _ _ _
        repeat still_step
        refine wpStill_nil ?_
        go_wp2
        go_ret
        exact ⟨by rw [twi_yes hlt (by rw [HM.out]; simpa using hxe)]; rfl, below_drew HB.out⟩
    · have hlt' : ¬ (i : Int) + 1 < (n : Int) := by omega
      go_wp2
      go_ret
      exact ⟨by rw [twi_no (fun j hj => HNE.out j (by omega))]; rfl, HB.out⟩
/-- are they the same? -/
def sam (n m : Nat) (V U : Nat → Int) : Bool := decide (n = m ∧ ∀ i, i < n → V i = U i)
def SoFar (V U : Nat → Int) (i : Nat) : Prop := ∀ j, j < i → V j = U j
theorem sam_no {n m : Nat} {V U : Nat → Int} (h : n ≠ m) : sam n m V U = false := decide_eq_false (fun hh => h hh.1)
theorem sam_at {n m : Nat} {V U : Nat → Int} {i : Nat} (hi : i < n) (h : V i ≠ U i) : sam n m V U = false := decide_eq_false (fun hh => h (hh.2 i hi))
theorem sam_yes {n : Nat} {V U : Nat → Int} (h : SoFar V U n) : sam n n V U = true := decide_eq_true ⟨rfl, h⟩
attribute [local irreducible] sam
set_option maxRecDepth 100000 in
set_option maxHeartbeats 4000000 in
theorem same_any (A : Option Addr) (n cap : Nat) (V : Nat → Int) (A' : Option Addr) (n' cap' : Nat) (U : Nat → Int) (w : World) (hn : n ≤ 1000000) (hI : Ints w A n V) (hI' : Ints w A' n' U) :
    Calls Try.prog 16 #[.slice A n cap, .slice A' n' cap'] w fun e w' => e = .returned (.bool (sam n n' V U)) ∧ Below w.heap.size w w' := by
  have H := Lib.hid hI
  have H' := Lib.hid hI'
  clear hI hI'
  by_cases hnn : n = n'
  · subst hnn
    go_enter Try.func16, Try.ntmps16
    go_upto_region 4 with fail
    go_loopw [5] (fun s5 wr => ∃ i : Nat, i ≤ n ∧ s5 = .int .i64 i ∧ SoFar V U i ∧ Below w.heap.size w wr) (fun s5 _ => n - (intOf s5).toNat)
    case atStart => exact ⟨0, by omega, rfl, fun j hj => by omega, Below.refl _ _⟩
    case round =>
      obtain ⟨i, hi, rfl, hne, hb⟩ := hrel
      have HNE := Lib.hid hne
      have HB := Lib.hid hb
      clear hne hb
      by_cases hlt : i < n
      · have hlt2 : (i : Int) < (n : Int) := by omega
        have i00 : (0 : Int) ≤ (i : Int) := by omega
        obtain ⟨b, o, rfl, hl, hc⟩ := H.out i (by omega)
        obtain ⟨b', o', rfl, hl', hd⟩ := H'.out i (by omega)
        have hc' := later HB.out hc
        have hd' := later HB.out hd
        clear hc hd
        go_upto_region 6 with fail
        cases hxe : (V i != U i)
        · refine wp_region_still_lit (by kernel_rfl) (by kernel_rfl) ?_
          change wpStill _ _ wr.drew _ _ _
          repeat still_step
          refine wpStill_nil ?_
          go_wp2
          go_roundw
          case rel =>
            refine ⟨i + 1, by omega, by go_num, fun j hj => ?_, below_drew HB.out⟩
            by_cases e : j = i
            · subst e; simpa using hxe
            · exact HNE.out j (by omega)
          case measure => simp [intOf]; omega
        · refine wp_region_still_lit (by kernel_rfl) (by kernel_rfl) ?_
          change wpStill _ _ wr.drew _ _ _
          repeat still_step
          refine wpStill_nil ?_
          go_wp2
          go_ret
          exact ⟨by rw [sam_at hlt (by simpa using hxe)]; rfl, below_drew HB.out⟩
      · obtain rfl : i = n := by omega
        go_wp2
        go_ret
        exact ⟨by rw [sam_yes HNE.out]; rfl, HB.out⟩
  · have hnn' : ((n : Int) == (n' : Int)) = false := by simp; omega
    have hnn2 : ((n : Int) != (n' : Int)) = true := by simp; omega
    go_enter Try.func16, Try.ntmps16
    go_wp2
    go_ret
    exact ⟨by rw [sam_no hnn]; rfl, Below.refl _ _⟩
end GG
end Go.Proofs.Ytebkpjefdaieaaa
