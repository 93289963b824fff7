/-
  What the law's awake meets, in plain Lean. Conditions: those that each theorem names.
-/
import Derived.Test.YtbeoclcnajfjcaaDoP
import Derived.Test.YtbeoclcnajfjcaaChgP
import Derived.Test.YtbeoclcnajfjcaaNewA
namespace Go.Proofs.Ytbeoclcnajfjcaa
set_option linter.unusedVariables false
namespace Tab
def pk (k : UInt8) : Pf := ⟨false, #v[k, 0, 0, 0, 0, 0, 0, 0, 0, 0, 0, 0, 0, 0, 0, 0], 8⟩
def rk (k : UInt8) (m : Int) : Rt := ⟨pk k, m, 0⟩
def aL : List Rt := [rk 2 2, rk 1 1]
def bL : List Rt := [rk 2 3, rk 3 4]
def aT : List Rt := [rk 1 1, rk 2 2]
def iL : List In := [gone (rk 1 1), ⟨2, rk 2 3⟩, ⟨1, rk 3 4⟩]
theorem aC : newC aL = 0 := by decide
theorem aF : fold aL = aT := by decide
theorem bC : newC bL = 0 := by decide
theorem bF : fold bL = bL := by decide
theorem cC : newC [⟨zP, 65535, 0⟩] = 1 := by decide
theorem iC : chg aT bL = iL := by
  unfold aT bL iL
  rw [chg_cc, if_pos (by decide), chg_cc, if_neg (by decide), if_neg (by decide), if_neg (by decide), chg_n, chg_nn]
theorem d0 : doC aT (gone (rk 1 1)) = 0 ∧ doT aT (gone (rk 1 1)) = [rk 2 2] := by decide
theorem d1 : doC [rk 2 2] ⟨2, rk 2 3⟩ = 0 ∧ doT [rk 2 2] ⟨2, rk 2 3⟩ = [rk 2 3] := by decide
theorem d2 : doC [rk 2 3] ⟨1, rk 3 4⟩ = 0 ∧ doT [rk 2 3] ⟨1, rk 3 4⟩ = bL := by decide
theorem gT : get aT (pk 1) = some (rk 1 1) ∧ has aT (pk 1) = true := by decide
theorem sT : decide (aT = bL) = false := by decide
theorem bwT : btw aT (pk 1) (pk 2) = [rk 1 1] := by decide
theorem dropT : dropC aT (pk 9) = 8 := by decide
def stg : Nat → List Rt
  | 0 => aT
  | 1 => [rk 2 2]
  | 2 => [rk 2 3]
  | _ => bL
theorem stg_step : ∀ k (hk : k < iL.length), doC (stg k) iL[k] = 0 ∧ doT (stg k) iL[k] = stg (k + 1)
  | 0, _ => d0
  | 1, _ => d1
  | 2, _ => d2
  | _ + 3, hk => absurd hk (by simp [iL])
end Tab
end Go.Proofs.Ytbeoclcnajfjcaa
