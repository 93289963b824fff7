/-
  Package graph: Link and Cost. Conditions: those that each theorem names.
-/
import Derived.Test.YtebkpjefdaieaaaGraphL
import Derived.BigRegion
import Derived.Deep.DeepCutAuto
import Derived.Deep.CutBlock
namespace Go.Proofs.Ytebkpjefdaieaaa
open Go.RowKit
set_option linter.unusedVariables false
set_option linter.unusedSimpArgs false
namespace GG
set_option maxRecDepth 100000 in
set_option maxHeartbeats 1600000 in
theorem link_ok (g n : Nat) (c : Nat → Nat → Int) (A B : Nat) (x : Int) (w : World) (h : IsG w g n c) (hA' : A < n) (hB' : B < n) (hab : A ≠ B) (hx0 : 0 ≤ x) (hx1 : x ≤ 1000) :
    Calls Try.prog 47 #[.pointer (some ⟨g, 0, none⟩), .int .i64 A, .int .i64 B, .int .i64 x] w fun e w' => e = .returned (.int .i64 0) ∧ IsG w' g n (put (put c A B x) B A x) ∧ Only (fun i => i = g) w w' := by
  have H := Lib.hid h
  have hn := h.n6
  have c1 := h.cost (show A < 6 by omega) (show B < 6 by omega)
  have c2 := h.cost (show B < 6 by omega) (show A < 6 by omega)
  have z1 := h.free (1 + A * 6 + B)
  have z2 := h.free (1 + B * 6 + A)
  clear h
  have hA : ok n (A : Int) = true := by simp [ok]; omega
  have hB : ok n (B : Int) = true := by simp [ok]; omega
  have habz : ((A : Int) == (B : Int)) = false := by simp; omega
  have g1 : ¬ x < 0 := by omega
  have g2 : ¬ 1000 < x := by omega
  have i1 : (0 : Int) ≤ (A : Int) := by omega
  have i2 : (A : Int) < 6 := by omega
  have i3 : (0 : Int) ≤ (B : Int) := by omega
  have i4 : (B : Int) < 6 := by omega
  have hfin := (H.out.set (show A < 6 by omega) (show B < 6 by omega) x).set (show B < 6 by omega) (show A < 6 by omega) x
  have HF := Lib.hid (show IsG ((w.setCell ⟨g, 1 + A * 6 + B, none⟩ (.int .i64 x)).setCell ⟨g, 1 + B * 6 + A, none⟩ (.int .i64 x)).drew g n (put (put c A B x) B A x) from ⟨hfin.blk, hfin.n1, hfin.n6⟩)
  clear hfin
  go_enter Try.func47, Try.ntmps47
  go_upto_region 7 with (first
    | (go_at_call 54; with_reducible refine (is_any g n c A w H.out).mono ?_; rintro e w' ⟨rfl, rfl⟩; rw [hA])
    | (go_at_call 54; with_reducible refine (is_any g n c B w H.out).mono ?_; rintro e w' ⟨rfl, rfl⟩; rw [hB]))
  go_region
  all_goals go_wp2
  all_goals go_ret
  all_goals exact ⟨rfl, HF.out, Only.drew (Only.setCell (S := fun i => i = g) (p := ⟨g, 1 + B * 6 + A, none⟩) (Only.setCell (S := fun i => i = g) (p := ⟨g, 1 + A * 6 + B, none⟩) (Only.refl _ _) (fun _ => rfl) _) (fun _ => rfl) _)⟩
end GG
end Go.Proofs.Ytebkpjefdaieaaa
