/-
  Package engine: none. Conditions: those that each theorem names.
-/
import Derived.Test.YtcmknllefnahkaaEng2
namespace Go.Proofs.Ytcmknllefnahkaa
open Go.RowKit FR FP
set_option linter.unusedVariables false
set_option linter.unusedSimpArgs false
namespace Eng
open Feas
theorem st_dv (m s : Int) : ∀ (a : Addr) (md : Mode) (w : World), (store a (dv m s) md).run Try.prog w = stored Try.prog w a (dv m s) md := fun a md w => run_store _ w a _ md rfl
theorem ar6 {cs : Array Value} {f : Nat → Value} (hs : cs.size = 6) (h : ∀ j, j < 6 → cs[j]? = some (f j)) : cs = #[f 0, f 1, f 2, f 3, f 4, f 5] := by
  apply Array.ext_getElem?
  intro j
  by_cases hj : j < 6
  · rw [h j hj]; rcases j with _|_|_|_|_|_|j <;> first | rfl | omega
  · rw [Array.getElem?_eq_none (by omega), Array.getElem?_eq_none (by simp; omega)]
/-- a row of none -/
abbrev noneRow : Value := .agg #[dv 65535 0, dv 65535 0, dv 65535 0, dv 65535 0, dv 65535 0, dv 65535 0]
set_option maxRecDepth 100000 in
set_option maxHeartbeats 4000000 in
theorem nones_any (w : World) : Calls Try.prog 38 #[] w fun e w' => e = .returned noneRow ∧ Below w.heap.size w w' := by
  go_enter Try.func38, Try.ntmps38
  go_upto_region 2 with fail
  go_loopw [2] (fun s2 wr => ∃ i : Nat, i ≤ 6 ∧ s2 = .int .i64 i ∧ Below w.heap.size w wr ∧ ∃ cs : Array Value, wr.heap[w.heap.size]? = some (.cells cs 79 (0, 0)) ∧ cs.size = 6 ∧ ∀ j, j < 6 → ∃ x y, cs[j]? = some (.complex .f64 x y) ∧ (j < i → Value.complex .f64 x y = dv 65535 0)) (fun s2 _ => 6 - (intOf s2).toNat)
  case atStart =>
    refine ⟨0, by omega, rfl, (Below.refl _ _).alloc (Nat.le_refl _) _, _, by simp only [World.alloc]; exact Array.getElem?_push_size, rfl, fun j hj => ⟨0, 0, by rcases j with _|_|_|_|_|_|j <;> (first | rfl | omega), fun h => by omega⟩⟩
  case round =>
    obtain ⟨i, hi, rfl, hb, cs, hblk, hsz, hcs⟩ := hrel
    have HB := Lib.hid hb
    have HK := Lib.hid hblk
    have HC := Lib.hid hcs
    clear hb hblk hcs
    by_cases hlt : i < 6
    · have hlt' : (i : Int) < 6 := by omega
      have i0 : (0 : Int) ≤ (i : Int) := by omega
      obtain ⟨x, y, hv, _⟩ := HC.out i hlt
      have c1 : wr.cell? ⟨w.heap.size, i, none⟩ = some (.complex .f64 x y) := by rw [blk_cell HK.out i]; exact hv
      have c2 := blk_free HK.out i
      have st := st_dv 65535 0
      have HZ := Lib.hid hsz
      have HV := Lib.hid hv
      clear hsz hv
      go_wp2_with (go_at_call 35; refine (none_any wr).mono ?_; rintro e w' ⟨rfl, rfl⟩)
      go_roundw
      case rel =>
        refine ⟨i + 1, by omega, by go_num, (((Only.refl (fun k => w.heap.size ≤ k) w).of_below HB.out).setCell (p := ⟨w.heap.size, i, none⟩) (fun _ => Nat.le_refl _) _).below (Nat.le_refl _) (fun k hk h => by omega), _, blk_set HK.out i _, by simpa using HZ.out, fun j hj => ?_⟩
        rw [Array.getElem?_setIfInBounds]
        by_cases e : i = j
        · subst e; exact ⟨_, _, by rw [if_pos rfl, if_pos (by have := HZ.out; omega)], fun _ => rfl⟩
        · rw [if_neg e]
          obtain ⟨x, y, h1, h2⟩ := HC.out j hj
          exact ⟨x, y, h1, fun h => h2 (by omega)⟩
      case measure => simp [intOf]; omega
    · obtain rfl : i = 6 := by omega
      have hc : ∀ j, j < 6 → cs[j]? = some (dv 65535 0) := fun j hj => by obtain ⟨x, y, h1, h2⟩ := HC.out j hj; rw [h1, h2 hj]
      obtain rfl := ar6 hsz hc
      have HC' := Lib.hid hc
      clear hc hsz
      have x0 : wr.cell? ⟨w.heap.size, 0, none⟩ = some (dv 65535 0) := by rw [blk_cell HK.out 0]; exact HC'.out 0 (by omega)
      have x1 : wr.cell? ⟨w.heap.size, 1, none⟩ = some (dv 65535 0) := by rw [blk_cell HK.out 1]; exact HC'.out 1 (by omega)
      have x2 : wr.cell? ⟨w.heap.size, 2, none⟩ = some (dv 65535 0) := by rw [blk_cell HK.out 2]; exact HC'.out 2 (by omega)
      have x3 : wr.cell? ⟨w.heap.size, 3, none⟩ = some (dv 65535 0) := by rw [blk_cell HK.out 3]; exact HC'.out 3 (by omega)
      have x4 : wr.cell? ⟨w.heap.size, 4, none⟩ = some (dv 65535 0) := by rw [blk_cell HK.out 4]; exact HC'.out 4 (by omega)
      have x5 : wr.cell? ⟨w.heap.size, 5, none⟩ = some (dv 65535 0) := by rw [blk_cell HK.out 5]; exact HC'.out 5 (by omega)
      have z0 := blk_free HK.out 0
      have z1 := blk_free HK.out 1
      have z2 := blk_free HK.out 2
      have z3 := blk_free HK.out 3
      have z4 := blk_free HK.out 4
      have z5 := blk_free HK.out 5
      have st := st_dv 65535 0
      go_wp2
      (try simp only [Exit.inBlock, Exit.then])
      refine bodyPost_ret (v := noneRow) (results_cell_row rfl _ _ w.heap.size 79 #[dv 65535 0, dv 65535 0, dv 65535 0, dv 65535 0, dv 65535 0, dv 65535 0] (0, 0) _ rfl ?_ Try.underlying79 rfl (by kernel_rfl)) rfl ⟨rfl, ?_⟩
      · exact blk_set (blk_set (blk_set (blk_set (blk_set (blk_set HK.out 0 _) 1 _) 2 _) 3 _) 4 _) 5 _
      exact ((((((((Only.refl (fun k => w.heap.size ≤ k) w).of_below HB.out).setCell (p := ⟨w.heap.size, 0, none⟩) (fun _ => Nat.le_refl _) _).setCell (p := ⟨w.heap.size, 1, none⟩) (fun _ => Nat.le_refl _) _).setCell (p := ⟨w.heap.size, 2, none⟩) (fun _ => Nat.le_refl _) _).setCell (p := ⟨w.heap.size, 3, none⟩) (fun _ => Nat.le_refl _) _).setCell (p := ⟨w.heap.size, 4, none⟩) (fun _ => Nat.le_refl _) _).setCell (p := ⟨w.heap.size, 5, none⟩) (fun _ => Nat.le_refl _) _ |>.below (Nat.le_refl _) (fun k hk h => by omega))
end Eng
end Go.Proofs.Ytcmknllefnahkaa
