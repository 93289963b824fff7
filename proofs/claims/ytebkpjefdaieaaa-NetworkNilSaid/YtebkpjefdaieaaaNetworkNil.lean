/-
  NetworkNil: the walk. Conditions: none.
-/
import Derived.Test.YtebkpjefdaieaaaOpenA
namespace Go.Proofs.Ytebkpjefdaieaaa
open Go.RowKit FR FP H2 OW
set_option linter.unusedVariables false
set_option linter.unusedSimpArgs false
namespace NetworkNil
open Eng GG Net
set_option maxRecDepth 1000000 in
set_option maxHeartbeats 8000000 in
theorem sameO_nil (w : World) : Calls Try.prog 24 #[.slice none 0 0, .slice none 0 0] w fun e w' => e = .returned (.bool true) ∧ Below w.heap.size w w' := by
  go_enter Try.func24, Try.ntmps24
  go_upto_region 4 with fail
  go_loopw [5] (fun s5 wr => s5 = .int .i64 0 ∧ Below w.heap.size w wr) (fun s5 _ => 0)
  case atStart => exact ⟨rfl, Below.refl _ _⟩
  case round =>
    obtain ⟨rfl, hb⟩ := hrel
    go_wp2
    go_ret
    exact ⟨rfl, hb⟩
theorem new2 (w : World) : Calls Try.prog 11 #[.int .i64 2] w fun e w' => (∃ b ly, e = .returned (.tuple #[.pointer (some ⟨b, 0, none⟩), .int .i64 0]) ∧ IsNet w' w.heap.size b ly (NetV.new 2)) ∧ Below w.heap.size w w' := Net.new_any 2 w (by omega) (by omega)
theorem j0_ok : GG.ok (NetV.new 2).n (-1) = false := by decide
theorem up0 : upv ((NetV.new 2).x 0) 2 = 0 ∨ upv ((NetV.new 2).x 0) 2 ≠ 0 := Decidable.em _
set_option maxRecDepth 1000000 in
set_option maxHeartbeats 8000000 in
theorem told2 {base b : Nat} {ly : Lay} (w : World) (h : IsNet w base b ly (NetV.new 2)) : Calls Try.prog 21 #[.pointer (some ⟨b, 0, none⟩), .int .i64 2, .int .i64 0] w fun e w' => e = .returned (.tuple #[.slice none 0 0, .int .i64 2]) ∧ w = w' :=
  told_bad w h 2 (by decide) 0
set_option maxRecDepth 1000000 in
set_option maxHeartbeats 8000000 in
theorem walk (x v : Value) (w : World) (wx : IsAct w x) (wv : IsOf w v) : Calls Try.prog 5 #[x, v] w fun e w' => e = .returned (.bool true) ∧ Below w.heap.size w w' := by
  obtain ⟨k, a, b0, n0, rfl⟩ := wx
  obtain ⟨A, n, cap, f, rfl, hn, _, _⟩ := wv
  unfold maxLen at hn
  have HB := Lib.hid ((Below.refl w.heap.size w).alloc (Nat.le_refl _) (.cells #[.int .i64 k, .int .i64 a, .int .i64 b0, .int .i64 n0] 33))
  by_cases hbig : 50 < n
  · have hbig' : (50 : Int) < (n : Int) := by omega
    go_enter Try.func5, Try.ntmps5
    go_wp2_with (first
      | (go_at_call 9; (with_reducible refine (awake_any _).mono ?_); rintro e w1 ⟨rfl, hb⟩; have HB := Lib.hid (HB.out.trans (hb.mono HB.out.size)); clear hb))
    go_ret
    exact ⟨rfl, HB.out⟩
  · have hbig' : ¬ (50 : Int) < (n : Int) := by omega
    have ha0 : (w.alloc (.cells #[.int .i64 k, .int .i64 a, .int .i64 b0, .int .i64 n0] 33)).heap[w.heap.size]? = some (.cells #[.int .i64 k, .int .i64 a, .int .i64 b0, .int .i64 n0] 33 (0, 0)) := heap_alloc_new w _
    go_enter Try.func5, Try.ntmps5
    go_upto_region 1 with fail
    generalize w.alloc (.cells #[.int .i64 k, .int .i64 a, .int .i64 b0, .int .i64 n0] 33) = W at HB ha0 ⊢
    have xl := blk_lt ha0
    have HA := Lib.hid ha0
    clear ha0
    go_upto_region 3 with (go_at_call 9; (with_reducible refine (awake_any _).mono ?_); rintro e w1 ⟨rfl, hb⟩; have HB1 := Lib.hid (HB.out.trans (hb.mono HB.out.size)); have HA1 := Lib.hid ((hb.block _ xl).trans HA.out); have x1 := blk_lt HA1.out; clear hb)
    have a0 : w1.cell? ⟨w.heap.size, 0, none⟩ = some (.int .i64 k) := by rw [blk_cell HA1.out]; rfl
    have a1 : w1.cell? ⟨w.heap.size, 1, none⟩ = some (.int .i64 a) := by rw [blk_cell HA1.out]; rfl
    have a2 : w1.cell? ⟨w.heap.size, 2, none⟩ = some (.int .i64 b0) := by rw [blk_cell HA1.out]; rfl
    have a3 : w1.cell? ⟨w.heap.size, 3, none⟩ = some (.int .i64 n0) := by rw [blk_cell HA1.out]; rfl
    go_upto_region 5 with (go_at_call 21; (with_reducible refine (told_nil _ _ _).mono ?_); rintro e w2 ⟨rfl, rfl⟩)
    go_upto_region 6 with (go_at_call 11; (with_reducible refine (new2 w1).mono ?_); rintro e w2 ⟨⟨b, ly, rfl, hi⟩, hb⟩; have N2 := Lib.hid hi; have HB2 := Lib.hid (HB1.out.trans (hb.mono HB1.out.size)); have HA2 := Lib.hid ((hb.block _ x1).trans HA1.out); have x2 := blk_lt HA2.out; clear hi hb)
    clear a0 a1 a2 a3
    go_upto_region 7 with (go_at_call 21; (with_reducible refine (told2 w2 N2.out).mono ?_); rintro e w3 ⟨rfl, rfl⟩)
    have a0 : w2.cell? ⟨w.heap.size, 0, none⟩ = some (.int .i64 k) := by rw [blk_cell HA2.out]; rfl
    have a1 : w2.cell? ⟨w.heap.size, 1, none⟩ = some (.int .i64 a) := by rw [blk_cell HA2.out]; rfl
    have a2 : w2.cell? ⟨w.heap.size, 2, none⟩ = some (.int .i64 b0) := by rw [blk_cell HA2.out]; rfl
    have a3 : w2.cell? ⟨w.heap.size, 3, none⟩ = some (.int .i64 n0) := by rw [blk_cell HA2.out]; rfl
    go_wp2_with (first
      | (go_at_call 13; (with_reducible refine (do_nil _ _ _ _ _).mono ?_); rintro e w3 ⟨rfl, hb⟩; have HB3 := Lib.hid (HB2.out.trans (hb.mono HB2.out.size)); have N3 := Lib.hid (N2.out.below hb); have a0 : w3.cell? ⟨w.heap.size, 0, none⟩ = some (.int .i64 k) := (later hb a0); have a1 : w3.cell? ⟨w.heap.size, 1, none⟩ = some (.int .i64 a) := (later hb a1); have a2 : w3.cell? ⟨w.heap.size, 2, none⟩ = some (.int .i64 b0) := (later hb a2); have a3 : w3.cell? ⟨w.heap.size, 3, none⟩ = some (.int .i64 n0) := (later hb a3); clear hb)
      | (go_at_call 22; (with_reducible refine (Net.len_nil _).mono ?_); rintro e w4 ⟨rfl, rfl⟩)
      | (go_at_call 20; (with_reducible refine (way_nil _).mono ?_); rintro e w4 ⟨rfl, rfl⟩)
      | (go_at_call 19; (with_reducible refine (next_nil _ _).mono ?_); rintro e w4 ⟨rfl, rfl⟩)
      | (go_at_call 17; (with_reducible refine (metrics_nil _ _).mono ?_); rintro e w4 ⟨rfl, rfl⟩)
      | (go_at_call 18; (with_reducible refine (Net.far_nil _ _).mono ?_); rintro e w4 ⟨rfl, rfl⟩)
      | (go_at_call 23; (with_reducible refine (Net.hear_nil _ _ _ _).mono ?_); rintro e w4 ⟨rfl, rfl⟩)
      | (go_at_call 14; (with_reducible refine (settle_nil _).mono ?_); rintro e w4 ⟨rfl, rfl⟩)
      | (go_at_call 23; (with_reducible refine (Net.hear_bad _ N3.out _ j0_ok _ _).mono ?_); rintro e w4 ⟨rfl, rfl⟩)
      | (go_at_call 24; (with_reducible refine (sameO_nil _).mono ?_); rintro e w5 ⟨rfl, hb⟩; have HB5 := Lib.hid (HB3.out.trans (hb.mono HB3.out.size)); clear hb))
    go_ret
    exact ⟨rfl, HB5.out⟩
end NetworkNil
end Go.Proofs.Ytebkpjefdaieaaa
