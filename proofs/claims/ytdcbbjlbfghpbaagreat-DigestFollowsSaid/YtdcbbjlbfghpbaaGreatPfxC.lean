/-
  Package prefix: width, Right, Compare. Conditions: those that each theorem names.
-/
import Derived.Test.YtdcbbjlbfghpbaaGreatDa
namespace Go.Proofs.YtdcbbjlbfghpbaaGreat
open Go Go.RowKit H2
set_option linter.unusedVariables false
set_option linter.unusedSimpArgs false
namespace Tab
def most (six : Bool) : Int := if six then 128 else 32
/-- whether it may be, as the program finds it -/
def rightP (p : Pf) : Bool := decide (0 ≤ p.len) && decide (p.len ≤ most p.six) && decide (maskA p.addr p.len = p.addr)
theorem width_any (b : Bool) (w : World) : Calls Tryz.prog 64 #[.bool b] w fun e w' => e = .returned (.int .i64 (most b)) ∧ w = w' := by
  cases b
  · go_enter Tryz.func64, Tryz.ntmps64
    go_wp2
    go_ret
    exact ⟨rfl, rfl⟩
  · go_enter Tryz.func64, Tryz.ntmps64
    go_wp2
    go_ret
    exact ⟨rfl, rfl⟩
theorem most_le (b : Bool) : 32 ≤ most b ∧ most b ≤ 128 := by cases b <;> simp [most]
set_option maxRecDepth 100000 in
set_option maxHeartbeats 4000000 in
theorem rightP_any (p : Pf) (w : World) : Calls Tryz.prog 33 #[.agg (encP p).toArray] w fun e w' => e = .returned (.bool (rightP p)) ∧ Below w.heap.size w w' := by
  go_enter Tryz.func33, Tryz.ntmps33
  go_upto_region 1 with fail
  have H := Lib.hid (PAt.mk (at_new w (encP p) 33 (0, 0))).drew
  have hb := Lib.hid (show Below w.heap.size w (w.alloc (.cells (encP p).toArray 33 (0, 0))) from (Below.refl _ _).alloc (Nat.le_refl _) _)
  generalize w.alloc _ = W at H hb ⊢
  generalize w.heap.size = B at H ⊢
  by_cases h0 : 0 ≤ p.len
  · have h0' : decide (0 ≤ p.len) = true := decide_eq_true h0
    by_cases h1 : p.len ≤ most p.six
    · have h1' : decide (p.len ≤ most p.six) = true := decide_eq_true h1
      have hm := most_le p.six
      have hl0 : -1000 ≤ p.len := by omega
      have hl1 : p.len ≤ 1000 := by omega
      have HR := Lib.hid (show rightP p = decide (maskA p.addr p.len = p.addr) by unfold rightP; rw [h0', h1']; rfl)
      clear h0 h1
      refine wp_region_held_drew (S := (fun w' => PAt w' B 0 p)) (by kernel_rfl) H.out (fun _ => ?_)
      refine held_take 0 3 (v := ?_) rfl rfl (by kernel_rfl) (by kernel_rfl) (by kernel_rfl) (fun _ _ _ h => h) (by rfl) ?_ H.out ?_
      rotate_left
      · (intro w hSw; (try dsimp only at hSw); have hS := Lib.hid hSw; have c0 := hSw.six; have c1 := hSw.addr.load (encA_n _) Tryz.prog; have c2 := hSw.len; clear hSw;try simp only [List.getElem_toArray, List.getElem_cons_zero, List.getElem_cons_succ]; go_simp; try (with_reducible rfl))
      try simp only [List.setIfInBounds_toArray, List.set_cons_zero, List.set_cons_succ]
      refine held_take 1 4 (v := ?_) rfl rfl (by kernel_rfl) (by kernel_rfl) (by kernel_rfl) (fun _ _ _ h => h) (by rfl) ?_ H.out ?_
      rotate_left
      · (intro w hSw; (try dsimp only at hSw); have hS := Lib.hid hSw; have c0 := hSw.six; have c1 := hSw.addr.load (encA_n _) Tryz.prog; have c2 := hSw.len; clear hSw;try simp only [List.getElem_toArray, List.getElem_cons_zero, List.getElem_cons_succ]; go_simp; try (with_reducible rfl))
      try simp only [List.setIfInBounds_toArray, List.set_cons_zero, List.set_cons_succ]
      refine held_take 2 5 (v := ?_) rfl rfl (by kernel_rfl) (by kernel_rfl) (by kernel_rfl) (fun _ _ _ h => h) (by rfl) ?_ H.out ?_
      rotate_left
      · (intro w hSw; (try dsimp only at hSw); have hS := Lib.hid hSw; have c0 := hSw.six; have c1 := hSw.addr.load (encA_n _) Tryz.prog; have c2 := hSw.len; clear hSw;try simp only [List.getElem_toArray, List.getElem_cons_zero, List.getElem_cons_succ]; go_simp; try (with_reducible rfl))
      try simp only [List.setIfInBounds_toArray, List.set_cons_zero, List.set_cons_succ]
      refine held_take 3 6 (v := ?_) rfl rfl (by kernel_rfl) (by kernel_rfl) (by kernel_rfl) (fun _ _ _ h => h) (by rfl) ?_ H.out ?_
      rotate_left
      · (intro w hSw; (try dsimp only at hSw); have hS := Lib.hid hSw; have c0 := hSw.six; have c1 := hSw.addr.load (encA_n _) Tryz.prog; have c2 := hSw.len; clear hSw;try simp only [List.getElem_toArray, List.getElem_cons_zero, List.getElem_cons_succ]; go_simp; try (with_reducible rfl))
      try simp only [List.setIfInBounds_toArray, List.set_cons_zero, List.set_cons_succ]
      refine held_take 4 7 (v := ?_) rfl rfl (by kernel_rfl) (by kernel_rfl) (by kernel_rfl) (fun _ _ _ h => h) (by rfl) ?_ H.out ?_
      rotate_left
      · (intro w hSw; (try dsimp only at hSw); have hS := Lib.hid hSw; have c0 := hSw.six; have c1 := hSw.addr.load (encA_n _) Tryz.prog; have c2 := hSw.len; clear hSw;try simp only [List.getElem_toArray, List.getElem_cons_zero, List.getElem_cons_succ]; go_simp; try (with_reducible rfl))
      try simp only [List.setIfInBounds_toArray, List.set_cons_zero, List.set_cons_succ]
      refine held_take 5 8 (v := ?_) rfl rfl (by kernel_rfl) (by kernel_rfl) (by kernel_rfl) (fun _ _ _ h => h) (by rfl) ?_ H.out ?_
      rotate_left
      · (intro w hSw; (try dsimp only at hSw); have hS := Lib.hid hSw; have c0 := hSw.six; have c1 := hSw.addr.load (encA_n _) Tryz.prog; have c2 := hSw.len; clear hSw;try simp only [List.getElem_toArray, List.getElem_cons_zero, List.getElem_cons_succ]; go_simp; try (with_reducible rfl))
      try simp only [List.setIfInBounds_toArray, List.set_cons_zero, List.set_cons_succ]
      refine held_take 6 9 (v := ?_) rfl rfl (by kernel_rfl) (by kernel_rfl) (by kernel_rfl) (fun _ _ _ h => h) (by rfl) ?_ H.out ?_
      rotate_left
      · (intro w hSw; (try dsimp only at hSw); have hS := Lib.hid hSw; have c0 := hSw.six; have c1 := hSw.addr.load (encA_n _) Tryz.prog; have c2 := hSw.len; clear hSw;try simp only [List.getElem_toArray, List.getElem_cons_zero, List.getElem_cons_succ]; go_simp; try (with_reducible rfl))
      try simp only [List.setIfInBounds_toArray, List.set_cons_zero, List.set_cons_succ]
      refine held_take 7 10 (v := ?_) rfl rfl (by kernel_rfl) (by kernel_rfl) (by kernel_rfl) (fun _ _ _ h => h) (by rfl) ?_ H.out ?_
      rotate_left
      · (intro w hSw; (try dsimp only at hSw); have hS := Lib.hid hSw; have c0 := hSw.six; have c1 := hSw.addr.load (encA_n _) Tryz.prog; have c2 := hSw.len; clear hSw;try simp only [List.getElem_toArray, List.getElem_cons_zero, List.getElem_cons_succ]; go_simp; try (with_reducible rfl))
      try simp only [List.setIfInBounds_toArray, List.set_cons_zero, List.set_cons_succ]
      refine held_call 8 11 rfl rfl (by kernel_rfl) (by rfl) (fun K hK => ?_)
      try simp only [List.getElem_toArray, List.getElem_cons_zero, List.getElem_cons_succ]
      go_simp
      (go_at_call 64; (with_reducible refine (width_any _ _).mono ?_); rintro e w2 ⟨rfl, rfl⟩)
      try go_wp2_with fail
      try simp only [Act.put, List.setIfInBounds_toArray, List.set_cons_zero, List.set_cons_succ]
      refine hK.out _ _ _ H.out ?_
      clear hK K
      refine held_take 9 12 (v := ?_) rfl rfl (by kernel_rfl) (by kernel_rfl) (by kernel_rfl) (fun _ _ _ h => h) (by rfl) ?_ H.out ?_
      rotate_left
      · (intro w hSw; (try dsimp only at hSw); have hS := Lib.hid hSw; have c0 := hSw.six; have c1 := hSw.addr.load (encA_n _) Tryz.prog; have c2 := hSw.len; clear hSw;try simp only [List.getElem_toArray, List.getElem_cons_zero, List.getElem_cons_succ]; go_simp; try (with_reducible rfl))
      try simp only [List.setIfInBounds_toArray, List.set_cons_zero, List.set_cons_succ]
      refine held_take 10 13 (v := ?_) rfl rfl (by kernel_rfl) (by kernel_rfl) (by kernel_rfl) (fun _ _ _ h => h) (by rfl) ?_ H.out ?_
      rotate_left
      · (intro w hSw; (try dsimp only at hSw); have hS := Lib.hid hSw; have c0 := hSw.six; have c1 := hSw.addr.load (encA_n _) Tryz.prog; have c2 := hSw.len; clear hSw;try simp only [List.getElem_toArray, List.getElem_cons_zero, List.getElem_cons_succ]; go_simp; try (with_reducible rfl))
      try simp only [List.setIfInBounds_toArray, List.set_cons_zero, List.set_cons_succ]
      refine held_take 11 14 (v := ?_) rfl rfl (by kernel_rfl) (by kernel_rfl) (by kernel_rfl) (fun _ _ _ h => h) (by rfl) ?_ H.out ?_
      rotate_left
      · (intro w hSw; (try dsimp only at hSw); have hS := Lib.hid hSw; have c0 := hSw.six; have c1 := hSw.addr.load (encA_n _) Tryz.prog; have c2 := hSw.len; clear hSw;try simp only [List.getElem_toArray, List.getElem_cons_zero, List.getElem_cons_succ]; go_simp; try (with_reducible rfl))
      try simp only [List.setIfInBounds_toArray, List.set_cons_zero, List.set_cons_succ]
      refine held_take 12 15 (v := ?_) rfl rfl (by kernel_rfl) (by kernel_rfl) (by kernel_rfl) (fun _ _ _ h => h) (by rfl) ?_ H.out ?_
      rotate_left
      · (intro w hSw; (try dsimp only at hSw); have hS := Lib.hid hSw; have c0 := hSw.six; have c1 := hSw.addr.load (encA_n _) Tryz.prog; have c2 := hSw.len; clear hSw;try simp only [List.getElem_toArray, List.getElem_cons_zero, List.getElem_cons_succ]; go_simp; try (with_reducible rfl))
      try simp only [List.setIfInBounds_toArray, List.set_cons_zero, List.set_cons_succ]
      refine held_take 13 16 (v := ?_) rfl rfl (by kernel_rfl) (by kernel_rfl) (by kernel_rfl) (fun _ _ _ h => h) (by rfl) ?_ H.out ?_
      rotate_left
      · (intro w hSw; (try dsimp only at hSw); have hS := Lib.hid hSw; have c0 := hSw.six; have c1 := hSw.addr.load (encA_n _) Tryz.prog; have c2 := hSw.len; clear hSw;try simp only [List.getElem_toArray, List.getElem_cons_zero, List.getElem_cons_succ]; go_simp; try (with_reducible rfl))
      try simp only [List.setIfInBounds_toArray, List.set_cons_zero, List.set_cons_succ]
      refine held_take 14 17 (v := ?_) rfl rfl (by kernel_rfl) (by kernel_rfl) (by kernel_rfl) (fun _ _ _ h => h) (by rfl) ?_ H.out ?_
      rotate_left
      · (intro w hSw; (try dsimp only at hSw); have hS := Lib.hid hSw; have c0 := hSw.six; have c1 := hSw.addr.load (encA_n _) Tryz.prog; have c2 := hSw.len; clear hSw;try simp only [List.getElem_toArray, List.getElem_cons_zero, List.getElem_cons_succ]; go_simp; try (with_reducible rfl))
      try simp only [List.setIfInBounds_toArray, List.set_cons_zero, List.set_cons_succ]
      refine held_take 15 18 (v := ?_) rfl rfl (by kernel_rfl) (by kernel_rfl) (by kernel_rfl) (fun _ _ _ h => h) (by rfl) ?_ H.out ?_
      rotate_left
      · (intro w hSw; (try dsimp only at hSw); have hS := Lib.hid hSw; have c0 := hSw.six; have c1 := hSw.addr.load (encA_n _) Tryz.prog; have c2 := hSw.len; clear hSw;try simp only [List.getElem_toArray, List.getElem_cons_zero, List.getElem_cons_succ]; go_simp; try (with_reducible rfl))
      try simp only [List.setIfInBounds_toArray, List.set_cons_zero, List.set_cons_succ]
      refine held_take 17 20 (v := ?_) rfl rfl (by kernel_rfl) (by kernel_rfl) (by kernel_rfl) (fun _ _ _ h => h) (by rfl) ?_ H.out ?_
      rotate_left
      · (intro w hSw; (try dsimp only at hSw); have hS := Lib.hid hSw; have c0 := hSw.six; have c1 := hSw.addr.load (encA_n _) Tryz.prog; have c2 := hSw.len; clear hSw;try simp only [List.getElem_toArray, List.getElem_cons_zero, List.getElem_cons_succ]; go_simp; try (with_reducible rfl))
      try simp only [List.setIfInBounds_toArray, List.set_cons_zero, List.set_cons_succ]
      refine held_take 18 21 (v := ?_) rfl rfl (by kernel_rfl) (by kernel_rfl) (by kernel_rfl) (fun _ _ _ h => h) (by rfl) ?_ H.out ?_
      rotate_left
      · (intro w hSw; (try dsimp only at hSw); have hS := Lib.hid hSw; have c0 := hSw.six; have c1 := hSw.addr.load (encA_n _) Tryz.prog; have c2 := hSw.len; clear hSw;try simp only [List.getElem_toArray, List.getElem_cons_zero, List.getElem_cons_succ]; go_simp; try (with_reducible rfl))
      try simp only [List.setIfInBounds_toArray, List.set_cons_zero, List.set_cons_succ]
      refine held_call 16 19 rfl rfl (by kernel_rfl) (by rfl) (fun K hK => ?_)
      try simp only [List.getElem_toArray, List.getElem_cons_zero, List.getElem_cons_succ]
      go_simp
      (go_at_call 65; (with_reducible refine (masked_any _ _ _ hl0 hl1).mono ?_); rintro e w2 ⟨rfl, hb2⟩; have H := Lib.hid (H.out.below hb2); have hb := Lib.hid (hb.out.drew.trans (hb2.mono hb.out.size)); clear hb2)
      try go_wp2_with fail
      try simp only [Act.put, List.setIfInBounds_toArray, List.set_cons_zero, List.set_cons_succ]
      refine hK.out _ _ _ H.out ?_
      clear hK K
      refine held_take 19 22 (v := ?_) rfl rfl (by kernel_rfl) (by kernel_rfl) (by kernel_rfl) (fun _ _ _ h => h) (by rfl) ?_ H.out ?_
      rotate_left
      · (intro w hSw; (try dsimp only at hSw); have hS := Lib.hid hSw; have c0 := hSw.six; have c1 := hSw.addr.load (encA_n _) Tryz.prog; have c2 := hSw.len; clear hSw;try simp only [List.getElem_toArray, List.getElem_cons_zero, List.getElem_cons_succ]; go_simp; try (with_reducible rfl))
      try simp only [List.setIfInBounds_toArray, List.set_cons_zero, List.set_cons_succ]
      refine held_take 20 23 (v := ?_) rfl rfl (by kernel_rfl) (by kernel_rfl) (by kernel_rfl) (fun _ _ _ h => h) (by rfl) ?_ H.out ?_
      rotate_left
      · (intro w hSw; (try dsimp only at hSw); have hS := Lib.hid hSw; have c0 := hSw.six; have c1 := hSw.addr.load (encA_n _) Tryz.prog; have c2 := hSw.len; clear hSw;try simp only [List.getElem_toArray, List.getElem_cons_zero, List.getElem_cons_succ]; go_simp; try (with_reducible rfl))
      try simp only [List.setIfInBounds_toArray, List.set_cons_zero, List.set_cons_succ]
      refine held_take 21 2 (v := ?_) rfl rfl (by kernel_rfl) (by kernel_rfl) (by kernel_rfl) (fun _ _ _ h => h) (by rfl) ?_ H.out ?_
      rotate_left
      · (intro w hSw; (try dsimp only at hSw); have hS := Lib.hid hSw; have c0 := hSw.six; have c1 := hSw.addr.load (encA_n _) Tryz.prog; have c2 := hSw.len; clear hSw;try simp only [List.getElem_toArray, List.getElem_cons_zero, List.getElem_cons_succ]; go_simp; try (with_reducible rfl))
      try simp only [List.setIfInBounds_toArray, List.set_cons_zero, List.set_cons_succ]
      refine wpAnyH_done (by kernel_rfl) ?_ _
      go_wp2
      go_ret
      rw [HR.out]
      exact ⟨rfl, hb.out⟩
    · have h1' : decide (p.len ≤ most p.six) = false := decide_eq_false h1
      have HR := Lib.hid (show rightP p = false by unfold rightP; rw [h1', Bool.and_false]; rfl)
      clear h0 h1
      refine wp_region_held_drew (S := (fun w' => PAt w' B 0 p)) (by kernel_rfl) H.out (fun _ => ?_)
      refine held_take 0 3 (v := ?_) rfl rfl (by kernel_rfl) (by kernel_rfl) (by kernel_rfl) (fun _ _ _ h => h) (by rfl) ?_ H.out ?_
      rotate_left
      · (intro w hSw; (try dsimp only at hSw); have hS := Lib.hid hSw; have c0 := hSw.six; have c1 := hSw.addr.load (encA_n _) Tryz.prog; have c2 := hSw.len; clear hSw;try simp only [List.getElem_toArray, List.getElem_cons_zero, List.getElem_cons_succ]; go_simp; try (with_reducible rfl))
      try simp only [List.setIfInBounds_toArray, List.set_cons_zero, List.set_cons_succ]
      refine held_take 1 4 (v := ?_) rfl rfl (by kernel_rfl) (by kernel_rfl) (by kernel_rfl) (fun _ _ _ h => h) (by rfl) ?_ H.out ?_
      rotate_left
      · (intro w hSw; (try dsimp only at hSw); have hS := Lib.hid hSw; have c0 := hSw.six; have c1 := hSw.addr.load (encA_n _) Tryz.prog; have c2 := hSw.len; clear hSw;try simp only [List.getElem_toArray, List.getElem_cons_zero, List.getElem_cons_succ]; go_simp; try (with_reducible rfl))
      try simp only [List.setIfInBounds_toArray, List.set_cons_zero, List.set_cons_succ]
      refine held_take 2 5 (v := ?_) rfl rfl (by kernel_rfl) (by kernel_rfl) (by kernel_rfl) (fun _ _ _ h => h) (by rfl) ?_ H.out ?_
      rotate_left
      · (intro w hSw; (try dsimp only at hSw); have hS := Lib.hid hSw; have c0 := hSw.six; have c1 := hSw.addr.load (encA_n _) Tryz.prog; have c2 := hSw.len; clear hSw;try simp only [List.getElem_toArray, List.getElem_cons_zero, List.getElem_cons_succ]; go_simp; try (with_reducible rfl))
      try simp only [List.setIfInBounds_toArray, List.set_cons_zero, List.set_cons_succ]
      refine held_take 3 6 (v := ?_) rfl rfl (by kernel_rfl) (by kernel_rfl) (by kernel_rfl) (fun _ _ _ h => h) (by rfl) ?_ H.out ?_
      rotate_left
      · (intro w hSw; (try dsimp only at hSw); have hS := Lib.hid hSw; have c0 := hSw.six; have c1 := hSw.addr.load (encA_n _) Tryz.prog; have c2 := hSw.len; clear hSw;try simp only [List.getElem_toArray, List.getElem_cons_zero, List.getElem_cons_succ]; go_simp; try (with_reducible rfl))
      try simp only [List.setIfInBounds_toArray, List.set_cons_zero, List.set_cons_succ]
      refine held_take 4 7 (v := ?_) rfl rfl (by kernel_rfl) (by kernel_rfl) (by kernel_rfl) (fun _ _ _ h => h) (by rfl) ?_ H.out ?_
      rotate_left
      · (intro w hSw; (try dsimp only at hSw); have hS := Lib.hid hSw; have c0 := hSw.six; have c1 := hSw.addr.load (encA_n _) Tryz.prog; have c2 := hSw.len; clear hSw;try simp only [List.getElem_toArray, List.getElem_cons_zero, List.getElem_cons_succ]; go_simp; try (with_reducible rfl))
      try simp only [List.setIfInBounds_toArray, List.set_cons_zero, List.set_cons_succ]
      refine held_take 5 8 (v := ?_) rfl rfl (by kernel_rfl) (by kernel_rfl) (by kernel_rfl) (fun _ _ _ h => h) (by rfl) ?_ H.out ?_
      rotate_left
      · (intro w hSw; (try dsimp only at hSw); have hS := Lib.hid hSw; have c0 := hSw.six; have c1 := hSw.addr.load (encA_n _) Tryz.prog; have c2 := hSw.len; clear hSw;try simp only [List.getElem_toArray, List.getElem_cons_zero, List.getElem_cons_succ]; go_simp; try (with_reducible rfl))
      try simp only [List.setIfInBounds_toArray, List.set_cons_zero, List.set_cons_succ]
      refine held_take 6 9 (v := ?_) rfl rfl (by kernel_rfl) (by kernel_rfl) (by kernel_rfl) (fun _ _ _ h => h) (by rfl) ?_ H.out ?_
      rotate_left
      · (intro w hSw; (try dsimp only at hSw); have hS := Lib.hid hSw; have c0 := hSw.six; have c1 := hSw.addr.load (encA_n _) Tryz.prog; have c2 := hSw.len; clear hSw;try simp only [List.getElem_toArray, List.getElem_cons_zero, List.getElem_cons_succ]; go_simp; try (with_reducible rfl))
      try simp only [List.setIfInBounds_toArray, List.set_cons_zero, List.set_cons_succ]
      refine held_take 7 10 (v := ?_) rfl rfl (by kernel_rfl) (by kernel_rfl) (by kernel_rfl) (fun _ _ _ h => h) (by rfl) ?_ H.out ?_
      rotate_left
      · (intro w hSw; (try dsimp only at hSw); have hS := Lib.hid hSw; have c0 := hSw.six; have c1 := hSw.addr.load (encA_n _) Tryz.prog; have c2 := hSw.len; clear hSw;try simp only [List.getElem_toArray, List.getElem_cons_zero, List.getElem_cons_succ]; go_simp; try (with_reducible rfl))
      try simp only [List.setIfInBounds_toArray, List.set_cons_zero, List.set_cons_succ]
      refine held_call 8 11 rfl rfl (by kernel_rfl) (by rfl) (fun K hK => ?_)
      try simp only [List.getElem_toArray, List.getElem_cons_zero, List.getElem_cons_succ]
      go_simp
      (go_at_call 64; (with_reducible refine (width_any _ _).mono ?_); rintro e w2 ⟨rfl, rfl⟩)
      try go_wp2_with fail
      try simp only [Act.put, List.setIfInBounds_toArray, List.set_cons_zero, List.set_cons_succ]
      refine hK.out _ _ _ H.out ?_
      clear hK K
      refine held_take 9 12 (v := ?_) rfl rfl (by kernel_rfl) (by kernel_rfl) (by kernel_rfl) (fun _ _ _ h => h) (by rfl) ?_ H.out ?_
      rotate_left
      · (intro w hSw; (try dsimp only at hSw); have hS := Lib.hid hSw; have c0 := hSw.six; have c1 := hSw.addr.load (encA_n _) Tryz.prog; have c2 := hSw.len; clear hSw;try simp only [List.getElem_toArray, List.getElem_cons_zero, List.getElem_cons_succ]; go_simp; try (with_reducible rfl))
      try simp only [List.setIfInBounds_toArray, List.set_cons_zero, List.set_cons_succ]
      refine held_take 10 13 (v := ?_) rfl rfl (by kernel_rfl) (by kernel_rfl) (by kernel_rfl) (fun _ _ _ h => h) (by rfl) ?_ H.out ?_
      rotate_left
      · (intro w hSw; (try dsimp only at hSw); have hS := Lib.hid hSw; have c0 := hSw.six; have c1 := hSw.addr.load (encA_n _) Tryz.prog; have c2 := hSw.len; clear hSw;try simp only [List.getElem_toArray, List.getElem_cons_zero, List.getElem_cons_succ]; go_simp; try (with_reducible rfl))
      try simp only [List.setIfInBounds_toArray, List.set_cons_zero, List.set_cons_succ]
      refine held_take 11 14 (v := ?_) rfl rfl (by kernel_rfl) (by kernel_rfl) (by kernel_rfl) (fun _ _ _ h => h) (by rfl) ?_ H.out ?_
      rotate_left
      · (intro w hSw; (try dsimp only at hSw); have hS := Lib.hid hSw; have c0 := hSw.six; have c1 := hSw.addr.load (encA_n _) Tryz.prog; have c2 := hSw.len; clear hSw;try simp only [List.getElem_toArray, List.getElem_cons_zero, List.getElem_cons_succ]; go_simp; try (with_reducible rfl))
      try simp only [List.setIfInBounds_toArray, List.set_cons_zero, List.set_cons_succ]
      refine held_skip 12 15 rfl rfl (by kernel_rfl) (by kernel_rfl) (by kernel_rfl) (fun _ _ _ h => h) (by rfl) H.out ?_
      try simp only [List.setIfInBounds_toArray, List.set_cons_zero, List.set_cons_succ]
      refine held_skip 13 16 rfl rfl (by kernel_rfl) (by kernel_rfl) (by kernel_rfl) (fun _ _ _ h => h) (by rfl) H.out ?_
      try simp only [List.setIfInBounds_toArray, List.set_cons_zero, List.set_cons_succ]
      refine held_skip 14 17 rfl rfl (by kernel_rfl) (by kernel_rfl) (by kernel_rfl) (fun _ _ _ h => h) (by rfl) H.out ?_
      try simp only [List.setIfInBounds_toArray, List.set_cons_zero, List.set_cons_succ]
      refine held_skip 15 18 rfl rfl (by kernel_rfl) (by kernel_rfl) (by kernel_rfl) (fun _ _ _ h => h) (by rfl) H.out ?_
      try simp only [List.setIfInBounds_toArray, List.set_cons_zero, List.set_cons_succ]
      refine held_skip 16 19 rfl rfl (by kernel_rfl) (by kernel_rfl) (by kernel_rfl) (fun _ _ _ h => h) (by rfl) H.out ?_
      try simp only [List.setIfInBounds_toArray, List.set_cons_zero, List.set_cons_succ]
      refine held_skip 17 20 rfl rfl (by kernel_rfl) (by kernel_rfl) (by kernel_rfl) (fun _ _ _ h => h) (by rfl) H.out ?_
      try simp only [List.setIfInBounds_toArray, List.set_cons_zero, List.set_cons_succ]
      refine held_skip 18 21 rfl rfl (by kernel_rfl) (by kernel_rfl) (by kernel_rfl) (fun _ _ _ h => h) (by rfl) H.out ?_
      try simp only [List.setIfInBounds_toArray, List.set_cons_zero, List.set_cons_succ]
      refine held_skip 19 22 rfl rfl (by kernel_rfl) (by kernel_rfl) (by kernel_rfl) (fun _ _ _ h => h) (by rfl) H.out ?_
      try simp only [List.setIfInBounds_toArray, List.set_cons_zero, List.set_cons_succ]
      refine held_take 20 23 (v := ?_) rfl rfl (by kernel_rfl) (by kernel_rfl) (by kernel_rfl) (fun _ _ _ h => h) (by rfl) ?_ H.out ?_
      rotate_left
      · (intro w hSw; (try dsimp only at hSw); have hS := Lib.hid hSw; have c0 := hSw.six; have c1 := hSw.addr.load (encA_n _) Tryz.prog; have c2 := hSw.len; clear hSw;try simp only [List.getElem_toArray, List.getElem_cons_zero, List.getElem_cons_succ]; go_simp; try (with_reducible rfl))
      try simp only [List.setIfInBounds_toArray, List.set_cons_zero, List.set_cons_succ]
      refine held_take 21 2 (v := ?_) rfl rfl (by kernel_rfl) (by kernel_rfl) (by kernel_rfl) (fun _ _ _ h => h) (by rfl) ?_ H.out ?_
      rotate_left
      · (intro w hSw; (try dsimp only at hSw); have hS := Lib.hid hSw; have c0 := hSw.six; have c1 := hSw.addr.load (encA_n _) Tryz.prog; have c2 := hSw.len; clear hSw;try simp only [List.getElem_toArray, List.getElem_cons_zero, List.getElem_cons_succ]; go_simp; try (with_reducible rfl))
      try simp only [List.setIfInBounds_toArray, List.set_cons_zero, List.set_cons_succ]
      refine wpAnyH_done (by kernel_rfl) ?_ _
      go_wp2
      go_ret
      rw [HR.out]
      exact ⟨rfl, hb.out.drew⟩
  · have h0' : decide (0 ≤ p.len) = false := decide_eq_false h0
    have HR := Lib.hid (show rightP p = false by unfold rightP; rw [h0']; rfl)
    clear h0
    refine wp_region_held_drew (S := (fun w' => PAt w' B 0 p)) (by kernel_rfl) H.out (fun _ => ?_)
    refine held_take 0 3 (v := ?_) rfl rfl (by kernel_rfl) (by kernel_rfl) (by kernel_rfl) (fun _ _ _ h => h) (by rfl) ?_ H.out ?_
    rotate_left
    · (intro w hSw; (try dsimp only at hSw); have hS := Lib.hid hSw; have c0 := hSw.six; have c1 := hSw.addr.load (encA_n _) Tryz.prog; have c2 := hSw.len; clear hSw;try simp only [List.getElem_toArray, List.getElem_cons_zero, List.getElem_cons_succ]; go_simp; try (with_reducible rfl))
    try simp only [List.setIfInBounds_toArray, List.set_cons_zero, List.set_cons_succ]
    refine held_take 1 4 (v := ?_) rfl rfl (by kernel_rfl) (by kernel_rfl) (by kernel_rfl) (fun _ _ _ h => h) (by rfl) ?_ H.out ?_
    rotate_left
    · (intro w hSw; (try dsimp only at hSw); have hS := Lib.hid hSw; have c0 := hSw.six; have c1 := hSw.addr.load (encA_n _) Tryz.prog; have c2 := hSw.len; clear hSw;try simp only [List.getElem_toArray, List.getElem_cons_zero, List.getElem_cons_succ]; go_simp; try (with_reducible rfl))
    try simp only [List.setIfInBounds_toArray, List.set_cons_zero, List.set_cons_succ]
    refine held_take 2 5 (v := ?_) rfl rfl (by kernel_rfl) (by kernel_rfl) (by kernel_rfl) (fun _ _ _ h => h) (by rfl) ?_ H.out ?_
    rotate_left
    · (intro w hSw; (try dsimp only at hSw); have hS := Lib.hid hSw; have c0 := hSw.six; have c1 := hSw.addr.load (encA_n _) Tryz.prog; have c2 := hSw.len; clear hSw;try simp only [List.getElem_toArray, List.getElem_cons_zero, List.getElem_cons_succ]; go_simp; try (with_reducible rfl))
    try simp only [List.setIfInBounds_toArray, List.set_cons_zero, List.set_cons_succ]
    refine held_take 3 6 (v := ?_) rfl rfl (by kernel_rfl) (by kernel_rfl) (by kernel_rfl) (fun _ _ _ h => h) (by rfl) ?_ H.out ?_
    rotate_left
    · (intro w hSw; (try dsimp only at hSw); have hS := Lib.hid hSw; have c0 := hSw.six; have c1 := hSw.addr.load (encA_n _) Tryz.prog; have c2 := hSw.len; clear hSw;try simp only [List.getElem_toArray, List.getElem_cons_zero, List.getElem_cons_succ]; go_simp; try (with_reducible rfl))
    try simp only [List.setIfInBounds_toArray, List.set_cons_zero, List.set_cons_succ]
    refine held_skip 4 7 rfl rfl (by kernel_rfl) (by kernel_rfl) (by kernel_rfl) (fun _ _ _ h => h) (by rfl) H.out ?_
    try simp only [List.setIfInBounds_toArray, List.set_cons_zero, List.set_cons_succ]
    refine held_skip 5 8 rfl rfl (by kernel_rfl) (by kernel_rfl) (by kernel_rfl) (fun _ _ _ h => h) (by rfl) H.out ?_
    try simp only [List.setIfInBounds_toArray, List.set_cons_zero, List.set_cons_succ]
    refine held_skip 6 9 rfl rfl (by kernel_rfl) (by kernel_rfl) (by kernel_rfl) (fun _ _ _ h => h) (by rfl) H.out ?_
    try simp only [List.setIfInBounds_toArray, List.set_cons_zero, List.set_cons_succ]
    refine held_skip 7 10 rfl rfl (by kernel_rfl) (by kernel_rfl) (by kernel_rfl) (fun _ _ _ h => h) (by rfl) H.out ?_
    try simp only [List.setIfInBounds_toArray, List.set_cons_zero, List.set_cons_succ]
    refine held_skip 8 11 rfl rfl (by kernel_rfl) (by kernel_rfl) (by kernel_rfl) (fun _ _ _ h => h) (by rfl) H.out ?_
    try simp only [List.setIfInBounds_toArray, List.set_cons_zero, List.set_cons_succ]
    refine held_skip 9 12 rfl rfl (by kernel_rfl) (by kernel_rfl) (by kernel_rfl) (fun _ _ _ h => h) (by rfl) H.out ?_
    try simp only [List.setIfInBounds_toArray, List.set_cons_zero, List.set_cons_succ]
    refine held_take 10 13 (v := ?_) rfl rfl (by kernel_rfl) (by kernel_rfl) (by kernel_rfl) (fun _ _ _ h => h) (by rfl) ?_ H.out ?_
    rotate_left
    · (intro w hSw; (try dsimp only at hSw); have hS := Lib.hid hSw; have c0 := hSw.six; have c1 := hSw.addr.load (encA_n _) Tryz.prog; have c2 := hSw.len; clear hSw;try simp only [List.getElem_toArray, List.getElem_cons_zero, List.getElem_cons_succ]; go_simp; try (with_reducible rfl))
    try simp only [List.setIfInBounds_toArray, List.set_cons_zero, List.set_cons_succ]
    refine held_take 11 14 (v := ?_) rfl rfl (by kernel_rfl) (by kernel_rfl) (by kernel_rfl) (fun _ _ _ h => h) (by rfl) ?_ H.out ?_
    rotate_left
    · (intro w hSw; (try dsimp only at hSw); have hS := Lib.hid hSw; have c0 := hSw.six; have c1 := hSw.addr.load (encA_n _) Tryz.prog; have c2 := hSw.len; clear hSw;try simp only [List.getElem_toArray, List.getElem_cons_zero, List.getElem_cons_succ]; go_simp; try (with_reducible rfl))
    try simp only [List.setIfInBounds_toArray, List.set_cons_zero, List.set_cons_succ]
    refine held_skip 12 15 rfl rfl (by kernel_rfl) (by kernel_rfl) (by kernel_rfl) (fun _ _ _ h => h) (by rfl) H.out ?_
    try simp only [List.setIfInBounds_toArray, List.set_cons_zero, List.set_cons_succ]
    refine held_skip 13 16 rfl rfl (by kernel_rfl) (by kernel_rfl) (by kernel_rfl) (fun _ _ _ h => h) (by rfl) H.out ?_
    try simp only [List.setIfInBounds_toArray, List.set_cons_zero, List.set_cons_succ]
    refine held_skip 14 17 rfl rfl (by kernel_rfl) (by kernel_rfl) (by kernel_rfl) (fun _ _ _ h => h) (by rfl) H.out ?_
    try simp only [List.setIfInBounds_toArray, List.set_cons_zero, List.set_cons_succ]
    refine held_skip 15 18 rfl rfl (by kernel_rfl) (by kernel_rfl) (by kernel_rfl) (fun _ _ _ h => h) (by rfl) H.out ?_
    try simp only [List.setIfInBounds_toArray, List.set_cons_zero, List.set_cons_succ]
    refine held_skip 16 19 rfl rfl (by kernel_rfl) (by kernel_rfl) (by kernel_rfl) (fun _ _ _ h => h) (by rfl) H.out ?_
    try simp only [List.setIfInBounds_toArray, List.set_cons_zero, List.set_cons_succ]
    refine held_skip 17 20 rfl rfl (by kernel_rfl) (by kernel_rfl) (by kernel_rfl) (fun _ _ _ h => h) (by rfl) H.out ?_
    try simp only [List.setIfInBounds_toArray, List.set_cons_zero, List.set_cons_succ]
    refine held_skip 18 21 rfl rfl (by kernel_rfl) (by kernel_rfl) (by kernel_rfl) (fun _ _ _ h => h) (by rfl) H.out ?_
    try simp only [List.setIfInBounds_toArray, List.set_cons_zero, List.set_cons_succ]
    refine held_skip 19 22 rfl rfl (by kernel_rfl) (by kernel_rfl) (by kernel_rfl) (fun _ _ _ h => h) (by rfl) H.out ?_
    try simp only [List.setIfInBounds_toArray, List.set_cons_zero, List.set_cons_succ]
    refine held_take 20 23 (v := ?_) rfl rfl (by kernel_rfl) (by kernel_rfl) (by kernel_rfl) (fun _ _ _ h => h) (by rfl) ?_ H.out ?_
    rotate_left
    · (intro w hSw; (try dsimp only at hSw); have hS := Lib.hid hSw; have c0 := hSw.six; have c1 := hSw.addr.load (encA_n _) Tryz.prog; have c2 := hSw.len; clear hSw;try simp only [List.getElem_toArray, List.getElem_cons_zero, List.getElem_cons_succ]; go_simp; try (with_reducible rfl))
    try simp only [List.setIfInBounds_toArray, List.set_cons_zero, List.set_cons_succ]
    refine held_take 21 2 (v := ?_) rfl rfl (by kernel_rfl) (by kernel_rfl) (by kernel_rfl) (fun _ _ _ h => h) (by rfl) ?_ H.out ?_
    rotate_left
    · (intro w hSw; (try dsimp only at hSw); have hS := Lib.hid hSw; have c0 := hSw.six; have c1 := hSw.addr.load (encA_n _) Tryz.prog; have c2 := hSw.len; clear hSw;try simp only [List.getElem_toArray, List.getElem_cons_zero, List.getElem_cons_succ]; go_simp; try (with_reducible rfl))
    try simp only [List.setIfInBounds_toArray, List.set_cons_zero, List.set_cons_succ]
    refine wpAnyH_done (by kernel_rfl) ?_ _
    go_wp2
    go_ret
    rw [HR.out]
    exact ⟨rfl, hb.out.drew⟩
end Tab
end Go.Proofs.YtdcbbjlbfghpbaaGreat
