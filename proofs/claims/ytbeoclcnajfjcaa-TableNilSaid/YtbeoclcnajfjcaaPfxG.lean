/-
  The document's package on prefixes: Right, Compare. Conditions: those that each theorem names.
-/
import Derived.Test.YtbeoclcnajfjcaaPfxF
namespace Go.Proofs.Ytbeoclcnajfjcaa
open Go Go.RowKit H2
set_option linter.unusedVariables false
set_option linter.unusedSimpArgs false
namespace Tab
theorem rightP_iff (p : Pf) : rightP p = true ↔ 0 ≤ p.len ∧ p.len ≤ most p.six ∧ ∀ i : Nat, i < 128 → p.len ≤ (i : Int) → bitA p.addr i = 0 := by
  unfold rightP
  rw [Bool.and_eq_true, Bool.and_eq_true, decide_eq_true_iff, decide_eq_true_iff, decide_eq_true_iff, mask_eq, and_assoc]
theorem rightP_no {p : Pf} (h : ¬ (0 ≤ p.len ∧ p.len ≤ most p.six)) : rightP p = false := by
  rw [← Bool.not_eq_true, rightP_iff]
  exact fun ⟨h1, h2, _⟩ => h ⟨h1, h2⟩
set_option maxRecDepth 100000 in
set_option maxHeartbeats 4000000 in
theorem refRightP_any (p : Pf) (w : World) : Calls Try.prog 45 #[.agg (encP p).toArray] w fun e w' => e = .returned (.bool (rightP p)) ∧ Below w.heap.size w w' := by
  by_cases h0 : 0 ≤ p.len
  · have h0' : decide (p.len < 0) = false := decide_eq_false (by omega)
    by_cases h1 : p.len ≤ most p.six
    · have h1' : decide (p.len > most p.six) = false := decide_eq_false (by omega)
      have h1'' : decide (most p.six < p.len) = false := decide_eq_false (by omega)
      have hm := most_le p.six
      obtain ⟨n, hn⟩ : ∃ n : Nat, p.len = n := ⟨p.len.toNat, by omega⟩
      have HN := Lib.hid hn
      have hn1 : n ≤ 128 := by omega
      clear h0 h1 hm hn
      go_enter Try.func45, Try.ntmps45
      go_upto_region 1 with fail
      have H := Lib.hid (PAt.mk (at_new w (encP p) 25 (0, 0))).drew
      have hb := Lib.hid (show Below w.heap.size w (w.alloc (.cells (encP p).toArray 25 (0, 0))).drew from ((Below.refl _ _).alloc (Nat.le_refl _) _).drew)
      generalize w.alloc _ = W at H hb ⊢
      generalize w.heap.size = B at H ⊢
      refine wp_region_held_drew (S := (fun w' => w' = W.drew)) (by kernel_rfl) rfl (fun _ => ?_)
      refine held_take 0 4 (v := ?_) rfl rfl (by kernel_rfl) (by kernel_rfl) (by kernel_rfl) (fun _ _ _ h => h) (by rfl) ?_ rfl ?_
      rotate_left
      · (intro w hSw; (try dsimp only at hSw); subst hSw; have c0 := H.out.six; have c2 := H.out.len;try simp only [List.getElem_toArray, List.getElem_cons_zero, List.getElem_cons_succ]; go_simp; try (with_reducible rfl))
      try simp only [List.setIfInBounds_toArray, List.set_cons_zero, List.set_cons_succ]
      refine held_take 1 5 (v := ?_) rfl rfl (by kernel_rfl) (by kernel_rfl) (by kernel_rfl) (fun _ _ _ h => h) (by rfl) ?_ rfl ?_
      rotate_left
      · (intro w hSw; (try dsimp only at hSw); subst hSw; have c0 := H.out.six; have c2 := H.out.len;try simp only [List.getElem_toArray, List.getElem_cons_zero, List.getElem_cons_succ]; go_simp; try (with_reducible rfl))
      try simp only [List.setIfInBounds_toArray, List.set_cons_zero, List.set_cons_succ]
      refine held_take 2 6 (v := ?_) rfl rfl (by kernel_rfl) (by kernel_rfl) (by kernel_rfl) (fun _ _ _ h => h) (by rfl) ?_ rfl ?_
      rotate_left
      · (intro w hSw; (try dsimp only at hSw); subst hSw; have c0 := H.out.six; have c2 := H.out.len;try simp only [List.getElem_toArray, List.getElem_cons_zero, List.getElem_cons_succ]; go_simp; try (with_reducible rfl))
      try simp only [List.setIfInBounds_toArray, List.set_cons_zero, List.set_cons_succ]
      refine held_take 3 7 (v := ?_) rfl rfl (by kernel_rfl) (by kernel_rfl) (by kernel_rfl) (fun _ _ _ h => h) (by rfl) ?_ rfl ?_
      rotate_left
      · (intro w hSw; (try dsimp only at hSw); subst hSw; have c0 := H.out.six; have c2 := H.out.len;try simp only [List.getElem_toArray, List.getElem_cons_zero, List.getElem_cons_succ]; go_simp; try (with_reducible rfl))
      try simp only [List.setIfInBounds_toArray, List.set_cons_zero, List.set_cons_succ]
      refine held_take 4 8 (v := ?_) rfl rfl (by kernel_rfl) (by kernel_rfl) (by kernel_rfl) (fun _ _ _ h => h) (by rfl) ?_ rfl ?_
      rotate_left
      · (intro w hSw; (try dsimp only at hSw); subst hSw; have c0 := H.out.six; have c2 := H.out.len;try simp only [List.getElem_toArray, List.getElem_cons_zero, List.getElem_cons_succ]; go_simp; try (with_reducible rfl))
      try simp only [List.setIfInBounds_toArray, List.set_cons_zero, List.set_cons_succ]
      refine held_take 5 9 (v := ?_) rfl rfl (by kernel_rfl) (by kernel_rfl) (by kernel_rfl) (fun _ _ _ h => h) (by rfl) ?_ rfl ?_
      rotate_left
      · (intro w hSw; (try dsimp only at hSw); subst hSw; have c0 := H.out.six; have c2 := H.out.len;try simp only [List.getElem_toArray, List.getElem_cons_zero, List.getElem_cons_succ]; go_simp; try (with_reducible rfl))
      try simp only [List.setIfInBounds_toArray, List.set_cons_zero, List.set_cons_succ]
      refine held_take 6 10 (v := ?_) rfl rfl (by kernel_rfl) (by kernel_rfl) (by kernel_rfl) (fun _ _ _ h => h) (by rfl) ?_ rfl ?_
      rotate_left
      · (intro w hSw; (try dsimp only at hSw); subst hSw; have c0 := H.out.six; have c2 := H.out.len;try simp only [List.getElem_toArray, List.getElem_cons_zero, List.getElem_cons_succ]; go_simp; try (with_reducible rfl))
      try simp only [List.setIfInBounds_toArray, List.set_cons_zero, List.set_cons_succ]
      refine held_take 7 11 (v := ?_) rfl rfl (by kernel_rfl) (by kernel_rfl) (by kernel_rfl) (fun _ _ _ h => h) (by rfl) ?_ rfl ?_
      rotate_left
      · (intro w hSw; (try dsimp only at hSw); subst hSw; have c0 := H.out.six; have c2 := H.out.len;try simp only [List.getElem_toArray, List.getElem_cons_zero, List.getElem_cons_succ]; go_simp; try (with_reducible rfl))
      try simp only [List.setIfInBounds_toArray, List.set_cons_zero, List.set_cons_succ]
      refine held_call 8 12 rfl rfl (by kernel_rfl) (by rfl) (fun K hK => ?_)
      try simp only [List.getElem_toArray, List.getElem_cons_zero, List.getElem_cons_succ]
      go_simp
      (go_at_call 63; (with_reducible refine (most_any _ _).mono ?_); rintro e w2 ⟨rfl, rfl⟩)
      try go_wp2_with fail
      try simp only [Act.put, List.setIfInBounds_toArray, List.set_cons_zero, List.set_cons_succ]
      refine hK.out _ _ _ rfl ?_
      clear hK K
      refine held_take 9 13 (v := ?_) rfl rfl (by kernel_rfl) (by kernel_rfl) (by kernel_rfl) (fun _ _ _ h => h) (by rfl) ?_ rfl ?_
      rotate_left
      · (intro w hSw; (try dsimp only at hSw); subst hSw; have c0 := H.out.six; have c2 := H.out.len;try simp only [List.getElem_toArray, List.getElem_cons_zero, List.getElem_cons_succ]; go_simp; try (with_reducible rfl))
      try simp only [List.setIfInBounds_toArray, List.set_cons_zero, List.set_cons_succ]
      refine held_take 10 14 (v := ?_) rfl rfl (by kernel_rfl) (by kernel_rfl) (by kernel_rfl) (fun _ _ _ h => h) (by rfl) ?_ rfl ?_
      rotate_left
      · (intro w hSw; (try dsimp only at hSw); subst hSw; have c0 := H.out.six; have c2 := H.out.len;try simp only [List.getElem_toArray, List.getElem_cons_zero, List.getElem_cons_succ]; go_simp; try (with_reducible rfl))
      try simp only [List.setIfInBounds_toArray, List.set_cons_zero, List.set_cons_succ]
      refine wpAnyH_done (by kernel_rfl) ?_ _
      have c2 := H.out.len
      rw [HN.out] at c2
      go_wp2
      go_loopw [3] (fun s3 wr => ∃ i : Nat, n ≤ i ∧ i ≤ 128 ∧ s3 = .int .i64 i ∧ (∀ j : Nat, j < i → n ≤ j → bitA p.addr j = 0) ∧ PAt wr B 0 p ∧ Below w.heap.size w wr) (fun s3 _ => 128 - (intOf s3).toNat)
      case atStart => exact ⟨n, by omega, hn1, rfl, fun j h1 h2 => by omega, H.out, hb.out⟩
      case round =>
        obtain ⟨i, hi1, hi2, rfl, hz, hp, hb3⟩ := hrel
        have HZ := Lib.hid hz
        have HP := Lib.hid hp
        have HB := Lib.hid hb3
        clear hz hp hb3 c2
        by_cases hlt : i < 128
        · have hlt' : (i : Int) < 128 := by omega
          have i0 : (0 : Int) ≤ (i : Int) := by omega
          have c1 := HP.out.addr.load (encA_n _) Try.prog
          by_cases hbit : bitA p.addr i = 0
          · have HBIT := Lib.hid hbit
            clear hbit
            go_wp2_with (go_at_call 64; (with_reducible refine (bit_any p.addr i hlt _).mono ?_); rintro e w2 ⟨rfl, hb2⟩; rw [HBIT.out]; have HP2 := Lib.hid (HP.out.below hb2); have HB2 := Lib.hid (HB.out.trans (hb2.mono HB.out.size)); clear hb2)
            go_roundw
            case rel => exact ⟨i + 1, by omega, by omega, by go_num, fun j h1 h2 => by
              rcases Nat.lt_or_eq_of_le (Nat.lt_succ_iff.1 h1) with h | h
              · exact HZ.out j h h2
              · rw [h]; exact HBIT.out, HP2.out, HB2.out⟩
            case measure => simp [intOf]; omega
          · have HR := Lib.hid (show rightP p = false by
              rw [← Bool.not_eq_true, rightP_iff]
              exact fun ⟨_, _, h⟩ => hbit (h i hlt (by rw [HN.out]; omega)))
            have hbit' : ¬ ((bitA p.addr i : Nat) : Int) = 0 := by omega
            have hbit2 : (((bitA p.addr i : Nat) : Int) != 0) = true := by simpa using hbit
            clear hbit
            go_wp2_with (go_at_call 64; (with_reducible refine (bit_any p.addr i hlt _).mono ?_); rintro e w2 ⟨rfl, hb2⟩; have HB2 := Lib.hid (HB.out.trans (hb2.mono HB.out.size)); clear hb2)
            go_ret
            rw [HR.out]
            exact ⟨rfl, HB2.out⟩
        · obtain rfl : 128 = i := by omega
          have HR := Lib.hid (show rightP p = true by
            rw [rightP_iff]
            exact ⟨by rw [HN.out]; omega, by have := of_decide_eq_false h1''; omega, fun j h1 h2 => HZ.out j h1 (by rw [HN.out] at h2; omega)⟩)
          go_wp2
          go_ret
          rw [HR.out]
          exact ⟨rfl, HB.out⟩
    · have h1' : decide (p.len > most p.six) = true := decide_eq_true (by omega)
      have h1'' : decide (most p.six < p.len) = true := decide_eq_true (by omega)
      have HR := Lib.hid (rightP_no (p := p) (fun h => h1 h.2))
      clear h0 h1
      go_enter Try.func45, Try.ntmps45
      go_upto_region 1 with fail
      have H := Lib.hid (PAt.mk (at_new w (encP p) 25 (0, 0))).drew
      have hb := Lib.hid (show Below w.heap.size w (w.alloc (.cells (encP p).toArray 25 (0, 0))).drew from ((Below.refl _ _).alloc (Nat.le_refl _) _).drew)
      generalize w.alloc _ = W at H hb ⊢
      generalize w.heap.size = B at H ⊢
      refine wp_region_held_drew (S := (fun w' => w' = W.drew)) (by kernel_rfl) rfl (fun _ => ?_)
      refine held_take 0 4 (v := ?_) rfl rfl (by kernel_rfl) (by kernel_rfl) (by kernel_rfl) (fun _ _ _ h => h) (by rfl) ?_ rfl ?_
      rotate_left
      · (intro w hSw; (try dsimp only at hSw); subst hSw; have c0 := H.out.six; have c2 := H.out.len;try simp only [List.getElem_toArray, List.getElem_cons_zero, List.getElem_cons_succ]; go_simp; try (with_reducible rfl))
      try simp only [List.setIfInBounds_toArray, List.set_cons_zero, List.set_cons_succ]
      refine held_take 1 5 (v := ?_) rfl rfl (by kernel_rfl) (by kernel_rfl) (by kernel_rfl) (fun _ _ _ h => h) (by rfl) ?_ rfl ?_
      rotate_left
      · (intro w hSw; (try dsimp only at hSw); subst hSw; have c0 := H.out.six; have c2 := H.out.len;try simp only [List.getElem_toArray, List.getElem_cons_zero, List.getElem_cons_succ]; go_simp; try (with_reducible rfl))
      try simp only [List.setIfInBounds_toArray, List.set_cons_zero, List.set_cons_succ]
      refine held_take 2 6 (v := ?_) rfl rfl (by kernel_rfl) (by kernel_rfl) (by kernel_rfl) (fun _ _ _ h => h) (by rfl) ?_ rfl ?_
      rotate_left
      · (intro w hSw; (try dsimp only at hSw); subst hSw; have c0 := H.out.six; have c2 := H.out.len;try simp only [List.getElem_toArray, List.getElem_cons_zero, List.getElem_cons_succ]; go_simp; try (with_reducible rfl))
      try simp only [List.setIfInBounds_toArray, List.set_cons_zero, List.set_cons_succ]
      refine held_take 3 7 (v := ?_) rfl rfl (by kernel_rfl) (by kernel_rfl) (by kernel_rfl) (fun _ _ _ h => h) (by rfl) ?_ rfl ?_
      rotate_left
      · (intro w hSw; (try dsimp only at hSw); subst hSw; have c0 := H.out.six; have c2 := H.out.len;try simp only [List.getElem_toArray, List.getElem_cons_zero, List.getElem_cons_succ]; go_simp; try (with_reducible rfl))
      try simp only [List.setIfInBounds_toArray, List.set_cons_zero, List.set_cons_succ]
      refine held_take 4 8 (v := ?_) rfl rfl (by kernel_rfl) (by kernel_rfl) (by kernel_rfl) (fun _ _ _ h => h) (by rfl) ?_ rfl ?_
      rotate_left
      · (intro w hSw; (try dsimp only at hSw); subst hSw; have c0 := H.out.six; have c2 := H.out.len;try simp only [List.getElem_toArray, List.getElem_cons_zero, List.getElem_cons_succ]; go_simp; try (with_reducible rfl))
      try simp only [List.setIfInBounds_toArray, List.set_cons_zero, List.set_cons_succ]
      refine held_take 5 9 (v := ?_) rfl rfl (by kernel_rfl) (by kernel_rfl) (by kernel_rfl) (fun _ _ _ h => h) (by rfl) ?_ rfl ?_
      rotate_left
      · (intro w hSw; (try dsimp only at hSw); subst hSw; have c0 := H.out.six; have c2 := H.out.len;try simp only [List.getElem_toArray, List.getElem_cons_zero, List.getElem_cons_succ]; go_simp; try (with_reducible rfl))
      try simp only [List.setIfInBounds_toArray, List.set_cons_zero, List.set_cons_succ]
      refine held_take 6 10 (v := ?_) rfl rfl (by kernel_rfl) (by kernel_rfl) (by kernel_rfl) (fun _ _ _ h => h) (by rfl) ?_ rfl ?_
      rotate_left
      · (intro w hSw; (try dsimp only at hSw); subst hSw; have c0 := H.out.six; have c2 := H.out.len;try simp only [List.getElem_toArray, List.getElem_cons_zero, List.getElem_cons_succ]; go_simp; try (with_reducible rfl))
      try simp only [List.setIfInBounds_toArray, List.set_cons_zero, List.set_cons_succ]
      refine held_take 7 11 (v := ?_) rfl rfl (by kernel_rfl) (by kernel_rfl) (by kernel_rfl) (fun _ _ _ h => h) (by rfl) ?_ rfl ?_
      rotate_left
      · (intro w hSw; (try dsimp only at hSw); subst hSw; have c0 := H.out.six; have c2 := H.out.len;try simp only [List.getElem_toArray, List.getElem_cons_zero, List.getElem_cons_succ]; go_simp; try (with_reducible rfl))
      try simp only [List.setIfInBounds_toArray, List.set_cons_zero, List.set_cons_succ]
      refine held_call 8 12 rfl rfl (by kernel_rfl) (by rfl) (fun K hK => ?_)
      try simp only [List.getElem_toArray, List.getElem_cons_zero, List.getElem_cons_succ]
      go_simp
      (go_at_call 63; (with_reducible refine (most_any _ _).mono ?_); rintro e w2 ⟨rfl, rfl⟩)
      try go_wp2_with fail
      try simp only [Act.put, List.setIfInBounds_toArray, List.set_cons_zero, List.set_cons_succ]
      refine hK.out _ _ _ rfl ?_
      clear hK K
      refine held_take 9 13 (v := ?_) rfl rfl (by kernel_rfl) (by kernel_rfl) (by kernel_rfl) (fun _ _ _ h => h) (by rfl) ?_ rfl ?_
      rotate_left
      · (intro w hSw; (try dsimp only at hSw); subst hSw; have c0 := H.out.six; have c2 := H.out.len;try simp only [List.getElem_toArray, List.getElem_cons_zero, List.getElem_cons_succ]; go_simp; try (with_reducible rfl))
      try simp only [List.setIfInBounds_toArray, List.set_cons_zero, List.set_cons_succ]
      refine held_take 10 14 (v := ?_) rfl rfl (by kernel_rfl) (by kernel_rfl) (by kernel_rfl) (fun _ _ _ h => h) (by rfl) ?_ rfl ?_
      rotate_left
      · (intro w hSw; (try dsimp only at hSw); subst hSw; have c0 := H.out.six; have c2 := H.out.len;try simp only [List.getElem_toArray, List.getElem_cons_zero, List.getElem_cons_succ]; go_simp; try (with_reducible rfl))
      try simp only [List.setIfInBounds_toArray, List.set_cons_zero, List.set_cons_succ]
      refine wpAnyH_done (by kernel_rfl) ?_ _
      go_wp2
      go_ret
      rw [HR.out]
      exact ⟨rfl, hb.out⟩
  · have h0' : decide (p.len < 0) = true := decide_eq_true (by omega)
    have HR := Lib.hid (rightP_no (p := p) (fun h => h0 h.1))
    clear h0
    go_enter Try.func45, Try.ntmps45
    go_upto_region 1 with fail
    have H := Lib.hid (PAt.mk (at_new w (encP p) 25 (0, 0))).drew
    have hb := Lib.hid (show Below w.heap.size w (w.alloc (.cells (encP p).toArray 25 (0, 0))).drew from ((Below.refl _ _).alloc (Nat.le_refl _) _).drew)
    generalize w.alloc _ = W at H hb ⊢
    generalize w.heap.size = B at H ⊢
    refine wp_region_held_drew (S := (fun w' => w' = W.drew)) (by kernel_rfl) rfl (fun _ => ?_)
    refine held_take 0 4 (v := ?_) rfl rfl (by kernel_rfl) (by kernel_rfl) (by kernel_rfl) (fun _ _ _ h => h) (by rfl) ?_ rfl ?_
    rotate_left
    · (intro w hSw; (try dsimp only at hSw); subst hSw; have c0 := H.out.six; have c2 := H.out.len;try simp only [List.getElem_toArray, List.getElem_cons_zero, List.getElem_cons_succ]; go_simp; try (with_reducible rfl))
    try simp only [List.setIfInBounds_toArray, List.set_cons_zero, List.set_cons_succ]
    refine held_take 1 5 (v := ?_) rfl rfl (by kernel_rfl) (by kernel_rfl) (by kernel_rfl) (fun _ _ _ h => h) (by rfl) ?_ rfl ?_
    rotate_left
    · (intro w hSw; (try dsimp only at hSw); subst hSw; have c0 := H.out.six; have c2 := H.out.len;try simp only [List.getElem_toArray, List.getElem_cons_zero, List.getElem_cons_succ]; go_simp; try (with_reducible rfl))
    try simp only [List.setIfInBounds_toArray, List.set_cons_zero, List.set_cons_succ]
    refine held_take 2 6 (v := ?_) rfl rfl (by kernel_rfl) (by kernel_rfl) (by kernel_rfl) (fun _ _ _ h => h) (by rfl) ?_ rfl ?_
    rotate_left
    · (intro w hSw; (try dsimp only at hSw); subst hSw; have c0 := H.out.six; have c2 := H.out.len;try simp only [List.getElem_toArray, List.getElem_cons_zero, List.getElem_cons_succ]; go_simp; try (with_reducible rfl))
    try simp only [List.setIfInBounds_toArray, List.set_cons_zero, List.set_cons_succ]
    refine held_take 3 7 (v := ?_) rfl rfl (by kernel_rfl) (by kernel_rfl) (by kernel_rfl) (fun _ _ _ h => h) (by rfl) ?_ rfl ?_
    rotate_left
    · (intro w hSw; (try dsimp only at hSw); subst hSw; have c0 := H.out.six; have c2 := H.out.len;try simp only [List.getElem_toArray, List.getElem_cons_zero, List.getElem_cons_succ]; go_simp; try (with_reducible rfl))
    try simp only [List.setIfInBounds_toArray, List.set_cons_zero, List.set_cons_succ]
    refine held_skip 4 8 rfl rfl (by kernel_rfl) (by kernel_rfl) (by kernel_rfl) (fun _ _ _ h => h) (by rfl) rfl ?_
    try simp only [List.setIfInBounds_toArray, List.set_cons_zero, List.set_cons_succ]
    refine held_skip 5 9 rfl rfl (by kernel_rfl) (by kernel_rfl) (by kernel_rfl) (fun _ _ _ h => h) (by rfl) rfl ?_
    try simp only [List.setIfInBounds_toArray, List.set_cons_zero, List.set_cons_succ]
    refine held_skip 6 10 rfl rfl (by kernel_rfl) (by kernel_rfl) (by kernel_rfl) (fun _ _ _ h => h) (by rfl) rfl ?_
    try simp only [List.setIfInBounds_toArray, List.set_cons_zero, List.set_cons_succ]
    refine held_skip 7 11 rfl rfl (by kernel_rfl) (by kernel_rfl) (by kernel_rfl) (fun _ _ _ h => h) (by rfl) rfl ?_
    try simp only [List.setIfInBounds_toArray, List.set_cons_zero, List.set_cons_succ]
    refine held_skip 8 12 rfl rfl (by kernel_rfl) (by kernel_rfl) (by kernel_rfl) (fun _ _ _ h => h) (by rfl) rfl ?_
    try simp only [List.setIfInBounds_toArray, List.set_cons_zero, List.set_cons_succ]
    refine held_skip 9 13 rfl rfl (by kernel_rfl) (by kernel_rfl) (by kernel_rfl) (fun _ _ _ h => h) (by rfl) rfl ?_
    try simp only [List.setIfInBounds_toArray, List.set_cons_zero, List.set_cons_succ]
    refine held_take 10 14 (v := ?_) rfl rfl (by kernel_rfl) (by kernel_rfl) (by kernel_rfl) (fun _ _ _ h => h) (by rfl) ?_ rfl ?_
    rotate_left
    · (intro w hSw; (try dsimp only at hSw); subst hSw; have c0 := H.out.six; have c2 := H.out.len;try simp only [List.getElem_toArray, List.getElem_cons_zero, List.getElem_cons_succ]; go_simp; try (with_reducible rfl))
    try simp only [List.setIfInBounds_toArray, List.set_cons_zero, List.set_cons_succ]
    refine wpAnyH_done (by kernel_rfl) ?_ _
    go_wp2
    go_ret
    rw [HR.out]
    exact ⟨rfl, hb.out⟩
end Tab
end Go.Proofs.Ytbeoclcnajfjcaa
