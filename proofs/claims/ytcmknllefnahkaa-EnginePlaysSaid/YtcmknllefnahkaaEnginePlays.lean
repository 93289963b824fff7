/-
  EnginePlays: the walk. Conditions: none.
-/
import Derived.Test.YtcmknllefnahkaaPlayQ
namespace Go.Proofs.Ytcmknllefnahkaa
open Go.RowKit FR FP H2 OW
set_option linter.unusedVariables false
set_option linter.unusedSimpArgs false
namespace EnginePlays
open Feas Eng Ref18 RefN
set_option maxRecDepth 1000000 in
set_option maxHeartbeats 40000000 in
theorem walk (id0 n0 : Int) (v : Value) (w : World) (_ : (Lit.int .i64 id0).wf = true) (_ : (Lit.int .i64 n0).wf = true) (wv : IsOps w v) : Calls Try.prog 3 #[.int .i64 id0, .int .i64 n0, v] w fun e w' => e = .returned (.bool true) ∧ Below w.heap.size w w' := by
  obtain ⟨A, m, cap, f, rfl, hm, hf⟩ := wv
  have HF := Lib.hid hf
  have HM := Lib.hid hm
  by_cases hl : (lng f m || decide (150 < m)) = true
  · have hlg : ∀ w1, Below w.heap.size w w1 → Calls Try.prog 10 #[.slice A m cap] w1 fun e w' => e = .returned (.bool true) ∧ Below w1.heap.size w1 w' := fun w1 hb => by
      have := long_is A m cap f w1 hm (hf.below hb)
      rw [hl] at this
      exact this
    have HLG := Lib.hid hlg
    clear hf hm hl hlg
    go_enter Try.func3, Try.ntmps3
    go_wp2_with (first
      | (go_at_call 9; (with_reducible refine (awake_any w).mono ?_); rintro e w1 ⟨rfl, hb⟩; have HB1 := Lib.hid hb; clear hb)
      | (go_at_call 10; (with_reducible refine (HLG.out w1 HB1.out).mono ?_); rintro e w2 ⟨rfl, hb⟩; have HB2 := Lib.hid (HB1.out.trans (hb.mono HB1.out.size)); clear hb)
      | (go_at_call 9; (with_reducible refine (awake_any w2).mono ?_); rintro e w3 ⟨rfl, hb⟩; have HB3 := Lib.hid (HB2.out.trans (hb.mono HB2.out.size)); clear hb))
    go_ret
    exact ⟨rfl, HB3.out⟩
  have hl' : (lng f m || decide (150 < m)) = false := by simpa using hl
  have hl1 : lng f m = false := (Bool.or_eq_false_iff.1 hl').1
  have HL1 := Lib.hid hl1
  have hlg : ∀ w1, Below w.heap.size w w1 → Calls Try.prog 10 #[.slice A m cap] w1 fun e w' => e = .returned (.bool false) ∧ Below w1.heap.size w1 w' := fun w1 hb => by
    have := long_is A m cap f w1 hm (hf.below hb)
    rw [hl'] at this
    exact this
  have HLG := Lib.hid hlg
  have hmm : m ≤ 9223372036854775807 := by unfold maxLen at hm; omega
  clear hf hm hl hl' hl1 hlg
  by_cases hbad : n0 < 1 ∨ 6 < n0 ∨ id0 < 0 ∨ n0 ≤ id0
  · have HNB := Lib.hid (fun w2 => new_bad id0 n0 w2 hbad)
    by_cases h1 : n0 < 1
    · clear hbad
      go_enter Try.func3, Try.ntmps3
      go_wp2_with (first
        | (go_at_call 9; (with_reducible refine (awake_any w).mono ?_); rintro e w1 ⟨rfl, hb⟩; have HB1 := Lib.hid hb; clear hb)
        | (go_at_call 10; (with_reducible refine (HLG.out w1 HB1.out).mono ?_); rintro e w2 ⟨rfl, hb⟩; have HB2 := Lib.hid (HB1.out.trans (hb.mono HB1.out.size)); clear hb)
        | (go_at_call 11; (with_reducible refine (HNB.out w2).mono ?_); rintro e w3 ⟨rfl, rfl⟩))
      go_ret
      exact ⟨rfl, HB2.out⟩
    by_cases h2 : 6 < n0
    · clear hbad
      go_enter Try.func3, Try.ntmps3
      go_wp2_with (first
        | (go_at_call 9; (with_reducible refine (awake_any w).mono ?_); rintro e w1 ⟨rfl, hb⟩; have HB1 := Lib.hid hb; clear hb)
        | (go_at_call 10; (with_reducible refine (HLG.out w1 HB1.out).mono ?_); rintro e w2 ⟨rfl, hb⟩; have HB2 := Lib.hid (HB1.out.trans (hb.mono HB1.out.size)); clear hb)
        | (go_at_call 11; (with_reducible refine (HNB.out w2).mono ?_); rintro e w3 ⟨rfl, rfl⟩))
      go_ret
      exact ⟨rfl, HB2.out⟩
    by_cases h3 : id0 < 0
    · clear hbad
      go_enter Try.func3, Try.ntmps3
      go_wp2_with (first
        | (go_at_call 9; (with_reducible refine (awake_any w).mono ?_); rintro e w1 ⟨rfl, hb⟩; have HB1 := Lib.hid hb; clear hb)
        | (go_at_call 10; (with_reducible refine (HLG.out w1 HB1.out).mono ?_); rintro e w2 ⟨rfl, hb⟩; have HB2 := Lib.hid (HB1.out.trans (hb.mono HB1.out.size)); clear hb)
        | (go_at_call 11; (with_reducible refine (HNB.out w2).mono ?_); rintro e w3 ⟨rfl, rfl⟩))
      go_ret
      exact ⟨rfl, HB2.out⟩
    · have h4 : n0 ≤ id0 := by omega
      clear hbad
      go_enter Try.func3, Try.ntmps3
      go_wp2_with (first
        | (go_at_call 9; (with_reducible refine (awake_any w).mono ?_); rintro e w1 ⟨rfl, hb⟩; have HB1 := Lib.hid hb; clear hb)
        | (go_at_call 10; (with_reducible refine (HLG.out w1 HB1.out).mono ?_); rintro e w2 ⟨rfl, hb⟩; have HB2 := Lib.hid (HB1.out.trans (hb.mono HB1.out.size)); clear hb)
        | (go_at_call 11; (with_reducible refine (HNB.out w2).mono ?_); rintro e w3 ⟨rfl, rfl⟩))
      go_ret
      exact ⟨rfl, HB2.out⟩
  obtain ⟨n, rfl⟩ : ∃ n : Nat, n0 = n := ⟨n0.toNat, by omega⟩
  obtain ⟨id, rfl⟩ : ∃ id : Nat, id0 = id := ⟨id0.toNat, by omega⟩
  have hn1 : 1 ≤ n := by omega
  have hn6 : n ≤ 6 := by omega
  have hid : id < n := by omega
  have g1 : ¬ (n : Int) < 1 := by omega
  have g2 : ¬ 6 < (n : Int) := by omega
  have g3 : ¬ (id : Int) < 0 := by omega
  have g4 : ¬ (n : Int) ≤ (id : Int) := by omega
  clear hbad
  go_enter Try.func3, Try.ntmps3
  go_wp2_with (first
    | (go_at_call 9; (with_reducible refine (awake_any w).mono ?_); rintro e w1 ⟨rfl, hb⟩; have HB1 := Lib.hid hb; clear hb)
    | (go_at_call 10; (with_reducible refine (HLG.out w1 HB1.out).mono ?_); rintro e w2 ⟨rfl, hb⟩; have HB2 := Lib.hid (HB1.out.trans (hb.mono HB1.out.size)); clear hb)
    | (go_at_call 11; (with_reducible refine (nd_new id n w w2 HB2.out hid hn6).mono ?_); rintro e w3 ⟨bx, rfl, hi, _⟩; have N3 := Lib.hid hi; clear hi)
    | (go_at_call 12; (with_reducible refine (RefN.new_any id n w3 hid hn6).mono ?_); rintro e w4 ⟨br, L0, rfl, hr, hb⟩; have N4 := Lib.hid (N3.out.keep hb); have HBS := Lib.hid N3.out.bel.size; obtain ⟨base, hbase⟩ : ∃ base, base = w3.heap.size := ⟨_, rfl⟩; rw [← hbase] at HBS hr; have R4 := Lib.hid hr; clear hr hb hbase N3))
  clear g1 g2 g3 g4
  go_loopw [64] (fun s64 wr => ∃ (i : Nat) (s : St) (L : RLay), i ≤ m ∧ s64 = .int .i64 i ∧ s.n = n ∧ Nd w wr bx s ∧ RN wr base br s L) (fun s64 _ => m - (intOf s64).toNat)
  case atStart => exact ⟨0, _, L0, by omega, rfl, rfl, N4.out, R4.out⟩
  case round =>
    obtain ⟨i, s, L, hi, rfl, hsn, hnd, hrn⟩ := hrel
    have HSN := Lib.hid hsn
    have N := Lib.hid hnd
    have R := Lib.hid hrn
    clear hsn hnd hrn N4 R4
    by_cases hlt : i < m
    · have hlt' : (i : Int) < (m : Int) := by omega
      have i0 : (0 : Int) ≤ (i : Int) := by omega
      obtain ⟨g, o, rfl, hg, x0, x1, x2, x3, x4, x5, x6⟩ := (HF.out.below N.out.bel) i hlt
      have X5 := Lib.hid (HF.out i hlt).choose_spec.choose_spec.2.2.2.2.2.2.2.1
      have x50 := lng_lt HL1.out hlt
      generalize f i = qq at x0 x1 x2 x3 x4 x5 x6 X5 x50
      obtain ⟨kk, a, bb, A', n', cap', f'⟩ := qq
      dsimp only at x0 x1 x2 x3 x4 x5 x6 X5 x50
      have X4 := Lib.hid x4
      have X6 := Lib.hid x6
      have X50 := Lib.hid x50
      clear x4 x5 x6 x50
      go_upto_region 11 with fail
      have HX := Lib.hid (heap_alloc_new wr (.cells #[.int .i64 kk, .int .i64 a, .int .i64 bb, .slice A' n' cap'] 33 (0, 0)))
      have HBW : Below w.heap.size w wr := N.out.bel
      have NW := Lib.hid (N.out.alloc (.cells #[.int .i64 kk, .int .i64 a, .int .i64 bb, .slice A' n' cap'] 33 (0, 0)))
      have RW := Lib.hid (R.out.below ((Below.refl _ _).alloc (Nat.le_refl _) (.cells #[.int .i64 kk, .int .i64 a, .int .i64 bb, .slice A' n' cap'] 33 (0, 0))))
      have HNE := Lib.hid (show wr.heap.size ≠ bx from Nat.ne_of_gt N.out.lt)
      clear HBW
      generalize wr.alloc _ = W at HX NW RW ⊢
      generalize wr.heap.size = B at HX HNE ⊢
      clear x0 x1 x2 x3 N R
      have z0 := blk_cell HX.out 0
      iterate 10 go_step
      go_cut [12, 13] (fun s12 s13 wx => ∃ (r : Int) (s2 : St) (L2 : RLay), s12 = .int .i64 r ∧ s13 = .int .i64 r ∧ s2.n = n ∧ Nd w wx bx s2 ∧ RN wx base br s2 L2)
      case first =>
        have y1 : W.cell? ⟨B, 1, none⟩ = some (.int .i64 a) := blk_cell HX.out 1
        have y2 : W.cell? ⟨B, 2, none⟩ = some (.int .i64 bb) := blk_cell HX.out 2
        have y3 : W.cell? ⟨B, 3, none⟩ = some (.slice A' n' cap') := blk_cell HX.out 3
        clear z0
        by_cases h1 : kk = 1
        · subst h1
          clear y3
          go_upto_region 13 with fail
          refine wp_region_held_drew (S := (fun w' => w'.cell? ⟨B, 1, none⟩ = some (.int .i64 a) ∧ w'.cell? ⟨B, 2, none⟩ = some (.int .i64 bb))) (by kernel_rfl) ⟨y1, y2⟩ (fun _ => ?_)
          refine held_take 0 72 (v := ?_) rfl rfl (by kernel_rfl) (by kernel_rfl) (by kernel_rfl) (fun _ _ _ h => h) (by rfl) ?_ ⟨y1, y2⟩ ?_
          rotate_left
          · (intro w hSw; (try dsimp only at hSw); try simp only [List.getElem_toArray, List.getElem_cons_zero, List.getElem_cons_succ]; go_simp; try (with_reducible rfl))
          try simp only [List.setIfInBounds_toArray, List.set_cons_zero, List.set_cons_succ]
          refine held_take 1 73 (v := ?_) rfl rfl (by kernel_rfl) (by kernel_rfl) (by kernel_rfl) (fun _ _ _ h => h) (by rfl) ?_ ⟨y1, y2⟩ ?_
          rotate_left
          · (intro w hSw; (try dsimp only at hSw); try simp only [List.getElem_toArray, List.getElem_cons_zero, List.getElem_cons_succ]; go_simp; try (with_reducible rfl))
          try simp only [List.setIfInBounds_toArray, List.set_cons_zero, List.set_cons_succ]
          refine held_take 2 74 (v := ?_) rfl rfl (by kernel_rfl) (by kernel_rfl) (by kernel_rfl) (fun _ _ _ h => h) (by rfl) ?_ ⟨y1, y2⟩ ?_
          rotate_left
          · (intro w hSw; (try dsimp only at hSw); try simp only [List.getElem_toArray, List.getElem_cons_zero, List.getElem_cons_succ]; go_simp; try (with_reducible rfl))
          try simp only [List.setIfInBounds_toArray, List.set_cons_zero, List.set_cons_succ]
          refine held_take 3 75 (v := ?_) rfl rfl (by kernel_rfl) (by kernel_rfl) (by kernel_rfl) (fun _ _ _ h => h) (by rfl) ?_ ⟨y1, y2⟩ ?_
          rotate_left
          · (intro w hSw; (try dsimp only at hSw); try simp only [List.getElem_toArray, List.getElem_cons_zero, List.getElem_cons_succ]; go_simp; try (with_reducible rfl))
          try simp only [List.setIfInBounds_toArray, List.set_cons_zero, List.set_cons_succ]
          refine held_take 4 76 (v := ?_) rfl rfl (by kernel_rfl) (by kernel_rfl) (by kernel_rfl) (fun _ _ _ h => h) (by rfl) ?_ ⟨y1, y2⟩ ?_
          rotate_left
          · (intro w hSw; (try dsimp only at hSw); try simp only [List.getElem_toArray, List.getElem_cons_zero, List.getElem_cons_succ]; go_simp; try (with_reducible rfl))
          try simp only [List.setIfInBounds_toArray, List.set_cons_zero, List.set_cons_succ]
          refine held_take 6 78 (v := ?_) rfl rfl (by kernel_rfl) (by kernel_rfl) (by kernel_rfl) (fun _ _ _ h => h) (by rfl) ?_ ⟨y1, y2⟩ ?_
          rotate_left
          · (intro w hSw; (try dsimp only at hSw); try simp only [List.getElem_toArray, List.getElem_cons_zero, List.getElem_cons_succ]; go_simp; try (with_reducible rfl))
          try simp only [List.setIfInBounds_toArray, List.set_cons_zero, List.set_cons_succ]
          refine held_take 7 79 (v := ?_) rfl rfl (by kernel_rfl) (by kernel_rfl) (by kernel_rfl) (fun _ _ _ h => h) (by rfl) ?_ ⟨y1, y2⟩ ?_
          rotate_left
          · (intro w hSw; (try dsimp only at hSw); try simp only [List.getElem_toArray, List.getElem_cons_zero, List.getElem_cons_succ]; go_simp; try (with_reducible rfl))
          try simp only [List.setIfInBounds_toArray, List.set_cons_zero, List.set_cons_succ]
          refine held_take 8 80 (v := ?_) rfl rfl (by kernel_rfl) (by kernel_rfl) (by kernel_rfl) (fun _ _ _ h => h) (by rfl) ?_ ⟨y1, y2⟩ ?_
          rotate_left
          · (intro w hSw; (try dsimp only at hSw); try simp only [List.getElem_toArray, List.getElem_cons_zero, List.getElem_cons_succ]; go_simp; try (with_reducible rfl))
          try simp only [List.setIfInBounds_toArray, List.set_cons_zero, List.set_cons_succ]
          refine held_take 9 81 (v := ?_) rfl rfl (by kernel_rfl) (by kernel_rfl) (by kernel_rfl) (fun _ _ _ h => h) (by rfl) ?_ ⟨y1, y2⟩ ?_
          rotate_left
          · (intro w hSw; (try dsimp only at hSw); try simp only [List.getElem_toArray, List.getElem_cons_zero, List.getElem_cons_succ]; go_simp; try (with_reducible rfl))
          try simp only [List.setIfInBounds_toArray, List.set_cons_zero, List.set_cons_succ]
          refine held_take 10 82 (v := ?_) rfl rfl (by kernel_rfl) (by kernel_rfl) (by kernel_rfl) (fun _ _ _ h => h) (by rfl) ?_ ⟨y1, y2⟩ ?_
          rotate_left
          · (intro w hSw; (try dsimp only at hSw); try simp only [List.getElem_toArray, List.getElem_cons_zero, List.getElem_cons_succ]; go_simp; try (with_reducible rfl))
          try simp only [List.setIfInBounds_toArray, List.set_cons_zero, List.set_cons_succ]
          refine held_call 5 77 rfl rfl (by kernel_rfl) (by rfl) (fun K hK => ?_)
          try simp only [List.getElem_toArray, List.getElem_cons_zero, List.getElem_cons_succ]
          go_simp
          (go_at_call 13; (with_reducible refine (nd_link (nd_drew NW.out) a bb).mono ?_); rintro e w4 ⟨rfl, hn4, ho4⟩; have N4 := Lib.hid hn4; have R4 := Lib.hid (RW.out.drew.nd NW.out.isn.drew ho4); have HX4 := Lib.hid ((ho4.block B (blk_lt HX.out) HNE.out).trans HX.out); have y1 : w4.cell? ⟨B, 1, none⟩ = some (.int .i64 a) := blk_cell HX4.out 1; have y2 : w4.cell? ⟨B, 2, none⟩ = some (.int .i64 bb) := blk_cell HX4.out 2; clear hn4 ho4)
          try go_wp2_with fail
          try simp only [Act.put, List.setIfInBounds_toArray, List.set_cons_zero, List.set_cons_succ]
          refine hK.out _ _ _ ⟨y1, y2⟩ ?_
          clear hK K
          refine held_call 11 83 rfl rfl (by kernel_rfl) (by rfl) (fun K hK => ?_)
          try simp only [List.getElem_toArray, List.getElem_cons_zero, List.getElem_cons_succ]
          go_simp
          (go_at_call 14; (with_reducible refine (RefN.link_any a bb w4 R4.out).mono ?_); rintro e w5 ⟨rfl, hr5, ho5⟩; have R5 := Lib.hid hr5; have N5 := Lib.hid (nd_ref N4.out ho5 HBS.out); have HX5 := Lib.hid (ho5.typ.obj HX4.out (by unfold refT; decide)); have y1 : w5.cell? ⟨B, 1, none⟩ = some (.int .i64 a) := blk_cell HX5.out 1; have y2 : w5.cell? ⟨B, 2, none⟩ = some (.int .i64 bb) := blk_cell HX5.out 2; clear hr5 ho5)
          try go_wp2_with fail
          try simp only [Act.put, List.setIfInBounds_toArray, List.set_cons_zero, List.set_cons_succ]
          refine hK.out _ _ _ ⟨y1, y2⟩ ?_
          clear hK K
          refine held_take 12 12 (v := ?_) rfl rfl (by kernel_rfl) (by kernel_rfl) (by kernel_rfl) (fun _ _ _ h => h) (by rfl) ?_ ⟨y1, y2⟩ ?_
          rotate_left
          · (intro w hSw; (try dsimp only at hSw); try simp only [List.getElem_toArray, List.getElem_cons_zero, List.getElem_cons_succ]; go_simp; try (with_reducible rfl))
          try simp only [List.setIfInBounds_toArray, List.set_cons_zero, List.set_cons_succ]
          refine held_take 13 13 (v := ?_) rfl rfl (by kernel_rfl) (by kernel_rfl) (by kernel_rfl) (fun _ _ _ h => h) (by rfl) ?_ ⟨y1, y2⟩ ?_
          rotate_left
          · (intro w hSw; (try dsimp only at hSw); try simp only [List.getElem_toArray, List.getElem_cons_zero, List.getElem_cons_succ]; go_simp; try (with_reducible rfl))
          try simp only [List.setIfInBounds_toArray, List.set_cons_zero, List.set_cons_succ]
          refine wpAnyH_done (by kernel_rfl) ?_ _
          go_wp2
          go_meet
          case rel => exact ⟨_, _, L, rfl, rfl, (link_same s a bb).2.1.trans HSN.out, N5.out, R5.out⟩
        clear y2
        by_cases h2 : kk = 2
        · subst h2
          have hrd : RdO W A' n' f' := X5.out.below NW.out.bel
          have HRD := Lib.hid hrd
          have HNN := Lib.hid (fun (e : A' = none) => show n' = 0 from by
            rcases Nat.eq_zero_or_pos n' with h | h
            · exact h
            · obtain ⟨g, o, e', _⟩ := X5.out 0 h
              rw [e] at e'
              cases e')
          have NBIG := Lib.hid (show n' ≤ 1000000 from Nat.le_trans X50.out (by decide))
          clear hrd
          go_upto_region 15 with fail
          refine wp_region_held_drew (S := (fun w' => w'.cell? ⟨B, 1, none⟩ = some (.int .i64 a) ∧ w'.cell? ⟨B, 3, none⟩ = some (.slice A' n' cap'))) (by kernel_rfl) ⟨y1, y3⟩ (fun _ => ?_)
          refine held_take 0 86 (v := ?_) rfl rfl (by kernel_rfl) (by kernel_rfl) (by kernel_rfl) (fun _ _ _ h => h) (by rfl) ?_ ⟨y1, y3⟩ ?_
          rotate_left
          · (intro w hSw; (try dsimp only at hSw); try simp only [List.getElem_toArray, List.getElem_cons_zero, List.getElem_cons_succ]; go_simp; try (with_reducible rfl))
          try simp only [List.setIfInBounds_toArray, List.set_cons_zero, List.set_cons_succ]
          refine held_take 1 87 (v := ?_) rfl rfl (by kernel_rfl) (by kernel_rfl) (by kernel_rfl) (fun _ _ _ h => h) (by rfl) ?_ ⟨y1, y3⟩ ?_
          rotate_left
          · (intro w hSw; (try dsimp only at hSw); try simp only [List.getElem_toArray, List.getElem_cons_zero, List.getElem_cons_succ]; go_simp; try (with_reducible rfl))
          try simp only [List.setIfInBounds_toArray, List.set_cons_zero, List.set_cons_succ]
          refine held_take 2 88 (v := ?_) rfl rfl (by kernel_rfl) (by kernel_rfl) (by kernel_rfl) (fun _ _ _ h => h) (by rfl) ?_ ⟨y1, y3⟩ ?_
          rotate_left
          · (intro w hSw; (try dsimp only at hSw); try simp only [List.getElem_toArray, List.getElem_cons_zero, List.getElem_cons_succ]; go_simp; try (with_reducible rfl))
          try simp only [List.setIfInBounds_toArray, List.set_cons_zero, List.set_cons_succ]
          refine held_take 4 90 (v := ?_) rfl rfl (by kernel_rfl) (by kernel_rfl) (by kernel_rfl) (fun _ _ _ h => h) (by rfl) ?_ ⟨y1, y3⟩ ?_
          rotate_left
          · (intro w hSw; (try dsimp only at hSw); try simp only [List.getElem_toArray, List.getElem_cons_zero, List.getElem_cons_succ]; go_simp; try (with_reducible rfl))
          try simp only [List.setIfInBounds_toArray, List.set_cons_zero, List.set_cons_succ]
          refine held_take 5 91 (v := ?_) rfl rfl (by kernel_rfl) (by kernel_rfl) (by kernel_rfl) (fun _ _ _ h => h) (by rfl) ?_ ⟨y1, y3⟩ ?_
          rotate_left
          · (intro w hSw; (try dsimp only at hSw); try simp only [List.getElem_toArray, List.getElem_cons_zero, List.getElem_cons_succ]; go_simp; try (with_reducible rfl))
          try simp only [List.setIfInBounds_toArray, List.set_cons_zero, List.set_cons_succ]
          refine held_take 8 94 (v := ?_) rfl rfl (by kernel_rfl) (by kernel_rfl) (by kernel_rfl) (fun _ _ _ h => h) (by rfl) ?_ ⟨y1, y3⟩ ?_
          rotate_left
          · (intro w hSw; (try dsimp only at hSw); try simp only [List.getElem_toArray, List.getElem_cons_zero, List.getElem_cons_succ]; go_simp; try (with_reducible rfl))
          try simp only [List.setIfInBounds_toArray, List.set_cons_zero, List.set_cons_succ]
          refine held_take 9 95 (v := ?_) rfl rfl (by kernel_rfl) (by kernel_rfl) (by kernel_rfl) (fun _ _ _ h => h) (by rfl) ?_ ⟨y1, y3⟩ ?_
          rotate_left
          · (intro w hSw; (try dsimp only at hSw); try simp only [List.getElem_toArray, List.getElem_cons_zero, List.getElem_cons_succ]; go_simp; try (with_reducible rfl))
          try simp only [List.setIfInBounds_toArray, List.set_cons_zero, List.set_cons_succ]
          refine held_take 10 96 (v := ?_) rfl rfl (by kernel_rfl) (by kernel_rfl) (by kernel_rfl) (fun _ _ _ h => h) (by rfl) ?_ ⟨y1, y3⟩ ?_
          rotate_left
          · (intro w hSw; (try dsimp only at hSw); try simp only [List.getElem_toArray, List.getElem_cons_zero, List.getElem_cons_succ]; go_simp; try (with_reducible rfl))
          try simp only [List.setIfInBounds_toArray, List.set_cons_zero, List.set_cons_succ]
          refine held_take 11 97 (v := ?_) rfl rfl (by kernel_rfl) (by kernel_rfl) (by kernel_rfl) (fun _ _ _ h => h) (by rfl) ?_ ⟨y1, y3⟩ ?_
          rotate_left
          · (intro w hSw; (try dsimp only at hSw); try simp only [List.getElem_toArray, List.getElem_cons_zero, List.getElem_cons_succ]; go_simp; try (with_reducible rfl))
          try simp only [List.setIfInBounds_toArray, List.set_cons_zero, List.set_cons_succ]
          refine held_take 12 98 (v := ?_) rfl rfl (by kernel_rfl) (by kernel_rfl) (by kernel_rfl) (fun _ _ _ h => h) (by rfl) ?_ ⟨y1, y3⟩ ?_
          rotate_left
          · (intro w hSw; (try dsimp only at hSw); try simp only [List.getElem_toArray, List.getElem_cons_zero, List.getElem_cons_succ]; go_simp; try (with_reducible rfl))
          try simp only [List.setIfInBounds_toArray, List.set_cons_zero, List.set_cons_succ]
          refine held_call 3 89 rfl rfl (by kernel_rfl) (by rfl) (fun K hK => ?_)
          try simp only [List.getElem_toArray, List.getElem_cons_zero, List.getElem_cons_succ]
          (go_simp; have HV3 := Lib.hid (row_zero W); have HB3 := Lib.hid (show Below W.heap.size W ((W.alloc (.cells #[] 71 (0, 0))).drew) from ((Below.refl W.heap.size W).alloc (Nat.le_refl _) _).drew); generalize (W.alloc (.cells #[] 71 (0, 0))).drew = W3 at HV3 HB3 ⊢; have HX3 := Lib.hid ((HB3.out.block B (blk_lt HX.out)).trans HX.out); have y1 : W3.cell? ⟨B, 1, none⟩ = some (.int .i64 a) := blk_cell HX3.out 1; have y3 : W3.cell? ⟨B, 3, none⟩ = some (.slice A' n' cap') := blk_cell HX3.out 3)
          try simp only [Act.put, List.setIfInBounds_toArray, List.set_cons_zero, List.set_cons_succ]
          refine hK.out _ _ _ ⟨y1, y3⟩ ?_
          clear hK K
          refine held_call 6 92 rfl rfl (by kernel_rfl) (by rfl) (fun K hK => ?_)
          try simp only [List.getElem_toArray, List.getElem_cons_zero, List.getElem_cons_succ]
          (refine wp_app_offers W3 (.tmp 89) (.tmp 91) rfl W.heap.size _ rfl HV3.out A' n' cap' f' rfl (HRD.out.below HB3.out) X50.out HNN.out HB3.out.size ?_; intro v6 w6 hown6 hgrow6; have HB6 := Lib.hid (app_bel HV3.out hgrow6 HB3.out (Nat.le_refl _)); obtain ⟨A6, c6, rfl, _, hr6, hg6⟩ := rdO_own hown6; have HR6 := Lib.hid hr6; have HG6 := Lib.hid hg6; have HX6 := Lib.hid ((HB6.out.block B (blk_lt HX.out)).trans HX.out); clear hown6 hgrow6 hr6 hg6; have y1 : w6.cell? ⟨B, 1, none⟩ = some (.int .i64 a) := blk_cell HX6.out 1; have y3 : w6.cell? ⟨B, 3, none⟩ = some (.slice A' n' cap') := blk_cell HX6.out 3)
          try simp only [Act.put, List.setIfInBounds_toArray, List.set_cons_zero, List.set_cons_succ]
          refine hK.out _ _ _ ⟨y1, y3⟩ ?_
          clear hK K
          refine held_call 7 93 rfl rfl (by kernel_rfl) (by rfl) (fun K hK => ?_)
          try simp only [List.getElem_toArray, List.getElem_cons_zero, List.getElem_cons_succ]
          go_simp
          (go_at_call 15; (with_reducible refine (nd_hear (NW.out.keep HB6.out) a A6 n' c6 f' X4.out HR6.out X6.out (fun _ g o e => Nat.ne_of_gt (Nat.lt_of_lt_of_le NW.out.lt (HG6.out g o e).1))).mono ?_); rintro e w7 ⟨rfl, hn7, ho7⟩; have N7 := Lib.hid hn7; have R7 := Lib.hid ((RW.out.below HB6.out).nd (NW.out.keep HB6.out).isn ho7); have HX7 := Lib.hid ((ho7.block B (blk_lt HX6.out) HNE.out).trans HX6.out); clear hn7 ho7; have y1 : w7.cell? ⟨B, 1, none⟩ = some (.int .i64 a) := blk_cell HX7.out 1; have y3 : w7.cell? ⟨B, 3, none⟩ = some (.slice A' n' cap') := blk_cell HX7.out 3)
          try go_wp2_with fail
          try simp only [Act.put, List.setIfInBounds_toArray, List.set_cons_zero, List.set_cons_succ]
          refine hK.out _ _ _ ⟨y1, y3⟩ ?_
          clear hK K
          refine held_call 13 99 rfl rfl (by kernel_rfl) (by rfl) (fun K hK => ?_)
          try simp only [List.getElem_toArray, List.getElem_cons_zero, List.getElem_cons_succ]
          go_simp
          (go_at_call 17; (with_reducible refine (offers_any A' n' cap' f' w7 NBIG.out (X5.out.below N7.out.bel)).mono ?_); rintro e w8 ⟨⟨v8, rfl, hv8⟩, hb8⟩; obtain ⟨A8, c8, rfl, _, _, _⟩ := rdO_ref hv8; have HV8 := Lib.hid hv8; have N8 := Lib.hid (N7.out.keep hb8); have R8 := Lib.hid (R7.out.below hb8); have HX8 := Lib.hid ((hb8.block B (blk_lt HX7.out)).trans HX7.out); clear hv8 hb8; have y1 : w8.cell? ⟨B, 1, none⟩ = some (.int .i64 a) := blk_cell HX8.out 1; have y3 : w8.cell? ⟨B, 3, none⟩ = some (.slice A' n' cap') := blk_cell HX8.out 3)
          try go_wp2_with fail
          try simp only [Act.put, List.setIfInBounds_toArray, List.set_cons_zero, List.set_cons_succ]
          refine hK.out _ _ _ ⟨y1, y3⟩ ?_
          clear hK K
          refine held_call 14 100 rfl rfl (by kernel_rfl) (by rfl) (fun K hK => ?_)
          try simp only [List.getElem_toArray, List.getElem_cons_zero, List.getElem_cons_succ]
          go_simp
          (go_at_call 16; (with_reducible refine (RefN.hear_any (bo := w7.heap.size) a A8 n' c8 f' w8 R8.out NBIG.out HV8.out X6.out).mono ?_); rintro e w9 ⟨rfl, hr9, ho9⟩; have R9 := Lib.hid hr9; have N9 := Lib.hid (nd_ref N8.out ho9 HBS.out); have HX9 := Lib.hid (ho9.typ.obj HX8.out (by unfold refT; decide)); clear hr9 ho9; have y1 : w9.cell? ⟨B, 1, none⟩ = some (.int .i64 a) := blk_cell HX9.out 1; have y3 : w9.cell? ⟨B, 3, none⟩ = some (.slice A' n' cap') := blk_cell HX9.out 3)
          try go_wp2_with fail
          try simp only [Act.put, List.setIfInBounds_toArray, List.set_cons_zero, List.set_cons_succ]
          refine hK.out _ _ _ ⟨y1, y3⟩ ?_
          clear hK K
          refine held_take 15 12 (v := ?_) rfl rfl (by kernel_rfl) (by kernel_rfl) (by kernel_rfl) (fun _ _ _ h => h) (by rfl) ?_ ⟨y1, y3⟩ ?_
          rotate_left
          · (intro w hSw; (try dsimp only at hSw); try simp only [List.getElem_toArray, List.getElem_cons_zero, List.getElem_cons_succ]; go_simp; try (with_reducible rfl))
          try simp only [List.setIfInBounds_toArray, List.set_cons_zero, List.set_cons_succ]
          refine held_take 16 13 (v := ?_) rfl rfl (by kernel_rfl) (by kernel_rfl) (by kernel_rfl) (fun _ _ _ h => h) (by rfl) ?_ ⟨y1, y3⟩ ?_
          rotate_left
          · (intro w hSw; (try dsimp only at hSw); try simp only [List.getElem_toArray, List.getElem_cons_zero, List.getElem_cons_succ]; go_simp; try (with_reducible rfl))
          try simp only [List.setIfInBounds_toArray, List.set_cons_zero, List.set_cons_succ]
          refine wpAnyH_done (by kernel_rfl) ?_ _
          go_wp2
          go_meet
          case rel => exact ⟨_, _, L, rfl, rfl, (hear_same s a f' n').2.trans HSN.out, N9.out, R9.out⟩
        by_cases h3 : kk = 3
        · subst h3
          have ntt : tln s a ≤ maxLen := by have := tln_le s a; have := HSN.out; unfold maxLen; omega
          have NTT := Lib.hid ntt
          have nt6 : tln s a ≤ 1000000 := by have := tln_le s a; have := HSN.out; omega
          have NT6 := Lib.hid nt6
          clear ntt nt6
          go_wp2_with (first
            | (go_at_call 18; (with_reducible refine (tell_p NW.out a).mono ?_); rintro e w4 ⟨⟨v4, rfl, hv4⟩, hn4, ho4⟩; have HV4 := Lib.hid hv4; have N4 := Lib.hid hn4; have R4 := Lib.hid (RW.out.nd NW.out.isn ho4); have HX4 := Lib.hid ((ho4.block B (blk_lt HX.out) HNE.out).trans HX.out); have y1 : w4.cell? ⟨B, 1, none⟩ = some (.int .i64 a) := blk_cell HX4.out 1; clear hn4 ho4 hv4)
            | (go_at_call 19; (with_reducible refine (tell_r a w4 R4.out NW.out.wf).mono ?_); rintro e w5 ⟨⟨v5, rfl, hv5⟩, hr5, ho5⟩; have HV5 := Lib.hid hv5; have R5 := Lib.hid hr5; have N5 := Lib.hid (nd_ref N4.out ho5 HBS.out); obtain ⟨A4, c4, rfl, _, hr4, _⟩ := rdO_own (ho5.typ.own HV4.out (by unfold refT; decide)); have HR4 := Lib.hid hr4; obtain ⟨A5, c5, rfl, _, hro5, _⟩ := rdO_ref HV5.out; have HR5 := Lib.hid hro5; clear hr5 ho5 hv5 hr4 hro5)
            | (go_at_call 17; (with_reducible refine (offers_any A4 (tln s a) c4 _ w5 NT6.out HR4.out).mono ?_); rintro e w6 ⟨⟨v6, rfl, hv6⟩, hb6⟩; obtain ⟨A6, c6, rfl, _, hr6, _⟩ := rdO_ref hv6; have HR6 := Lib.hid hr6; have HR5b := Lib.hid (HR5.out.below hb6); have N6 := Lib.hid (N5.out.keep hb6); have R6 := Lib.hid (R5.out.below hb6); clear hv6 hr6 hb6)
            | (go_at_call 20; (with_reducible refine (same_yes A6 A5 (tln s a) c6 c5 _ w6 NTT.out HR6.out HR5b.out).mono ?_); rintro e w7 ⟨rfl, hb7⟩; have N7 := Lib.hid (N6.out.keep hb7); have R7 := Lib.hid (R6.out.below hb7); clear hb7))
          go_meet
          case rel => exact ⟨_, _, L, rfl, rfl, (tl_same s a).trans HSN.out, N7.out, R7.out⟩
        clear y1 y3
        by_cases h4 : kk = 4
        · subst h4
          go_wp2_with (first
            | (go_at_call 21; (with_reducible refine (fresh_p NW.out).mono ?_); rintro e w4 ⟨rfl, hn4, ho4⟩; have N4 := Lib.hid hn4; have R4 := Lib.hid (RW.out.nd NW.out.isn ho4); clear hn4 ho4)
            | (go_at_call 22; (with_reducible refine (fresh_r w4 R4.out NW.out.wf).mono ?_); rintro e w5 ⟨rfl, hr5, ho5⟩; have R5 := Lib.hid hr5; have N5 := Lib.hid (nd_ref N4.out ho5 HBS.out); clear hr5 ho5))
          go_meet
          case rel => exact ⟨_, _, L, rfl, rfl, (frs_same s).trans HSN.out, N5.out, R5.out⟩
        by_cases h5 : kk = 5
        · subst h5
          go_wp2_with (first
            | (go_at_call 23; (with_reducible refine (clear_p NW.out).mono ?_); rintro e w4 ⟨rfl, hn4, ho4⟩; have N4 := Lib.hid hn4; have R4 := Lib.hid (RW.out.nd NW.out.isn ho4); clear hn4 ho4)
            | (go_at_call 24; (with_reducible refine (RefN.restart_any w4 R4.out.rb).mono ?_); rintro e w5 ⟨rfl, ⟨L5, hr5⟩, ho5⟩; have R5 := Lib.hid hr5; have N5 := Lib.hid (nd_ref N4.out ho5 HBS.out); clear hr5 ho5))
          go_meet
          case rel => exact ⟨_, s.clear, L5, rfl, rfl, HSN.out, N5.out, R5.out⟩
        have e1 : (kk == 1) = false := by simpa using h1
        have e2 : (kk == 2) = false := by simpa using h2
        have e3 : (kk == 3) = false := by simpa using h3
        have e4 : (kk == 4) = false := by simpa using h4
        have e5 : (kk == 5) = false := by simpa using h5
        clear h1 h2 h3 h4 h5
        go_wp2
        go_meet
        case rel => exact ⟨_, _, L, rfl, rfl, HSN.out, NW.out, RW.out⟩
      case rest =>
        obtain ⟨r, s2, L2, rfl, rfl, hs2, hn2, hr2⟩ := hcut
        have HS2 := Lib.hid hs2
        have N2 := Lib.hid hn2
        have R2 := Lib.hid hr2
        clear hs2 hn2 hr2 NW RW HX HNE z0 HSN
        have hrr : (r != r) = false := by simp
        have hqq : (s2.seq != s2.seq) = false := by simp
        have c5 : wc.cell? ⟨br, 5, none⟩ = some (.int .u32 s2.seq) := R2.out.at.2.2.2.2.2
        go_upto_region 28 with fail
        refine wp_region_held_drew (S := (fun w' => w'.cell? ⟨br, 5, none⟩ = some (.int .u32 s2.seq))) (by kernel_rfl) c5 (fun _ => ?_)
        refine held_take 0 135 (v := ?_) rfl rfl (by kernel_rfl) (by kernel_rfl) (by kernel_rfl) (fun _ _ _ h => h) (by rfl) ?_ c5 ?_
        rotate_left
        · (intro w hSw; (try dsimp only at hSw); try simp only [List.getElem_toArray, List.getElem_cons_zero, List.getElem_cons_succ]; go_simp; try (with_reducible rfl))
        try simp only [List.setIfInBounds_toArray, List.set_cons_zero, List.set_cons_succ]
        refine held_take 1 136 (v := ?_) rfl rfl (by kernel_rfl) (by kernel_rfl) (by kernel_rfl) (fun _ _ _ h => h) (by rfl) ?_ c5 ?_
        rotate_left
        · (intro w hSw; (try dsimp only at hSw); try simp only [List.getElem_toArray, List.getElem_cons_zero, List.getElem_cons_succ]; go_simp; try (with_reducible rfl))
        try simp only [List.setIfInBounds_toArray, List.set_cons_zero, List.set_cons_succ]
        refine held_take 2 137 (v := ?_) rfl rfl (by kernel_rfl) (by kernel_rfl) (by kernel_rfl) (fun _ _ _ h => h) (by rfl) ?_ c5 ?_
        rotate_left
        · (intro w hSw; (try dsimp only at hSw); try simp only [List.getElem_toArray, List.getElem_cons_zero, List.getElem_cons_succ]; go_simp; try (with_reducible rfl))
        try simp only [List.setIfInBounds_toArray, List.set_cons_zero, List.set_cons_succ]
        refine held_take 3 138 (v := ?_) rfl rfl (by kernel_rfl) (by kernel_rfl) (by kernel_rfl) (fun _ _ _ h => h) (by rfl) ?_ c5 ?_
        rotate_left
        · (intro w hSw; (try dsimp only at hSw); try simp only [List.getElem_toArray, List.getElem_cons_zero, List.getElem_cons_succ]; go_simp; try (with_reducible rfl))
        try simp only [List.setIfInBounds_toArray, List.set_cons_zero, List.set_cons_succ]
        refine held_take 4 139 (v := ?_) rfl rfl (by kernel_rfl) (by kernel_rfl) (by kernel_rfl) (fun _ _ _ h => h) (by rfl) ?_ c5 ?_
        rotate_left
        · (intro w hSw; (try dsimp only at hSw); try simp only [List.getElem_toArray, List.getElem_cons_zero, List.getElem_cons_succ]; go_simp; try (with_reducible rfl))
        try simp only [List.setIfInBounds_toArray, List.set_cons_zero, List.set_cons_succ]
        refine held_take 6 141 (v := ?_) rfl rfl (by kernel_rfl) (by kernel_rfl) (by kernel_rfl) (fun _ _ _ h => h) (by rfl) ?_ c5 ?_
        rotate_left
        · (intro w hSw; (try dsimp only at hSw); try simp only [List.getElem_toArray, List.getElem_cons_zero, List.getElem_cons_succ]; go_simp; try (with_reducible rfl))
        try simp only [List.setIfInBounds_toArray, List.set_cons_zero, List.set_cons_succ]
        refine held_take 7 142 (v := ?_) rfl rfl (by kernel_rfl) (by kernel_rfl) (by kernel_rfl) (fun _ _ _ h => h) (by rfl) ?_ c5 ?_
        rotate_left
        · (intro w hSw; (try dsimp only at hSw); try simp only [List.getElem_toArray, List.getElem_cons_zero, List.getElem_cons_succ]; go_simp; try (with_reducible rfl))
        try simp only [List.setIfInBounds_toArray, List.set_cons_zero, List.set_cons_succ]
        refine held_take 8 143 (v := ?_) rfl rfl (by kernel_rfl) (by kernel_rfl) (by kernel_rfl) (fun _ _ _ h => h) (by rfl) ?_ c5 ?_
        rotate_left
        · (intro w hSw; (try dsimp only at hSw); try simp only [List.getElem_toArray, List.getElem_cons_zero, List.getElem_cons_succ]; go_simp; try (with_reducible rfl))
        try simp only [List.setIfInBounds_toArray, List.set_cons_zero, List.set_cons_succ]
        refine held_take 9 144 (v := ?_) rfl rfl (by kernel_rfl) (by kernel_rfl) (by kernel_rfl) (fun _ _ _ h => h) (by rfl) ?_ c5 ?_
        rotate_left
        · (intro w hSw; (try dsimp only at hSw); try simp only [List.getElem_toArray, List.getElem_cons_zero, List.getElem_cons_succ]; go_simp; try (with_reducible rfl))
        try simp only [List.setIfInBounds_toArray, List.set_cons_zero, List.set_cons_succ]
        refine held_call 5 140 rfl rfl (by kernel_rfl) (by rfl) (fun K hK => ?_)
        try simp only [List.getElem_toArray, List.getElem_cons_zero, List.getElem_cons_succ]
        go_simp
        (go_at_call 25; (with_reducible refine (Eng.seq_any bx s2 _ N2.out.isn.drew).mono ?_); rintro e w' ⟨rfl, rfl⟩)
        try go_wp2_with fail
        try simp only [Act.put, List.setIfInBounds_toArray, List.set_cons_zero, List.set_cons_succ]
        refine hK.out _ _ _ c5 ?_
        clear hK K
        refine held_take 10 145 (v := ?_) rfl rfl (by kernel_rfl) (by kernel_rfl) (by kernel_rfl) (fun _ _ _ h => h) (by rfl) ?_ c5 ?_
        rotate_left
        · (intro w hSw; (try dsimp only at hSw); try simp only [List.getElem_toArray, List.getElem_cons_zero, List.getElem_cons_succ]; go_simp; try (with_reducible rfl))
        try simp only [List.setIfInBounds_toArray, List.set_cons_zero, List.set_cons_succ]
        refine held_take 11 146 (v := ?_) rfl rfl (by kernel_rfl) (by kernel_rfl) (by kernel_rfl) (fun _ _ _ h => h) (by rfl) ?_ c5 ?_
        rotate_left
        · (intro w hSw; (try dsimp only at hSw); try simp only [List.getElem_toArray, List.getElem_cons_zero, List.getElem_cons_succ]; go_simp; try (with_reducible rfl))
        try simp only [List.setIfInBounds_toArray, List.set_cons_zero, List.set_cons_succ]
        refine wpAnyH_done (by kernel_rfl) ?_ _
        clear hrr hqq c5
        go_wp2
        have N3 := Lib.hid (nd_drew N2.out)
        have R3 := Lib.hid R2.out.drew
        clear N2 R2
        go_loopw [17] (fun s17 wr => ∃ d : Int, -1 ≤ d ∧ d ≤ n + 1 ∧ s17 = .int .i64 d ∧ Nd w wr bx s2 ∧ RN wr base br s2 L2) (fun s17 _ => ((n : Int) + 1 - intOf s17).toNat)
        case atStart => exact ⟨-1, by omega, by omega, rfl, N3.out, R3.out⟩
        case round =>
          obtain ⟨d, hd1, hd2, rfl, hnd, hrn⟩ := hrel
          have M := Lib.hid hnd
          have T := Lib.hid hrn
          clear hnd hrn N3 R3
          by_cases hdn : d ≤ n
          · obtain ⟨nx, ⟨mm, qq⟩, ok, hr⟩ : ∃ nx mq ok, s2.route d = (nx, mq, ok) := ⟨_, _, _, rfl⟩
            obtain ⟨⟨hm0, hm1⟩, hsq⟩ := route_range' s2 M.out.wf d
            have hrp := fun (w9 : World) (h : Nd w w9 bx s2) => nd_route h d
            have hrr := fun (w9 : World) (h : RN w9 base br s2 L2) => RefN.route_any d w9 h M.out.wf
            obtain ⟨⟨tm, tq⟩, htv⟩ : ∃ x, tv s2 d = x := ⟨_, rfl⟩
            have htp := fun (w9 : World) (h : Nd w w9 bx s2) => told_p h d
            obtain ⟨ht1, ht2⟩ := tv_sm s2 d M.out.wf
            rw [hr] at hrp hrr hm0 hm1 hsq
            rw [htv] at htp ht1 ht2
            dsimp only at hrp hrr hm0 hm1 hsq htp ht1 ht2
            have HSM := Lib.hid (show Sm mm from ⟨hm0, by omega⟩)
            have HSQ := Lib.hid hsq
            have HT1 := Lib.hid ht1
            have HT2 := Lib.hid ht2
            have HRP := Lib.hid hrp
            have HRR := Lib.hid hrr
            have HTP := Lib.hid htp
            have HTV := Lib.hid htv
            clear hr hrp hrr hm0 hm1 hsq htp ht1 ht2 htv
            go_upto_region 36 with (first
              | (go_at_call 26; (with_reducible refine (HRP.out _ M.out).mono ?_); rintro e w4 ⟨rfl, q4, hq4⟩; have M4 := Lib.hid (show Nd w w4 bx s2 from hq4 ▸ M.out.drewN q4); have T4 := Lib.hid (show RN w4 base br s2 L2 from hq4 ▸ T.out.below (((Only.refl (fun _ => False) wr).drewN q4).below (Nat.le_refl _) (fun _ _ e => e))); clear hq4)
              | (go_at_call 27; (with_reducible refine (HRR.out w4 T4.out).mono ?_); rintro e w5 ⟨rfl, hb5⟩; have M5 := Lib.hid (M4.out.keep hb5); have T5 := Lib.hid (T4.out.below hb5); clear hb5)
              | (go_at_call 28; ((with_reducible refine (RefN.none_any _).mono ?_); rintro e w6 ⟨rfl, hb6⟩; have HY6 := Lib.hid ((hb6.block w5.heap.size (blk_lt (heap_alloc_new w5 (.cells #[.int .i64 mm, .int .i64 qq] 59 (0, 0))))).trans (heap_alloc_new w5 _)); have M6 := Lib.hid ((M5.out.alloc (.cells #[.int .i64 mm, .int .i64 qq] 59 (0, 0))).keep hb6); have T6 := Lib.hid ((T5.out.below ((Below.refl _ _).alloc (Nat.le_refl _) (.cells #[.int .i64 mm, .int .i64 qq] 59 (0, 0)))).below hb6); clear hb6)))
            have HZ := Lib.hid (heap_alloc_new w6 (.cells #[.int .i64 65535, .int .i64 0] 59 (0, 0)))
            have hb7 : Below w6.heap.size w6 (w6.alloc (.cells #[.int .i64 65535, .int .i64 0] 59 (0, 0))) := (Below.refl _ _).alloc (Nat.le_refl _) _
            have HY := Lib.hid ((hb7.block w5.heap.size (blk_lt HY6.out)).trans HY6.out)
            have M7 := Lib.hid (M6.out.keep hb7)
            have T7 := Lib.hid (T6.out.below hb7)
            have HLT := Lib.hid (show w5.heap.size ≠ w6.heap.size from Nat.ne_of_lt (blk_lt HY6.out))
            have HW := Lib.hid (fun x y : Value => show Nd w (((w6.alloc (.cells #[.int .i64 65535, .int .i64 0] 59 (0, 0))).setCell ⟨w6.heap.size, 0, none⟩ x).setCell ⟨w6.heap.size, 1, none⟩ y) bx s2 ∧ RN (((w6.alloc (.cells #[.int .i64 65535, .int .i64 0] 59 (0, 0))).setCell ⟨w6.heap.size, 0, none⟩ x).setCell ⟨w6.heap.size, 1, none⟩ y) base br s2 L2 from
              have h := (hb7.setCell (p := ⟨w6.heap.size, 0, none⟩) (Nat.le_refl _) x).setCell (p := ⟨w6.heap.size, 1, none⟩) (Nat.le_refl _) y
              ⟨M6.out.keep h, T6.out.below h⟩)
            clear hb7 HY6 M6 T6 M5 T5 M4 T4 M T
            generalize w6.alloc _ = W7 at HZ HY M7 T7 HW ⊢
            generalize w6.heap.size = B2 at HZ HLT HW ⊢
            generalize w5.heap.size = B1 at HY HLT ⊢
            have hgu := guardD
            have hne1 := sameD mm qq
            have hne2 := sameD tm tq
            have hnx : (nx != nx) = false := by simp
            have hok : (ok != ok) = false := by simp
            have y0 : W7.cell? ⟨B1, 0, none⟩ = some (.int .i64 mm) := blk_cell HY.out 0
            have y1 : W7.cell? ⟨B1, 1, none⟩ = some (.int .i64 qq) := blk_cell HY.out 1
            by_cases h0 : 0 ≤ d
            · obtain ⟨D, rfl⟩ : ∃ D : Nat, d = D := ⟨d.toNat, by omega⟩
              by_cases hDn : D < n
              · have hDs : D < s2.n := by rw [HS2.out]; exact hDn
                have hDn' : (D : Int) < (n : Int) := by omega
                have hDs' : (D : Int) < (s2.n : Int) := by omega
                have htd : s2.told D = (tm, tq) := by
                  have e := HTV.out
                  unfold tv at e
                  rw [if_pos ⟨h0, hDs'⟩] at e
                  exact e
                have c4 : W7.cell? ⟨br, 4, none⟩ = some (.slice (some ⟨L2.f, 0, none⟩) s2.n L2.fc) := T7.out.at.2.2.2.2.1
                have k0 : W7.cell? ⟨L2.f, D * 2, none⟩ = some (.int .i64 tm) := by rw [T7.out.rb.fd.c0 hDs, htd]
                have k1 : W7.cell? ⟨L2.f, D * 2 + 1, none⟩ = some (.int .i64 tq) := by rw [T7.out.rb.fd.c1 hDs, htd]
                have z0 := blk_free HZ.out 0
                have z1 := blk_free HZ.out 1
                have z2 : W7.cell? ⟨B2, 0, none⟩ = some (.int .i64 65535) := blk_cell HZ.out 0
                have z3 : W7.cell? ⟨B2, 1, none⟩ = some (.int .i64 0) := blk_cell HZ.out 1
                clear htd
                go_upto_region 38 with fail
                obtain ⟨y2, y3⟩ := two_set (x := .int .i64 tm) (y := .int .i64 tq) HZ.out
                have y0 := cell_res y0 tm tq HLT.out
                have y1 := cell_res y1 tm tq HLT.out
                have M7b := Lib.hid (HW.out (.int .i64 tm) (.int .i64 tq)).1
                have T7b := Lib.hid (HW.out (.int .i64 tm) (.int .i64 tq)).2
                clear c4 k0 k1 z0 z1 z2 z3 HW HZ HY M7 T7
                generalize (W7.setCell _ _).setCell _ _ = W8 at y0 y1 y2 y3 M7b T7b ⊢
                refine wp_region_held_drew (S := (fun w' => (w'.cell? ⟨B1, 0, none⟩ = some (.int .i64 mm) ∧ w'.cell? ⟨B1, 1, none⟩ = some (.int .i64 qq)) ∧ w'.cell? ⟨B2, 0, none⟩ = some (.int .i64 tm) ∧ w'.cell? ⟨B2, 1, none⟩ = some (.int .i64 tq))) (by kernel_rfl) ⟨⟨y0, y1⟩, y2, y3⟩ (fun _ => ?_)
                refine held_take 0 181 (v := ?_) rfl rfl (by kernel_rfl) (by kernel_rfl) (by kernel_rfl) (fun _ _ _ h => h) (by rfl) ?_ ⟨⟨y0, y1⟩, y2, y3⟩ ?_
                rotate_left
                · (intro w hSw; (try dsimp only at hSw); obtain ⟨⟨h1, h2⟩, h3, h4⟩ := hSw;try simp only [List.getElem_toArray, List.getElem_cons_zero, List.getElem_cons_succ]; go_simp; try (with_reducible rfl))
                try simp only [List.setIfInBounds_toArray, List.set_cons_zero, List.set_cons_succ]
                refine held_take 1 182 (v := ?_) rfl rfl (by kernel_rfl) (by kernel_rfl) (by kernel_rfl) (fun _ _ _ h => h) (by rfl) ?_ ⟨⟨y0, y1⟩, y2, y3⟩ ?_
                rotate_left
                · (intro w hSw; (try dsimp only at hSw); obtain ⟨⟨h1, h2⟩, h3, h4⟩ := hSw;try simp only [List.getElem_toArray, List.getElem_cons_zero, List.getElem_cons_succ]; go_simp; try (with_reducible rfl))
                try simp only [List.setIfInBounds_toArray, List.set_cons_zero, List.set_cons_succ]
                refine held_take 2 183 (v := ?_) rfl rfl (by kernel_rfl) (by kernel_rfl) (by kernel_rfl) (fun _ _ _ h => h) (by rfl) ?_ ⟨⟨y0, y1⟩, y2, y3⟩ ?_
                rotate_left
                · (intro w hSw; (try dsimp only at hSw); obtain ⟨⟨h1, h2⟩, h3, h4⟩ := hSw;try simp only [List.getElem_toArray, List.getElem_cons_zero, List.getElem_cons_succ]; go_simp; try (with_reducible rfl))
                try simp only [List.setIfInBounds_toArray, List.set_cons_zero, List.set_cons_succ]
                refine held_take 3 184 (v := ?_) rfl rfl (by kernel_rfl) (by kernel_rfl) (by kernel_rfl) (fun _ _ _ h => h) (by rfl) ?_ ⟨⟨y0, y1⟩, y2, y3⟩ ?_
                rotate_left
                · (intro w hSw; (try dsimp only at hSw); obtain ⟨⟨h1, h2⟩, h3, h4⟩ := hSw;try simp only [List.getElem_toArray, List.getElem_cons_zero, List.getElem_cons_succ]; go_simp; try (with_reducible rfl))
                try simp only [List.setIfInBounds_toArray, List.set_cons_zero, List.set_cons_succ]
                refine held_take 4 185 (v := ?_) rfl rfl (by kernel_rfl) (by kernel_rfl) (by kernel_rfl) (fun _ _ _ h => h) (by rfl) ?_ ⟨⟨y0, y1⟩, y2, y3⟩ ?_
                rotate_left
                · (intro w hSw; (try dsimp only at hSw); obtain ⟨⟨h1, h2⟩, h3, h4⟩ := hSw;try simp only [List.getElem_toArray, List.getElem_cons_zero, List.getElem_cons_succ]; go_simp; try (with_reducible rfl))
                try simp only [List.setIfInBounds_toArray, List.set_cons_zero, List.set_cons_succ]
                refine held_take 6 187 (v := ?_) rfl rfl (by kernel_rfl) (by kernel_rfl) (by kernel_rfl) (fun _ _ _ h => h) (by rfl) ?_ ⟨⟨y0, y1⟩, y2, y3⟩ ?_
                rotate_left
                · (intro w hSw; (try dsimp only at hSw); obtain ⟨⟨h1, h2⟩, h3, h4⟩ := hSw;try simp only [List.getElem_toArray, List.getElem_cons_zero, List.getElem_cons_succ]; go_simp; try (with_reducible rfl))
                try simp only [List.setIfInBounds_toArray, List.set_cons_zero, List.set_cons_succ]
                refine held_call 5 186 rfl rfl (by kernel_rfl) (by rfl) (fun K hK => ?_)
                try simp only [List.getElem_toArray, List.getElem_cons_zero, List.getElem_cons_succ]
                go_simp
                (go_at_call 29; (with_reducible refine (like_any mm qq HSM.out HSQ.out _).mono ?_); rintro e w8 ⟨rfl, hb8⟩; have M8 := Lib.hid ((nd_drew M7b.out).keep hb8); have T8 := Lib.hid (T7b.out.drew.below hb8); have y0 := later hb8 y0; have y1 := later hb8 y1; have y2 := later hb8 y2; have y3 := later hb8 y3; clear hb8)
                try go_wp2_with fail
                try simp only [Act.put, List.setIfInBounds_toArray, List.set_cons_zero, List.set_cons_succ]
                refine hK.out _ _ _ ⟨⟨y0, y1⟩, y2, y3⟩ ?_
                clear hK K
                refine held_take 7 188 (v := ?_) rfl rfl (by kernel_rfl) (by kernel_rfl) (by kernel_rfl) (fun _ _ _ h => h) (by rfl) ?_ ⟨⟨y0, y1⟩, y2, y3⟩ ?_
                rotate_left
                · (intro w hSw; (try dsimp only at hSw); obtain ⟨⟨h1, h2⟩, h3, h4⟩ := hSw;try simp only [List.getElem_toArray, List.getElem_cons_zero, List.getElem_cons_succ]; go_simp; try (with_reducible rfl))
                try simp only [List.setIfInBounds_toArray, List.set_cons_zero, List.set_cons_succ]
                refine held_take 8 189 (v := ?_) rfl rfl (by kernel_rfl) (by kernel_rfl) (by kernel_rfl) (fun _ _ _ h => h) (by rfl) ?_ ⟨⟨y0, y1⟩, y2, y3⟩ ?_
                rotate_left
                · (intro w hSw; (try dsimp only at hSw); obtain ⟨⟨h1, h2⟩, h3, h4⟩ := hSw;try simp only [List.getElem_toArray, List.getElem_cons_zero, List.getElem_cons_succ]; go_simp; try (with_reducible rfl))
                try simp only [List.setIfInBounds_toArray, List.set_cons_zero, List.set_cons_succ]
                refine held_take 9 190 (v := ?_) rfl rfl (by kernel_rfl) (by kernel_rfl) (by kernel_rfl) (fun _ _ _ h => h) (by rfl) ?_ ⟨⟨y0, y1⟩, y2, y3⟩ ?_
                rotate_left
                · (intro w hSw; (try dsimp only at hSw); obtain ⟨⟨h1, h2⟩, h3, h4⟩ := hSw;try simp only [List.getElem_toArray, List.getElem_cons_zero, List.getElem_cons_succ]; go_simp; try (with_reducible rfl))
                try simp only [List.setIfInBounds_toArray, List.set_cons_zero, List.set_cons_succ]
                refine held_take 10 191 (v := ?_) rfl rfl (by kernel_rfl) (by kernel_rfl) (by kernel_rfl) (fun _ _ _ h => h) (by rfl) ?_ ⟨⟨y0, y1⟩, y2, y3⟩ ?_
                rotate_left
                · (intro w hSw; (try dsimp only at hSw); obtain ⟨⟨h1, h2⟩, h3, h4⟩ := hSw;try simp only [List.getElem_toArray, List.getElem_cons_zero, List.getElem_cons_succ]; go_simp; try (with_reducible rfl))
                try simp only [List.setIfInBounds_toArray, List.set_cons_zero, List.set_cons_succ]
                refine held_take 11 192 (v := ?_) rfl rfl (by kernel_rfl) (by kernel_rfl) (by kernel_rfl) (fun _ _ _ h => h) (by rfl) ?_ ⟨⟨y0, y1⟩, y2, y3⟩ ?_
                rotate_left
                · (intro w hSw; (try dsimp only at hSw); obtain ⟨⟨h1, h2⟩, h3, h4⟩ := hSw;try simp only [List.getElem_toArray, List.getElem_cons_zero, List.getElem_cons_succ]; go_simp; try (with_reducible rfl))
                try simp only [List.setIfInBounds_toArray, List.set_cons_zero, List.set_cons_succ]
                refine held_take 12 193 (v := ?_) rfl rfl (by kernel_rfl) (by kernel_rfl) (by kernel_rfl) (fun _ _ _ h => h) (by rfl) ?_ ⟨⟨y0, y1⟩, y2, y3⟩ ?_
                rotate_left
                · (intro w hSw; (try dsimp only at hSw); obtain ⟨⟨h1, h2⟩, h3, h4⟩ := hSw;try simp only [List.getElem_toArray, List.getElem_cons_zero, List.getElem_cons_succ]; go_simp; try (with_reducible rfl))
                try simp only [List.setIfInBounds_toArray, List.set_cons_zero, List.set_cons_succ]
                refine held_take 13 194 (v := ?_) rfl rfl (by kernel_rfl) (by kernel_rfl) (by kernel_rfl) (fun _ _ _ h => h) (by rfl) ?_ ⟨⟨y0, y1⟩, y2, y3⟩ ?_
                rotate_left
                · (intro w hSw; (try dsimp only at hSw); obtain ⟨⟨h1, h2⟩, h3, h4⟩ := hSw;try simp only [List.getElem_toArray, List.getElem_cons_zero, List.getElem_cons_succ]; go_simp; try (with_reducible rfl))
                try simp only [List.setIfInBounds_toArray, List.set_cons_zero, List.set_cons_succ]
                refine held_take 14 195 (v := ?_) rfl rfl (by kernel_rfl) (by kernel_rfl) (by kernel_rfl) (fun _ _ _ h => h) (by rfl) ?_ ⟨⟨y0, y1⟩, y2, y3⟩ ?_
                rotate_left
                · (intro w hSw; (try dsimp only at hSw); obtain ⟨⟨h1, h2⟩, h3, h4⟩ := hSw;try simp only [List.getElem_toArray, List.getElem_cons_zero, List.getElem_cons_succ]; go_simp; try (with_reducible rfl))
                try simp only [List.setIfInBounds_toArray, List.set_cons_zero, List.set_cons_succ]
                refine held_take 15 196 (v := ?_) rfl rfl (by kernel_rfl) (by kernel_rfl) (by kernel_rfl) (fun _ _ _ h => h) (by rfl) ?_ ⟨⟨y0, y1⟩, y2, y3⟩ ?_
                rotate_left
                · (intro w hSw; (try dsimp only at hSw); obtain ⟨⟨h1, h2⟩, h3, h4⟩ := hSw;try simp only [List.getElem_toArray, List.getElem_cons_zero, List.getElem_cons_succ]; go_simp; try (with_reducible rfl))
                try simp only [List.setIfInBounds_toArray, List.set_cons_zero, List.set_cons_succ]
                refine held_take 16 197 (v := ?_) rfl rfl (by kernel_rfl) (by kernel_rfl) (by kernel_rfl) (fun _ _ _ h => h) (by rfl) ?_ ⟨⟨y0, y1⟩, y2, y3⟩ ?_
                rotate_left
                · (intro w hSw; (try dsimp only at hSw); obtain ⟨⟨h1, h2⟩, h3, h4⟩ := hSw;try simp only [List.getElem_toArray, List.getElem_cons_zero, List.getElem_cons_succ]; go_simp; try (with_reducible rfl))
                try simp only [List.setIfInBounds_toArray, List.set_cons_zero, List.set_cons_succ]
                refine held_take 19 200 (v := ?_) rfl rfl (by kernel_rfl) (by kernel_rfl) (by kernel_rfl) (fun _ _ _ h => h) (by rfl) ?_ ⟨⟨y0, y1⟩, y2, y3⟩ ?_
                rotate_left
                · (intro w hSw; (try dsimp only at hSw); obtain ⟨⟨h1, h2⟩, h3, h4⟩ := hSw;try simp only [List.getElem_toArray, List.getElem_cons_zero, List.getElem_cons_succ]; go_simp; try (with_reducible rfl))
                try simp only [List.setIfInBounds_toArray, List.set_cons_zero, List.set_cons_succ]
                refine held_call 17 198 rfl rfl (by kernel_rfl) (by rfl) (fun K hK => ?_)
                try simp only [List.getElem_toArray, List.getElem_cons_zero, List.getElem_cons_succ]
                go_simp
                (go_at_call 30; (with_reducible refine (HTP.out _ M8.out).mono ?_); rintro e w9 ⟨rfl, rfl⟩)
                try go_wp2_with fail
                try simp only [Act.put, List.setIfInBounds_toArray, List.set_cons_zero, List.set_cons_succ]
                refine hK.out _ _ _ ⟨⟨y0, y1⟩, y2, y3⟩ ?_
                clear hK K
                refine held_call 18 199 rfl rfl (by kernel_rfl) (by rfl) (fun K hK => ?_)
                try simp only [List.getElem_toArray, List.getElem_cons_zero, List.getElem_cons_succ]
                go_simp
                (go_at_call 29; (with_reducible refine (like_any tm tq HT1.out HT2.out _).mono ?_); rintro e w9 ⟨rfl, hb9⟩; have M9 := Lib.hid (M8.out.keep hb9); have T9 := Lib.hid (T8.out.below hb9); have y0 := later hb9 y0; have y1 := later hb9 y1; have y2 := later hb9 y2; have y3 := later hb9 y3; clear hb9)
                try go_wp2_with fail
                try simp only [Act.put, List.setIfInBounds_toArray, List.set_cons_zero, List.set_cons_succ]
                refine hK.out _ _ _ ⟨⟨y0, y1⟩, y2, y3⟩ ?_
                clear hK K
                refine held_take 20 201 (v := ?_) rfl rfl (by kernel_rfl) (by kernel_rfl) (by kernel_rfl) (fun _ _ _ h => h) (by rfl) ?_ ⟨⟨y0, y1⟩, y2, y3⟩ ?_
                rotate_left
                · (intro w hSw; (try dsimp only at hSw); obtain ⟨⟨h1, h2⟩, h3, h4⟩ := hSw;try simp only [List.getElem_toArray, List.getElem_cons_zero, List.getElem_cons_succ]; go_simp; try (with_reducible rfl))
                try simp only [List.setIfInBounds_toArray, List.set_cons_zero, List.set_cons_succ]
                refine held_take 21 202 (v := ?_) rfl rfl (by kernel_rfl) (by kernel_rfl) (by kernel_rfl) (fun _ _ _ h => h) (by rfl) ?_ ⟨⟨y0, y1⟩, y2, y3⟩ ?_
                rotate_left
                · (intro w hSw; (try dsimp only at hSw); obtain ⟨⟨h1, h2⟩, h3, h4⟩ := hSw;try simp only [List.getElem_toArray, List.getElem_cons_zero, List.getElem_cons_succ]; go_simp; try (with_reducible rfl))
                try simp only [List.setIfInBounds_toArray, List.set_cons_zero, List.set_cons_succ]
                refine wpAnyH_done (by kernel_rfl) ?_ _
                clear hgu hne1 hne2 hnx hok y0 y1 y2 y3
                go_wp2
                go_roundw
                case rel => exact ⟨D + 1, by omega, by omega, by go_num, M9.out, T9.out⟩
                case measure => simp [intOf] <;> omega
              · obtain rfl : D = n := by omega
                have hns : ¬ (D : Int) < (s2.n : Int) := by rw [HS2.out]; omega
                have hnn : ¬ (D : Int) < (D : Int) := by omega
                have htd : ((65535 : Int), (0 : Int)) = (tm, tq) := by
                  have e := HTV.out
                  unfold tv at e
                  rw [if_neg (by omega)] at e
                  exact e
                obtain ⟨rfl, rfl⟩ := Prod.mk.inj htd
                have y2 : W7.cell? ⟨B2, 0, none⟩ = some (.int .i64 65535) := blk_cell HZ.out 0
                have y3 : W7.cell? ⟨B2, 1, none⟩ = some (.int .i64 0) := blk_cell HZ.out 1
                clear htd hns
                go_upto_region 38 with fail
                refine wp_region_held_drew (S := (fun w' => (w'.cell? ⟨B1, 0, none⟩ = some (.int .i64 mm) ∧ w'.cell? ⟨B1, 1, none⟩ = some (.int .i64 qq)) ∧ w'.cell? ⟨B2, 0, none⟩ = some (.int .i64 65535) ∧ w'.cell? ⟨B2, 1, none⟩ = some (.int .i64 0))) (by kernel_rfl) ⟨⟨y0, y1⟩, y2, y3⟩ (fun _ => ?_)
                refine held_take 0 181 (v := ?_) rfl rfl (by kernel_rfl) (by kernel_rfl) (by kernel_rfl) (fun _ _ _ h => h) (by rfl) ?_ ⟨⟨y0, y1⟩, y2, y3⟩ ?_
                rotate_left
                · (intro w hSw; (try dsimp only at hSw); obtain ⟨⟨h1, h2⟩, h3, h4⟩ := hSw;try simp only [List.getElem_toArray, List.getElem_cons_zero, List.getElem_cons_succ]; go_simp; try (with_reducible rfl))
                try simp only [List.setIfInBounds_toArray, List.set_cons_zero, List.set_cons_succ]
                refine held_take 1 182 (v := ?_) rfl rfl (by kernel_rfl) (by kernel_rfl) (by kernel_rfl) (fun _ _ _ h => h) (by rfl) ?_ ⟨⟨y0, y1⟩, y2, y3⟩ ?_
                rotate_left
                · (intro w hSw; (try dsimp only at hSw); obtain ⟨⟨h1, h2⟩, h3, h4⟩ := hSw;try simp only [List.getElem_toArray, List.getElem_cons_zero, List.getElem_cons_succ]; go_simp; try (with_reducible rfl))
                try simp only [List.setIfInBounds_toArray, List.set_cons_zero, List.set_cons_succ]
                refine held_take 2 183 (v := ?_) rfl rfl (by kernel_rfl) (by kernel_rfl) (by kernel_rfl) (fun _ _ _ h => h) (by rfl) ?_ ⟨⟨y0, y1⟩, y2, y3⟩ ?_
                rotate_left
                · (intro w hSw; (try dsimp only at hSw); obtain ⟨⟨h1, h2⟩, h3, h4⟩ := hSw;try simp only [List.getElem_toArray, List.getElem_cons_zero, List.getElem_cons_succ]; go_simp; try (with_reducible rfl))
                try simp only [List.setIfInBounds_toArray, List.set_cons_zero, List.set_cons_succ]
                refine held_take 3 184 (v := ?_) rfl rfl (by kernel_rfl) (by kernel_rfl) (by kernel_rfl) (fun _ _ _ h => h) (by rfl) ?_ ⟨⟨y0, y1⟩, y2, y3⟩ ?_
                rotate_left
                · (intro w hSw; (try dsimp only at hSw); obtain ⟨⟨h1, h2⟩, h3, h4⟩ := hSw;try simp only [List.getElem_toArray, List.getElem_cons_zero, List.getElem_cons_succ]; go_simp; try (with_reducible rfl))
                try simp only [List.setIfInBounds_toArray, List.set_cons_zero, List.set_cons_succ]
                refine held_take 4 185 (v := ?_) rfl rfl (by kernel_rfl) (by kernel_rfl) (by kernel_rfl) (fun _ _ _ h => h) (by rfl) ?_ ⟨⟨y0, y1⟩, y2, y3⟩ ?_
                rotate_left
                · (intro w hSw; (try dsimp only at hSw); obtain ⟨⟨h1, h2⟩, h3, h4⟩ := hSw;try simp only [List.getElem_toArray, List.getElem_cons_zero, List.getElem_cons_succ]; go_simp; try (with_reducible rfl))
                try simp only [List.setIfInBounds_toArray, List.set_cons_zero, List.set_cons_succ]
                refine held_take 6 187 (v := ?_) rfl rfl (by kernel_rfl) (by kernel_rfl) (by kernel_rfl) (fun _ _ _ h => h) (by rfl) ?_ ⟨⟨y0, y1⟩, y2, y3⟩ ?_
                rotate_left
                · (intro w hSw; (try dsimp only at hSw); obtain ⟨⟨h1, h2⟩, h3, h4⟩ := hSw;try simp only [List.getElem_toArray, List.getElem_cons_zero, List.getElem_cons_succ]; go_simp; try (with_reducible rfl))
                try simp only [List.setIfInBounds_toArray, List.set_cons_zero, List.set_cons_succ]
                refine held_call 5 186 rfl rfl (by kernel_rfl) (by rfl) (fun K hK => ?_)
                try simp only [List.getElem_toArray, List.getElem_cons_zero, List.getElem_cons_succ]
                go_simp
                (go_at_call 29; (with_reducible refine (like_any mm qq HSM.out HSQ.out _).mono ?_); rintro e w8 ⟨rfl, hb8⟩; have M8 := Lib.hid ((nd_drew M7.out).keep hb8); have T8 := Lib.hid (T7.out.drew.below hb8); have y0 := later hb8 y0; have y1 := later hb8 y1; have y2 := later hb8 y2; have y3 := later hb8 y3; clear hb8)
                try go_wp2_with fail
                try simp only [Act.put, List.setIfInBounds_toArray, List.set_cons_zero, List.set_cons_succ]
                refine hK.out _ _ _ ⟨⟨y0, y1⟩, y2, y3⟩ ?_
                clear hK K
                refine held_take 7 188 (v := ?_) rfl rfl (by kernel_rfl) (by kernel_rfl) (by kernel_rfl) (fun _ _ _ h => h) (by rfl) ?_ ⟨⟨y0, y1⟩, y2, y3⟩ ?_
                rotate_left
                · (intro w hSw; (try dsimp only at hSw); obtain ⟨⟨h1, h2⟩, h3, h4⟩ := hSw;try simp only [List.getElem_toArray, List.getElem_cons_zero, List.getElem_cons_succ]; go_simp; try (with_reducible rfl))
                try simp only [List.setIfInBounds_toArray, List.set_cons_zero, List.set_cons_succ]
                refine held_take 8 189 (v := ?_) rfl rfl (by kernel_rfl) (by kernel_rfl) (by kernel_rfl) (fun _ _ _ h => h) (by rfl) ?_ ⟨⟨y0, y1⟩, y2, y3⟩ ?_
                rotate_left
                · (intro w hSw; (try dsimp only at hSw); obtain ⟨⟨h1, h2⟩, h3, h4⟩ := hSw;try simp only [List.getElem_toArray, List.getElem_cons_zero, List.getElem_cons_succ]; go_simp; try (with_reducible rfl))
                try simp only [List.setIfInBounds_toArray, List.set_cons_zero, List.set_cons_succ]
                refine held_take 9 190 (v := ?_) rfl rfl (by kernel_rfl) (by kernel_rfl) (by kernel_rfl) (fun _ _ _ h => h) (by rfl) ?_ ⟨⟨y0, y1⟩, y2, y3⟩ ?_
                rotate_left
                · (intro w hSw; (try dsimp only at hSw); obtain ⟨⟨h1, h2⟩, h3, h4⟩ := hSw;try simp only [List.getElem_toArray, List.getElem_cons_zero, List.getElem_cons_succ]; go_simp; try (with_reducible rfl))
                try simp only [List.setIfInBounds_toArray, List.set_cons_zero, List.set_cons_succ]
                refine held_take 10 191 (v := ?_) rfl rfl (by kernel_rfl) (by kernel_rfl) (by kernel_rfl) (fun _ _ _ h => h) (by rfl) ?_ ⟨⟨y0, y1⟩, y2, y3⟩ ?_
                rotate_left
                · (intro w hSw; (try dsimp only at hSw); obtain ⟨⟨h1, h2⟩, h3, h4⟩ := hSw;try simp only [List.getElem_toArray, List.getElem_cons_zero, List.getElem_cons_succ]; go_simp; try (with_reducible rfl))
                try simp only [List.setIfInBounds_toArray, List.set_cons_zero, List.set_cons_succ]
                refine held_take 11 192 (v := ?_) rfl rfl (by kernel_rfl) (by kernel_rfl) (by kernel_rfl) (fun _ _ _ h => h) (by rfl) ?_ ⟨⟨y0, y1⟩, y2, y3⟩ ?_
                rotate_left
                · (intro w hSw; (try dsimp only at hSw); obtain ⟨⟨h1, h2⟩, h3, h4⟩ := hSw;try simp only [List.getElem_toArray, List.getElem_cons_zero, List.getElem_cons_succ]; go_simp; try (with_reducible rfl))
                try simp only [List.setIfInBounds_toArray, List.set_cons_zero, List.set_cons_succ]
                refine held_take 12 193 (v := ?_) rfl rfl (by kernel_rfl) (by kernel_rfl) (by kernel_rfl) (fun _ _ _ h => h) (by rfl) ?_ ⟨⟨y0, y1⟩, y2, y3⟩ ?_
                rotate_left
                · (intro w hSw; (try dsimp only at hSw); obtain ⟨⟨h1, h2⟩, h3, h4⟩ := hSw;try simp only [List.getElem_toArray, List.getElem_cons_zero, List.getElem_cons_succ]; go_simp; try (with_reducible rfl))
                try simp only [List.setIfInBounds_toArray, List.set_cons_zero, List.set_cons_succ]
                refine held_take 13 194 (v := ?_) rfl rfl (by kernel_rfl) (by kernel_rfl) (by kernel_rfl) (fun _ _ _ h => h) (by rfl) ?_ ⟨⟨y0, y1⟩, y2, y3⟩ ?_
                rotate_left
                · (intro w hSw; (try dsimp only at hSw); obtain ⟨⟨h1, h2⟩, h3, h4⟩ := hSw;try simp only [List.getElem_toArray, List.getElem_cons_zero, List.getElem_cons_succ]; go_simp; try (with_reducible rfl))
                try simp only [List.setIfInBounds_toArray, List.set_cons_zero, List.set_cons_succ]
                refine held_take 14 195 (v := ?_) rfl rfl (by kernel_rfl) (by kernel_rfl) (by kernel_rfl) (fun _ _ _ h => h) (by rfl) ?_ ⟨⟨y0, y1⟩, y2, y3⟩ ?_
                rotate_left
                · (intro w hSw; (try dsimp only at hSw); obtain ⟨⟨h1, h2⟩, h3, h4⟩ := hSw;try simp only [List.getElem_toArray, List.getElem_cons_zero, List.getElem_cons_succ]; go_simp; try (with_reducible rfl))
                try simp only [List.setIfInBounds_toArray, List.set_cons_zero, List.set_cons_succ]
                refine held_take 15 196 (v := ?_) rfl rfl (by kernel_rfl) (by kernel_rfl) (by kernel_rfl) (fun _ _ _ h => h) (by rfl) ?_ ⟨⟨y0, y1⟩, y2, y3⟩ ?_
                rotate_left
                · (intro w hSw; (try dsimp only at hSw); obtain ⟨⟨h1, h2⟩, h3, h4⟩ := hSw;try simp only [List.getElem_toArray, List.getElem_cons_zero, List.getElem_cons_succ]; go_simp; try (with_reducible rfl))
                try simp only [List.setIfInBounds_toArray, List.set_cons_zero, List.set_cons_succ]
                refine held_take 16 197 (v := ?_) rfl rfl (by kernel_rfl) (by kernel_rfl) (by kernel_rfl) (fun _ _ _ h => h) (by rfl) ?_ ⟨⟨y0, y1⟩, y2, y3⟩ ?_
                rotate_left
                · (intro w hSw; (try dsimp only at hSw); obtain ⟨⟨h1, h2⟩, h3, h4⟩ := hSw;try simp only [List.getElem_toArray, List.getElem_cons_zero, List.getElem_cons_succ]; go_simp; try (with_reducible rfl))
                try simp only [List.setIfInBounds_toArray, List.set_cons_zero, List.set_cons_succ]
                refine held_take 19 200 (v := ?_) rfl rfl (by kernel_rfl) (by kernel_rfl) (by kernel_rfl) (fun _ _ _ h => h) (by rfl) ?_ ⟨⟨y0, y1⟩, y2, y3⟩ ?_
                rotate_left
                · (intro w hSw; (try dsimp only at hSw); obtain ⟨⟨h1, h2⟩, h3, h4⟩ := hSw;try simp only [List.getElem_toArray, List.getElem_cons_zero, List.getElem_cons_succ]; go_simp; try (with_reducible rfl))
                try simp only [List.setIfInBounds_toArray, List.set_cons_zero, List.set_cons_succ]
                refine held_call 17 198 rfl rfl (by kernel_rfl) (by rfl) (fun K hK => ?_)
                try simp only [List.getElem_toArray, List.getElem_cons_zero, List.getElem_cons_succ]
                go_simp
                (go_at_call 30; (with_reducible refine (HTP.out _ M8.out).mono ?_); rintro e w9 ⟨rfl, rfl⟩)
                try go_wp2_with fail
                try simp only [Act.put, List.setIfInBounds_toArray, List.set_cons_zero, List.set_cons_succ]
                refine hK.out _ _ _ ⟨⟨y0, y1⟩, y2, y3⟩ ?_
                clear hK K
                refine held_call 18 199 rfl rfl (by kernel_rfl) (by rfl) (fun K hK => ?_)
                try simp only [List.getElem_toArray, List.getElem_cons_zero, List.getElem_cons_succ]
                go_simp
                (go_at_call 29; (with_reducible refine (like_any 65535 0 HT1.out HT2.out _).mono ?_); rintro e w9 ⟨rfl, hb9⟩; have M9 := Lib.hid (M8.out.keep hb9); have T9 := Lib.hid (T8.out.below hb9); have y0 := later hb9 y0; have y1 := later hb9 y1; have y2 := later hb9 y2; have y3 := later hb9 y3; clear hb9)
                try go_wp2_with fail
                try simp only [Act.put, List.setIfInBounds_toArray, List.set_cons_zero, List.set_cons_succ]
                refine hK.out _ _ _ ⟨⟨y0, y1⟩, y2, y3⟩ ?_
                clear hK K
                refine held_take 20 201 (v := ?_) rfl rfl (by kernel_rfl) (by kernel_rfl) (by kernel_rfl) (fun _ _ _ h => h) (by rfl) ?_ ⟨⟨y0, y1⟩, y2, y3⟩ ?_
                rotate_left
                · (intro w hSw; (try dsimp only at hSw); obtain ⟨⟨h1, h2⟩, h3, h4⟩ := hSw;try simp only [List.getElem_toArray, List.getElem_cons_zero, List.getElem_cons_succ]; go_simp; try (with_reducible rfl))
                try simp only [List.setIfInBounds_toArray, List.set_cons_zero, List.set_cons_succ]
                refine held_take 21 202 (v := ?_) rfl rfl (by kernel_rfl) (by kernel_rfl) (by kernel_rfl) (fun _ _ _ h => h) (by rfl) ?_ ⟨⟨y0, y1⟩, y2, y3⟩ ?_
                rotate_left
                · (intro w hSw; (try dsimp only at hSw); obtain ⟨⟨h1, h2⟩, h3, h4⟩ := hSw;try simp only [List.getElem_toArray, List.getElem_cons_zero, List.getElem_cons_succ]; go_simp; try (with_reducible rfl))
                try simp only [List.setIfInBounds_toArray, List.set_cons_zero, List.set_cons_succ]
                refine wpAnyH_done (by kernel_rfl) ?_ _
                clear hgu hne1 hne2 hnx hok y0 y1 y2 y3
                go_wp2
                go_roundw
                case rel => exact ⟨D + 1, by omega, by omega, by go_num, M9.out, T9.out⟩
                case measure => simp [intOf] <;> omega
            · have htd : ((65535 : Int), (0 : Int)) = (tm, tq) := by
                have e := HTV.out
                unfold tv at e
                rw [if_neg (by omega)] at e
                exact e
              obtain ⟨rfl, rfl⟩ := Prod.mk.inj htd
              have y2 : W7.cell? ⟨B2, 0, none⟩ = some (.int .i64 65535) := blk_cell HZ.out 0
              have y3 : W7.cell? ⟨B2, 1, none⟩ = some (.int .i64 0) := blk_cell HZ.out 1
              clear htd
              go_upto_region 38 with fail
              refine wp_region_held_drew (S := (fun w' => (w'.cell? ⟨B1, 0, none⟩ = some (.int .i64 mm) ∧ w'.cell? ⟨B1, 1, none⟩ = some (.int .i64 qq)) ∧ w'.cell? ⟨B2, 0, none⟩ = some (.int .i64 65535) ∧ w'.cell? ⟨B2, 1, none⟩ = some (.int .i64 0))) (by kernel_rfl) ⟨⟨y0, y1⟩, y2, y3⟩ (fun _ => ?_)
              refine held_take 0 181 (v := ?_) rfl rfl (by kernel_rfl) (by kernel_rfl) (by kernel_rfl) (fun _ _ _ h => h) (by rfl) ?_ ⟨⟨y0, y1⟩, y2, y3⟩ ?_
              rotate_left
              · (intro w hSw; (try dsimp only at hSw); obtain ⟨⟨h1, h2⟩, h3, h4⟩ := hSw;try simp only [List.getElem_toArray, List.getElem_cons_zero, List.getElem_cons_succ]; go_simp; try (with_reducible rfl))
              try simp only [List.setIfInBounds_toArray, List.set_cons_zero, List.set_cons_succ]
              refine held_take 1 182 (v := ?_) rfl rfl (by kernel_rfl) (by kernel_rfl) (by kernel_rfl) (fun _ _ _ h => h) (by rfl) ?_ ⟨⟨y0, y1⟩, y2, y3⟩ ?_
              rotate_left
              · (intro w hSw; (try dsimp only at hSw); obtain ⟨⟨h1, h2⟩, h3, h4⟩ := hSw;try simp only [List.getElem_toArray, List.getElem_cons_zero, List.getElem_cons_succ]; go_simp; try (with_reducible rfl))
              try simp only [List.setIfInBounds_toArray, List.set_cons_zero, List.set_cons_succ]
              refine held_take 2 183 (v := ?_) rfl rfl (by kernel_rfl) (by kernel_rfl) (by kernel_rfl) (fun _ _ _ h => h) (by rfl) ?_ ⟨⟨y0, y1⟩, y2, y3⟩ ?_
              rotate_left
              · (intro w hSw; (try dsimp only at hSw); obtain ⟨⟨h1, h2⟩, h3, h4⟩ := hSw;try simp only [List.getElem_toArray, List.getElem_cons_zero, List.getElem_cons_succ]; go_simp; try (with_reducible rfl))
              try simp only [List.setIfInBounds_toArray, List.set_cons_zero, List.set_cons_succ]
              refine held_take 3 184 (v := ?_) rfl rfl (by kernel_rfl) (by kernel_rfl) (by kernel_rfl) (fun _ _ _ h => h) (by rfl) ?_ ⟨⟨y0, y1⟩, y2, y3⟩ ?_
              rotate_left
              · (intro w hSw; (try dsimp only at hSw); obtain ⟨⟨h1, h2⟩, h3, h4⟩ := hSw;try simp only [List.getElem_toArray, List.getElem_cons_zero, List.getElem_cons_succ]; go_simp; try (with_reducible rfl))
              try simp only [List.setIfInBounds_toArray, List.set_cons_zero, List.set_cons_succ]
              refine held_take 4 185 (v := ?_) rfl rfl (by kernel_rfl) (by kernel_rfl) (by kernel_rfl) (fun _ _ _ h => h) (by rfl) ?_ ⟨⟨y0, y1⟩, y2, y3⟩ ?_
              rotate_left
              · (intro w hSw; (try dsimp only at hSw); obtain ⟨⟨h1, h2⟩, h3, h4⟩ := hSw;try simp only [List.getElem_toArray, List.getElem_cons_zero, List.getElem_cons_succ]; go_simp; try (with_reducible rfl))
              try simp only [List.setIfInBounds_toArray, List.set_cons_zero, List.set_cons_succ]
              refine held_take 6 187 (v := ?_) rfl rfl (by kernel_rfl) (by kernel_rfl) (by kernel_rfl) (fun _ _ _ h => h) (by rfl) ?_ ⟨⟨y0, y1⟩, y2, y3⟩ ?_
              rotate_left
              · (intro w hSw; (try dsimp only at hSw); obtain ⟨⟨h1, h2⟩, h3, h4⟩ := hSw;try simp only [List.getElem_toArray, List.getElem_cons_zero, List.getElem_cons_succ]; go_simp; try (with_reducible rfl))
              try simp only [List.setIfInBounds_toArray, List.set_cons_zero, List.set_cons_succ]
              refine held_call 5 186 rfl rfl (by kernel_rfl) (by rfl) (fun K hK => ?_)
              try simp only [List.getElem_toArray, List.getElem_cons_zero, List.getElem_cons_succ]
              go_simp
              (go_at_call 29; (with_reducible refine (like_any mm qq HSM.out HSQ.out _).mono ?_); rintro e w8 ⟨rfl, hb8⟩; have M8 := Lib.hid ((nd_drew M7.out).keep hb8); have T8 := Lib.hid (T7.out.drew.below hb8); have y0 := later hb8 y0; have y1 := later hb8 y1; have y2 := later hb8 y2; have y3 := later hb8 y3; clear hb8)
              try go_wp2_with fail
              try simp only [Act.put, List.setIfInBounds_toArray, List.set_cons_zero, List.set_cons_succ]
              refine hK.out _ _ _ ⟨⟨y0, y1⟩, y2, y3⟩ ?_
              clear hK K
              refine held_take 7 188 (v := ?_) rfl rfl (by kernel_rfl) (by kernel_rfl) (by kernel_rfl) (fun _ _ _ h => h) (by rfl) ?_ ⟨⟨y0, y1⟩, y2, y3⟩ ?_
              rotate_left
              · (intro w hSw; (try dsimp only at hSw); obtain ⟨⟨h1, h2⟩, h3, h4⟩ := hSw;try simp only [List.getElem_toArray, List.getElem_cons_zero, List.getElem_cons_succ]; go_simp; try (with_reducible rfl))
              try simp only [List.setIfInBounds_toArray, List.set_cons_zero, List.set_cons_succ]
              refine held_take 8 189 (v := ?_) rfl rfl (by kernel_rfl) (by kernel_rfl) (by kernel_rfl) (fun _ _ _ h => h) (by rfl) ?_ ⟨⟨y0, y1⟩, y2, y3⟩ ?_
              rotate_left
              · (intro w hSw; (try dsimp only at hSw); obtain ⟨⟨h1, h2⟩, h3, h4⟩ := hSw;try simp only [List.getElem_toArray, List.getElem_cons_zero, List.getElem_cons_succ]; go_simp; try (with_reducible rfl))
              try simp only [List.setIfInBounds_toArray, List.set_cons_zero, List.set_cons_succ]
              refine held_take 9 190 (v := ?_) rfl rfl (by kernel_rfl) (by kernel_rfl) (by kernel_rfl) (fun _ _ _ h => h) (by rfl) ?_ ⟨⟨y0, y1⟩, y2, y3⟩ ?_
              rotate_left
              · (intro w hSw; (try dsimp only at hSw); obtain ⟨⟨h1, h2⟩, h3, h4⟩ := hSw;try simp only [List.getElem_toArray, List.getElem_cons_zero, List.getElem_cons_succ]; go_simp; try (with_reducible rfl))
              try simp only [List.setIfInBounds_toArray, List.set_cons_zero, List.set_cons_succ]
              refine held_take 10 191 (v := ?_) rfl rfl (by kernel_rfl) (by kernel_rfl) (by kernel_rfl) (fun _ _ _ h => h) (by rfl) ?_ ⟨⟨y0, y1⟩, y2, y3⟩ ?_
              rotate_left
              · (intro w hSw; (try dsimp only at hSw); obtain ⟨⟨h1, h2⟩, h3, h4⟩ := hSw;try simp only [List.getElem_toArray, List.getElem_cons_zero, List.getElem_cons_succ]; go_simp; try (with_reducible rfl))
              try simp only [List.setIfInBounds_toArray, List.set_cons_zero, List.set_cons_succ]
              refine held_take 11 192 (v := ?_) rfl rfl (by kernel_rfl) (by kernel_rfl) (by kernel_rfl) (fun _ _ _ h => h) (by rfl) ?_ ⟨⟨y0, y1⟩, y2, y3⟩ ?_
              rotate_left
              · (intro w hSw; (try dsimp only at hSw); obtain ⟨⟨h1, h2⟩, h3, h4⟩ := hSw;try simp only [List.getElem_toArray, List.getElem_cons_zero, List.getElem_cons_succ]; go_simp; try (with_reducible rfl))
              try simp only [List.setIfInBounds_toArray, List.set_cons_zero, List.set_cons_succ]
              refine held_take 12 193 (v := ?_) rfl rfl (by kernel_rfl) (by kernel_rfl) (by kernel_rfl) (fun _ _ _ h => h) (by rfl) ?_ ⟨⟨y0, y1⟩, y2, y3⟩ ?_
              rotate_left
              · (intro w hSw; (try dsimp only at hSw); obtain ⟨⟨h1, h2⟩, h3, h4⟩ := hSw;try simp only [List.getElem_toArray, List.getElem_cons_zero, List.getElem_cons_succ]; go_simp; try (with_reducible rfl))
              try simp only [List.setIfInBounds_toArray, List.set_cons_zero, List.set_cons_succ]
              refine held_take 13 194 (v := ?_) rfl rfl (by kernel_rfl) (by kernel_rfl) (by kernel_rfl) (fun _ _ _ h => h) (by rfl) ?_ ⟨⟨y0, y1⟩, y2, y3⟩ ?_
              rotate_left
              · (intro w hSw; (try dsimp only at hSw); obtain ⟨⟨h1, h2⟩, h3, h4⟩ := hSw;try simp only [List.getElem_toArray, List.getElem_cons_zero, List.getElem_cons_succ]; go_simp; try (with_reducible rfl))
              try simp only [List.setIfInBounds_toArray, List.set_cons_zero, List.set_cons_succ]
              refine held_take 14 195 (v := ?_) rfl rfl (by kernel_rfl) (by kernel_rfl) (by kernel_rfl) (fun _ _ _ h => h) (by rfl) ?_ ⟨⟨y0, y1⟩, y2, y3⟩ ?_
              rotate_left
              · (intro w hSw; (try dsimp only at hSw); obtain ⟨⟨h1, h2⟩, h3, h4⟩ := hSw;try simp only [List.getElem_toArray, List.getElem_cons_zero, List.getElem_cons_succ]; go_simp; try (with_reducible rfl))
              try simp only [List.setIfInBounds_toArray, List.set_cons_zero, List.set_cons_succ]
              refine held_take 15 196 (v := ?_) rfl rfl (by kernel_rfl) (by kernel_rfl) (by kernel_rfl) (fun _ _ _ h => h) (by rfl) ?_ ⟨⟨y0, y1⟩, y2, y3⟩ ?_
              rotate_left
              · (intro w hSw; (try dsimp only at hSw); obtain ⟨⟨h1, h2⟩, h3, h4⟩ := hSw;try simp only [List.getElem_toArray, List.getElem_cons_zero, List.getElem_cons_succ]; go_simp; try (with_reducible rfl))
              try simp only [List.setIfInBounds_toArray, List.set_cons_zero, List.set_cons_succ]
              refine held_take 16 197 (v := ?_) rfl rfl (by kernel_rfl) (by kernel_rfl) (by kernel_rfl) (fun _ _ _ h => h) (by rfl) ?_ ⟨⟨y0, y1⟩, y2, y3⟩ ?_
              rotate_left
              · (intro w hSw; (try dsimp only at hSw); obtain ⟨⟨h1, h2⟩, h3, h4⟩ := hSw;try simp only [List.getElem_toArray, List.getElem_cons_zero, List.getElem_cons_succ]; go_simp; try (with_reducible rfl))
              try simp only [List.setIfInBounds_toArray, List.set_cons_zero, List.set_cons_succ]
              refine held_take 19 200 (v := ?_) rfl rfl (by kernel_rfl) (by kernel_rfl) (by kernel_rfl) (fun _ _ _ h => h) (by rfl) ?_ ⟨⟨y0, y1⟩, y2, y3⟩ ?_
              rotate_left
              · (intro w hSw; (try dsimp only at hSw); obtain ⟨⟨h1, h2⟩, h3, h4⟩ := hSw;try simp only [List.getElem_toArray, List.getElem_cons_zero, List.getElem_cons_succ]; go_simp; try (with_reducible rfl))
              try simp only [List.setIfInBounds_toArray, List.set_cons_zero, List.set_cons_succ]
              refine held_call 17 198 rfl rfl (by kernel_rfl) (by rfl) (fun K hK => ?_)
              try simp only [List.getElem_toArray, List.getElem_cons_zero, List.getElem_cons_succ]
              go_simp
              (go_at_call 30; (with_reducible refine (HTP.out _ M8.out).mono ?_); rintro e w9 ⟨rfl, rfl⟩)
              try go_wp2_with fail
              try simp only [Act.put, List.setIfInBounds_toArray, List.set_cons_zero, List.set_cons_succ]
              refine hK.out _ _ _ ⟨⟨y0, y1⟩, y2, y3⟩ ?_
              clear hK K
              refine held_call 18 199 rfl rfl (by kernel_rfl) (by rfl) (fun K hK => ?_)
              try simp only [List.getElem_toArray, List.getElem_cons_zero, List.getElem_cons_succ]
              go_simp
              (go_at_call 29; (with_reducible refine (like_any 65535 0 HT1.out HT2.out _).mono ?_); rintro e w9 ⟨rfl, hb9⟩; have M9 := Lib.hid (M8.out.keep hb9); have T9 := Lib.hid (T8.out.below hb9); have y0 := later hb9 y0; have y1 := later hb9 y1; have y2 := later hb9 y2; have y3 := later hb9 y3; clear hb9)
              try go_wp2_with fail
              try simp only [Act.put, List.setIfInBounds_toArray, List.set_cons_zero, List.set_cons_succ]
              refine hK.out _ _ _ ⟨⟨y0, y1⟩, y2, y3⟩ ?_
              clear hK K
              refine held_take 20 201 (v := ?_) rfl rfl (by kernel_rfl) (by kernel_rfl) (by kernel_rfl) (fun _ _ _ h => h) (by rfl) ?_ ⟨⟨y0, y1⟩, y2, y3⟩ ?_
              rotate_left
              · (intro w hSw; (try dsimp only at hSw); obtain ⟨⟨h1, h2⟩, h3, h4⟩ := hSw;try simp only [List.getElem_toArray, List.getElem_cons_zero, List.getElem_cons_succ]; go_simp; try (with_reducible rfl))
              try simp only [List.setIfInBounds_toArray, List.set_cons_zero, List.set_cons_succ]
              refine held_take 21 202 (v := ?_) rfl rfl (by kernel_rfl) (by kernel_rfl) (by kernel_rfl) (fun _ _ _ h => h) (by rfl) ?_ ⟨⟨y0, y1⟩, y2, y3⟩ ?_
              rotate_left
              · (intro w hSw; (try dsimp only at hSw); obtain ⟨⟨h1, h2⟩, h3, h4⟩ := hSw;try simp only [List.getElem_toArray, List.getElem_cons_zero, List.getElem_cons_succ]; go_simp; try (with_reducible rfl))
              try simp only [List.setIfInBounds_toArray, List.set_cons_zero, List.set_cons_succ]
              refine wpAnyH_done (by kernel_rfl) ?_ _
              clear hgu hne1 hne2 hnx hok y0 y1 y2 y3
              go_wp2
              go_roundw
              case rel => exact ⟨d + 1, by omega, by omega, by go_num, M9.out, T9.out⟩
              case measure => simp [intOf] <;> omega
          · go_wp2
            go_roundw
            case rel => exact ⟨i + 1, s2, L2, by omega, by go_num, HS2.out, M.out, T.out⟩
            case measure => simp [intOf]; omega
    · obtain rfl : m = i := by omega
      go_wp2
      go_ret
      exact ⟨rfl, N.out.bel⟩
end EnginePlays
end Go.Proofs.Ytcmknllefnahkaa
