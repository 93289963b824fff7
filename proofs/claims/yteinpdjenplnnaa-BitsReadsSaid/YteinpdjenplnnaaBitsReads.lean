/-
  The walk of the law BitsReads. Conditions: none.
-/
import Derived.Test.YteinpdjenplnnaaReadsP
import Derived.Deep.DeepCutAuto
import Derived.Deep.CutBlock
namespace Go.Proofs.Yteinpdjenplnnaa
open Go.RowKit
set_option linter.unusedVariables false
set_option linter.unusedSimpArgs false
namespace BitsReads
open BW
theorem new_isQ (w : World) (s : ByteArray) : IsQ (w.alloc (.cells #[.string (str01 (bitL s)), .int .i64 0] 47)) w.heap.size s 0 0 := by
  have e : bitL s = seg s 0 (8 * s.size - 0) := by simp [bitL, seg]
  rw [e]
  exact alloc_new w _
attribute [local irreducible] cd low str01 bitL cv rc rb rd str val
set_option maxRecDepth 100000 in
set_option maxHeartbeats 16000000 in
theorem walk (s : ByteArray) (v1 : Value) (w : World) (hs0 : s.size ≤ maxLen) (h0 : IsOps w v1) : Calls Try.prog 4 #[.string s, v1] w fun e w' => e = .returned (.bool true) ∧ Below w.heap.size w w' := by
  obtain ⟨A, n, cap, K, N, V, rfl, hn, hV⟩ := h0
  have HV := Lib.hid hV
  clear hV
  unfold maxLen at hn hs0
  by_cases hbig : (500 : Int) < (s.size : Int) ∨ (200 : Int) < (n : Int)
  · rcases Int.lt_or_le (500 : Int) (s.size : Int) with hb0 | hb0
    · go_enter Try.func4, Try.ntmps4
      go_upto_region 2 with (go_at_call 9; refine (awake_any _).mono ?_; rintro e w1 ⟨rfl, hb1⟩)
      go_wp2_with (go_at_call 9; refine (awake_any _).mono ?_; rintro e w2 ⟨rfl, hb2⟩)
      go_ret
      exact ⟨rfl, hb1.trans (hb2.mono hb1.size)⟩
    · have hb2 : (200 : Int) < (n : Int) := by omega
      have hb0' : ¬ (500 : Int) < (s.size : Int) := by omega
      go_enter Try.func4, Try.ntmps4
      go_upto_region 2 with (go_at_call 9; refine (awake_any _).mono ?_; rintro e w1 ⟨rfl, hb1⟩)
      go_wp2_with (go_at_call 9; refine (awake_any _).mono ?_; rintro e w2 ⟨rfl, hb2⟩)
      go_ret
      exact ⟨rfl, hb1.trans (hb2.mono hb1.size)⟩
  · have hb0 : ¬ (500 : Int) < (s.size : Int) := by omega
    have hb2 : ¬ (200 : Int) < (n : Int) := by omega
    have hS : s.size ≤ 1000000 := by omega
    go_enter Try.func4, Try.ntmps4
    go_upto_region 3 with (go_at_call 9; refine (awake_any _).mono ?_; rintro e w1 ⟨rfl, hb1⟩)
    have hb1' := Lib.hid hb1
    clear hb1
    go_upto_region 4 with (first
      | (go_at_call 17; refine (new_any s w1).mono ?_; rintro e w2 ⟨rfl, hw2⟩; have R0 := Lib.hid (show IsR w2 w1.heap.size s 0 0 from hw2 ▸ new_isR w1 _); have C0 := Lib.hid (show Below w1.heap.size w1 w2 from hw2 ▸ (Below.refl _ _).alloc (Nat.le_refl _) _); clear hw2)
      | (go_at_call 22; refine (refof_any s w2 hS).mono ?_; rintro e w3 ⟨rfl, hb3⟩; have R1 := Lib.hid (R0.out.keep hb3); have C1 := Lib.hid (C0.out.trans (hb3.mono C0.out.size)); clear hb3))
    -- GEN
    have Q1 := new_isQ w3 s
    have b1 : Below w3.heap.size w3 (w3.alloc (.cells #[.string (str01 (bitL s)), .int .i64 0] 47)) := (Below.refl _ _).alloc (Nat.le_refl _) _
    have R2 := Lib.hid (R1.out.keep b1)
    have C2 := Lib.hid (C1.out.trans (b1.mono C1.out.size))
    have hw13 : w1.heap.size ≤ w3.heap.size := C1.out.size
    have hrq' : w1.heap.size ≠ w3.heap.size := Nat.ne_of_lt (blk_lt R1.out)
    generalize w3.alloc (.cells #[.string (str01 (bitL s)), .int .i64 0] 47) = W at Q1 b1 R2 C2 ⊢
    have Q2 := Lib.hid Q1
    clear Q1 b1
    have hqr : ¬ (fun i => i = w1.heap.size) w3.heap.size := fun h => hrq' h.symm
    have hrq : ¬ (fun i => i = w3.heap.size) w1.heap.size := fun h => hrq' h
    go_upto_region 5 with fail
    go_loopw [30] (fun s30 wr => ∃ (k a b : Nat) (e : Int), k ≤ n ∧ s30 = .int .i64 k ∧ a ≤ 8 * s.size ∧ b ≤ 8 * s.size ∧ (e = 0 → b = a) ∧ IsR wr w1.heap.size s a e ∧ IsQ wr w3.heap.size s b e ∧ Below w1.heap.size w1 wr) (fun s30 _ => n - (intOf s30).toNat)
    case atStart => exact ⟨0, 0, 0, 0, by omega, rfl, by omega, by omega, fun _ => rfl, R2.out, Q2.out, C2.out⟩
    case round =>
      obtain ⟨k, a, b, e, hk, rfl, ha, hb, hab, hr, hq, hbx⟩ := hrel
      have HR := Lib.hid hr
      have HQ := Lib.hid hq
      have HX := Lib.hid hbx
      have HAB := Lib.hid hab
      clear hr hq hbx hab
      by_cases hlt : k < n
      · have hlt' : (k : Int) < (n : Int) := by omega
        have k0 : (0 : Int) ≤ (k : Int) := by omega
        obtain ⟨hv0, hv1, bb, o, rfl, hbl, hc0, hc1, hc2⟩ := HV.out k hlt
        have hbw := hb1'.out.trans (HX.out.mono hb1'.out.size)
        have d0 : wr.cell? ⟨bb, o + k * 3, none⟩ = some (.int .i64 (K k)) := later hbw hc0
        have d1 : wr.cell? ⟨bb, o + k * 3 + 1, none⟩ = some (.int .i64 (N k)) := later hbw hc1
        have d2 : wr.cell? ⟨bb, o + k * 3 + 2, none⟩ = some (.int .u64 (V k)) := later hbw hc2
        clear hc0 hc1 hc2 hbw
        go_upto_region 7 with fail
        have bal : Below wr.heap.size wr (wr.alloc (.cells #[.int .i64 (K k), .int .i64 (N k), .int .u64 (V k)] 29)) := (Below.refl _ _).alloc (Nat.le_refl _) _
        have hblk := alloc_new wr (.cells #[.int .i64 (K k), .int .i64 (N k), .int .u64 (V k)] 29)
        have hrne : w1.heap.size ≠ wr.heap.size := Nat.ne_of_lt (blk_lt HR.out)
        have hqne : w3.heap.size ≠ wr.heap.size := Nat.ne_of_lt (blk_lt HQ.out)
        generalize wr.alloc (.cells #[.int .i64 (K k), .int .i64 (N k), .int .u64 (V k)] 29) = wo at bal hblk ⊢
        have bal : Below wr.heap.size wr wo.drew := ⟨bal.os, bal.tape, bal.output, bal.size, bal.block⟩
        have e0 := blk_cell hblk 0
        have e1 := blk_cell hblk 1
        simp at e0 e1
        have e0 : wo.drew.cell? ⟨wr.heap.size, 0, none⟩ = some (.int .i64 (K k)) := e0
        have e1 : wo.drew.cell? ⟨wr.heap.size, 1, none⟩ = some (.int .i64 (N k)) := e1
        have HR := Lib.hid (show IsR wo.drew w1.heap.size s a e from HR.out.keep bal)
        have HQ := Lib.hid (show IsQ wo.drew w3.heap.size s b e from HQ.out.keep bal)
        have HX := Lib.hid (HX.out.trans (bal.mono HX.out.size))
        clear bal hblk d0 d1 d2
        by_cases hK : K k = 1
        · have hKb : (K k == 1) = true := by simp [hK]
          have hKn : (K k != 1) = false := by simp [hK]
          have HT := Lib.hid (rb_two (s := s) (n := N k) HAB.out)
          have ha2 := rb_le s a e (N k) ha
          have hb2' := rb_le s b e (N k) hb
          refine wp_region_held_drew (S := (fun w' => w'.cell? ⟨wr.heap.size, 0, none⟩ = some (.int .i64 (K k)) ∧ w'.cell? ⟨wr.heap.size, 1, none⟩ = some (.int .i64 (N k)))) (by kernel_rfl) ⟨e0, e1⟩ (fun _ => ?_)
          refine held_take 0 34 (v := ?_) rfl rfl (by kernel_rfl) (by kernel_rfl) (by kernel_rfl) (fun _ _ _ h => h) (by rfl) ?_ ⟨e0, e1⟩ ?_
          rotate_left
          focus (intro w hSw; (try dsimp only at hSw); simp only [List.getElem_toArray, List.getElem_cons_zero, List.getElem_cons_succ]; go_simp; try (with_reducible rfl))
          simp only [List.setIfInBounds_toArray, List.set_cons_zero, List.set_cons_succ]
          refine held_take 1 35 (v := ?_) rfl rfl (by kernel_rfl) (by kernel_rfl) (by kernel_rfl) (fun _ _ _ h => h) (by rfl) ?_ ⟨e0, e1⟩ ?_
          rotate_left
          focus (intro w hSw; (try dsimp only at hSw); simp only [List.getElem_toArray, List.getElem_cons_zero, List.getElem_cons_succ]; go_simp; try (with_reducible rfl))
          simp only [List.setIfInBounds_toArray, List.set_cons_zero, List.set_cons_succ]
          refine held_take 2 36 (v := ?_) rfl rfl (by kernel_rfl) (by kernel_rfl) (by kernel_rfl) (fun _ _ _ h => h) (by rfl) ?_ ⟨e0, e1⟩ ?_
          rotate_left
          focus (intro w hSw; (try dsimp only at hSw); simp only [List.getElem_toArray, List.getElem_cons_zero, List.getElem_cons_succ]; go_simp; try (with_reducible rfl))
          simp only [List.setIfInBounds_toArray, List.set_cons_zero, List.set_cons_succ]
          refine held_take 3 37 (v := ?_) rfl rfl (by kernel_rfl) (by kernel_rfl) (by kernel_rfl) (fun _ _ _ h => h) (by rfl) ?_ ⟨e0, e1⟩ ?_
          rotate_left
          focus (intro w hSw; (try dsimp only at hSw); simp only [List.getElem_toArray, List.getElem_cons_zero, List.getElem_cons_succ]; go_simp; try (with_reducible rfl))
          simp only [List.setIfInBounds_toArray, List.set_cons_zero, List.set_cons_succ]
          refine held_take 4 38 (v := ?_) rfl rfl (by kernel_rfl) (by kernel_rfl) (by kernel_rfl) (fun _ _ _ h => h) (by rfl) ?_ ⟨e0, e1⟩ ?_
          rotate_left
          focus (intro w hSw; (try dsimp only at hSw); simp only [List.getElem_toArray, List.getElem_cons_zero, List.getElem_cons_succ]; go_simp; try (with_reducible rfl))
          simp only [List.setIfInBounds_toArray, List.set_cons_zero, List.set_cons_succ]
          refine held_take 5 39 (v := ?_) rfl rfl (by kernel_rfl) (by kernel_rfl) (by kernel_rfl) (fun _ _ _ h => h) (by rfl) ?_ ⟨e0, e1⟩ ?_
          rotate_left
          focus (intro w hSw; (try dsimp only at hSw); simp only [List.getElem_toArray, List.getElem_cons_zero, List.getElem_cons_succ]; go_simp; try (with_reducible rfl))
          simp only [List.setIfInBounds_toArray, List.set_cons_zero, List.set_cons_succ]
          refine held_take 6 40 (v := ?_) rfl rfl (by kernel_rfl) (by kernel_rfl) (by kernel_rfl) (fun _ _ _ h => h) (by rfl) ?_ ⟨e0, e1⟩ ?_
          rotate_left
          focus (intro w hSw; (try dsimp only at hSw); simp only [List.getElem_toArray, List.getElem_cons_zero, List.getElem_cons_succ]; go_simp; try (with_reducible rfl))
          simp only [List.setIfInBounds_toArray, List.set_cons_zero, List.set_cons_succ]
          refine held_take 8 42 (v := ?_) rfl rfl (by kernel_rfl) (by kernel_rfl) (by kernel_rfl) (fun _ _ _ h => h) (by rfl) ?_ ⟨e0, e1⟩ ?_
          rotate_left
          focus (intro w hSw; (try dsimp only at hSw); simp only [List.getElem_toArray, List.getElem_cons_zero, List.getElem_cons_succ]; go_simp; try (with_reducible rfl))
          simp only [List.setIfInBounds_toArray, List.set_cons_zero, List.set_cons_succ]
          refine held_take 9 43 (v := ?_) rfl rfl (by kernel_rfl) (by kernel_rfl) (by kernel_rfl) (fun _ _ _ h => h) (by rfl) ?_ ⟨e0, e1⟩ ?_
          rotate_left
          focus (intro w hSw; (try dsimp only at hSw); simp only [List.getElem_toArray, List.getElem_cons_zero, List.getElem_cons_succ]; go_simp; try (with_reducible rfl))
          simp only [List.setIfInBounds_toArray, List.set_cons_zero, List.set_cons_succ]
          refine held_take 10 44 (v := ?_) rfl rfl (by kernel_rfl) (by kernel_rfl) (by kernel_rfl) (fun _ _ _ h => h) (by rfl) ?_ ⟨e0, e1⟩ ?_
          rotate_left
          focus (intro w hSw; (try dsimp only at hSw); simp only [List.getElem_toArray, List.getElem_cons_zero, List.getElem_cons_succ]; go_simp; try (with_reducible rfl))
          simp only [List.setIfInBounds_toArray, List.set_cons_zero, List.set_cons_succ]
          refine held_call 7 41 rfl rfl (by kernel_rfl) (by rfl) (fun K hK => ?_)
          simp only [List.getElem_toArray, List.getElem_cons_zero, List.getElem_cons_succ]
          go_simp
          (go_at_call 18; refine (rbits_any w1.heap.size s a e (N k) _ HR.out hS ha).mono ?_; rintro e5 w5 ⟨rfl, hr5, ho5⟩; have e0 := ho5.cell e0 hrne.symm; have e1 := ho5.cell e1 hrne.symm; have HR := Lib.hid hr5; have HQ := Lib.hid (show IsQ w5 w3.heap.size s b e from ho5.obj HQ.out hqr); have HX := Lib.hid (only_below HX.out (Nat.le_refl _) ho5); clear hr5 ho5)
          try go_wp2_with fail
          try simp only [Act.put, List.setIfInBounds_toArray, List.set_cons_zero, List.set_cons_succ]
          refine hK.out _ _ _ ⟨e0, e1⟩ ?_
          clear hK K
          refine held_call 11 45 rfl rfl (by kernel_rfl) (by rfl) (fun K hK => ?_)
          simp only [List.getElem_toArray, List.getElem_cons_zero, List.getElem_cons_succ]
          go_simp
          (go_at_call 23; refine (qbits_any w3.heap.size s b e (N k) _ HQ.out hS hb).mono ?_; rw [HT.out.1]; rintro e5 w5 ⟨rfl, hr5, ho5⟩; have e0 := ho5.cell e0 hqne.symm; have e1 := ho5.cell e1 hqne.symm; have HQ := Lib.hid hr5; have HR := Lib.hid (show IsR w5 w1.heap.size s (rb s a e (N k)).2.1 (rb s a e (N k)).2.2 from ho5.obj HR.out hrq); have HX := Lib.hid (only_below HX.out hw13 ho5); clear hr5 ho5)
          try go_wp2_with fail
          try simp only [Act.put, List.setIfInBounds_toArray, List.set_cons_zero, List.set_cons_succ]
          refine hK.out _ _ _ ⟨e0, e1⟩ ?_
          clear hK K
          refine held_take 12 46 (v := ?_) rfl rfl (by kernel_rfl) (by kernel_rfl) (by kernel_rfl) (fun _ _ _ h => h) (by rfl) ?_ ⟨e0, e1⟩ ?_
          rotate_left
          focus (intro w hSw; (try dsimp only at hSw); simp only [List.getElem_toArray, List.getElem_cons_zero, List.getElem_cons_succ]; go_simp; try (with_reducible rfl))
          simp only [List.setIfInBounds_toArray, List.set_cons_zero, List.set_cons_succ]
          refine held_take 13 47 (v := ?_) rfl rfl (by kernel_rfl) (by kernel_rfl) (by kernel_rfl) (fun _ _ _ h => h) (by rfl) ?_ ⟨e0, e1⟩ ?_
          rotate_left
          focus (intro w hSw; (try dsimp only at hSw); simp only [List.getElem_toArray, List.getElem_cons_zero, List.getElem_cons_succ]; go_simp; try (with_reducible rfl))
          simp only [List.setIfInBounds_toArray, List.set_cons_zero, List.set_cons_succ]
          refine held_take 14 48 (v := ?_) rfl rfl (by kernel_rfl) (by kernel_rfl) (by kernel_rfl) (fun _ _ _ h => h) (by rfl) ?_ ⟨e0, e1⟩ ?_
          rotate_left
          focus (intro w hSw; (try dsimp only at hSw); simp only [List.getElem_toArray, List.getElem_cons_zero, List.getElem_cons_succ]; go_simp; try (with_reducible rfl))
          simp only [List.setIfInBounds_toArray, List.set_cons_zero, List.set_cons_succ]
          refine held_take 15 49 (v := ?_) rfl rfl (by kernel_rfl) (by kernel_rfl) (by kernel_rfl) (fun _ _ _ h => h) (by rfl) ?_ ⟨e0, e1⟩ ?_
          rotate_left
          focus (intro w hSw; (try dsimp only at hSw); simp only [List.getElem_toArray, List.getElem_cons_zero, List.getElem_cons_succ]; go_simp; try (with_reducible rfl))
          simp only [List.setIfInBounds_toArray, List.set_cons_zero, List.set_cons_succ]
          refine held_take 16 50 (v := ?_) rfl rfl (by kernel_rfl) (by kernel_rfl) (by kernel_rfl) (fun _ _ _ h => h) (by rfl) ?_ ⟨e0, e1⟩ ?_
          rotate_left
          focus (intro w hSw; (try dsimp only at hSw); simp only [List.getElem_toArray, List.getElem_cons_zero, List.getElem_cons_succ]; go_simp; try (with_reducible rfl))
          simp only [List.setIfInBounds_toArray, List.set_cons_zero, List.set_cons_succ]
          refine held_take 17 51 (v := ?_) rfl rfl (by kernel_rfl) (by kernel_rfl) (by kernel_rfl) (fun _ _ _ h => h) (by rfl) ?_ ⟨e0, e1⟩ ?_
          rotate_left
          focus (intro w hSw; (try dsimp only at hSw); simp only [List.getElem_toArray, List.getElem_cons_zero, List.getElem_cons_succ]; go_simp; try (with_reducible rfl))
          simp only [List.setIfInBounds_toArray, List.set_cons_zero, List.set_cons_succ]
          refine held_take 18 52 (v := ?_) rfl rfl (by kernel_rfl) (by kernel_rfl) (by kernel_rfl) (fun _ _ _ h => h) (by rfl) ?_ ⟨e0, e1⟩ ?_
          rotate_left
          focus (intro w hSw; (try dsimp only at hSw); simp only [List.getElem_toArray, List.getElem_cons_zero, List.getElem_cons_succ]; go_simp; try (with_reducible rfl))
          simp only [List.setIfInBounds_toArray, List.set_cons_zero, List.set_cons_succ]
          refine held_skip 19 53 rfl rfl (by kernel_rfl) (by kernel_rfl) (by kernel_rfl) (fun _ _ _ h => h) (by rfl) ⟨e0, e1⟩ ?_
          simp only [List.setIfInBounds_toArray, List.set_cons_zero, List.set_cons_succ]
          refine held_skip 21 55 rfl rfl (by kernel_rfl) (by kernel_rfl) (by kernel_rfl) (fun _ _ _ h => h) (by rfl) ⟨e0, e1⟩ ?_
          simp only [List.setIfInBounds_toArray, List.set_cons_zero, List.set_cons_succ]
          refine held_pass 20 54 rfl rfl (by kernel_rfl) (by rfl) ⟨e0, e1⟩ ?_
          simp only [List.setIfInBounds_toArray, List.set_cons_zero, List.set_cons_succ]
          refine held_pass 22 56 rfl rfl (by kernel_rfl) (by rfl) ⟨e0, e1⟩ ?_
          simp only [List.setIfInBounds_toArray, List.set_cons_zero, List.set_cons_succ]
          refine held_skip 23 57 rfl rfl (by kernel_rfl) (by kernel_rfl) (by kernel_rfl) (fun _ _ _ h => h) (by rfl) ⟨e0, e1⟩ ?_
          simp only [List.setIfInBounds_toArray, List.set_cons_zero, List.set_cons_succ]
          refine held_take 24 58 (v := ?_) rfl rfl (by kernel_rfl) (by kernel_rfl) (by kernel_rfl) (fun _ _ _ h => h) (by rfl) ?_ ⟨e0, e1⟩ ?_
          rotate_left
          focus (intro w hSw; (try dsimp only at hSw); simp only [List.getElem_toArray, List.getElem_cons_zero, List.getElem_cons_succ]; go_simp; try (with_reducible rfl))
          simp only [List.setIfInBounds_toArray, List.set_cons_zero, List.set_cons_succ]
          refine held_take 25 59 (v := ?_) rfl rfl (by kernel_rfl) (by kernel_rfl) (by kernel_rfl) (fun _ _ _ h => h) (by rfl) ?_ ⟨e0, e1⟩ ?_
          rotate_left
          focus (intro w hSw; (try dsimp only at hSw); simp only [List.getElem_toArray, List.getElem_cons_zero, List.getElem_cons_succ]; go_simp; try (with_reducible rfl))
          simp only [List.setIfInBounds_toArray, List.set_cons_zero, List.set_cons_succ]
          refine wpAnyH_done (by kernel_rfl) ?_ _
          obtain ⟨w8, a2, b2, e2, hw8, hR8, hQ8, hX8, ha8, hb8, hab8⟩ : ∃ (w8 : World) (a2 b2 : Nat) (e2 : Int), w8 = w5 ∧ IsR w8 w1.heap.size s a2 e2 ∧ IsQ w8 w3.heap.size s b2 e2 ∧ Below w1.heap.size w1 w8 ∧ a2 ≤ 8 * s.size ∧ b2 ≤ 8 * s.size ∧ (e2 = 0 → b2 = a2) := ⟨w5, (rb s a e (N k)).2.1, (rb s b e (N k)).2.1, (rb s a e (N k)).2.2, rfl, HR.out, by have := HQ.out; rw [HT.out.2.1] at this; exact this, HX.out, ha2, hb2', HT.out.2.2⟩
          subst hw8
          have HAB := Lib.hid hab8
          clear hab8 HR HQ HX HT e0 e1
          go_upto_region 9 with fail
          have q0 := blk_cell hQ8 0
          have q1 := blk_cell hQ8 1
          simp at q0 q1
          have q0 : w8.drew.cell? ⟨w3.heap.size, 0, none⟩ = some (.string (str01 (seg s b2 (8 * s.size - b2)))) := q0
          have q1 : w8.drew.cell? ⟨w3.heap.size, 1, none⟩ = some (.int .i64 e2) := q1
          have HR := Lib.hid (show IsR w8.drew w1.heap.size s a2 e2 from hR8)
          have HQ := Lib.hid (show IsQ w8.drew w3.heap.size s b2 e2 from hQ8)
          have HX := Lib.hid (show Below w1.heap.size w1 w8.drew from ⟨hX8.os, hX8.tape, hX8.output, hX8.size, hX8.block⟩)
          clear hR8 hQ8 hX8
          by_cases he : e2 = 0
          · subst he
            obtain rfl := HAB.out rfl
            have hlen : (((str01 (seg s b2 (8 * s.size - b2))).size : Nat) : Int) = 8 * s.size - b2 := by rw [str01_size, seg_len]; omega
            refine wp_region_held_drew (S := (fun w' => w'.cell? ⟨w3.heap.size, 0, none⟩ = some (.string (str01 (seg s b2 (8 * s.size - b2)))) ∧ w'.cell? ⟨w3.heap.size, 1, none⟩ = some (.int .i64 0))) (by kernel_rfl) ⟨q0, q1⟩ (fun _ => ?_)
            refine held_take 0 60 (v := ?_) rfl rfl (by kernel_rfl) (by kernel_rfl) (by kernel_rfl) (fun _ _ _ h => h) (by rfl) ?_ ⟨q0, q1⟩ ?_
            rotate_left
            focus (intro w hSw; (try dsimp only at hSw); simp only [List.getElem_toArray, List.getElem_cons_zero, List.getElem_cons_succ]; go_simp; try (with_reducible rfl))
            simp only [List.setIfInBounds_toArray, List.set_cons_zero, List.set_cons_succ]
            refine held_take 2 62 (v := ?_) rfl rfl (by kernel_rfl) (by kernel_rfl) (by kernel_rfl) (fun _ _ _ h => h) (by rfl) ?_ ⟨q0, q1⟩ ?_
            rotate_left
            focus (intro w hSw; (try dsimp only at hSw); simp only [List.getElem_toArray, List.getElem_cons_zero, List.getElem_cons_succ]; go_simp; try (with_reducible rfl))
            simp only [List.setIfInBounds_toArray, List.set_cons_zero, List.set_cons_succ]
            refine held_take 3 63 (v := ?_) rfl rfl (by kernel_rfl) (by kernel_rfl) (by kernel_rfl) (fun _ _ _ h => h) (by rfl) ?_ ⟨q0, q1⟩ ?_
            rotate_left
            focus (intro w hSw; (try dsimp only at hSw); simp only [List.getElem_toArray, List.getElem_cons_zero, List.getElem_cons_succ]; go_simp; try (with_reducible rfl))
            simp only [List.setIfInBounds_toArray, List.set_cons_zero, List.set_cons_succ]
            refine held_take 4 64 (v := ?_) rfl rfl (by kernel_rfl) (by kernel_rfl) (by kernel_rfl) (fun _ _ _ h => h) (by rfl) ?_ ⟨q0, q1⟩ ?_
            rotate_left
            focus (intro w hSw; (try dsimp only at hSw); simp only [List.getElem_toArray, List.getElem_cons_zero, List.getElem_cons_succ]; go_simp; try (with_reducible rfl))
            simp only [List.setIfInBounds_toArray, List.set_cons_zero, List.set_cons_succ]
            refine held_take 5 65 (v := ?_) rfl rfl (by kernel_rfl) (by kernel_rfl) (by kernel_rfl) (fun _ _ _ h => h) (by rfl) ?_ ⟨q0, q1⟩ ?_
            rotate_left
            focus (intro w hSw; (try dsimp only at hSw); simp only [List.getElem_toArray, List.getElem_cons_zero, List.getElem_cons_succ]; go_simp; try (with_reducible rfl))
            simp only [List.setIfInBounds_toArray, List.set_cons_zero, List.set_cons_succ]
            refine held_call 1 61 rfl rfl (by kernel_rfl) (by rfl) (fun K hK => ?_)
            simp only [List.getElem_toArray, List.getElem_cons_zero, List.getElem_cons_succ]
            go_simp
            (go_at_call 25; refine (err_any w1.heap.size s b2 0 _ HR.out).mono ?_; rintro y w9 ⟨rfl, rfl⟩)
            try go_wp2_with fail
            try simp only [Act.put, List.setIfInBounds_toArray, List.set_cons_zero, List.set_cons_succ]
            refine hK.out _ _ _ ⟨q0, q1⟩ ?_
            clear hK K
            refine held_take 6 66 (v := ?_) rfl rfl (by kernel_rfl) (by kernel_rfl) (by kernel_rfl) (fun _ _ _ h => h) (by rfl) ?_ ⟨q0, q1⟩ ?_
            rotate_left
            focus (intro w hSw; (try dsimp only at hSw); simp only [List.getElem_toArray, List.getElem_cons_zero, List.getElem_cons_succ]; go_simp; try (with_reducible rfl))
            simp only [List.setIfInBounds_toArray, List.set_cons_zero, List.set_cons_succ]
            refine held_take 7 67 (v := ?_) rfl rfl (by kernel_rfl) (by kernel_rfl) (by kernel_rfl) (fun _ _ _ h => h) (by rfl) ?_ ⟨q0, q1⟩ ?_
            rotate_left
            focus (intro w hSw; (try dsimp only at hSw); simp only [List.getElem_toArray, List.getElem_cons_zero, List.getElem_cons_succ]; go_simp; try (with_reducible rfl))
            simp only [List.setIfInBounds_toArray, List.set_cons_zero, List.set_cons_succ]
            refine held_take 8 68 (v := ?_) rfl rfl (by kernel_rfl) (by kernel_rfl) (by kernel_rfl) (fun _ _ _ h => h) (by rfl) ?_ ⟨q0, q1⟩ ?_
            rotate_left
            focus (intro w hSw; (try dsimp only at hSw); simp only [List.getElem_toArray, List.getElem_cons_zero, List.getElem_cons_succ]; go_simp; try (with_reducible rfl))
            simp only [List.setIfInBounds_toArray, List.set_cons_zero, List.set_cons_succ]
            refine held_take 9 69 (v := ?_) rfl rfl (by kernel_rfl) (by kernel_rfl) (by kernel_rfl) (fun _ _ _ h => h) (by rfl) ?_ ⟨q0, q1⟩ ?_
            rotate_left
            focus (intro w hSw; (try dsimp only at hSw); simp only [List.getElem_toArray, List.getElem_cons_zero, List.getElem_cons_succ]; go_simp; try (with_reducible rfl))
            simp only [List.setIfInBounds_toArray, List.set_cons_zero, List.set_cons_succ]
            refine held_take 10 70 (v := ?_) rfl rfl (by kernel_rfl) (by kernel_rfl) (by kernel_rfl) (fun _ _ _ h => h) (by rfl) ?_ ⟨q0, q1⟩ ?_
            rotate_left
            focus (intro w hSw; (try dsimp only at hSw); simp only [List.getElem_toArray, List.getElem_cons_zero, List.getElem_cons_succ]; go_simp; try (with_reducible rfl))
            simp only [List.setIfInBounds_toArray, List.set_cons_zero, List.set_cons_succ]
            refine held_take 11 71 (v := ?_) rfl rfl (by kernel_rfl) (by kernel_rfl) (by kernel_rfl) (fun _ _ _ h => h) (by rfl) ?_ ⟨q0, q1⟩ ?_
            rotate_left
            focus (intro w hSw; (try dsimp only at hSw); simp only [List.getElem_toArray, List.getElem_cons_zero, List.getElem_cons_succ]; go_simp; try (with_reducible rfl))
            simp only [List.setIfInBounds_toArray, List.set_cons_zero, List.set_cons_succ]
            refine held_take 12 72 (v := ?_) rfl rfl (by kernel_rfl) (by kernel_rfl) (by kernel_rfl) (fun _ _ _ h => h) (by rfl) ?_ ⟨q0, q1⟩ ?_
            rotate_left
            focus (intro w hSw; (try dsimp only at hSw); simp only [List.getElem_toArray, List.getElem_cons_zero, List.getElem_cons_succ]; go_simp; try (with_reducible rfl))
            simp only [List.setIfInBounds_toArray, List.set_cons_zero, List.set_cons_succ]
            refine held_take 13 73 (v := ?_) rfl rfl (by kernel_rfl) (by kernel_rfl) (by kernel_rfl) (fun _ _ _ h => h) (by rfl) ?_ ⟨q0, q1⟩ ?_
            rotate_left
            focus (intro w hSw; (try dsimp only at hSw); simp only [List.getElem_toArray, List.getElem_cons_zero, List.getElem_cons_succ]; go_simp; try (with_reducible rfl))
            simp only [List.setIfInBounds_toArray, List.set_cons_zero, List.set_cons_succ]
            refine held_take 14 74 (v := ?_) rfl rfl (by kernel_rfl) (by kernel_rfl) (by kernel_rfl) (fun _ _ _ h => h) (by rfl) ?_ ⟨q0, q1⟩ ?_
            rotate_left
            focus (intro w hSw; (try dsimp only at hSw); simp only [List.getElem_toArray, List.getElem_cons_zero, List.getElem_cons_succ]; go_simp; try (with_reducible rfl))
            simp only [List.setIfInBounds_toArray, List.set_cons_zero, List.set_cons_succ]
            refine held_take 16 76 (v := ?_) rfl rfl (by kernel_rfl) (by kernel_rfl) (by kernel_rfl) (fun _ _ _ h => h) (by rfl) ?_ ⟨q0, q1⟩ ?_
            rotate_left
            focus (intro w hSw; (try dsimp only at hSw); simp only [List.getElem_toArray, List.getElem_cons_zero, List.getElem_cons_succ]; go_simp; try (with_reducible rfl))
            simp only [List.setIfInBounds_toArray, List.set_cons_zero, List.set_cons_succ]
            refine held_take 17 77 (v := ?_) rfl rfl (by kernel_rfl) (by kernel_rfl) (by kernel_rfl) (fun _ _ _ h => h) (by rfl) ?_ ⟨q0, q1⟩ ?_
            rotate_left
            focus (intro w hSw; (try dsimp only at hSw); simp only [List.getElem_toArray, List.getElem_cons_zero, List.getElem_cons_succ]; go_simp; try (with_reducible rfl))
            simp only [List.setIfInBounds_toArray, List.set_cons_zero, List.set_cons_succ]
            refine held_take 18 78 (v := ?_) rfl rfl (by kernel_rfl) (by kernel_rfl) (by kernel_rfl) (fun _ _ _ h => h) (by rfl) ?_ ⟨q0, q1⟩ ?_
            rotate_left
            focus (intro w hSw; (try dsimp only at hSw); simp only [List.getElem_toArray, List.getElem_cons_zero, List.getElem_cons_succ]; go_simp; try (with_reducible rfl))
            simp only [List.setIfInBounds_toArray, List.set_cons_zero, List.set_cons_succ]
            refine held_take 19 79 (v := ?_) rfl rfl (by kernel_rfl) (by kernel_rfl) (by kernel_rfl) (fun _ _ _ h => h) (by rfl) ?_ ⟨q0, q1⟩ ?_
            rotate_left
            focus (intro w hSw; (try dsimp only at hSw); simp only [List.getElem_toArray, List.getElem_cons_zero, List.getElem_cons_succ]; go_simp; try (with_reducible rfl))
            simp only [List.setIfInBounds_toArray, List.set_cons_zero, List.set_cons_succ]
            refine held_take 20 80 (v := ?_) rfl rfl (by kernel_rfl) (by kernel_rfl) (by kernel_rfl) (fun _ _ _ h => h) (by rfl) ?_ ⟨q0, q1⟩ ?_
            rotate_left
            focus (intro w hSw; (try dsimp only at hSw); simp only [List.getElem_toArray, List.getElem_cons_zero, List.getElem_cons_succ]; go_simp; try (with_reducible rfl))
            simp only [List.setIfInBounds_toArray, List.set_cons_zero, List.set_cons_succ]
            refine held_call 15 75 rfl rfl (by kernel_rfl) (by rfl) (fun K hK => ?_)
            simp only [List.getElem_toArray, List.getElem_cons_zero, List.getElem_cons_succ]
            go_simp
            (go_at_call 26; refine (left_any w1.heap.size s b2 0 _ HR.out hS ha8).mono ?_; rintro y w9 ⟨rfl, rfl⟩)
            try go_wp2_with fail
            try simp only [Act.put, List.setIfInBounds_toArray, List.set_cons_zero, List.set_cons_succ]
            refine hK.out _ _ _ ⟨q0, q1⟩ ?_
            clear hK K
            refine held_take 21 81 (v := ?_) rfl rfl (by kernel_rfl) (by kernel_rfl) (by kernel_rfl) (fun _ _ _ h => h) (by rfl) ?_ ⟨q0, q1⟩ ?_
            rotate_left
            focus (intro w hSw; (try dsimp only at hSw); simp only [List.getElem_toArray, List.getElem_cons_zero, List.getElem_cons_succ]; go_simp; try (with_reducible rfl))
            simp only [List.setIfInBounds_toArray, List.set_cons_zero, List.set_cons_succ]
            refine held_take 22 82 (v := ?_) rfl rfl (by kernel_rfl) (by kernel_rfl) (by kernel_rfl) (fun _ _ _ h => h) (by rfl) ?_ ⟨q0, q1⟩ ?_
            rotate_left
            focus (intro w hSw; (try dsimp only at hSw); simp only [List.getElem_toArray, List.getElem_cons_zero, List.getElem_cons_succ]; go_simp; try (with_reducible rfl))
            simp only [List.setIfInBounds_toArray, List.set_cons_zero, List.set_cons_succ]
            refine held_take 23 83 (v := ?_) rfl rfl (by kernel_rfl) (by kernel_rfl) (by kernel_rfl) (fun _ _ _ h => h) (by rfl) ?_ ⟨q0, q1⟩ ?_
            rotate_left
            focus (intro w hSw; (try dsimp only at hSw); simp only [List.getElem_toArray, List.getElem_cons_zero, List.getElem_cons_succ]; go_simp; try (with_reducible rfl))
            simp only [List.setIfInBounds_toArray, List.set_cons_zero, List.set_cons_succ]
            refine wpAnyH_done (by kernel_rfl) ?_ _
            go_wp2
            go_roundw
            case rel => exact ⟨k + 1, b2, b2, 0, by omega, by go_num, ha8, hb8, fun _ => rfl, HR.out, HQ.out, ⟨HX.out.os, HX.out.tape, HX.out.output, HX.out.size, HX.out.block⟩⟩
            case measure => simp [intOf]; omega
          · have heb : (e2 == 0) = false := by simp [he]
            refine wp_region_held_drew (S := (fun w' => w'.cell? ⟨w3.heap.size, 0, none⟩ = some (.string (str01 (seg s b2 (8 * s.size - b2)))) ∧ w'.cell? ⟨w3.heap.size, 1, none⟩ = some (.int .i64 e2))) (by kernel_rfl) ⟨q0, q1⟩ (fun _ => ?_)
            refine held_take 0 60 (v := ?_) rfl rfl (by kernel_rfl) (by kernel_rfl) (by kernel_rfl) (fun _ _ _ h => h) (by rfl) ?_ ⟨q0, q1⟩ ?_
            rotate_left
            focus (intro w hSw; (try dsimp only at hSw); simp only [List.getElem_toArray, List.getElem_cons_zero, List.getElem_cons_succ]; go_simp; try (with_reducible rfl))
            simp only [List.setIfInBounds_toArray, List.set_cons_zero, List.set_cons_succ]
            refine held_take 2 62 (v := ?_) rfl rfl (by kernel_rfl) (by kernel_rfl) (by kernel_rfl) (fun _ _ _ h => h) (by rfl) ?_ ⟨q0, q1⟩ ?_
            rotate_left
            focus (intro w hSw; (try dsimp only at hSw); simp only [List.getElem_toArray, List.getElem_cons_zero, List.getElem_cons_succ]; go_simp; try (with_reducible rfl))
            simp only [List.setIfInBounds_toArray, List.set_cons_zero, List.set_cons_succ]
            refine held_take 3 63 (v := ?_) rfl rfl (by kernel_rfl) (by kernel_rfl) (by kernel_rfl) (fun _ _ _ h => h) (by rfl) ?_ ⟨q0, q1⟩ ?_
            rotate_left
            focus (intro w hSw; (try dsimp only at hSw); simp only [List.getElem_toArray, List.getElem_cons_zero, List.getElem_cons_succ]; go_simp; try (with_reducible rfl))
            simp only [List.setIfInBounds_toArray, List.set_cons_zero, List.set_cons_succ]
            refine held_take 4 64 (v := ?_) rfl rfl (by kernel_rfl) (by kernel_rfl) (by kernel_rfl) (fun _ _ _ h => h) (by rfl) ?_ ⟨q0, q1⟩ ?_
            rotate_left
            focus (intro w hSw; (try dsimp only at hSw); simp only [List.getElem_toArray, List.getElem_cons_zero, List.getElem_cons_succ]; go_simp; try (with_reducible rfl))
            simp only [List.setIfInBounds_toArray, List.set_cons_zero, List.set_cons_succ]
            refine held_take 5 65 (v := ?_) rfl rfl (by kernel_rfl) (by kernel_rfl) (by kernel_rfl) (fun _ _ _ h => h) (by rfl) ?_ ⟨q0, q1⟩ ?_
            rotate_left
            focus (intro w hSw; (try dsimp only at hSw); simp only [List.getElem_toArray, List.getElem_cons_zero, List.getElem_cons_succ]; go_simp; try (with_reducible rfl))
            simp only [List.setIfInBounds_toArray, List.set_cons_zero, List.set_cons_succ]
            refine held_call 1 61 rfl rfl (by kernel_rfl) (by rfl) (fun K hK => ?_)
            simp only [List.getElem_toArray, List.getElem_cons_zero, List.getElem_cons_succ]
            go_simp
            (go_at_call 25; refine (err_any w1.heap.size s a2 e2 _ HR.out).mono ?_; rintro y w9 ⟨rfl, rfl⟩)
            try go_wp2_with fail
            try simp only [Act.put, List.setIfInBounds_toArray, List.set_cons_zero, List.set_cons_succ]
            refine hK.out _ _ _ ⟨q0, q1⟩ ?_
            clear hK K
            refine held_take 6 66 (v := ?_) rfl rfl (by kernel_rfl) (by kernel_rfl) (by kernel_rfl) (fun _ _ _ h => h) (by rfl) ?_ ⟨q0, q1⟩ ?_
            rotate_left
            focus (intro w hSw; (try dsimp only at hSw); simp only [List.getElem_toArray, List.getElem_cons_zero, List.getElem_cons_succ]; go_simp; try (with_reducible rfl))
            simp only [List.setIfInBounds_toArray, List.set_cons_zero, List.set_cons_succ]
            refine held_take 7 67 (v := ?_) rfl rfl (by kernel_rfl) (by kernel_rfl) (by kernel_rfl) (fun _ _ _ h => h) (by rfl) ?_ ⟨q0, q1⟩ ?_
            rotate_left
            focus (intro w hSw; (try dsimp only at hSw); simp only [List.getElem_toArray, List.getElem_cons_zero, List.getElem_cons_succ]; go_simp; try (with_reducible rfl))
            simp only [List.setIfInBounds_toArray, List.set_cons_zero, List.set_cons_succ]
            refine held_take 8 68 (v := ?_) rfl rfl (by kernel_rfl) (by kernel_rfl) (by kernel_rfl) (fun _ _ _ h => h) (by rfl) ?_ ⟨q0, q1⟩ ?_
            rotate_left
            focus (intro w hSw; (try dsimp only at hSw); simp only [List.getElem_toArray, List.getElem_cons_zero, List.getElem_cons_succ]; go_simp; try (with_reducible rfl))
            simp only [List.setIfInBounds_toArray, List.set_cons_zero, List.set_cons_succ]
            refine held_take 9 69 (v := ?_) rfl rfl (by kernel_rfl) (by kernel_rfl) (by kernel_rfl) (fun _ _ _ h => h) (by rfl) ?_ ⟨q0, q1⟩ ?_
            rotate_left
            focus (intro w hSw; (try dsimp only at hSw); simp only [List.getElem_toArray, List.getElem_cons_zero, List.getElem_cons_succ]; go_simp; try (with_reducible rfl))
            simp only [List.setIfInBounds_toArray, List.set_cons_zero, List.set_cons_succ]
            refine held_take 10 70 (v := ?_) rfl rfl (by kernel_rfl) (by kernel_rfl) (by kernel_rfl) (fun _ _ _ h => h) (by rfl) ?_ ⟨q0, q1⟩ ?_
            rotate_left
            focus (intro w hSw; (try dsimp only at hSw); simp only [List.getElem_toArray, List.getElem_cons_zero, List.getElem_cons_succ]; go_simp; try (with_reducible rfl))
            simp only [List.setIfInBounds_toArray, List.set_cons_zero, List.set_cons_succ]
            refine held_take 11 71 (v := ?_) rfl rfl (by kernel_rfl) (by kernel_rfl) (by kernel_rfl) (fun _ _ _ h => h) (by rfl) ?_ ⟨q0, q1⟩ ?_
            rotate_left
            focus (intro w hSw; (try dsimp only at hSw); simp only [List.getElem_toArray, List.getElem_cons_zero, List.getElem_cons_succ]; go_simp; try (with_reducible rfl))
            simp only [List.setIfInBounds_toArray, List.set_cons_zero, List.set_cons_succ]
            refine held_take 12 72 (v := ?_) rfl rfl (by kernel_rfl) (by kernel_rfl) (by kernel_rfl) (fun _ _ _ h => h) (by rfl) ?_ ⟨q0, q1⟩ ?_
            rotate_left
            focus (intro w hSw; (try dsimp only at hSw); simp only [List.getElem_toArray, List.getElem_cons_zero, List.getElem_cons_succ]; go_simp; try (with_reducible rfl))
            simp only [List.setIfInBounds_toArray, List.set_cons_zero, List.set_cons_succ]
            refine held_take 13 73 (v := ?_) rfl rfl (by kernel_rfl) (by kernel_rfl) (by kernel_rfl) (fun _ _ _ h => h) (by rfl) ?_ ⟨q0, q1⟩ ?_
            rotate_left
            focus (intro w hSw; (try dsimp only at hSw); simp only [List.getElem_toArray, List.getElem_cons_zero, List.getElem_cons_succ]; go_simp; try (with_reducible rfl))
            simp only [List.setIfInBounds_toArray, List.set_cons_zero, List.set_cons_succ]
            refine held_skip 14 74 rfl rfl (by kernel_rfl) (by kernel_rfl) (by kernel_rfl) (fun _ _ _ h => h) (by rfl) ⟨q0, q1⟩ ?_
            simp only [List.setIfInBounds_toArray, List.set_cons_zero, List.set_cons_succ]
            refine held_skip 16 76 rfl rfl (by kernel_rfl) (by kernel_rfl) (by kernel_rfl) (fun _ _ _ h => h) (by rfl) ⟨q0, q1⟩ ?_
            simp only [List.setIfInBounds_toArray, List.set_cons_zero, List.set_cons_succ]
            refine held_skip 17 77 rfl rfl (by kernel_rfl) (by kernel_rfl) (by kernel_rfl) (fun _ _ _ h => h) (by rfl) ⟨q0, q1⟩ ?_
            simp only [List.setIfInBounds_toArray, List.set_cons_zero, List.set_cons_succ]
            refine held_skip 18 78 rfl rfl (by kernel_rfl) (by kernel_rfl) (by kernel_rfl) (fun _ _ _ h => h) (by rfl) ⟨q0, q1⟩ ?_
            simp only [List.setIfInBounds_toArray, List.set_cons_zero, List.set_cons_succ]
            refine held_skip 19 79 rfl rfl (by kernel_rfl) (by kernel_rfl) (by kernel_rfl) (fun _ _ _ h => h) (by rfl) ⟨q0, q1⟩ ?_
            simp only [List.setIfInBounds_toArray, List.set_cons_zero, List.set_cons_succ]
            refine held_skip 20 80 rfl rfl (by kernel_rfl) (by kernel_rfl) (by kernel_rfl) (fun _ _ _ h => h) (by rfl) ⟨q0, q1⟩ ?_
            simp only [List.setIfInBounds_toArray, List.set_cons_zero, List.set_cons_succ]
            refine held_pass 15 75 rfl rfl (by kernel_rfl) (by rfl) ⟨q0, q1⟩ ?_
            simp only [List.setIfInBounds_toArray, List.set_cons_zero, List.set_cons_succ]
            refine held_skip 21 81 rfl rfl (by kernel_rfl) (by kernel_rfl) (by kernel_rfl) (fun _ _ _ h => h) (by rfl) ⟨q0, q1⟩ ?_
            simp only [List.setIfInBounds_toArray, List.set_cons_zero, List.set_cons_succ]
            refine held_take 22 82 (v := ?_) rfl rfl (by kernel_rfl) (by kernel_rfl) (by kernel_rfl) (fun _ _ _ h => h) (by rfl) ?_ ⟨q0, q1⟩ ?_
            rotate_left
            focus (intro w hSw; (try dsimp only at hSw); simp only [List.getElem_toArray, List.getElem_cons_zero, List.getElem_cons_succ]; go_simp; try (with_reducible rfl))
            simp only [List.setIfInBounds_toArray, List.set_cons_zero, List.set_cons_succ]
            refine held_take 23 83 (v := ?_) rfl rfl (by kernel_rfl) (by kernel_rfl) (by kernel_rfl) (fun _ _ _ h => h) (by rfl) ?_ ⟨q0, q1⟩ ?_
            rotate_left
            focus (intro w hSw; (try dsimp only at hSw); simp only [List.getElem_toArray, List.getElem_cons_zero, List.getElem_cons_succ]; go_simp; try (with_reducible rfl))
            simp only [List.setIfInBounds_toArray, List.set_cons_zero, List.set_cons_succ]
            refine wpAnyH_done (by kernel_rfl) ?_ _
            go_wp2
            go_roundw
            case rel => exact ⟨k + 1, a2, b2, e2, by omega, by go_num, ha8, hb8, HAB.out, HR.out, HQ.out, ⟨HX.out.os, HX.out.tape, HX.out.output, HX.out.size, HX.out.block⟩⟩
            case measure => simp [intOf]; omega
        · have hKb : (K k == 1) = false := by simp [hK]
          have hKn : (K k != 1) = true := by simp [hK]
          have HT := Lib.hid (rc_two (s := s) HAB.out)
          have ha2 := rc_le s a e ha
          refine wp_region_held_drew (S := (fun w' => w'.cell? ⟨wr.heap.size, 0, none⟩ = some (.int .i64 (K k)) ∧ w'.cell? ⟨wr.heap.size, 1, none⟩ = some (.int .i64 (N k)))) (by kernel_rfl) ⟨e0, e1⟩ (fun _ => ?_)
          refine held_take 0 34 (v := ?_) rfl rfl (by kernel_rfl) (by kernel_rfl) (by kernel_rfl) (fun _ _ _ h => h) (by rfl) ?_ ⟨e0, e1⟩ ?_
          rotate_left
          focus (intro w hSw; (try dsimp only at hSw); simp only [List.getElem_toArray, List.getElem_cons_zero, List.getElem_cons_succ]; go_simp; try (with_reducible rfl))
          simp only [List.setIfInBounds_toArray, List.set_cons_zero, List.set_cons_succ]
          refine held_take 1 35 (v := ?_) rfl rfl (by kernel_rfl) (by kernel_rfl) (by kernel_rfl) (fun _ _ _ h => h) (by rfl) ?_ ⟨e0, e1⟩ ?_
          rotate_left
          focus (intro w hSw; (try dsimp only at hSw); simp only [List.getElem_toArray, List.getElem_cons_zero, List.getElem_cons_succ]; go_simp; try (with_reducible rfl))
          simp only [List.setIfInBounds_toArray, List.set_cons_zero, List.set_cons_succ]
          refine held_take 2 36 (v := ?_) rfl rfl (by kernel_rfl) (by kernel_rfl) (by kernel_rfl) (fun _ _ _ h => h) (by rfl) ?_ ⟨e0, e1⟩ ?_
          rotate_left
          focus (intro w hSw; (try dsimp only at hSw); simp only [List.getElem_toArray, List.getElem_cons_zero, List.getElem_cons_succ]; go_simp; try (with_reducible rfl))
          simp only [List.setIfInBounds_toArray, List.set_cons_zero, List.set_cons_succ]
          refine held_take 3 37 (v := ?_) rfl rfl (by kernel_rfl) (by kernel_rfl) (by kernel_rfl) (fun _ _ _ h => h) (by rfl) ?_ ⟨e0, e1⟩ ?_
          rotate_left
          focus (intro w hSw; (try dsimp only at hSw); simp only [List.getElem_toArray, List.getElem_cons_zero, List.getElem_cons_succ]; go_simp; try (with_reducible rfl))
          simp only [List.setIfInBounds_toArray, List.set_cons_zero, List.set_cons_succ]
          refine held_skip 4 38 rfl rfl (by kernel_rfl) (by kernel_rfl) (by kernel_rfl) (fun _ _ _ h => h) (by rfl) ⟨e0, e1⟩ ?_
          simp only [List.setIfInBounds_toArray, List.set_cons_zero, List.set_cons_succ]
          refine held_skip 5 39 rfl rfl (by kernel_rfl) (by kernel_rfl) (by kernel_rfl) (fun _ _ _ h => h) (by rfl) ⟨e0, e1⟩ ?_
          simp only [List.setIfInBounds_toArray, List.set_cons_zero, List.set_cons_succ]
          refine held_skip 6 40 rfl rfl (by kernel_rfl) (by kernel_rfl) (by kernel_rfl) (fun _ _ _ h => h) (by rfl) ⟨e0, e1⟩ ?_
          simp only [List.setIfInBounds_toArray, List.set_cons_zero, List.set_cons_succ]
          refine held_skip 8 42 rfl rfl (by kernel_rfl) (by kernel_rfl) (by kernel_rfl) (fun _ _ _ h => h) (by rfl) ⟨e0, e1⟩ ?_
          simp only [List.setIfInBounds_toArray, List.set_cons_zero, List.set_cons_succ]
          refine held_skip 9 43 rfl rfl (by kernel_rfl) (by kernel_rfl) (by kernel_rfl) (fun _ _ _ h => h) (by rfl) ⟨e0, e1⟩ ?_
          simp only [List.setIfInBounds_toArray, List.set_cons_zero, List.set_cons_succ]
          refine held_skip 10 44 rfl rfl (by kernel_rfl) (by kernel_rfl) (by kernel_rfl) (fun _ _ _ h => h) (by rfl) ⟨e0, e1⟩ ?_
          simp only [List.setIfInBounds_toArray, List.set_cons_zero, List.set_cons_succ]
          refine held_pass 7 41 rfl rfl (by kernel_rfl) (by rfl) ⟨e0, e1⟩ ?_
          simp only [List.setIfInBounds_toArray, List.set_cons_zero, List.set_cons_succ]
          refine held_pass 11 45 rfl rfl (by kernel_rfl) (by rfl) ⟨e0, e1⟩ ?_
          simp only [List.setIfInBounds_toArray, List.set_cons_zero, List.set_cons_succ]
          refine held_skip 12 46 rfl rfl (by kernel_rfl) (by kernel_rfl) (by kernel_rfl) (fun _ _ _ h => h) (by rfl) ⟨e0, e1⟩ ?_
          simp only [List.setIfInBounds_toArray, List.set_cons_zero, List.set_cons_succ]
          refine held_take 13 47 (v := ?_) rfl rfl (by kernel_rfl) (by kernel_rfl) (by kernel_rfl) (fun _ _ _ h => h) (by rfl) ?_ ⟨e0, e1⟩ ?_
          rotate_left
          focus (intro w hSw; (try dsimp only at hSw); simp only [List.getElem_toArray, List.getElem_cons_zero, List.getElem_cons_succ]; go_simp; try (with_reducible rfl))
          simp only [List.setIfInBounds_toArray, List.set_cons_zero, List.set_cons_succ]
          refine held_take 14 48 (v := ?_) rfl rfl (by kernel_rfl) (by kernel_rfl) (by kernel_rfl) (fun _ _ _ h => h) (by rfl) ?_ ⟨e0, e1⟩ ?_
          rotate_left
          focus (intro w hSw; (try dsimp only at hSw); simp only [List.getElem_toArray, List.getElem_cons_zero, List.getElem_cons_succ]; go_simp; try (with_reducible rfl))
          simp only [List.setIfInBounds_toArray, List.set_cons_zero, List.set_cons_succ]
          refine held_take 15 49 (v := ?_) rfl rfl (by kernel_rfl) (by kernel_rfl) (by kernel_rfl) (fun _ _ _ h => h) (by rfl) ?_ ⟨e0, e1⟩ ?_
          rotate_left
          focus (intro w hSw; (try dsimp only at hSw); simp only [List.getElem_toArray, List.getElem_cons_zero, List.getElem_cons_succ]; go_simp; try (with_reducible rfl))
          simp only [List.setIfInBounds_toArray, List.set_cons_zero, List.set_cons_succ]
          refine held_take 16 50 (v := ?_) rfl rfl (by kernel_rfl) (by kernel_rfl) (by kernel_rfl) (fun _ _ _ h => h) (by rfl) ?_ ⟨e0, e1⟩ ?_
          rotate_left
          focus (intro w hSw; (try dsimp only at hSw); simp only [List.getElem_toArray, List.getElem_cons_zero, List.getElem_cons_succ]; go_simp; try (with_reducible rfl))
          simp only [List.setIfInBounds_toArray, List.set_cons_zero, List.set_cons_succ]
          refine held_take 17 51 (v := ?_) rfl rfl (by kernel_rfl) (by kernel_rfl) (by kernel_rfl) (fun _ _ _ h => h) (by rfl) ?_ ⟨e0, e1⟩ ?_
          rotate_left
          focus (intro w hSw; (try dsimp only at hSw); simp only [List.getElem_toArray, List.getElem_cons_zero, List.getElem_cons_succ]; go_simp; try (with_reducible rfl))
          simp only [List.setIfInBounds_toArray, List.set_cons_zero, List.set_cons_succ]
          refine held_take 18 52 (v := ?_) rfl rfl (by kernel_rfl) (by kernel_rfl) (by kernel_rfl) (fun _ _ _ h => h) (by rfl) ?_ ⟨e0, e1⟩ ?_
          rotate_left
          focus (intro w hSw; (try dsimp only at hSw); simp only [List.getElem_toArray, List.getElem_cons_zero, List.getElem_cons_succ]; go_simp; try (with_reducible rfl))
          simp only [List.setIfInBounds_toArray, List.set_cons_zero, List.set_cons_succ]
          refine held_take 19 53 (v := ?_) rfl rfl (by kernel_rfl) (by kernel_rfl) (by kernel_rfl) (fun _ _ _ h => h) (by rfl) ?_ ⟨e0, e1⟩ ?_
          rotate_left
          focus (intro w hSw; (try dsimp only at hSw); simp only [List.getElem_toArray, List.getElem_cons_zero, List.getElem_cons_succ]; go_simp; try (with_reducible rfl))
          simp only [List.setIfInBounds_toArray, List.set_cons_zero, List.set_cons_succ]
          refine held_take 21 55 (v := ?_) rfl rfl (by kernel_rfl) (by kernel_rfl) (by kernel_rfl) (fun _ _ _ h => h) (by rfl) ?_ ⟨e0, e1⟩ ?_
          rotate_left
          focus (intro w hSw; (try dsimp only at hSw); simp only [List.getElem_toArray, List.getElem_cons_zero, List.getElem_cons_succ]; go_simp; try (with_reducible rfl))
          simp only [List.setIfInBounds_toArray, List.set_cons_zero, List.set_cons_succ]
          refine held_call 20 54 rfl rfl (by kernel_rfl) (by rfl) (fun K hK => ?_)
          simp only [List.getElem_toArray, List.getElem_cons_zero, List.getElem_cons_succ]
          go_simp
          (go_at_call 20; refine (rcode_any w1.heap.size s a e _ HR.out hS ha).mono ?_; rintro e5 w5 ⟨rfl, hr5, ho5⟩; have e0 := ho5.cell e0 hrne.symm; have e1 := ho5.cell e1 hrne.symm; have HR := Lib.hid hr5; have HQ := Lib.hid (show IsQ w5 w3.heap.size s b e from ho5.obj HQ.out hqr); have HX := Lib.hid (only_below HX.out (Nat.le_refl _) ho5); clear hr5 ho5)
          try go_wp2_with fail
          try simp only [Act.put, List.setIfInBounds_toArray, List.set_cons_zero, List.set_cons_succ]
          refine hK.out _ _ _ ⟨e0, e1⟩ ?_
          clear hK K
          refine held_call 22 56 rfl rfl (by kernel_rfl) (by rfl) (fun K hK => ?_)
          simp only [List.getElem_toArray, List.getElem_cons_zero, List.getElem_cons_succ]
          go_simp
          (go_at_call 24; refine (qcode_any w3.heap.size s b e _ HQ.out hS hb).mono ?_; rw [HT.out.1]; rintro e5 w5 ⟨rfl, hr5, ho5⟩; have e0 := ho5.cell e0 hqne.symm; have e1 := ho5.cell e1 hqne.symm; have HQ := Lib.hid hr5; have HR := Lib.hid (show IsR w5 w1.heap.size s (rc s a e).2.1 (rc s a e).2.2 from ho5.obj HR.out hrq); have HX := Lib.hid (only_below HX.out hw13 ho5); clear hr5 ho5)
          try go_wp2_with fail
          try simp only [Act.put, List.setIfInBounds_toArray, List.set_cons_zero, List.set_cons_succ]
          refine hK.out _ _ _ ⟨e0, e1⟩ ?_
          clear hK K
          refine held_take 23 57 (v := ?_) rfl rfl (by kernel_rfl) (by kernel_rfl) (by kernel_rfl) (fun _ _ _ h => h) (by rfl) ?_ ⟨e0, e1⟩ ?_
          rotate_left
          focus (intro w hSw; (try dsimp only at hSw); simp only [List.getElem_toArray, List.getElem_cons_zero, List.getElem_cons_succ]; go_simp; try (with_reducible rfl))
          simp only [List.setIfInBounds_toArray, List.set_cons_zero, List.set_cons_succ]
          refine held_take 24 58 (v := ?_) rfl rfl (by kernel_rfl) (by kernel_rfl) (by kernel_rfl) (fun _ _ _ h => h) (by rfl) ?_ ⟨e0, e1⟩ ?_
          rotate_left
          focus (intro w hSw; (try dsimp only at hSw); simp only [List.getElem_toArray, List.getElem_cons_zero, List.getElem_cons_succ]; go_simp; try (with_reducible rfl))
          simp only [List.setIfInBounds_toArray, List.set_cons_zero, List.set_cons_succ]
          refine held_take 25 59 (v := ?_) rfl rfl (by kernel_rfl) (by kernel_rfl) (by kernel_rfl) (fun _ _ _ h => h) (by rfl) ?_ ⟨e0, e1⟩ ?_
          rotate_left
          focus (intro w hSw; (try dsimp only at hSw); simp only [List.getElem_toArray, List.getElem_cons_zero, List.getElem_cons_succ]; go_simp; try (with_reducible rfl))
          simp only [List.setIfInBounds_toArray, List.set_cons_zero, List.set_cons_succ]
          refine wpAnyH_done (by kernel_rfl) ?_ _
          obtain ⟨w8, a2, b2, e2, hw8, hR8, hQ8, hX8, ha8, hb8, hab8⟩ : ∃ (w8 : World) (a2 b2 : Nat) (e2 : Int), w8 = w5 ∧ IsR w8 w1.heap.size s a2 e2 ∧ IsQ w8 w3.heap.size s b2 e2 ∧ Below w1.heap.size w1 w8 ∧ a2 ≤ 8 * s.size ∧ b2 ≤ 8 * s.size ∧ (e2 = 0 → b2 = a2) := by
            obtain ⟨b2, h1, h2, h3⟩ := HQ.out
            rw [HT.out.2.1] at h2 h3
            exact ⟨w5, (rc s a e).2.1, b2, (rc s a e).2.2, rfl, HR.out, h2, HX.out, ha2, h1, fun h => (h3 h).trans (HT.out.2.2 h)⟩
          subst hw8
          have HAB := Lib.hid hab8
          clear hab8 HR HQ HX HT e0 e1
          go_upto_region 9 with fail
          have q0 := blk_cell hQ8 0
          have q1 := blk_cell hQ8 1
          simp at q0 q1
          have q0 : w8.drew.cell? ⟨w3.heap.size, 0, none⟩ = some (.string (str01 (seg s b2 (8 * s.size - b2)))) := q0
          have q1 : w8.drew.cell? ⟨w3.heap.size, 1, none⟩ = some (.int .i64 e2) := q1
          have HR := Lib.hid (show IsR w8.drew w1.heap.size s a2 e2 from hR8)
          have HQ := Lib.hid (show IsQ w8.drew w3.heap.size s b2 e2 from hQ8)
          have HX := Lib.hid (show Below w1.heap.size w1 w8.drew from ⟨hX8.os, hX8.tape, hX8.output, hX8.size, hX8.block⟩)
          clear hR8 hQ8 hX8
          by_cases he : e2 = 0
          · subst he
            obtain rfl := HAB.out rfl
            have hlen : (((str01 (seg s b2 (8 * s.size - b2))).size : Nat) : Int) = 8 * s.size - b2 := by rw [str01_size, seg_len]; omega
            refine wp_region_held_drew (S := (fun w' => w'.cell? ⟨w3.heap.size, 0, none⟩ = some (.string (str01 (seg s b2 (8 * s.size - b2)))) ∧ w'.cell? ⟨w3.heap.size, 1, none⟩ = some (.int .i64 0))) (by kernel_rfl) ⟨q0, q1⟩ (fun _ => ?_)
            refine held_take 0 60 (v := ?_) rfl rfl (by kernel_rfl) (by kernel_rfl) (by kernel_rfl) (fun _ _ _ h => h) (by rfl) ?_ ⟨q0, q1⟩ ?_
            rotate_left
            focus (intro w hSw; (try dsimp only at hSw); simp only [List.getElem_toArray, List.getElem_cons_zero, List.getElem_cons_succ]; go_simp; try (with_reducible rfl))
            simp only [List.setIfInBounds_toArray, List.set_cons_zero, List.set_cons_succ]
            refine held_take 2 62 (v := ?_) rfl rfl (by kernel_rfl) (by kernel_rfl) (by kernel_rfl) (fun _ _ _ h => h) (by rfl) ?_ ⟨q0, q1⟩ ?_
            rotate_left
            focus (intro w hSw; (try dsimp only at hSw); simp only [List.getElem_toArray, List.getElem_cons_zero, List.getElem_cons_succ]; go_simp; try (with_reducible rfl))
            simp only [List.setIfInBounds_toArray, List.set_cons_zero, List.set_cons_succ]
            refine held_take 3 63 (v := ?_) rfl rfl (by kernel_rfl) (by kernel_rfl) (by kernel_rfl) (fun _ _ _ h => h) (by rfl) ?_ ⟨q0, q1⟩ ?_
            rotate_left
            focus (intro w hSw; (try dsimp only at hSw); simp only [List.getElem_toArray, List.getElem_cons_zero, List.getElem_cons_succ]; go_simp; try (with_reducible rfl))
            simp only [List.setIfInBounds_toArray, List.set_cons_zero, List.set_cons_succ]
            refine held_take 4 64 (v := ?_) rfl rfl (by kernel_rfl) (by kernel_rfl) (by kernel_rfl) (fun _ _ _ h => h) (by rfl) ?_ ⟨q0, q1⟩ ?_
            rotate_left
            focus (intro w hSw; (try dsimp only at hSw); simp only [List.getElem_toArray, List.getElem_cons_zero, List.getElem_cons_succ]; go_simp; try (with_reducible rfl))
            simp only [List.setIfInBounds_toArray, List.set_cons_zero, List.set_cons_succ]
            refine held_take 5 65 (v := ?_) rfl rfl (by kernel_rfl) (by kernel_rfl) (by kernel_rfl) (fun _ _ _ h => h) (by rfl) ?_ ⟨q0, q1⟩ ?_
            rotate_left
            focus (intro w hSw; (try dsimp only at hSw); simp only [List.getElem_toArray, List.getElem_cons_zero, List.getElem_cons_succ]; go_simp; try (with_reducible rfl))
            simp only [List.setIfInBounds_toArray, List.set_cons_zero, List.set_cons_succ]
            refine held_call 1 61 rfl rfl (by kernel_rfl) (by rfl) (fun K hK => ?_)
            simp only [List.getElem_toArray, List.getElem_cons_zero, List.getElem_cons_succ]
            go_simp
            (go_at_call 25; refine (err_any w1.heap.size s b2 0 _ HR.out).mono ?_; rintro y w9 ⟨rfl, rfl⟩)
            try go_wp2_with fail
            try simp only [Act.put, List.setIfInBounds_toArray, List.set_cons_zero, List.set_cons_succ]
            refine hK.out _ _ _ ⟨q0, q1⟩ ?_
            clear hK K
            refine held_take 6 66 (v := ?_) rfl rfl (by kernel_rfl) (by kernel_rfl) (by kernel_rfl) (fun _ _ _ h => h) (by rfl) ?_ ⟨q0, q1⟩ ?_
            rotate_left
            focus (intro w hSw; (try dsimp only at hSw); simp only [List.getElem_toArray, List.getElem_cons_zero, List.getElem_cons_succ]; go_simp; try (with_reducible rfl))
            simp only [List.setIfInBounds_toArray, List.set_cons_zero, List.set_cons_succ]
            refine held_take 7 67 (v := ?_) rfl rfl (by kernel_rfl) (by kernel_rfl) (by kernel_rfl) (fun _ _ _ h => h) (by rfl) ?_ ⟨q0, q1⟩ ?_
            rotate_left
            focus (intro w hSw; (try dsimp only at hSw); simp only [List.getElem_toArray, List.getElem_cons_zero, List.getElem_cons_succ]; go_simp; try (with_reducible rfl))
            simp only [List.setIfInBounds_toArray, List.set_cons_zero, List.set_cons_succ]
            refine held_take 8 68 (v := ?_) rfl rfl (by kernel_rfl) (by kernel_rfl) (by kernel_rfl) (fun _ _ _ h => h) (by rfl) ?_ ⟨q0, q1⟩ ?_
            rotate_left
            focus (intro w hSw; (try dsimp only at hSw); simp only [List.getElem_toArray, List.getElem_cons_zero, List.getElem_cons_succ]; go_simp; try (with_reducible rfl))
            simp only [List.setIfInBounds_toArray, List.set_cons_zero, List.set_cons_succ]
            refine held_take 9 69 (v := ?_) rfl rfl (by kernel_rfl) (by kernel_rfl) (by kernel_rfl) (fun _ _ _ h => h) (by rfl) ?_ ⟨q0, q1⟩ ?_
            rotate_left
            focus (intro w hSw; (try dsimp only at hSw); simp only [List.getElem_toArray, List.getElem_cons_zero, List.getElem_cons_succ]; go_simp; try (with_reducible rfl))
            simp only [List.setIfInBounds_toArray, List.set_cons_zero, List.set_cons_succ]
            refine held_take 10 70 (v := ?_) rfl rfl (by kernel_rfl) (by kernel_rfl) (by kernel_rfl) (fun _ _ _ h => h) (by rfl) ?_ ⟨q0, q1⟩ ?_
            rotate_left
            focus (intro w hSw; (try dsimp only at hSw); simp only [List.getElem_toArray, List.getElem_cons_zero, List.getElem_cons_succ]; go_simp; try (with_reducible rfl))
            simp only [List.setIfInBounds_toArray, List.set_cons_zero, List.set_cons_succ]
            refine held_take 11 71 (v := ?_) rfl rfl (by kernel_rfl) (by kernel_rfl) (by kernel_rfl) (fun _ _ _ h => h) (by rfl) ?_ ⟨q0, q1⟩ ?_
            rotate_left
            focus (intro w hSw; (try dsimp only at hSw); simp only [List.getElem_toArray, List.getElem_cons_zero, List.getElem_cons_succ]; go_simp; try (with_reducible rfl))
            simp only [List.setIfInBounds_toArray, List.set_cons_zero, List.set_cons_succ]
            refine held_take 12 72 (v := ?_) rfl rfl (by kernel_rfl) (by kernel_rfl) (by kernel_rfl) (fun _ _ _ h => h) (by rfl) ?_ ⟨q0, q1⟩ ?_
            rotate_left
            focus (intro w hSw; (try dsimp only at hSw); simp only [List.getElem_toArray, List.getElem_cons_zero, List.getElem_cons_succ]; go_simp; try (with_reducible rfl))
            simp only [List.setIfInBounds_toArray, List.set_cons_zero, List.set_cons_succ]
            refine held_take 13 73 (v := ?_) rfl rfl (by kernel_rfl) (by kernel_rfl) (by kernel_rfl) (fun _ _ _ h => h) (by rfl) ?_ ⟨q0, q1⟩ ?_
            rotate_left
            focus (intro w hSw; (try dsimp only at hSw); simp only [List.getElem_toArray, List.getElem_cons_zero, List.getElem_cons_succ]; go_simp; try (with_reducible rfl))
            simp only [List.setIfInBounds_toArray, List.set_cons_zero, List.set_cons_succ]
            refine held_take 14 74 (v := ?_) rfl rfl (by kernel_rfl) (by kernel_rfl) (by kernel_rfl) (fun _ _ _ h => h) (by rfl) ?_ ⟨q0, q1⟩ ?_
            rotate_left
            focus (intro w hSw; (try dsimp only at hSw); simp only [List.getElem_toArray, List.getElem_cons_zero, List.getElem_cons_succ]; go_simp; try (with_reducible rfl))
            simp only [List.setIfInBounds_toArray, List.set_cons_zero, List.set_cons_succ]
            refine held_take 16 76 (v := ?_) rfl rfl (by kernel_rfl) (by kernel_rfl) (by kernel_rfl) (fun _ _ _ h => h) (by rfl) ?_ ⟨q0, q1⟩ ?_
            rotate_left
            focus (intro w hSw; (try dsimp only at hSw); simp only [List.getElem_toArray, List.getElem_cons_zero, List.getElem_cons_succ]; go_simp; try (with_reducible rfl))
            simp only [List.setIfInBounds_toArray, List.set_cons_zero, List.set_cons_succ]
            refine held_take 17 77 (v := ?_) rfl rfl (by kernel_rfl) (by kernel_rfl) (by kernel_rfl) (fun _ _ _ h => h) (by rfl) ?_ ⟨q0, q1⟩ ?_
            rotate_left
            focus (intro w hSw; (try dsimp only at hSw); simp only [List.getElem_toArray, List.getElem_cons_zero, List.getElem_cons_succ]; go_simp; try (with_reducible rfl))
            simp only [List.setIfInBounds_toArray, List.set_cons_zero, List.set_cons_succ]
            refine held_take 18 78 (v := ?_) rfl rfl (by kernel_rfl) (by kernel_rfl) (by kernel_rfl) (fun _ _ _ h => h) (by rfl) ?_ ⟨q0, q1⟩ ?_
            rotate_left
            focus (intro w hSw; (try dsimp only at hSw); simp only [List.getElem_toArray, List.getElem_cons_zero, List.getElem_cons_succ]; go_simp; try (with_reducible rfl))
            simp only [List.setIfInBounds_toArray, List.set_cons_zero, List.set_cons_succ]
            refine held_take 19 79 (v := ?_) rfl rfl (by kernel_rfl) (by kernel_rfl) (by kernel_rfl) (fun _ _ _ h => h) (by rfl) ?_ ⟨q0, q1⟩ ?_
            rotate_left
            focus (intro w hSw; (try dsimp only at hSw); simp only [List.getElem_toArray, List.getElem_cons_zero, List.getElem_cons_succ]; go_simp; try (with_reducible rfl))
            simp only [List.setIfInBounds_toArray, List.set_cons_zero, List.set_cons_succ]
            refine held_take 20 80 (v := ?_) rfl rfl (by kernel_rfl) (by kernel_rfl) (by kernel_rfl) (fun _ _ _ h => h) (by rfl) ?_ ⟨q0, q1⟩ ?_
            rotate_left
            focus (intro w hSw; (try dsimp only at hSw); simp only [List.getElem_toArray, List.getElem_cons_zero, List.getElem_cons_succ]; go_simp; try (with_reducible rfl))
            simp only [List.setIfInBounds_toArray, List.set_cons_zero, List.set_cons_succ]
            refine held_call 15 75 rfl rfl (by kernel_rfl) (by rfl) (fun K hK => ?_)
            simp only [List.getElem_toArray, List.getElem_cons_zero, List.getElem_cons_succ]
            go_simp
            (go_at_call 26; refine (left_any w1.heap.size s b2 0 _ HR.out hS ha8).mono ?_; rintro y w9 ⟨rfl, rfl⟩)
            try go_wp2_with fail
            try simp only [Act.put, List.setIfInBounds_toArray, List.set_cons_zero, List.set_cons_succ]
            refine hK.out _ _ _ ⟨q0, q1⟩ ?_
            clear hK K
            refine held_take 21 81 (v := ?_) rfl rfl (by kernel_rfl) (by kernel_rfl) (by kernel_rfl) (fun _ _ _ h => h) (by rfl) ?_ ⟨q0, q1⟩ ?_
            rotate_left
            focus (intro w hSw; (try dsimp only at hSw); simp only [List.getElem_toArray, List.getElem_cons_zero, List.getElem_cons_succ]; go_simp; try (with_reducible rfl))
            simp only [List.setIfInBounds_toArray, List.set_cons_zero, List.set_cons_succ]
            refine held_take 22 82 (v := ?_) rfl rfl (by kernel_rfl) (by kernel_rfl) (by kernel_rfl) (fun _ _ _ h => h) (by rfl) ?_ ⟨q0, q1⟩ ?_
            rotate_left
            focus (intro w hSw; (try dsimp only at hSw); simp only [List.getElem_toArray, List.getElem_cons_zero, List.getElem_cons_succ]; go_simp; try (with_reducible rfl))
            simp only [List.setIfInBounds_toArray, List.set_cons_zero, List.set_cons_succ]
            refine held_take 23 83 (v := ?_) rfl rfl (by kernel_rfl) (by kernel_rfl) (by kernel_rfl) (fun _ _ _ h => h) (by rfl) ?_ ⟨q0, q1⟩ ?_
            rotate_left
            focus (intro w hSw; (try dsimp only at hSw); simp only [List.getElem_toArray, List.getElem_cons_zero, List.getElem_cons_succ]; go_simp; try (with_reducible rfl))
            simp only [List.setIfInBounds_toArray, List.set_cons_zero, List.set_cons_succ]
            refine wpAnyH_done (by kernel_rfl) ?_ _
            go_wp2
            go_roundw
            case rel => exact ⟨k + 1, b2, b2, 0, by omega, by go_num, ha8, hb8, fun _ => rfl, HR.out, HQ.out, ⟨HX.out.os, HX.out.tape, HX.out.output, HX.out.size, HX.out.block⟩⟩
            case measure => simp [intOf]; omega
          · have heb : (e2 == 0) = false := by simp [he]
            refine wp_region_held_drew (S := (fun w' => w'.cell? ⟨w3.heap.size, 0, none⟩ = some (.string (str01 (seg s b2 (8 * s.size - b2)))) ∧ w'.cell? ⟨w3.heap.size, 1, none⟩ = some (.int .i64 e2))) (by kernel_rfl) ⟨q0, q1⟩ (fun _ => ?_)
            refine held_take 0 60 (v := ?_) rfl rfl (by kernel_rfl) (by kernel_rfl) (by kernel_rfl) (fun _ _ _ h => h) (by rfl) ?_ ⟨q0, q1⟩ ?_
            rotate_left
            focus (intro w hSw; (try dsimp only at hSw); simp only [List.getElem_toArray, List.getElem_cons_zero, List.getElem_cons_succ]; go_simp; try (with_reducible rfl))
            simp only [List.setIfInBounds_toArray, List.set_cons_zero, List.set_cons_succ]
            refine held_take 2 62 (v := ?_) rfl rfl (by kernel_rfl) (by kernel_rfl) (by kernel_rfl) (fun _ _ _ h => h) (by rfl) ?_ ⟨q0, q1⟩ ?_
            rotate_left
            focus (intro w hSw; (try dsimp only at hSw); simp only [List.getElem_toArray, List.getElem_cons_zero, List.getElem_cons_succ]; go_simp; try (with_reducible rfl))
            simp only [List.setIfInBounds_toArray, List.set_cons_zero, List.set_cons_succ]
            refine held_take 3 63 (v := ?_) rfl rfl (by kernel_rfl) (by kernel_rfl) (by kernel_rfl) (fun _ _ _ h => h) (by rfl) ?_ ⟨q0, q1⟩ ?_
            rotate_left
            focus (intro w hSw; (try dsimp only at hSw); simp only [List.getElem_toArray, List.getElem_cons_zero, List.getElem_cons_succ]; go_simp; try (with_reducible rfl))
            simp only [List.setIfInBounds_toArray, List.set_cons_zero, List.set_cons_succ]
            refine held_take 4 64 (v := ?_) rfl rfl (by kernel_rfl) (by kernel_rfl) (by kernel_rfl) (fun _ _ _ h => h) (by rfl) ?_ ⟨q0, q1⟩ ?_
            rotate_left
            focus (intro w hSw; (try dsimp only at hSw); simp only [List.getElem_toArray, List.getElem_cons_zero, List.getElem_cons_succ]; go_simp; try (with_reducible rfl))
            simp only [List.setIfInBounds_toArray, List.set_cons_zero, List.set_cons_succ]
            refine held_take 5 65 (v := ?_) rfl rfl (by kernel_rfl) (by kernel_rfl) (by kernel_rfl) (fun _ _ _ h => h) (by rfl) ?_ ⟨q0, q1⟩ ?_
            rotate_left
            focus (intro w hSw; (try dsimp only at hSw); simp only [List.getElem_toArray, List.getElem_cons_zero, List.getElem_cons_succ]; go_simp; try (with_reducible rfl))
            simp only [List.setIfInBounds_toArray, List.set_cons_zero, List.set_cons_succ]
            refine held_call 1 61 rfl rfl (by kernel_rfl) (by rfl) (fun K hK => ?_)
            simp only [List.getElem_toArray, List.getElem_cons_zero, List.getElem_cons_succ]
            go_simp
            (go_at_call 25; refine (err_any w1.heap.size s a2 e2 _ HR.out).mono ?_; rintro y w9 ⟨rfl, rfl⟩)
            try go_wp2_with fail
            try simp only [Act.put, List.setIfInBounds_toArray, List.set_cons_zero, List.set_cons_succ]
            refine hK.out _ _ _ ⟨q0, q1⟩ ?_
            clear hK K
            refine held_take 6 66 (v := ?_) rfl rfl (by kernel_rfl) (by kernel_rfl) (by kernel_rfl) (fun _ _ _ h => h) (by rfl) ?_ ⟨q0, q1⟩ ?_
            rotate_left
            focus (intro w hSw; (try dsimp only at hSw); simp only [List.getElem_toArray, List.getElem_cons_zero, List.getElem_cons_succ]; go_simp; try (with_reducible rfl))
            simp only [List.setIfInBounds_toArray, List.set_cons_zero, List.set_cons_succ]
            refine held_take 7 67 (v := ?_) rfl rfl (by kernel_rfl) (by kernel_rfl) (by kernel_rfl) (fun _ _ _ h => h) (by rfl) ?_ ⟨q0, q1⟩ ?_
            rotate_left
            focus (intro w hSw; (try dsimp only at hSw); simp only [List.getElem_toArray, List.getElem_cons_zero, List.getElem_cons_succ]; go_simp; try (with_reducible rfl))
            simp only [List.setIfInBounds_toArray, List.set_cons_zero, List.set_cons_succ]
            refine held_take 8 68 (v := ?_) rfl rfl (by kernel_rfl) (by kernel_rfl) (by kernel_rfl) (fun _ _ _ h => h) (by rfl) ?_ ⟨q0, q1⟩ ?_
            rotate_left
            focus (intro w hSw; (try dsimp only at hSw); simp only [List.getElem_toArray, List.getElem_cons_zero, List.getElem_cons_succ]; go_simp; try (with_reducible rfl))
            simp only [List.setIfInBounds_toArray, List.set_cons_zero, List.set_cons_succ]
            refine held_take 9 69 (v := ?_) rfl rfl (by kernel_rfl) (by kernel_rfl) (by kernel_rfl) (fun _ _ _ h => h) (by rfl) ?_ ⟨q0, q1⟩ ?_
            rotate_left
            focus (intro w hSw; (try dsimp only at hSw); simp only [List.getElem_toArray, List.getElem_cons_zero, List.getElem_cons_succ]; go_simp; try (with_reducible rfl))
            simp only [List.setIfInBounds_toArray, List.set_cons_zero, List.set_cons_succ]
            refine held_take 10 70 (v := ?_) rfl rfl (by kernel_rfl) (by kernel_rfl) (by kernel_rfl) (fun _ _ _ h => h) (by rfl) ?_ ⟨q0, q1⟩ ?_
            rotate_left
            focus (intro w hSw; (try dsimp only at hSw); simp only [List.getElem_toArray, List.getElem_cons_zero, List.getElem_cons_succ]; go_simp; try (with_reducible rfl))
            simp only [List.setIfInBounds_toArray, List.set_cons_zero, List.set_cons_succ]
            refine held_take 11 71 (v := ?_) rfl rfl (by kernel_rfl) (by kernel_rfl) (by kernel_rfl) (fun _ _ _ h => h) (by rfl) ?_ ⟨q0, q1⟩ ?_
            rotate_left
            focus (intro w hSw; (try dsimp only at hSw); simp only [List.getElem_toArray, List.getElem_cons_zero, List.getElem_cons_succ]; go_simp; try (with_reducible rfl))
            simp only [List.setIfInBounds_toArray, List.set_cons_zero, List.set_cons_succ]
            refine held_take 12 72 (v := ?_) rfl rfl (by kernel_rfl) (by kernel_rfl) (by kernel_rfl) (fun _ _ _ h => h) (by rfl) ?_ ⟨q0, q1⟩ ?_
            rotate_left
            focus (intro w hSw; (try dsimp only at hSw); simp only [List.getElem_toArray, List.getElem_cons_zero, List.getElem_cons_succ]; go_simp; try (with_reducible rfl))
            simp only [List.setIfInBounds_toArray, List.set_cons_zero, List.set_cons_succ]
            refine held_take 13 73 (v := ?_) rfl rfl (by kernel_rfl) (by kernel_rfl) (by kernel_rfl) (fun _ _ _ h => h) (by rfl) ?_ ⟨q0, q1⟩ ?_
            rotate_left
            focus (intro w hSw; (try dsimp only at hSw); simp only [List.getElem_toArray, List.getElem_cons_zero, List.getElem_cons_succ]; go_simp; try (with_reducible rfl))
            simp only [List.setIfInBounds_toArray, List.set_cons_zero, List.set_cons_succ]
            refine held_skip 14 74 rfl rfl (by kernel_rfl) (by kernel_rfl) (by kernel_rfl) (fun _ _ _ h => h) (by rfl) ⟨q0, q1⟩ ?_
            simp only [List.setIfInBounds_toArray, List.set_cons_zero, List.set_cons_succ]
            refine held_skip 16 76 rfl rfl (by kernel_rfl) (by kernel_rfl) (by kernel_rfl) (fun _ _ _ h => h) (by rfl) ⟨q0, q1⟩ ?_
            simp only [List.setIfInBounds_toArray, List.set_cons_zero, List.set_cons_succ]
            refine held_skip 17 77 rfl rfl (by kernel_rfl) (by kernel_rfl) (by kernel_rfl) (fun _ _ _ h => h) (by rfl) ⟨q0, q1⟩ ?_
            simp only [List.setIfInBounds_toArray, List.set_cons_zero, List.set_cons_succ]
            refine held_skip 18 78 rfl rfl (by kernel_rfl) (by kernel_rfl) (by kernel_rfl) (fun _ _ _ h => h) (by rfl) ⟨q0, q1⟩ ?_
            simp only [List.setIfInBounds_toArray, List.set_cons_zero, List.set_cons_succ]
            refine held_skip 19 79 rfl rfl (by kernel_rfl) (by kernel_rfl) (by kernel_rfl) (fun _ _ _ h => h) (by rfl) ⟨q0, q1⟩ ?_
            simp only [List.setIfInBounds_toArray, List.set_cons_zero, List.set_cons_succ]
            refine held_skip 20 80 rfl rfl (by kernel_rfl) (by kernel_rfl) (by kernel_rfl) (fun _ _ _ h => h) (by rfl) ⟨q0, q1⟩ ?_
            simp only [List.setIfInBounds_toArray, List.set_cons_zero, List.set_cons_succ]
            refine held_pass 15 75 rfl rfl (by kernel_rfl) (by rfl) ⟨q0, q1⟩ ?_
            simp only [List.setIfInBounds_toArray, List.set_cons_zero, List.set_cons_succ]
            refine held_skip 21 81 rfl rfl (by kernel_rfl) (by kernel_rfl) (by kernel_rfl) (fun _ _ _ h => h) (by rfl) ⟨q0, q1⟩ ?_
            simp only [List.setIfInBounds_toArray, List.set_cons_zero, List.set_cons_succ]
            refine held_take 22 82 (v := ?_) rfl rfl (by kernel_rfl) (by kernel_rfl) (by kernel_rfl) (fun _ _ _ h => h) (by rfl) ?_ ⟨q0, q1⟩ ?_
            rotate_left
            focus (intro w hSw; (try dsimp only at hSw); simp only [List.getElem_toArray, List.getElem_cons_zero, List.getElem_cons_succ]; go_simp; try (with_reducible rfl))
            simp only [List.setIfInBounds_toArray, List.set_cons_zero, List.set_cons_succ]
            refine held_take 23 83 (v := ?_) rfl rfl (by kernel_rfl) (by kernel_rfl) (by kernel_rfl) (fun _ _ _ h => h) (by rfl) ?_ ⟨q0, q1⟩ ?_
            rotate_left
            focus (intro w hSw; (try dsimp only at hSw); simp only [List.getElem_toArray, List.getElem_cons_zero, List.getElem_cons_succ]; go_simp; try (with_reducible rfl))
            simp only [List.setIfInBounds_toArray, List.set_cons_zero, List.set_cons_succ]
            refine wpAnyH_done (by kernel_rfl) ?_ _
            go_wp2
            go_roundw
            case rel => exact ⟨k + 1, a2, b2, e2, by omega, by go_num, ha8, hb8, HAB.out, HR.out, HQ.out, ⟨HX.out.os, HX.out.tape, HX.out.output, HX.out.size, HX.out.block⟩⟩
            case measure => simp [intOf]; omega
      · obtain rfl : k = n := by omega
        have HRD := Lib.hid (rd_two (s := s) HAB.out)
        go_wp2_with (first
          | (go_at_call 21; refine (done_any w1.heap.size s a e wr HR.out hS ha).mono ?_; rintro y w6 ⟨rfl, hb6⟩; have C6 := Lib.hid (HX.out.trans (hb6.mono HX.out.size)); have Q6 := Lib.hid (HQ.out.keep hb6); clear hb6)
          | (go_at_call 27; refine (qdone_any w3.heap.size s b e _ Q6.out hS hb).mono ?_; rw [HRD.out]; rintro y w7 ⟨rfl, rfl⟩))
        go_ret
        exact ⟨rfl, hb1'.out.trans (C6.out.mono hb1'.out.size)⟩
end BitsReads
end Go.Proofs.Yteinpdjenplnnaa
