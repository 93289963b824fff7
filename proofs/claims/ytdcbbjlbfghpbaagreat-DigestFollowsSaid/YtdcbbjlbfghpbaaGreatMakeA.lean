/-
  The document's Make at four bytes. Conditions: those that each theorem names.
-/
import Derived.Test.YtdcbbjlbfghpbaaGreatDb
namespace Go.Proofs.YtdcbbjlbfghpbaaGreat
open Go Go.RowKit H2
set_option linter.unusedVariables false
set_option linter.unusedSimpArgs false
namespace Tab
/-- the first k bits -/
def hi (a k : Nat) : Nat := a / 2 ^ (8 - k) * 2 ^ (8 - k)
def upto (a : UInt8) (k : Nat) : Pf := ⟨false, #v[UInt8.ofNat (hi a.toNat k), 0, 0, 0, 0, 0, 0, 0, 0, 0, 0, 0, 0, 0, 0, 0], 8⟩
set_option maxRecDepth 100000 in
set_option maxHeartbeats 8000000 in
theorem make_any (a : UInt8) (w : World) : Calls Tryz.prog 40 #[.bool false, .string ⟨#[a, 0, 0, 0]⟩, .int .i64 8] w fun e w' => e = .returned (.tuple #[.agg (encP (upto a 8)).toArray, .bool true]) ∧ Below w.heap.size w w' := by
  go_enter Tryz.func40, Tryz.ntmps40
  go_upto_region 1 with fail
  have HB6 := Lib.hid (heap_alloc_new w (.cells (encP zP).toArray 33 (0, 0)))
  have hb := Lib.hid (show Below w.heap.size w (w.alloc (.cells (encP zP).toArray 33 (0, 0))) from (Below.refl _ _).alloc (Nat.le_refl _) _)
  have HLT := Lib.hid (show w.heap.size < (w.alloc (.cells (encP zP).toArray 33 (0, 0))).heap.size by simp)
  generalize w.alloc _ = W at HB6 hb HLT ⊢
  obtain ⟨B6, hB6⟩ : ∃ b, w.heap.size = b := ⟨_, rfl⟩
  rw [hB6] at HB6 HLT ⊢
  have HMO := Lib.hid (show most false = 32 from rfl)
  have HL6 := Lib.hid (show w.heap.size ≤ B6 by rw [hB6]; exact Nat.le_refl _)
  go_upto_region 3 with (go_at_call 73; (with_reducible refine (most_any _ _).mono ?_); rintro e w2 ⟨rfl, hw2⟩; rw [HMO.out]; subst hw2)
  have hst := store_row (o := 0) (vs := encP ⟨false, zA, 8⟩) (heap_alloc_new W (.cells (encP zP).toArray 33 (0, 0))) (by simp [encP_len]) (encP_one _) Tryz.prog
  rw [splice_whole (by simp [encP_len])] at hst
  go_upto_region 4 with (refine wpList_build_run (o := ⟨some 29, .build 33 #[(0, .tmp 27), (2, .tmp 28)], _, _, _, _⟩) rfl 33 #[(0, .tmp 27), (2, .tmp 28)] rfl #[(0, .bool false), (2, .int .i64 8)] (by simp [Act.eval, Act.put]) (build_P2 _ _ _) ?_)
  have HB8 := Lib.hid (setRow_heap (W.alloc (.cells (encP zP).toArray 33 (0, 0))) W.heap.size _ (encP ⟨false, zA, 8⟩).toArray 33 (0, 0) (heap_alloc_new W (.cells (encP zP).toArray 33 (0, 0))))
  have HBX := Lib.hid (show ((W.alloc (.cells (encP zP).toArray 33 (0, 0))).setRow W.heap.size (encP ⟨false, zA, 8⟩).toArray).heap[B6]? = some (.cells (encP zP).toArray 33 (0, 0)) from
    (setRow_other _ W.heap.size B6 _ (by have := HLT.out; omega)).trans (((Below.refl _ W).alloc (Nat.le_refl _) _).block B6 HLT.out |>.trans HB6.out))
  have hb2 := Lib.hid (below_setRow (hb.out.alloc hb.out.size (.cells (encP zP).toArray 33 (0, 0))) hb.out.size (encP ⟨false, zA, 8⟩).toArray)
  go_upto_region 4 with fail
  clear hst
  generalize (W.alloc _).setRow _ _ = W1 at HB8 HBX hb2 ⊢
  have HLE := Lib.hid (show w.heap.size ≤ W.heap.size from hb.out.size)
  have HNE := Lib.hid (show W.heap.size ≠ B6 by have := HLT.out; omega)
  generalize W.heap.size = B8 at HB8 HLE HNE ⊢
  clear hb HLT HB6 hB6
  go_wp2
  go_loopw [9] (fun s9 wr => ∃ k : Nat, k ≤ 8 ∧ s9 = .int .i64 k ∧ wr.heap[B8]? = some (.cells (encP (upto a k)).toArray 33 (0, 0)) ∧ wr.heap[B6]? = some (.cells (encP zP).toArray 33 (0, 0)) ∧ Below w.heap.size w wr) (fun s9 _ => 8 - (intOf s9).toNat)
  case atStart => exact ⟨0, by omega, rfl, by rw [show upto a 0 = ⟨false, zA, 8⟩ by unfold upto hi; rw [Nat.div_eq_of_lt a.toNat_lt]; rfl]; exact HB8.out, HBX.out, hb2.out⟩
  case round =>
    clear HB8 HBX hb2
    obtain ⟨k, hk, rfl, h8, h6, hb⟩ := hrel
    have H8 := Lib.hid h8
    have H6 := Lib.hid h6
    have HB := Lib.hid hb
    clear h8 h6 hb
    rcases (show k = 0 ∨ k = 1 ∨ k = 2 ∨ k = 3 ∨ k = 4 ∨ k = 5 ∨ k = 6 ∨ k = 7 ∨ k = 8 by omega) with rfl | rfl | rfl | rfl | rfl | rfl | rfl | rfl | rfl
    · skip
      go_upto_region 7 with fail
      go_wp2
      · rename_i hbt
        have hbt2 : ((a.toNat : Int) / 128 % 2 == 1) = true := hbt
        have HE := Lib.hid (show hi a.toNat 0 + 128 = hi a.toNat 1 ∧ hi a.toNat 1 < 256 ∧ hi a.toNat 0 < 256 by
          have h1 : (a.toNat : Int) / 128 % 2 = 1 := by simpa using hbt2
          have h2 := a.toNat_lt
          simp only [hi, Nat.reducePow, Nat.reduceSub]
          omega)
        have HW := Lib.hid (show IntKind.u8.wrap ((hi a.toNat 0 : Nat) + 128 : Int) = (hi a.toNat 1 : Nat) by
          have := HE.out
          simp only [IntKind.wrap, IntKind.bits, IntKind.signed]
          simp
          omega)
        have HT := Lib.hid (show ((UInt8.ofNat (hi a.toNat 0)).toNat : Int) = (hi a.toNat 0 : Nat) by rw [UInt8.toNat_ofNat']; have := HE.out; omega)
        have HT1 := Lib.hid (show ((UInt8.ofNat (hi a.toNat 1)).toNat : Int) = (hi a.toNat 1 : Nat) by rw [UInt8.toNat_ofNat']; have := HE.out; omega)
        have H8d := Lib.hid (show wr.drew.heap[B8]? = _ from H8.out)
        have HC1 := Lib.hid (show wr.drew.cell? ⟨B8, 1, none⟩ = some (.int .u8 (hi a.toNat 0 : Nat)) by rw [← HT.out]; exact (blk_cell H8d.out 1).trans rfl)
        generalize hi a.toNat 0 = x0 at HC1 HW
        clear hbt hbt2
        have w0 : IntKind.i64.wrap 0 = 0 := by decide
        have w1 : IntKind.i64.wrap 1 = 1 := by decide
        have w2 : IntKind.i64.wrap 2 = 2 := by decide
        have w3 : IntKind.i64.wrap 3 = 3 := by decide
        have w4 : IntKind.i64.wrap 4 = 4 := by decide
        have w5 : IntKind.i64.wrap 5 = 5 := by decide
        have w6 : IntKind.i64.wrap 6 = 6 := by decide
        have w7 : IntKind.i64.wrap 7 = 7 := by decide
        have w8 : IntKind.i64.wrap 8 = 8 := by decide
        have wd : IntKind.u8.wrap 128 = 128 := by decide
        refine wp_region_held_drew (S := (fun _ => True)) (by kernel_rfl) trivial (fun _ => ?_)
        refine held_take 0 45 (v := ?_) rfl rfl (by kernel_rfl) (by kernel_rfl) (by kernel_rfl) (fun _ _ _ h => h) (by rfl) ?_ trivial ?_
        rotate_left
        · (intro w hSw; (try dsimp only at hSw); try simp only [List.getElem_toArray, List.getElem_cons_zero, List.getElem_cons_succ]; go_simp; try (with_reducible rfl))
        try simp only [List.setIfInBounds_toArray, List.set_cons_zero, List.set_cons_succ]
        refine held_take 1 46 (v := ?_) rfl rfl (by kernel_rfl) (by kernel_rfl) (by kernel_rfl) (fun _ _ _ h => h) (by rfl) ?_ trivial ?_
        rotate_left
        · (intro w hSw; (try dsimp only at hSw); try simp only [List.getElem_toArray, List.getElem_cons_zero, List.getElem_cons_succ]; go_simp; try (with_reducible rfl))
        try simp only [List.setIfInBounds_toArray, List.set_cons_zero, List.set_cons_succ]
        refine held_take 2 47 (v := ?_) rfl rfl (by kernel_rfl) (by kernel_rfl) (by kernel_rfl) (fun _ _ _ h => h) (by rfl) ?_ trivial ?_
        rotate_left
        · (intro w hSw; (try dsimp only at hSw); try simp only [List.getElem_toArray, List.getElem_cons_zero, List.getElem_cons_succ]; go_simp; try (with_reducible rfl))
        try simp only [List.setIfInBounds_toArray, List.set_cons_zero, List.set_cons_succ]
        refine held_take 3 48 (v := ?_) rfl rfl (by kernel_rfl) (by kernel_rfl) (by kernel_rfl) (fun _ _ _ h => h) (by rfl) ?_ trivial ?_
        rotate_left
        · (intro w hSw; (try dsimp only at hSw); try simp only [List.getElem_toArray, List.getElem_cons_zero, List.getElem_cons_succ]; go_simp; try (with_reducible rfl))
        try simp only [List.setIfInBounds_toArray, List.set_cons_zero, List.set_cons_succ]
        refine held_take 5 50 (v := ?_) rfl rfl (by kernel_rfl) (by kernel_rfl) (by kernel_rfl) (fun _ _ _ h => h) (by rfl) ?_ trivial ?_
        rotate_left
        · (intro w hSw; (try dsimp only at hSw); try simp only [List.getElem_toArray, List.getElem_cons_zero, List.getElem_cons_succ]; go_simp; try (with_reducible rfl))
        try simp only [List.setIfInBounds_toArray, List.set_cons_zero, List.set_cons_succ]
        refine held_take 6 51 (v := ?_) rfl rfl (by kernel_rfl) (by kernel_rfl) (by kernel_rfl) (fun _ _ _ h => h) (by rfl) ?_ trivial ?_
        rotate_left
        · (intro w hSw; (try dsimp only at hSw); try simp only [List.getElem_toArray, List.getElem_cons_zero, List.getElem_cons_succ]; go_simp; try (with_reducible rfl))
        try simp only [List.setIfInBounds_toArray, List.set_cons_zero, List.set_cons_succ]
        refine held_take 7 52 (v := ?_) rfl rfl (by kernel_rfl) (by kernel_rfl) (by kernel_rfl) (fun _ _ _ h => h) (by rfl) ?_ trivial ?_
        rotate_left
        · (intro w hSw; (try dsimp only at hSw); try simp only [List.getElem_toArray, List.getElem_cons_zero, List.getElem_cons_succ]; go_simp; try (with_reducible rfl))
        try simp only [List.setIfInBounds_toArray, List.set_cons_zero, List.set_cons_succ]
        refine held_take 8 53 (v := ?_) rfl rfl (by kernel_rfl) (by kernel_rfl) (by kernel_rfl) (fun _ _ _ h => h) (by rfl) ?_ trivial ?_
        rotate_left
        · (intro w hSw; (try dsimp only at hSw); try simp only [List.getElem_toArray, List.getElem_cons_zero, List.getElem_cons_succ]; go_simp; try (with_reducible rfl))
        try simp only [List.setIfInBounds_toArray, List.set_cons_zero, List.set_cons_succ]
        refine held_take 10 55 (v := ?_) rfl rfl (by kernel_rfl) (by kernel_rfl) (by kernel_rfl) (fun _ _ _ h => h) (by rfl) ?_ trivial ?_
        rotate_left
        · (intro w hSw; (try dsimp only at hSw); try simp only [List.getElem_toArray, List.getElem_cons_zero, List.getElem_cons_succ]; go_simp; try (with_reducible rfl))
        try simp only [List.setIfInBounds_toArray, List.set_cons_zero, List.set_cons_succ]
        refine held_call 4 49 rfl rfl (by kernel_rfl) (by rfl) (fun K hK => ?_)
        try simp only [List.getElem_toArray, List.getElem_cons_zero, List.getElem_cons_succ]
        (have e1 := HC1.out; go_simp; clear e1)
        try simp only [Act.put, List.setIfInBounds_toArray, List.set_cons_zero, List.set_cons_succ]
        refine hK.out _ _ _ trivial ?_
        clear hK K
        refine held_take 9 54 (v := ?_) rfl rfl (by kernel_rfl) (by kernel_rfl) (by kernel_rfl) (fun _ _ _ h => h) (by rfl) ?_ trivial ?_
        rotate_left
        · (intro w hSw; (try dsimp only at hSw); try simp only [List.getElem_toArray, List.getElem_cons_zero, List.getElem_cons_succ]; go_simp; try (with_reducible rfl))
        try simp only [List.setIfInBounds_toArray, List.set_cons_zero, List.set_cons_succ]
        refine held_take 11 56 (v := ?_) rfl rfl (by kernel_rfl) (by kernel_rfl) (by kernel_rfl) (fun _ _ _ h => h) (by rfl) ?_ trivial ?_
        rotate_left
        · (intro w hSw; (try dsimp only at hSw); try simp only [List.getElem_toArray, List.getElem_cons_zero, List.getElem_cons_succ]; go_simp; try (with_reducible rfl))
        try simp only [List.setIfInBounds_toArray, List.set_cons_zero, List.set_cons_succ]
        refine held_do 12 rfl (by kernel_rfl) (by rfl) (fun K hK => ?_)
        try simp only [List.getElem_toArray, List.getElem_cons_zero, List.getElem_cons_succ]
        (have e1 := HC1.out; have e2 := blk_free H8d.out 1; have e3 := HW.out; go_simp; clear e1 e2 e3)
        try simp only [Act.put, List.setIfInBounds_toArray, List.set_cons_zero, List.set_cons_succ]
        refine hK.out _ _ _ trivial ?_
        clear hK K
        refine wpAnyH_done (by kernel_rfl) ?_ _
        go_wp2
        go_roundw
        case rel => exact ⟨1, by omega, by go_num, by
          have := blk_set H8d.out 1 (.int .u8 (hi a.toNat 1 : Nat))
          rw [← HT1.out] at this ⊢
          exact this, (Below.heap_setCell _ _ _ _ (fun e => HNE.out e.symm)).trans H6.out, HB.out.drew.setCell HLE.out _⟩
        case measure => simp [intOf]
      · rename_i hbt
        have hbt2 : ((a.toNat : Int) / 128 % 2 == 1) = false := hbt
        have HE := Lib.hid (show upto a 0 = upto a 1 by
          have h1 : ¬ (a.toNat : Int) / 128 % 2 = 1 := by simpa using hbt2
          unfold upto
          rw [show hi a.toNat 0 = hi a.toNat 1 by
            have h2 := a.toNat_lt
            simp only [hi, Nat.reducePow, Nat.reduceSub]
            omega])
        exact ⟨⟨1, by omega, by go_num, by rw [← HE.out]; exact H8.out, H6.out, HB.out⟩, by simp [intOf]⟩
    · skip
      go_upto_region 7 with fail
      go_wp2
      · rename_i hbt
        have hbt2 : ((a.toNat : Int) / 64 % 2 == 1) = true := hbt
        have HE := Lib.hid (show hi a.toNat 1 + 64 = hi a.toNat 2 ∧ hi a.toNat 2 < 256 ∧ hi a.toNat 1 < 256 by
          have h1 : (a.toNat : Int) / 64 % 2 = 1 := by simpa using hbt2
          have h2 := a.toNat_lt
          simp only [hi, Nat.reducePow, Nat.reduceSub]
          omega)
        have HW := Lib.hid (show IntKind.u8.wrap ((hi a.toNat 1 : Nat) + 64 : Int) = (hi a.toNat 2 : Nat) by
          have := HE.out
          simp only [IntKind.wrap, IntKind.bits, IntKind.signed]
          simp
          omega)
        have HT := Lib.hid (show ((UInt8.ofNat (hi a.toNat 1)).toNat : Int) = (hi a.toNat 1 : Nat) by rw [UInt8.toNat_ofNat']; have := HE.out; omega)
        have HT1 := Lib.hid (show ((UInt8.ofNat (hi a.toNat 2)).toNat : Int) = (hi a.toNat 2 : Nat) by rw [UInt8.toNat_ofNat']; have := HE.out; omega)
        have H8d := Lib.hid (show wr.drew.heap[B8]? = _ from H8.out)
        have HC1 := Lib.hid (show wr.drew.cell? ⟨B8, 1, none⟩ = some (.int .u8 (hi a.toNat 1 : Nat)) by rw [← HT.out]; exact (blk_cell H8d.out 1).trans rfl)
        generalize hi a.toNat 1 = x0 at HC1 HW
        clear hbt hbt2
        have w0 : IntKind.i64.wrap 0 = 0 := by decide
        have w1 : IntKind.i64.wrap 1 = 1 := by decide
        have w2 : IntKind.i64.wrap 2 = 2 := by decide
        have w3 : IntKind.i64.wrap 3 = 3 := by decide
        have w4 : IntKind.i64.wrap 4 = 4 := by decide
        have w5 : IntKind.i64.wrap 5 = 5 := by decide
        have w6 : IntKind.i64.wrap 6 = 6 := by decide
        have w7 : IntKind.i64.wrap 7 = 7 := by decide
        have w8 : IntKind.i64.wrap 8 = 8 := by decide
        have wd : IntKind.u8.wrap 64 = 64 := by decide
        refine wp_region_held_drew (S := (fun _ => True)) (by kernel_rfl) trivial (fun _ => ?_)
        refine held_take 0 45 (v := ?_) rfl rfl (by kernel_rfl) (by kernel_rfl) (by kernel_rfl) (fun _ _ _ h => h) (by rfl) ?_ trivial ?_
        rotate_left
        · (intro w hSw; (try dsimp only at hSw); try simp only [List.getElem_toArray, List.getElem_cons_zero, List.getElem_cons_succ]; go_simp; try (with_reducible rfl))
        try simp only [List.setIfInBounds_toArray, List.set_cons_zero, List.set_cons_succ]
        refine held_take 1 46 (v := ?_) rfl rfl (by kernel_rfl) (by kernel_rfl) (by kernel_rfl) (fun _ _ _ h => h) (by rfl) ?_ trivial ?_
        rotate_left
        · (intro w hSw; (try dsimp only at hSw); try simp only [List.getElem_toArray, List.getElem_cons_zero, List.getElem_cons_succ]; go_simp; try (with_reducible rfl))
        try simp only [List.setIfInBounds_toArray, List.set_cons_zero, List.set_cons_succ]
        refine held_take 2 47 (v := ?_) rfl rfl (by kernel_rfl) (by kernel_rfl) (by kernel_rfl) (fun _ _ _ h => h) (by rfl) ?_ trivial ?_
        rotate_left
        · (intro w hSw; (try dsimp only at hSw); try simp only [List.getElem_toArray, List.getElem_cons_zero, List.getElem_cons_succ]; go_simp; try (with_reducible rfl))
        try simp only [List.setIfInBounds_toArray, List.set_cons_zero, List.set_cons_succ]
        refine held_take 3 48 (v := ?_) rfl rfl (by kernel_rfl) (by kernel_rfl) (by kernel_rfl) (fun _ _ _ h => h) (by rfl) ?_ trivial ?_
        rotate_left
        · (intro w hSw; (try dsimp only at hSw); try simp only [List.getElem_toArray, List.getElem_cons_zero, List.getElem_cons_succ]; go_simp; try (with_reducible rfl))
        try simp only [List.setIfInBounds_toArray, List.set_cons_zero, List.set_cons_succ]
        refine held_take 5 50 (v := ?_) rfl rfl (by kernel_rfl) (by kernel_rfl) (by kernel_rfl) (fun _ _ _ h => h) (by rfl) ?_ trivial ?_
        rotate_left
        · (intro w hSw; (try dsimp only at hSw); try simp only [List.getElem_toArray, List.getElem_cons_zero, List.getElem_cons_succ]; go_simp; try (with_reducible rfl))
        try simp only [List.setIfInBounds_toArray, List.set_cons_zero, List.set_cons_succ]
        refine held_take 6 51 (v := ?_) rfl rfl (by kernel_rfl) (by kernel_rfl) (by kernel_rfl) (fun _ _ _ h => h) (by rfl) ?_ trivial ?_
        rotate_left
        · (intro w hSw; (try dsimp only at hSw); try simp only [List.getElem_toArray, List.getElem_cons_zero, List.getElem_cons_succ]; go_simp; try (with_reducible rfl))
        try simp only [List.setIfInBounds_toArray, List.set_cons_zero, List.set_cons_succ]
        refine held_take 7 52 (v := ?_) rfl rfl (by kernel_rfl) (by kernel_rfl) (by kernel_rfl) (fun _ _ _ h => h) (by rfl) ?_ trivial ?_
        rotate_left
        · (intro w hSw; (try dsimp only at hSw); try simp only [List.getElem_toArray, List.getElem_cons_zero, List.getElem_cons_succ]; go_simp; try (with_reducible rfl))
        try simp only [List.setIfInBounds_toArray, List.set_cons_zero, List.set_cons_succ]
        refine held_take 8 53 (v := ?_) rfl rfl (by kernel_rfl) (by kernel_rfl) (by kernel_rfl) (fun _ _ _ h => h) (by rfl) ?_ trivial ?_
        rotate_left
        · (intro w hSw; (try dsimp only at hSw); try simp only [List.getElem_toArray, List.getElem_cons_zero, List.getElem_cons_succ]; go_simp; try (with_reducible rfl))
        try simp only [List.setIfInBounds_toArray, List.set_cons_zero, List.set_cons_succ]
        refine held_take 10 55 (v := ?_) rfl rfl (by kernel_rfl) (by kernel_rfl) (by kernel_rfl) (fun _ _ _ h => h) (by rfl) ?_ trivial ?_
        rotate_left
        · (intro w hSw; (try dsimp only at hSw); try simp only [List.getElem_toArray, List.getElem_cons_zero, List.getElem_cons_succ]; go_simp; try (with_reducible rfl))
        try simp only [List.setIfInBounds_toArray, List.set_cons_zero, List.set_cons_succ]
        refine held_call 4 49 rfl rfl (by kernel_rfl) (by rfl) (fun K hK => ?_)
        try simp only [List.getElem_toArray, List.getElem_cons_zero, List.getElem_cons_succ]
        (have e1 := HC1.out; go_simp; clear e1)
        try simp only [Act.put, List.setIfInBounds_toArray, List.set_cons_zero, List.set_cons_succ]
        refine hK.out _ _ _ trivial ?_
        clear hK K
        refine held_take 9 54 (v := ?_) rfl rfl (by kernel_rfl) (by kernel_rfl) (by kernel_rfl) (fun _ _ _ h => h) (by rfl) ?_ trivial ?_
        rotate_left
        · (intro w hSw; (try dsimp only at hSw); try simp only [List.getElem_toArray, List.getElem_cons_zero, List.getElem_cons_succ]; go_simp; try (with_reducible rfl))
        try simp only [List.setIfInBounds_toArray, List.set_cons_zero, List.set_cons_succ]
        refine held_take 11 56 (v := ?_) rfl rfl (by kernel_rfl) (by kernel_rfl) (by kernel_rfl) (fun _ _ _ h => h) (by rfl) ?_ trivial ?_
        rotate_left
        · (intro w hSw; (try dsimp only at hSw); try simp only [List.getElem_toArray, List.getElem_cons_zero, List.getElem_cons_succ]; go_simp; try (with_reducible rfl))
        try simp only [List.setIfInBounds_toArray, List.set_cons_zero, List.set_cons_succ]
        refine held_do 12 rfl (by kernel_rfl) (by rfl) (fun K hK => ?_)
        try simp only [List.getElem_toArray, List.getElem_cons_zero, List.getElem_cons_succ]
        (have e1 := HC1.out; have e2 := blk_free H8d.out 1; have e3 := HW.out; go_simp; clear e1 e2 e3)
        try simp only [Act.put, List.setIfInBounds_toArray, List.set_cons_zero, List.set_cons_succ]
        refine hK.out _ _ _ trivial ?_
        clear hK K
        refine wpAnyH_done (by kernel_rfl) ?_ _
        go_wp2
        go_roundw
        case rel => exact ⟨2, by omega, by go_num, by
          have := blk_set H8d.out 1 (.int .u8 (hi a.toNat 2 : Nat))
          rw [← HT1.out] at this ⊢
          exact this, (Below.heap_setCell _ _ _ _ (fun e => HNE.out e.symm)).trans H6.out, HB.out.drew.setCell HLE.out _⟩
        case measure => simp [intOf]
      · rename_i hbt
        have hbt2 : ((a.toNat : Int) / 64 % 2 == 1) = false := hbt
        have HE := Lib.hid (show upto a 1 = upto a 2 by
          have h1 : ¬ (a.toNat : Int) / 64 % 2 = 1 := by simpa using hbt2
          unfold upto
          rw [show hi a.toNat 1 = hi a.toNat 2 by
            have h2 := a.toNat_lt
            simp only [hi, Nat.reducePow, Nat.reduceSub]
            omega])
        exact ⟨⟨2, by omega, by go_num, by rw [← HE.out]; exact H8.out, H6.out, HB.out⟩, by simp [intOf]⟩
    · skip
      go_upto_region 7 with fail
      go_wp2
      · rename_i hbt
        have hbt2 : ((a.toNat : Int) / 32 % 2 == 1) = true := hbt
        have HE := Lib.hid (show hi a.toNat 2 + 32 = hi a.toNat 3 ∧ hi a.toNat 3 < 256 ∧ hi a.toNat 2 < 256 by
          have h1 : (a.toNat : Int) / 32 % 2 = 1 := by simpa using hbt2
          have h2 := a.toNat_lt
          simp only [hi, Nat.reducePow, Nat.reduceSub]
          omega)
        have HW := Lib.hid (show IntKind.u8.wrap ((hi a.toNat 2 : Nat) + 32 : Int) = (hi a.toNat 3 : Nat) by
          have := HE.out
          simp only [IntKind.wrap, IntKind.bits, IntKind.signed]
          simp
          omega)
        have HT := Lib.hid (show ((UInt8.ofNat (hi a.toNat 2)).toNat : Int) = (hi a.toNat 2 : Nat) by rw [UInt8.toNat_ofNat']; have := HE.out; omega)
        have HT1 := Lib.hid (show ((UInt8.ofNat (hi a.toNat 3)).toNat : Int) = (hi a.toNat 3 : Nat) by rw [UInt8.toNat_ofNat']; have := HE.out; omega)
        have H8d := Lib.hid (show wr.drew.heap[B8]? = _ from H8.out)
        have HC1 := Lib.hid (show wr.drew.cell? ⟨B8, 1, none⟩ = some (.int .u8 (hi a.toNat 2 : Nat)) by rw [← HT.out]; exact (blk_cell H8d.out 1).trans rfl)
        generalize hi a.toNat 2 = x0 at HC1 HW
        clear hbt hbt2
        have w0 : IntKind.i64.wrap 0 = 0 := by decide
        have w1 : IntKind.i64.wrap 1 = 1 := by decide
        have w2 : IntKind.i64.wrap 2 = 2 := by decide
        have w3 : IntKind.i64.wrap 3 = 3 := by decide
        have w4 : IntKind.i64.wrap 4 = 4 := by decide
        have w5 : IntKind.i64.wrap 5 = 5 := by decide
        have w6 : IntKind.i64.wrap 6 = 6 := by decide
        have w7 : IntKind.i64.wrap 7 = 7 := by decide
        have w8 : IntKind.i64.wrap 8 = 8 := by decide
        have wd : IntKind.u8.wrap 32 = 32 := by decide
        refine wp_region_held_drew (S := (fun _ => True)) (by kernel_rfl) trivial (fun _ => ?_)
        refine held_take 0 45 (v := ?_) rfl rfl (by kernel_rfl) (by kernel_rfl) (by kernel_rfl) (fun _ _ _ h => h) (by rfl) ?_ trivial ?_
        rotate_left
        · (intro w hSw; (try dsimp only at hSw); try simp only [List.getElem_toArray, List.getElem_cons_zero, List.getElem_cons_succ]; go_simp; try (with_reducible rfl))
        try simp only [List.setIfInBounds_toArray, List.set_cons_zero, List.set_cons_succ]
        refine held_take 1 46 (v := ?_) rfl rfl (by kernel_rfl) (by kernel_rfl) (by kernel_rfl) (fun _ _ _ h => h) (by rfl) ?_ trivial ?_
        rotate_left
        · (intro w hSw; (try dsimp only at hSw); try simp only [List.getElem_toArray, List.getElem_cons_zero, List.getElem_cons_succ]; go_simp; try (with_reducible rfl))
        try simp only [List.setIfInBounds_toArray, List.set_cons_zero, List.set_cons_succ]
        refine held_take 2 47 (v := ?_) rfl rfl (by kernel_rfl) (by kernel_rfl) (by kernel_rfl) (fun _ _ _ h => h) (by rfl) ?_ trivial ?_
        rotate_left
        · (intro w hSw; (try dsimp only at hSw); try simp only [List.getElem_toArray, List.getElem_cons_zero, List.getElem_cons_succ]; go_simp; try (with_reducible rfl))
        try simp only [List.setIfInBounds_toArray, List.set_cons_zero, List.set_cons_succ]
        refine held_take 3 48 (v := ?_) rfl rfl (by kernel_rfl) (by kernel_rfl) (by kernel_rfl) (fun _ _ _ h => h) (by rfl) ?_ trivial ?_
        rotate_left
        · (intro w hSw; (try dsimp only at hSw); try simp only [List.getElem_toArray, List.getElem_cons_zero, List.getElem_cons_succ]; go_simp; try (with_reducible rfl))
        try simp only [List.setIfInBounds_toArray, List.set_cons_zero, List.set_cons_succ]
        refine held_take 5 50 (v := ?_) rfl rfl (by kernel_rfl) (by kernel_rfl) (by kernel_rfl) (fun _ _ _ h => h) (by rfl) ?_ trivial ?_
        rotate_left
        · (intro w hSw; (try dsimp only at hSw); try simp only [List.getElem_toArray, List.getElem_cons_zero, List.getElem_cons_succ]; go_simp; try (with_reducible rfl))
        try simp only [List.setIfInBounds_toArray, List.set_cons_zero, List.set_cons_succ]
        refine held_take 6 51 (v := ?_) rfl rfl (by kernel_rfl) (by kernel_rfl) (by kernel_rfl) (fun _ _ _ h => h) (by rfl) ?_ trivial ?_
        rotate_left
        · (intro w hSw; (try dsimp only at hSw); try simp only [List.getElem_toArray, List.getElem_cons_zero, List.getElem_cons_succ]; go_simp; try (with_reducible rfl))
        try simp only [List.setIfInBounds_toArray, List.set_cons_zero, List.set_cons_succ]
        refine held_take 7 52 (v := ?_) rfl rfl (by kernel_rfl) (by kernel_rfl) (by kernel_rfl) (fun _ _ _ h => h) (by rfl) ?_ trivial ?_
        rotate_left
        · (intro w hSw; (try dsimp only at hSw); try simp only [List.getElem_toArray, List.getElem_cons_zero, List.getElem_cons_succ]; go_simp; try (with_reducible rfl))
        try simp only [List.setIfInBounds_toArray, List.set_cons_zero, List.set_cons_succ]
        refine held_take 8 53 (v := ?_) rfl rfl (by kernel_rfl) (by kernel_rfl) (by kernel_rfl) (fun _ _ _ h => h) (by rfl) ?_ trivial ?_
        rotate_left
        · (intro w hSw; (try dsimp only at hSw); try simp only [List.getElem_toArray, List.getElem_cons_zero, List.getElem_cons_succ]; go_simp; try (with_reducible rfl))
        try simp only [List.setIfInBounds_toArray, List.set_cons_zero, List.set_cons_succ]
        refine held_take 10 55 (v := ?_) rfl rfl (by kernel_rfl) (by kernel_rfl) (by kernel_rfl) (fun _ _ _ h => h) (by rfl) ?_ trivial ?_
        rotate_left
        · (intro w hSw; (try dsimp only at hSw); try simp only [List.getElem_toArray, List.getElem_cons_zero, List.getElem_cons_succ]; go_simp; try (with_reducible rfl))
        try simp only [List.setIfInBounds_toArray, List.set_cons_zero, List.set_cons_succ]
        refine held_call 4 49 rfl rfl (by kernel_rfl) (by rfl) (fun K hK => ?_)
        try simp only [List.getElem_toArray, List.getElem_cons_zero, List.getElem_cons_succ]
        (have e1 := HC1.out; go_simp; clear e1)
        try simp only [Act.put, List.setIfInBounds_toArray, List.set_cons_zero, List.set_cons_succ]
        refine hK.out _ _ _ trivial ?_
        clear hK K
        refine held_take 9 54 (v := ?_) rfl rfl (by kernel_rfl) (by kernel_rfl) (by kernel_rfl) (fun _ _ _ h => h) (by rfl) ?_ trivial ?_
        rotate_left
        · (intro w hSw; (try dsimp only at hSw); try simp only [List.getElem_toArray, List.getElem_cons_zero, List.getElem_cons_succ]; go_simp; try (with_reducible rfl))
        try simp only [List.setIfInBounds_toArray, List.set_cons_zero, List.set_cons_succ]
        refine held_take 11 56 (v := ?_) rfl rfl (by kernel_rfl) (by kernel_rfl) (by kernel_rfl) (fun _ _ _ h => h) (by rfl) ?_ trivial ?_
        rotate_left
        · (intro w hSw; (try dsimp only at hSw); try simp only [List.getElem_toArray, List.getElem_cons_zero, List.getElem_cons_succ]; go_simp; try (with_reducible rfl))
        try simp only [List.setIfInBounds_toArray, List.set_cons_zero, List.set_cons_succ]
        refine held_do 12 rfl (by kernel_rfl) (by rfl) (fun K hK => ?_)
        try simp only [List.getElem_toArray, List.getElem_cons_zero, List.getElem_cons_succ]
        (have e1 := HC1.out; have e2 := blk_free H8d.out 1; have e3 := HW.out; go_simp; clear e1 e2 e3)
        try simp only [Act.put, List.setIfInBounds_toArray, List.set_cons_zero, List.set_cons_succ]
        refine hK.out _ _ _ trivial ?_
        clear hK K
        refine wpAnyH_done (by kernel_rfl) ?_ _
        go_wp2
        go_roundw
        case rel => exact ⟨3, by omega, by go_num, by
          have := blk_set H8d.out 1 (.int .u8 (hi a.toNat 3 : Nat))
          rw [← HT1.out] at this ⊢
          exact this, (Below.heap_setCell _ _ _ _ (fun e => HNE.out e.symm)).trans H6.out, HB.out.drew.setCell HLE.out _⟩
        case measure => simp [intOf]
      · rename_i hbt
        have hbt2 : ((a.toNat : Int) / 32 % 2 == 1) = false := hbt
        have HE := Lib.hid (show upto a 2 = upto a 3 by
          have h1 : ¬ (a.toNat : Int) / 32 % 2 = 1 := by simpa using hbt2
          unfold upto
          rw [show hi a.toNat 2 = hi a.toNat 3 by
            have h2 := a.toNat_lt
            simp only [hi, Nat.reducePow, Nat.reduceSub]
            omega])
        exact ⟨⟨3, by omega, by go_num, by rw [← HE.out]; exact H8.out, H6.out, HB.out⟩, by simp [intOf]⟩
    · skip
      go_upto_region 7 with fail
      go_wp2
      · rename_i hbt
        have hbt2 : ((a.toNat : Int) / 16 % 2 == 1) = true := hbt
        have HE := Lib.hid (show hi a.toNat 3 + 16 = hi a.toNat 4 ∧ hi a.toNat 4 < 256 ∧ hi a.toNat 3 < 256 by
          have h1 : (a.toNat : Int) / 16 % 2 = 1 := by simpa using hbt2
          have h2 := a.toNat_lt
          simp only [hi, Nat.reducePow, Nat.reduceSub]
          omega)
        have HW := Lib.hid (show IntKind.u8.wrap ((hi a.toNat 3 : Nat) + 16 : Int) = (hi a.toNat 4 : Nat) by
          have := HE.out
          simp only [IntKind.wrap, IntKind.bits, IntKind.signed]
          simp
          omega)
        have HT := Lib.hid (show ((UInt8.ofNat (hi a.toNat 3)).toNat : Int) = (hi a.toNat 3 : Nat) by rw [UInt8.toNat_ofNat']; have := HE.out; omega)
        have HT1 := Lib.hid (show ((UInt8.ofNat (hi a.toNat 4)).toNat : Int) = (hi a.toNat 4 : Nat) by rw [UInt8.toNat_ofNat']; have := HE.out; omega)
        have H8d := Lib.hid (show wr.drew.heap[B8]? = _ from H8.out)
        have HC1 := Lib.hid (show wr.drew.cell? ⟨B8, 1, none⟩ = some (.int .u8 (hi a.toNat 3 : Nat)) by rw [← HT.out]; exact (blk_cell H8d.out 1).trans rfl)
        generalize hi a.toNat 3 = x0 at HC1 HW
        clear hbt hbt2
        have w0 : IntKind.i64.wrap 0 = 0 := by decide
        have w1 : IntKind.i64.wrap 1 = 1 := by decide
        have w2 : IntKind.i64.wrap 2 = 2 := by decide
        have w3 : IntKind.i64.wrap 3 = 3 := by decide
        have w4 : IntKind.i64.wrap 4 = 4 := by decide
        have w5 : IntKind.i64.wrap 5 = 5 := by decide
        have w6 : IntKind.i64.wrap 6 = 6 := by decide
        have w7 : IntKind.i64.wrap 7 = 7 := by decide
        have w8 : IntKind.i64.wrap 8 = 8 := by decide
        have wd : IntKind.u8.wrap 16 = 16 := by decide
        refine wp_region_held_drew (S := (fun _ => True)) (by kernel_rfl) trivial (fun _ => ?_)
        refine held_take 0 45 (v := ?_) rfl rfl (by kernel_rfl) (by kernel_rfl) (by kernel_rfl) (fun _ _ _ h => h) (by rfl) ?_ trivial ?_
        rotate_left
        · (intro w hSw; (try dsimp only at hSw); try simp only [List.getElem_toArray, List.getElem_cons_zero, List.getElem_cons_succ]; go_simp; try (with_reducible rfl))
        try simp only [List.setIfInBounds_toArray, List.set_cons_zero, List.set_cons_succ]
        refine held_take 1 46 (v := ?_) rfl rfl (by kernel_rfl) (by kernel_rfl) (by kernel_rfl) (fun _ _ _ h => h) (by rfl) ?_ trivial ?_
        rotate_left
        · (intro w hSw; (try dsimp only at hSw); try simp only [List.getElem_toArray, List.getElem_cons_zero, List.getElem_cons_succ]; go_simp; try (with_reducible rfl))
        try simp only [List.setIfInBounds_toArray, List.set_cons_zero, List.set_cons_succ]
        refine held_take 2 47 (v := ?_) rfl rfl (by kernel_rfl) (by kernel_rfl) (by kernel_rfl) (fun _ _ _ h => h) (by rfl) ?_ trivial ?_
        rotate_left
        · (intro w hSw; (try dsimp only at hSw); try simp only [List.getElem_toArray, List.getElem_cons_zero, List.getElem_cons_succ]; go_simp; try (with_reducible rfl))
        try simp only [List.setIfInBounds_toArray, List.set_cons_zero, List.set_cons_succ]
        refine held_take 3 48 (v := ?_) rfl rfl (by kernel_rfl) (by kernel_rfl) (by kernel_rfl) (fun _ _ _ h => h) (by rfl) ?_ trivial ?_
        rotate_left
        · (intro w hSw; (try dsimp only at hSw); try simp only [List.getElem_toArray, List.getElem_cons_zero, List.getElem_cons_succ]; go_simp; try (with_reducible rfl))
        try simp only [List.setIfInBounds_toArray, List.set_cons_zero, List.set_cons_succ]
        refine held_take 5 50 (v := ?_) rfl rfl (by kernel_rfl) (by kernel_rfl) (by kernel_rfl) (fun _ _ _ h => h) (by rfl) ?_ trivial ?_
        rotate_left
        · (intro w hSw; (try dsimp only at hSw); try simp only [List.getElem_toArray, List.getElem_cons_zero, List.getElem_cons_succ]; go_simp; try (with_reducible rfl))
        try simp only [List.setIfInBounds_toArray, List.set_cons_zero, List.set_cons_succ]
        refine held_take 6 51 (v := ?_) rfl rfl (by kernel_rfl) (by kernel_rfl) (by kernel_rfl) (fun _ _ _ h => h) (by rfl) ?_ trivial ?_
        rotate_left
        · (intro w hSw; (try dsimp only at hSw); try simp only [List.getElem_toArray, List.getElem_cons_zero, List.getElem_cons_succ]; go_simp; try (with_reducible rfl))
        try simp only [List.setIfInBounds_toArray, List.set_cons_zero, List.set_cons_succ]
        refine held_take 7 52 (v := ?_) rfl rfl (by kernel_rfl) (by kernel_rfl) (by kernel_rfl) (fun _ _ _ h => h) (by rfl) ?_ trivial ?_
        rotate_left
        · (intro w hSw; (try dsimp only at hSw); try simp only [List.getElem_toArray, List.getElem_cons_zero, List.getElem_cons_succ]; go_simp; try (with_reducible rfl))
        try simp only [List.setIfInBounds_toArray, List.set_cons_zero, List.set_cons_succ]
        refine held_take 8 53 (v := ?_) rfl rfl (by kernel_rfl) (by kernel_rfl) (by kernel_rfl) (fun _ _ _ h => h) (by rfl) ?_ trivial ?_
        rotate_left
        · (intro w hSw; (try dsimp only at hSw); try simp only [List.getElem_toArray, List.getElem_cons_zero, List.getElem_cons_succ]; go_simp; try (with_reducible rfl))
        try simp only [List.setIfInBounds_toArray, List.set_cons_zero, List.set_cons_succ]
        refine held_take 10 55 (v := ?_) rfl rfl (by kernel_rfl) (by kernel_rfl) (by kernel_rfl) (fun _ _ _ h => h) (by rfl) ?_ trivial ?_
        rotate_left
        · (intro w hSw; (try dsimp only at hSw); try simp only [List.getElem_toArray, List.getElem_cons_zero, List.getElem_cons_succ]; go_simp; try (with_reducible rfl))
        try simp only [List.setIfInBounds_toArray, List.set_cons_zero, List.set_cons_succ]
        refine held_call 4 49 rfl rfl (by kernel_rfl) (by rfl) (fun K hK => ?_)
        try simp only [List.getElem_toArray, List.getElem_cons_zero, List.getElem_cons_succ]
        (have e1 := HC1.out; go_simp; clear e1)
        try simp only [Act.put, List.setIfInBounds_toArray, List.set_cons_zero, List.set_cons_succ]
        refine hK.out _ _ _ trivial ?_
        clear hK K
        refine held_take 9 54 (v := ?_) rfl rfl (by kernel_rfl) (by kernel_rfl) (by kernel_rfl) (fun _ _ _ h => h) (by rfl) ?_ trivial ?_
        rotate_left
        · (intro w hSw; (try dsimp only at hSw); try simp only [List.getElem_toArray, List.getElem_cons_zero, List.getElem_cons_succ]; go_simp; try (with_reducible rfl))
        try simp only [List.setIfInBounds_toArray, List.set_cons_zero, List.set_cons_succ]
        refine held_take 11 56 (v := ?_) rfl rfl (by kernel_rfl) (by kernel_rfl) (by kernel_rfl) (fun _ _ _ h => h) (by rfl) ?_ trivial ?_
        rotate_left
        · (intro w hSw; (try dsimp only at hSw); try simp only [List.getElem_toArray, List.getElem_cons_zero, List.getElem_cons_succ]; go_simp; try (with_reducible rfl))
        try simp only [List.setIfInBounds_toArray, List.set_cons_zero, List.set_cons_succ]
        refine held_do 12 rfl (by kernel_rfl) (by rfl) (fun K hK => ?_)
        try simp only [List.getElem_toArray, List.getElem_cons_zero, List.getElem_cons_succ]
        (have e1 := HC1.out; have e2 := blk_free H8d.out 1; have e3 := HW.out; go_simp; clear e1 e2 e3)
        try simp only [Act.put, List.setIfInBounds_toArray, List.set_cons_zero, List.set_cons_succ]
        refine hK.out _ _ _ trivial ?_
        clear hK K
        refine wpAnyH_done (by kernel_rfl) ?_ _
        go_wp2
        go_roundw
        case rel => exact ⟨4, by omega, by go_num, by
          have := blk_set H8d.out 1 (.int .u8 (hi a.toNat 4 : Nat))
          rw [← HT1.out] at this ⊢
          exact this, (Below.heap_setCell _ _ _ _ (fun e => HNE.out e.symm)).trans H6.out, HB.out.drew.setCell HLE.out _⟩
        case measure => simp [intOf]
      · rename_i hbt
        have hbt2 : ((a.toNat : Int) / 16 % 2 == 1) = false := hbt
        have HE := Lib.hid (show upto a 3 = upto a 4 by
          have h1 : ¬ (a.toNat : Int) / 16 % 2 = 1 := by simpa using hbt2
          unfold upto
          rw [show hi a.toNat 3 = hi a.toNat 4 by
            have h2 := a.toNat_lt
            simp only [hi, Nat.reducePow, Nat.reduceSub]
            omega])
        exact ⟨⟨4, by omega, by go_num, by rw [← HE.out]; exact H8.out, H6.out, HB.out⟩, by simp [intOf]⟩
    · skip
      go_upto_region 7 with fail
      go_wp2
      · rename_i hbt
        have hbt2 : ((a.toNat : Int) / 8 % 2 == 1) = true := hbt
        have HE := Lib.hid (show hi a.toNat 4 + 8 = hi a.toNat 5 ∧ hi a.toNat 5 < 256 ∧ hi a.toNat 4 < 256 by
          have h1 : (a.toNat : Int) / 8 % 2 = 1 := by simpa using hbt2
          have h2 := a.toNat_lt
          simp only [hi, Nat.reducePow, Nat.reduceSub]
          omega)
        have HW := Lib.hid (show IntKind.u8.wrap ((hi a.toNat 4 : Nat) + 8 : Int) = (hi a.toNat 5 : Nat) by
          have := HE.out
          simp only [IntKind.wrap, IntKind.bits, IntKind.signed]
          simp
          omega)
        have HT := Lib.hid (show ((UInt8.ofNat (hi a.toNat 4)).toNat : Int) = (hi a.toNat 4 : Nat) by rw [UInt8.toNat_ofNat']; have := HE.out; omega)
        have HT1 := Lib.hid (show ((UInt8.ofNat (hi a.toNat 5)).toNat : Int) = (hi a.toNat 5 : Nat) by rw [UInt8.toNat_ofNat']; have := HE.out; omega)
        have H8d := Lib.hid (show wr.drew.heap[B8]? = _ from H8.out)
        have HC1 := Lib.hid (show wr.drew.cell? ⟨B8, 1, none⟩ = some (.int .u8 (hi a.toNat 4 : Nat)) by rw [← HT.out]; exact (blk_cell H8d.out 1).trans rfl)
        generalize hi a.toNat 4 = x0 at HC1 HW
        clear hbt hbt2
        have w0 : IntKind.i64.wrap 0 = 0 := by decide
        have w1 : IntKind.i64.wrap 1 = 1 := by decide
        have w2 : IntKind.i64.wrap 2 = 2 := by decide
        have w3 : IntKind.i64.wrap 3 = 3 := by decide
        have w4 : IntKind.i64.wrap 4 = 4 := by decide
        have w5 : IntKind.i64.wrap 5 = 5 := by decide
        have w6 : IntKind.i64.wrap 6 = 6 := by decide
        have w7 : IntKind.i64.wrap 7 = 7 := by decide
        have w8 : IntKind.i64.wrap 8 = 8 := by decide
        have wd : IntKind.u8.wrap 8 = 8 := by decide
        refine wp_region_held_drew (S := (fun _ => True)) (by kernel_rfl) trivial (fun _ => ?_)
        refine held_take 0 45 (v := ?_) rfl rfl (by kernel_rfl) (by kernel_rfl) (by kernel_rfl) (fun _ _ _ h => h) (by rfl) ?_ trivial ?_
        rotate_left
        · (intro w hSw; (try dsimp only at hSw); try simp only [List.getElem_toArray, List.getElem_cons_zero, List.getElem_cons_succ]; go_simp; try (with_reducible rfl))
        try simp only [List.setIfInBounds_toArray, List.set_cons_zero, List.set_cons_succ]
        refine held_take 1 46 (v := ?_) rfl rfl (by kernel_rfl) (by kernel_rfl) (by kernel_rfl) (fun _ _ _ h => h) (by rfl) ?_ trivial ?_
        rotate_left
        · (intro w hSw; (try dsimp only at hSw); try simp only [List.getElem_toArray, List.getElem_cons_zero, List.getElem_cons_succ]; go_simp; try (with_reducible rfl))
        try simp only [List.setIfInBounds_toArray, List.set_cons_zero, List.set_cons_succ]
        refine held_take 2 47 (v := ?_) rfl rfl (by kernel_rfl) (by kernel_rfl) (by kernel_rfl) (fun _ _ _ h => h) (by rfl) ?_ trivial ?_
        rotate_left
        · (intro w hSw; (try dsimp only at hSw); try simp only [List.getElem_toArray, List.getElem_cons_zero, List.getElem_cons_succ]; go_simp; try (with_reducible rfl))
        try simp only [List.setIfInBounds_toArray, List.set_cons_zero, List.set_cons_succ]
        refine held_take 3 48 (v := ?_) rfl rfl (by kernel_rfl) (by kernel_rfl) (by kernel_rfl) (fun _ _ _ h => h) (by rfl) ?_ trivial ?_
        rotate_left
        · (intro w hSw; (try dsimp only at hSw); try simp only [List.getElem_toArray, List.getElem_cons_zero, List.getElem_cons_succ]; go_simp; try (with_reducible rfl))
        try simp only [List.setIfInBounds_toArray, List.set_cons_zero, List.set_cons_succ]
        refine held_take 5 50 (v := ?_) rfl rfl (by kernel_rfl) (by kernel_rfl) (by kernel_rfl) (fun _ _ _ h => h) (by rfl) ?_ trivial ?_
        rotate_left
        · (intro w hSw; (try dsimp only at hSw); try simp only [List.getElem_toArray, List.getElem_cons_zero, List.getElem_cons_succ]; go_simp; try (with_reducible rfl))
        try simp only [List.setIfInBounds_toArray, List.set_cons_zero, List.set_cons_succ]
        refine held_take 6 51 (v := ?_) rfl rfl (by kernel_rfl) (by kernel_rfl) (by kernel_rfl) (fun _ _ _ h => h) (by rfl) ?_ trivial ?_
        rotate_left
        · (intro w hSw; (try dsimp only at hSw); try simp only [List.getElem_toArray, List.getElem_cons_zero, List.getElem_cons_succ]; go_simp; try (with_reducible rfl))
        try simp only [List.setIfInBounds_toArray, List.set_cons_zero, List.set_cons_succ]
        refine held_take 7 52 (v := ?_) rfl rfl (by kernel_rfl) (by kernel_rfl) (by kernel_rfl) (fun _ _ _ h => h) (by rfl) ?_ trivial ?_
        rotate_left
        · (intro w hSw; (try dsimp only at hSw); try simp only [List.getElem_toArray, List.getElem_cons_zero, List.getElem_cons_succ]; go_simp; try (with_reducible rfl))
        try simp only [List.setIfInBounds_toArray, List.set_cons_zero, List.set_cons_succ]
        refine held_take 8 53 (v := ?_) rfl rfl (by kernel_rfl) (by kernel_rfl) (by kernel_rfl) (fun _ _ _ h => h) (by rfl) ?_ trivial ?_
        rotate_left
        · (intro w hSw; (try dsimp only at hSw); try simp only [List.getElem_toArray, List.getElem_cons_zero, List.getElem_cons_succ]; go_simp; try (with_reducible rfl))
        try simp only [List.setIfInBounds_toArray, List.set_cons_zero, List.set_cons_succ]
        refine held_take 10 55 (v := ?_) rfl rfl (by kernel_rfl) (by kernel_rfl) (by kernel_rfl) (fun _ _ _ h => h) (by rfl) ?_ trivial ?_
        rotate_left
        · (intro w hSw; (try dsimp only at hSw); try simp only [List.getElem_toArray, List.getElem_cons_zero, List.getElem_cons_succ]; go_simp; try (with_reducible rfl))
        try simp only [List.setIfInBounds_toArray, List.set_cons_zero, List.set_cons_succ]
        refine held_call 4 49 rfl rfl (by kernel_rfl) (by rfl) (fun K hK => ?_)
        try simp only [List.getElem_toArray, List.getElem_cons_zero, List.getElem_cons_succ]
        (have e1 := HC1.out; go_simp; clear e1)
        try simp only [Act.put, List.setIfInBounds_toArray, List.set_cons_zero, List.set_cons_succ]
        refine hK.out _ _ _ trivial ?_
        clear hK K
        refine held_take 9 54 (v := ?_) rfl rfl (by kernel_rfl) (by kernel_rfl) (by kernel_rfl) (fun _ _ _ h => h) (by rfl) ?_ trivial ?_
        rotate_left
        · (intro w hSw; (try dsimp only at hSw); try simp only [List.getElem_toArray, List.getElem_cons_zero, List.getElem_cons_succ]; go_simp; try (with_reducible rfl))
        try simp only [List.setIfInBounds_toArray, List.set_cons_zero, List.set_cons_succ]
        refine held_take 11 56 (v := ?_) rfl rfl (by kernel_rfl) (by kernel_rfl) (by kernel_rfl) (fun _ _ _ h => h) (by rfl) ?_ trivial ?_
        rotate_left
        · (intro w hSw; (try dsimp only at hSw); try simp only [List.getElem_toArray, List.getElem_cons_zero, List.getElem_cons_succ]; go_simp; try (with_reducible rfl))
        try simp only [List.setIfInBounds_toArray, List.set_cons_zero, List.set_cons_succ]
        refine held_do 12 rfl (by kernel_rfl) (by rfl) (fun K hK => ?_)
        try simp only [List.getElem_toArray, List.getElem_cons_zero, List.getElem_cons_succ]
        (have e1 := HC1.out; have e2 := blk_free H8d.out 1; have e3 := HW.out; go_simp; clear e1 e2 e3)
        try simp only [Act.put, List.setIfInBounds_toArray, List.set_cons_zero, List.set_cons_succ]
        refine hK.out _ _ _ trivial ?_
        clear hK K
        refine wpAnyH_done (by kernel_rfl) ?_ _
        go_wp2
        go_roundw
        case rel => exact ⟨5, by omega, by go_num, by
          have := blk_set H8d.out 1 (.int .u8 (hi a.toNat 5 : Nat))
          rw [← HT1.out] at this ⊢
          exact this, (Below.heap_setCell _ _ _ _ (fun e => HNE.out e.symm)).trans H6.out, HB.out.drew.setCell HLE.out _⟩
        case measure => simp [intOf]
      · rename_i hbt
        have hbt2 : ((a.toNat : Int) / 8 % 2 == 1) = false := hbt
        have HE := Lib.hid (show upto a 4 = upto a 5 by
          have h1 : ¬ (a.toNat : Int) / 8 % 2 = 1 := by simpa using hbt2
          unfold upto
          rw [show hi a.toNat 4 = hi a.toNat 5 by
            have h2 := a.toNat_lt
            simp only [hi, Nat.reducePow, Nat.reduceSub]
            omega])
        exact ⟨⟨5, by omega, by go_num, by rw [← HE.out]; exact H8.out, H6.out, HB.out⟩, by simp [intOf]⟩
    · skip
      go_upto_region 7 with fail
      go_wp2
      · rename_i hbt
        have hbt2 : ((a.toNat : Int) / 4 % 2 == 1) = true := hbt
        have HE := Lib.hid (show hi a.toNat 5 + 4 = hi a.toNat 6 ∧ hi a.toNat 6 < 256 ∧ hi a.toNat 5 < 256 by
          have h1 : (a.toNat : Int) / 4 % 2 = 1 := by simpa using hbt2
          have h2 := a.toNat_lt
          simp only [hi, Nat.reducePow, Nat.reduceSub]
          omega)
        have HW := Lib.hid (show IntKind.u8.wrap ((hi a.toNat 5 : Nat) + 4 : Int) = (hi a.toNat 6 : Nat) by
          have := HE.out
          simp only [IntKind.wrap, IntKind.bits, IntKind.signed]
          simp
          omega)
        have HT := Lib.hid (show ((UInt8.ofNat (hi a.toNat 5)).toNat : Int) = (hi a.toNat 5 : Nat) by rw [UInt8.toNat_ofNat']; have := HE.out; omega)
        have HT1 := Lib.hid (show ((UInt8.ofNat (hi a.toNat 6)).toNat : Int) = (hi a.toNat 6 : Nat) by rw [UInt8.toNat_ofNat']; have := HE.out; omega)
        have H8d := Lib.hid (show wr.drew.heap[B8]? = _ from H8.out)
        have HC1 := Lib.hid (show wr.drew.cell? ⟨B8, 1, none⟩ = some (.int .u8 (hi a.toNat 5 : Nat)) by rw [← HT.out]; exact (blk_cell H8d.out 1).trans rfl)
        generalize hi a.toNat 5 = x0 at HC1 HW
        clear hbt hbt2
        have w0 : IntKind.i64.wrap 0 = 0 := by decide
        have w1 : IntKind.i64.wrap 1 = 1 := by decide
        have w2 : IntKind.i64.wrap 2 = 2 := by decide
        have w3 : IntKind.i64.wrap 3 = 3 := by decide
        have w4 : IntKind.i64.wrap 4 = 4 := by decide
        have w5 : IntKind.i64.wrap 5 = 5 := by decide
        have w6 : IntKind.i64.wrap 6 = 6 := by decide
        have w7 : IntKind.i64.wrap 7 = 7 := by decide
        have w8 : IntKind.i64.wrap 8 = 8 := by decide
        have wd : IntKind.u8.wrap 4 = 4 := by decide
        refine wp_region_held_drew (S := (fun _ => True)) (by kernel_rfl) trivial (fun _ => ?_)
        refine held_take 0 45 (v := ?_) rfl rfl (by kernel_rfl) (by kernel_rfl) (by kernel_rfl) (fun _ _ _ h => h) (by rfl) ?_ trivial ?_
        rotate_left
        · (intro w hSw; (try dsimp only at hSw); try simp only [List.getElem_toArray, List.getElem_cons_zero, List.getElem_cons_succ]; go_simp; try (with_reducible rfl))
        try simp only [List.setIfInBounds_toArray, List.set_cons_zero, List.set_cons_succ]
        refine held_take 1 46 (v := ?_) rfl rfl (by kernel_rfl) (by kernel_rfl) (by kernel_rfl) (fun _ _ _ h => h) (by rfl) ?_ trivial ?_
        rotate_left
        · (intro w hSw; (try dsimp only at hSw); try simp only [List.getElem_toArray, List.getElem_cons_zero, List.getElem_cons_succ]; go_simp; try (with_reducible rfl))
        try simp only [List.setIfInBounds_toArray, List.set_cons_zero, List.set_cons_succ]
        refine held_take 2 47 (v := ?_) rfl rfl (by kernel_rfl) (by kernel_rfl) (by kernel_rfl) (fun _ _ _ h => h) (by rfl) ?_ trivial ?_
        rotate_left
        · (intro w hSw; (try dsimp only at hSw); try simp only [List.getElem_toArray, List.getElem_cons_zero, List.getElem_cons_succ]; go_simp; try (with_reducible rfl))
        try simp only [List.setIfInBounds_toArray, List.set_cons_zero, List.set_cons_succ]
        refine held_take 3 48 (v := ?_) rfl rfl (by kernel_rfl) (by kernel_rfl) (by kernel_rfl) (fun _ _ _ h => h) (by rfl) ?_ trivial ?_
        rotate_left
        · (intro w hSw; (try dsimp only at hSw); try simp only [List.getElem_toArray, List.getElem_cons_zero, List.getElem_cons_succ]; go_simp; try (with_reducible rfl))
        try simp only [List.setIfInBounds_toArray, List.set_cons_zero, List.set_cons_succ]
        refine held_take 5 50 (v := ?_) rfl rfl (by kernel_rfl) (by kernel_rfl) (by kernel_rfl) (fun _ _ _ h => h) (by rfl) ?_ trivial ?_
        rotate_left
        · (intro w hSw; (try dsimp only at hSw); try simp only [List.getElem_toArray, List.getElem_cons_zero, List.getElem_cons_succ]; go_simp; try (with_reducible rfl))
        try simp only [List.setIfInBounds_toArray, List.set_cons_zero, List.set_cons_succ]
        refine held_take 6 51 (v := ?_) rfl rfl (by kernel_rfl) (by kernel_rfl) (by kernel_rfl) (fun _ _ _ h => h) (by rfl) ?_ trivial ?_
        rotate_left
        · (intro w hSw; (try dsimp only at hSw); try simp only [List.getElem_toArray, List.getElem_cons_zero, List.getElem_cons_succ]; go_simp; try (with_reducible rfl))
        try simp only [List.setIfInBounds_toArray, List.set_cons_zero, List.set_cons_succ]
        refine held_take 7 52 (v := ?_) rfl rfl (by kernel_rfl) (by kernel_rfl) (by kernel_rfl) (fun _ _ _ h => h) (by rfl) ?_ trivial ?_
        rotate_left
        · (intro w hSw; (try dsimp only at hSw); try simp only [List.getElem_toArray, List.getElem_cons_zero, List.getElem_cons_succ]; go_simp; try (with_reducible rfl))
        try simp only [List.setIfInBounds_toArray, List.set_cons_zero, List.set_cons_succ]
        refine held_take 8 53 (v := ?_) rfl rfl (by kernel_rfl) (by kernel_rfl) (by kernel_rfl) (fun _ _ _ h => h) (by rfl) ?_ trivial ?_
        rotate_left
        · (intro w hSw; (try dsimp only at hSw); try simp only [List.getElem_toArray, List.getElem_cons_zero, List.getElem_cons_succ]; go_simp; try (with_reducible rfl))
        try simp only [List.setIfInBounds_toArray, List.set_cons_zero, List.set_cons_succ]
        refine held_take 10 55 (v := ?_) rfl rfl (by kernel_rfl) (by kernel_rfl) (by kernel_rfl) (fun _ _ _ h => h) (by rfl) ?_ trivial ?_
        rotate_left
        · (intro w hSw; (try dsimp only at hSw); try simp only [List.getElem_toArray, List.getElem_cons_zero, List.getElem_cons_succ]; go_simp; try (with_reducible rfl))
        try simp only [List.setIfInBounds_toArray, List.set_cons_zero, List.set_cons_succ]
        refine held_call 4 49 rfl rfl (by kernel_rfl) (by rfl) (fun K hK => ?_)
        try simp only [List.getElem_toArray, List.getElem_cons_zero, List.getElem_cons_succ]
        (have e1 := HC1.out; go_simp; clear e1)
        try simp only [Act.put, List.setIfInBounds_toArray, List.set_cons_zero, List.set_cons_succ]
        refine hK.out _ _ _ trivial ?_
        clear hK K
        refine held_take 9 54 (v := ?_) rfl rfl (by kernel_rfl) (by kernel_rfl) (by kernel_rfl) (fun _ _ _ h => h) (by rfl) ?_ trivial ?_
        rotate_left
        · (intro w hSw; (try dsimp only at hSw); try simp only [List.getElem_toArray, List.getElem_cons_zero, List.getElem_cons_succ]; go_simp; try (with_reducible rfl))
        try simp only [List.setIfInBounds_toArray, List.set_cons_zero, List.set_cons_succ]
        refine held_take 11 56 (v := ?_) rfl rfl (by kernel_rfl) (by kernel_rfl) (by kernel_rfl) (fun _ _ _ h => h) (by rfl) ?_ trivial ?_
        rotate_left
        · (intro w hSw; (try dsimp only at hSw); try simp only [List.getElem_toArray, List.getElem_cons_zero, List.getElem_cons_succ]; go_simp; try (with_reducible rfl))
        try simp only [List.setIfInBounds_toArray, List.set_cons_zero, List.set_cons_succ]
        refine held_do 12 rfl (by kernel_rfl) (by rfl) (fun K hK => ?_)
        try simp only [List.getElem_toArray, List.getElem_cons_zero, List.getElem_cons_succ]
        (have e1 := HC1.out; have e2 := blk_free H8d.out 1; have e3 := HW.out; go_simp; clear e1 e2 e3)
        try simp only [Act.put, List.setIfInBounds_toArray, List.set_cons_zero, List.set_cons_succ]
        refine hK.out _ _ _ trivial ?_
        clear hK K
        refine wpAnyH_done (by kernel_rfl) ?_ _
        go_wp2
        go_roundw
        case rel => exact ⟨6, by omega, by go_num, by
          have := blk_set H8d.out 1 (.int .u8 (hi a.toNat 6 : Nat))
          rw [← HT1.out] at this ⊢
          exact this, (Below.heap_setCell _ _ _ _ (fun e => HNE.out e.symm)).trans H6.out, HB.out.drew.setCell HLE.out _⟩
        case measure => simp [intOf]
      · rename_i hbt
        have hbt2 : ((a.toNat : Int) / 4 % 2 == 1) = false := hbt
        have HE := Lib.hid (show upto a 5 = upto a 6 by
          have h1 : ¬ (a.toNat : Int) / 4 % 2 = 1 := by simpa using hbt2
          unfold upto
          rw [show hi a.toNat 5 = hi a.toNat 6 by
            have h2 := a.toNat_lt
            simp only [hi, Nat.reducePow, Nat.reduceSub]
            omega])
        exact ⟨⟨6, by omega, by go_num, by rw [← HE.out]; exact H8.out, H6.out, HB.out⟩, by simp [intOf]⟩
    · skip
      go_upto_region 7 with fail
      go_wp2
      · rename_i hbt
        have hbt2 : ((a.toNat : Int) / 2 % 2 == 1) = true := hbt
        have HE := Lib.hid (show hi a.toNat 6 + 2 = hi a.toNat 7 ∧ hi a.toNat 7 < 256 ∧ hi a.toNat 6 < 256 by
          have h1 : (a.toNat : Int) / 2 % 2 = 1 := by simpa using hbt2
          have h2 := a.toNat_lt
          simp only [hi, Nat.reducePow, Nat.reduceSub]
          omega)
        have HW := Lib.hid (show IntKind.u8.wrap ((hi a.toNat 6 : Nat) + 2 : Int) = (hi a.toNat 7 : Nat) by
          have := HE.out
          simp only [IntKind.wrap, IntKind.bits, IntKind.signed]
          simp
          omega)
        have HT := Lib.hid (show ((UInt8.ofNat (hi a.toNat 6)).toNat : Int) = (hi a.toNat 6 : Nat) by rw [UInt8.toNat_ofNat']; have := HE.out; omega)
        have HT1 := Lib.hid (show ((UInt8.ofNat (hi a.toNat 7)).toNat : Int) = (hi a.toNat 7 : Nat) by rw [UInt8.toNat_ofNat']; have := HE.out; omega)
        have H8d := Lib.hid (show wr.drew.heap[B8]? = _ from H8.out)
        have HC1 := Lib.hid (show wr.drew.cell? ⟨B8, 1, none⟩ = some (.int .u8 (hi a.toNat 6 : Nat)) by rw [← HT.out]; exact (blk_cell H8d.out 1).trans rfl)
        generalize hi a.toNat 6 = x0 at HC1 HW
        clear hbt hbt2
        have w0 : IntKind.i64.wrap 0 = 0 := by decide
        have w1 : IntKind.i64.wrap 1 = 1 := by decide
        have w2 : IntKind.i64.wrap 2 = 2 := by decide
        have w3 : IntKind.i64.wrap 3 = 3 := by decide
        have w4 : IntKind.i64.wrap 4 = 4 := by decide
        have w5 : IntKind.i64.wrap 5 = 5 := by decide
        have w6 : IntKind.i64.wrap 6 = 6 := by decide
        have w7 : IntKind.i64.wrap 7 = 7 := by decide
        have w8 : IntKind.i64.wrap 8 = 8 := by decide
        have wd : IntKind.u8.wrap 2 = 2 := by decide
        refine wp_region_held_drew (S := (fun _ => True)) (by kernel_rfl) trivial (fun _ => ?_)
        refine held_take 0 45 (v := ?_) rfl rfl (by kernel_rfl) (by kernel_rfl) (by kernel_rfl) (fun _ _ _ h => h) (by rfl) ?_ trivial ?_
        rotate_left
        · (intro w hSw; (try dsimp only at hSw); try simp only [List.getElem_toArray, List.getElem_cons_zero, List.getElem_cons_succ]; go_simp; try (with_reducible rfl))
        try simp only [List.setIfInBounds_toArray, List.set_cons_zero, List.set_cons_succ]
        refine held_take 1 46 (v := ?_) rfl rfl (by kernel_rfl) (by kernel_rfl) (by kernel_rfl) (fun _ _ _ h => h) (by rfl) ?_ trivial ?_
        rotate_left
        · (intro w hSw; (try dsimp only at hSw); try simp only [List.getElem_toArray, List.getElem_cons_zero, List.getElem_cons_succ]; go_simp; try (with_reducible rfl))
        try simp only [List.setIfInBounds_toArray, List.set_cons_zero, List.set_cons_succ]
        refine held_take 2 47 (v := ?_) rfl rfl (by kernel_rfl) (by kernel_rfl) (by kernel_rfl) (fun _ _ _ h => h) (by rfl) ?_ trivial ?_
        rotate_left
        · (intro w hSw; (try dsimp only at hSw); try simp only [List.getElem_toArray, List.getElem_cons_zero, List.getElem_cons_succ]; go_simp; try (with_reducible rfl))
        try simp only [List.setIfInBounds_toArray, List.set_cons_zero, List.set_cons_succ]
        refine held_take 3 48 (v := ?_) rfl rfl (by kernel_rfl) (by kernel_rfl) (by kernel_rfl) (fun _ _ _ h => h) (by rfl) ?_ trivial ?_
        rotate_left
        · (intro w hSw; (try dsimp only at hSw); try simp only [List.getElem_toArray, List.getElem_cons_zero, List.getElem_cons_succ]; go_simp; try (with_reducible rfl))
        try simp only [List.setIfInBounds_toArray, List.set_cons_zero, List.set_cons_succ]
        refine held_take 5 50 (v := ?_) rfl rfl (by kernel_rfl) (by kernel_rfl) (by kernel_rfl) (fun _ _ _ h => h) (by rfl) ?_ trivial ?_
        rotate_left
        · (intro w hSw; (try dsimp only at hSw); try simp only [List.getElem_toArray, List.getElem_cons_zero, List.getElem_cons_succ]; go_simp; try (with_reducible rfl))
        try simp only [List.setIfInBounds_toArray, List.set_cons_zero, List.set_cons_succ]
        refine held_take 6 51 (v := ?_) rfl rfl (by kernel_rfl) (by kernel_rfl) (by kernel_rfl) (fun _ _ _ h => h) (by rfl) ?_ trivial ?_
        rotate_left
        · (intro w hSw; (try dsimp only at hSw); try simp only [List.getElem_toArray, List.getElem_cons_zero, List.getElem_cons_succ]; go_simp; try (with_reducible rfl))
        try simp only [List.setIfInBounds_toArray, List.set_cons_zero, List.set_cons_succ]
        refine held_take 7 52 (v := ?_) rfl rfl (by kernel_rfl) (by kernel_rfl) (by kernel_rfl) (fun _ _ _ h => h) (by rfl) ?_ trivial ?_
        rotate_left
        · (intro w hSw; (try dsimp only at hSw); try simp only [List.getElem_toArray, List.getElem_cons_zero, List.getElem_cons_succ]; go_simp; try (with_reducible rfl))
        try simp only [List.setIfInBounds_toArray, List.set_cons_zero, List.set_cons_succ]
        refine held_take 8 53 (v := ?_) rfl rfl (by kernel_rfl) (by kernel_rfl) (by kernel_rfl) (fun _ _ _ h => h) (by rfl) ?_ trivial ?_
        rotate_left
        · (intro w hSw; (try dsimp only at hSw); try simp only [List.getElem_toArray, List.getElem_cons_zero, List.getElem_cons_succ]; go_simp; try (with_reducible rfl))
        try simp only [List.setIfInBounds_toArray, List.set_cons_zero, List.set_cons_succ]
        refine held_take 10 55 (v := ?_) rfl rfl (by kernel_rfl) (by kernel_rfl) (by kernel_rfl) (fun _ _ _ h => h) (by rfl) ?_ trivial ?_
        rotate_left
        · (intro w hSw; (try dsimp only at hSw); try simp only [List.getElem_toArray, List.getElem_cons_zero, List.getElem_cons_succ]; go_simp; try (with_reducible rfl))
        try simp only [List.setIfInBounds_toArray, List.set_cons_zero, List.set_cons_succ]
        refine held_call 4 49 rfl rfl (by kernel_rfl) (by rfl) (fun K hK => ?_)
        try simp only [List.getElem_toArray, List.getElem_cons_zero, List.getElem_cons_succ]
        (have e1 := HC1.out; go_simp; clear e1)
        try simp only [Act.put, List.setIfInBounds_toArray, List.set_cons_zero, List.set_cons_succ]
        refine hK.out _ _ _ trivial ?_
        clear hK K
        refine held_take 9 54 (v := ?_) rfl rfl (by kernel_rfl) (by kernel_rfl) (by kernel_rfl) (fun _ _ _ h => h) (by rfl) ?_ trivial ?_
        rotate_left
        · (intro w hSw; (try dsimp only at hSw); try simp only [List.getElem_toArray, List.getElem_cons_zero, List.getElem_cons_succ]; go_simp; try (with_reducible rfl))
        try simp only [List.setIfInBounds_toArray, List.set_cons_zero, List.set_cons_succ]
        refine held_take 11 56 (v := ?_) rfl rfl (by kernel_rfl) (by kernel_rfl) (by kernel_rfl) (fun _ _ _ h => h) (by rfl) ?_ trivial ?_
        rotate_left
        · (intro w hSw; (try dsimp only at hSw); try simp only [List.getElem_toArray, List.getElem_cons_zero, List.getElem_cons_succ]; go_simp; try (with_reducible rfl))
        try simp only [List.setIfInBounds_toArray, List.set_cons_zero, List.set_cons_succ]
        refine held_do 12 rfl (by kernel_rfl) (by rfl) (fun K hK => ?_)
        try simp only [List.getElem_toArray, List.getElem_cons_zero, List.getElem_cons_succ]
        (have e1 := HC1.out; have e2 := blk_free H8d.out 1; have e3 := HW.out; go_simp; clear e1 e2 e3)
        try simp only [Act.put, List.setIfInBounds_toArray, List.set_cons_zero, List.set_cons_succ]
        refine hK.out _ _ _ trivial ?_
        clear hK K
        refine wpAnyH_done (by kernel_rfl) ?_ _
        go_wp2
        go_roundw
        case rel => exact ⟨7, by omega, by go_num, by
          have := blk_set H8d.out 1 (.int .u8 (hi a.toNat 7 : Nat))
          rw [← HT1.out] at this ⊢
          exact this, (Below.heap_setCell _ _ _ _ (fun e => HNE.out e.symm)).trans H6.out, HB.out.drew.setCell HLE.out _⟩
        case measure => simp [intOf]
      · rename_i hbt
        have hbt2 : ((a.toNat : Int) / 2 % 2 == 1) = false := hbt
        have HE := Lib.hid (show upto a 6 = upto a 7 by
          have h1 : ¬ (a.toNat : Int) / 2 % 2 = 1 := by simpa using hbt2
          unfold upto
          rw [show hi a.toNat 6 = hi a.toNat 7 by
            have h2 := a.toNat_lt
            simp only [hi, Nat.reducePow, Nat.reduceSub]
            omega])
        exact ⟨⟨7, by omega, by go_num, by rw [← HE.out]; exact H8.out, H6.out, HB.out⟩, by simp [intOf]⟩
    · skip
      go_upto_region 7 with fail
      go_wp2
      · rename_i hbt
        have hbt2 : ((a.toNat : Int) % 2 == 1) = true := hbt
        have HE := Lib.hid (show hi a.toNat 7 + 1 = hi a.toNat 8 ∧ hi a.toNat 8 < 256 ∧ hi a.toNat 7 < 256 by
          have h1 : (a.toNat : Int) % 2 = 1 := by simpa using hbt2
          have h2 := a.toNat_lt
          simp only [hi, Nat.reducePow, Nat.reduceSub]
          omega)
        have HW := Lib.hid (show IntKind.u8.wrap ((hi a.toNat 7 : Nat) + 1 : Int) = (hi a.toNat 8 : Nat) by
          have := HE.out
          simp only [IntKind.wrap, IntKind.bits, IntKind.signed]
          simp
          omega)
        have HT := Lib.hid (show ((UInt8.ofNat (hi a.toNat 7)).toNat : Int) = (hi a.toNat 7 : Nat) by rw [UInt8.toNat_ofNat']; have := HE.out; omega)
        have HT1 := Lib.hid (show ((UInt8.ofNat (hi a.toNat 8)).toNat : Int) = (hi a.toNat 8 : Nat) by rw [UInt8.toNat_ofNat']; have := HE.out; omega)
        have H8d := Lib.hid (show wr.drew.heap[B8]? = _ from H8.out)
        have HC1 := Lib.hid (show wr.drew.cell? ⟨B8, 1, none⟩ = some (.int .u8 (hi a.toNat 7 : Nat)) by rw [← HT.out]; exact (blk_cell H8d.out 1).trans rfl)
        generalize hi a.toNat 7 = x0 at HC1 HW
        clear hbt hbt2
        have w0 : IntKind.i64.wrap 0 = 0 := by decide
        have w1 : IntKind.i64.wrap 1 = 1 := by decide
        have w2 : IntKind.i64.wrap 2 = 2 := by decide
        have w3 : IntKind.i64.wrap 3 = 3 := by decide
        have w4 : IntKind.i64.wrap 4 = 4 := by decide
        have w5 : IntKind.i64.wrap 5 = 5 := by decide
        have w6 : IntKind.i64.wrap 6 = 6 := by decide
        have w7 : IntKind.i64.wrap 7 = 7 := by decide
        have w8 : IntKind.i64.wrap 8 = 8 := by decide
        have wd : IntKind.u8.wrap 1 = 1 := by decide
        refine wp_region_held_drew (S := (fun _ => True)) (by kernel_rfl) trivial (fun _ => ?_)
        refine held_take 0 45 (v := ?_) rfl rfl (by kernel_rfl) (by kernel_rfl) (by kernel_rfl) (fun _ _ _ h => h) (by rfl) ?_ trivial ?_
        rotate_left
        · (intro w hSw; (try dsimp only at hSw); try simp only [List.getElem_toArray, List.getElem_cons_zero, List.getElem_cons_succ]; go_simp; try (with_reducible rfl))
        try simp only [List.setIfInBounds_toArray, List.set_cons_zero, List.set_cons_succ]
        refine held_take 1 46 (v := ?_) rfl rfl (by kernel_rfl) (by kernel_rfl) (by kernel_rfl) (fun _ _ _ h => h) (by rfl) ?_ trivial ?_
        rotate_left
        · (intro w hSw; (try dsimp only at hSw); try simp only [List.getElem_toArray, List.getElem_cons_zero, List.getElem_cons_succ]; go_simp; try (with_reducible rfl))
        try simp only [List.setIfInBounds_toArray, List.set_cons_zero, List.set_cons_succ]
        refine held_take 2 47 (v := ?_) rfl rfl (by kernel_rfl) (by kernel_rfl) (by kernel_rfl) (fun _ _ _ h => h) (by rfl) ?_ trivial ?_
        rotate_left
        · (intro w hSw; (try dsimp only at hSw); try simp only [List.getElem_toArray, List.getElem_cons_zero, List.getElem_cons_succ]; go_simp; try (with_reducible rfl))
        try simp only [List.setIfInBounds_toArray, List.set_cons_zero, List.set_cons_succ]
        refine held_take 3 48 (v := ?_) rfl rfl (by kernel_rfl) (by kernel_rfl) (by kernel_rfl) (fun _ _ _ h => h) (by rfl) ?_ trivial ?_
        rotate_left
        · (intro w hSw; (try dsimp only at hSw); try simp only [List.getElem_toArray, List.getElem_cons_zero, List.getElem_cons_succ]; go_simp; try (with_reducible rfl))
        try simp only [List.setIfInBounds_toArray, List.set_cons_zero, List.set_cons_succ]
        refine held_take 5 50 (v := ?_) rfl rfl (by kernel_rfl) (by kernel_rfl) (by kernel_rfl) (fun _ _ _ h => h) (by rfl) ?_ trivial ?_
        rotate_left
        · (intro w hSw; (try dsimp only at hSw); try simp only [List.getElem_toArray, List.getElem_cons_zero, List.getElem_cons_succ]; go_simp; try (with_reducible rfl))
        try simp only [List.setIfInBounds_toArray, List.set_cons_zero, List.set_cons_succ]
        refine held_take 6 51 (v := ?_) rfl rfl (by kernel_rfl) (by kernel_rfl) (by kernel_rfl) (fun _ _ _ h => h) (by rfl) ?_ trivial ?_
        rotate_left
        · (intro w hSw; (try dsimp only at hSw); try simp only [List.getElem_toArray, List.getElem_cons_zero, List.getElem_cons_succ]; go_simp; try (with_reducible rfl))
        try simp only [List.setIfInBounds_toArray, List.set_cons_zero, List.set_cons_succ]
        refine held_take 7 52 (v := ?_) rfl rfl (by kernel_rfl) (by kernel_rfl) (by kernel_rfl) (fun _ _ _ h => h) (by rfl) ?_ trivial ?_
        rotate_left
        · (intro w hSw; (try dsimp only at hSw); try simp only [List.getElem_toArray, List.getElem_cons_zero, List.getElem_cons_succ]; go_simp; try (with_reducible rfl))
        try simp only [List.setIfInBounds_toArray, List.set_cons_zero, List.set_cons_succ]
        refine held_take 8 53 (v := ?_) rfl rfl (by kernel_rfl) (by kernel_rfl) (by kernel_rfl) (fun _ _ _ h => h) (by rfl) ?_ trivial ?_
        rotate_left
        · (intro w hSw; (try dsimp only at hSw); try simp only [List.getElem_toArray, List.getElem_cons_zero, List.getElem_cons_succ]; go_simp; try (with_reducible rfl))
        try simp only [List.setIfInBounds_toArray, List.set_cons_zero, List.set_cons_succ]
        refine held_take 10 55 (v := ?_) rfl rfl (by kernel_rfl) (by kernel_rfl) (by kernel_rfl) (fun _ _ _ h => h) (by rfl) ?_ trivial ?_
        rotate_left
        · (intro w hSw; (try dsimp only at hSw); try simp only [List.getElem_toArray, List.getElem_cons_zero, List.getElem_cons_succ]; go_simp; try (with_reducible rfl))
        try simp only [List.setIfInBounds_toArray, List.set_cons_zero, List.set_cons_succ]
        refine held_call 4 49 rfl rfl (by kernel_rfl) (by rfl) (fun K hK => ?_)
        try simp only [List.getElem_toArray, List.getElem_cons_zero, List.getElem_cons_succ]
        (have e1 := HC1.out; go_simp; clear e1)
        try simp only [Act.put, List.setIfInBounds_toArray, List.set_cons_zero, List.set_cons_succ]
        refine hK.out _ _ _ trivial ?_
        clear hK K
        refine held_take 9 54 (v := ?_) rfl rfl (by kernel_rfl) (by kernel_rfl) (by kernel_rfl) (fun _ _ _ h => h) (by rfl) ?_ trivial ?_
        rotate_left
        · (intro w hSw; (try dsimp only at hSw); try simp only [List.getElem_toArray, List.getElem_cons_zero, List.getElem_cons_succ]; go_simp; try (with_reducible rfl))
        try simp only [List.setIfInBounds_toArray, List.set_cons_zero, List.set_cons_succ]
        refine held_take 11 56 (v := ?_) rfl rfl (by kernel_rfl) (by kernel_rfl) (by kernel_rfl) (fun _ _ _ h => h) (by rfl) ?_ trivial ?_
        rotate_left
        · (intro w hSw; (try dsimp only at hSw); try simp only [List.getElem_toArray, List.getElem_cons_zero, List.getElem_cons_succ]; go_simp; try (with_reducible rfl))
        try simp only [List.setIfInBounds_toArray, List.set_cons_zero, List.set_cons_succ]
        refine held_do 12 rfl (by kernel_rfl) (by rfl) (fun K hK => ?_)
        try simp only [List.getElem_toArray, List.getElem_cons_zero, List.getElem_cons_succ]
        (have e1 := HC1.out; have e2 := blk_free H8d.out 1; have e3 := HW.out; go_simp; clear e1 e2 e3)
        try simp only [Act.put, List.setIfInBounds_toArray, List.set_cons_zero, List.set_cons_succ]
        refine hK.out _ _ _ trivial ?_
        clear hK K
        refine wpAnyH_done (by kernel_rfl) ?_ _
        go_wp2
        go_roundw
        case rel => exact ⟨8, by omega, by go_num, by
          have := blk_set H8d.out 1 (.int .u8 (hi a.toNat 8 : Nat))
          rw [← HT1.out] at this ⊢
          exact this, (Below.heap_setCell _ _ _ _ (fun e => HNE.out e.symm)).trans H6.out, HB.out.drew.setCell HLE.out _⟩
        case measure => simp [intOf]
      · rename_i hbt
        have hbt2 : ((a.toNat : Int) % 2 == 1) = false := hbt
        have HE := Lib.hid (show upto a 7 = upto a 8 by
          have h1 : ¬ (a.toNat : Int) % 2 = 1 := by simpa using hbt2
          unfold upto
          rw [show hi a.toNat 7 = hi a.toNat 8 by
            have h2 := a.toNat_lt
            simp only [hi, Nat.reducePow, Nat.reduceSub]
            omega])
        exact ⟨⟨8, by omega, by go_num, by rw [← HE.out]; exact H8.out, H6.out, HB.out⟩, by simp [intOf]⟩
    · have hl := (at_row H8.out).load (k := n18) (encP_n _) Tryz.prog
      have hst := store_row (o := 0) (vs := encP (upto a 8)) H6.out (by simp [encP_len]) (encP_one _) Tryz.prog
      rw [splice_whole (by simp [encP_len])] at hst
      have hl2 := (at_row (setRow_heap wr B6 _ (encP (upto a 8)).toArray _ _ H6.out)).load (k := n18) (encP_n _) Tryz.prog
      go_wp2
      exact bodyPost_ret (v := .tuple #[.agg (encP (upto a 8)).toArray, .bool true]) (by simp [results, Tryz.results40, go_sem, hl2]) rfl ⟨rfl, below_setRow HB.out HL6.out _⟩
end Tab
end Go.Proofs.YtdcbbjlbfghpbaaGreat
