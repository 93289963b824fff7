/-
  The law's four. Conditions: those that each theorem names.
-/
import Derived.Test.YtbeoclcnajfjcaaMakeA
import Derived.Laws.IdiomStrings
namespace Go.Proofs.Ytbeoclcnajfjcaa
open Go Go.RowKit H2
set_option linter.unusedVariables false
set_option linter.unusedSimpArgs false
namespace Tab
set_option maxRecDepth 100000 in
set_option maxHeartbeats 8000000 in
theorem four_any (a : UInt8) (w : World) : Calls Try.prog 34 #[.int .i64 a.toNat, .int .i64 8] w fun e w' => e = .returned (.agg (encP ⟨false, #v[a, 0, 0, 0, 0, 0, 0, 0, 0, 0, 0, 0, 0, 0, 0, 0], 8⟩).toArray) ∧ Below w.heap.size w w' := by
  have HMK := Lib.hid (fun W => make_any a W)
  have ha : a.toNat < 256 := a.toNat_lt
  have hw : IntKind.u8.wrap (a.toNat : Int) = (a.toNat : Int) := by simp [IntKind.wrap, IntKind.bits, IntKind.signed]; omega
  have HUP := Lib.hid (show upto a 8 = ⟨false, #v[a, 0, 0, 0, 0, 0, 0, 0, 0, 0, 0, 0, 0, 0, 0, 0], 8⟩ by
    unfold upto hi
    rw [show a.toNat / 2 ^ (8 - 8) * 2 ^ (8 - 8) = a.toNat by simp, UInt8.ofNat_toNat])
  rw [← HUP.out]
  clear HUP
  generalize upto a 8 = p at HMK ⊢
  go_enter Try.func34, Try.ntmps34
  go_upto_region 1 with fail
  have HB4 := Lib.hid (heap_alloc_new w (.cells (encP zP).toArray 25 (0, 0)))
  have hb := Lib.hid (show Below w.heap.size w (w.alloc (.cells (encP zP).toArray 25 (0, 0))) from (Below.refl _ _).alloc (Nat.le_refl _) _)
  have HLT := Lib.hid (show w.heap.size < (w.alloc (.cells (encP zP).toArray 25 (0, 0))).heap.size by simp)
  generalize w.alloc _ = W at HB4 hb HLT ⊢
  obtain ⟨B4, hB4⟩ : ∃ b, w.heap.size = b := ⟨_, rfl⟩
  have HL4 := Lib.hid (show w.heap.size ≤ B4 by rw [hB4]; exact Nat.le_refl _)
  rw [hB4] at HB4 HLT ⊢
  clear hB4
  have hcv : (convert 87 9 (.slice (some ⟨W.heap.size, 0, none⟩) 4 4)).run Try.prog (W.alloc (.cells #[.int .u8 (a.toNat : Int), .int .u8 0, .int .u8 0, .int .u8 0] 5)) = .ok (.string ⟨#[a, 0, 0, 0]⟩) (W.alloc (.cells #[.int .u8 (a.toNat : Int), .int .u8 0, .int .u8 0, .int .u8 0] 5)) := run_convert_bytes_back (P := Try.prog) (W.alloc (.cells #[.int .u8 (a.toNat : Int), .int .u8 0, .int .u8 0, .int .u8 0] 5)) 87 9 5 ⟨W.heap.size, 0, none⟩ 4 [a, 0, 0, 0] Try.underlying87 Try.underlying5 Try.underlying9 (by
    intro j hj
    rw [Addr.add_lit, Nat.zero_add, blk_cell (heap_alloc_new W _)]
    rcases (show j = 0 ∨ j = 1 ∨ j = 2 ∨ j = 3 by simp at hj; omega) with rfl | rfl | rfl | rfl <;> rfl)
  have hb2 := Lib.hid (hb.out.alloc hb.out.size (.cells #[.int .u8 (a.toNat : Int), .int .u8 0, .int .u8 0, .int .u8 0] 5))
  have HB42 := Lib.hid (((Below.refl _ W).alloc (Nat.le_refl _) (.cells #[.int .u8 (a.toNat : Int), .int .u8 0, .int .u8 0, .int .u8 0] 5)).block B4 HLT.out |>.trans HB4.out)
  go_upto_region 2 with (go_at_call 48; (with_reducible refine (HMK.out _).mono ?_); rintro e w3 ⟨rfl, hb3⟩; clear hcv; have HB4 := Lib.hid ((hb3.block B4 (blk_lt HB42.out)).trans HB42.out); have hb := Lib.hid (hb2.out.trans (hb3.mono hb2.out.size)); clear hb3; have hst := store_row (o := 0) (vs := encP p) (heap_alloc_new w3 (.cells (encP zP).toArray 25 (0, 0))) (by simp [encP_len]) (encP_one _) Try.prog; rw [splice_whole (by simp [encP_len])] at hst)
  clear hst
  have HB5 := Lib.hid (setRow_heap (w3.alloc (.cells (encP zP).toArray 25 (0, 0))) w3.heap.size _ (encP p).toArray 25 (0, 0) (heap_alloc_new w3 _))
  have HB6 := Lib.hid (show ((w3.alloc (.cells (encP zP).toArray 25 (0, 0))).setRow w3.heap.size (encP p).toArray).heap[B4]? = some (.cells (encP zP).toArray 25 (0, 0)) from
    (setRow_other _ w3.heap.size B4 _ (by have := blk_lt HB4.out; omega)).trans (((Below.refl _ w3).alloc (Nat.le_refl _) _).block B4 (blk_lt HB4.out) |>.trans HB4.out))
  have hb7 := Lib.hid (below_setRow (hb.out.alloc hb.out.size (.cells (encP zP).toArray 25 (0, 0))) hb.out.size (encP p).toArray)
  generalize w3.heap.size = B5 at HB5 HB6 hb7 ⊢
  generalize (w3.alloc _).setRow _ _ = W5 at HB5 HB6 hb7 ⊢
  have hl := (at_row HB5.out).load (k := n18) (encP_n _) Try.prog
  have hst := store_row (o := 0) (vs := encP p) HB6.out (by simp [encP_len]) (encP_one _) Try.prog
  rw [splice_whole (by simp [encP_len])] at hst
  have hl2 := (at_row (setRow_heap W5 B4 _ (encP p).toArray _ _ HB6.out)).load (k := n18) (encP_n _) Try.prog
  go_wp2
  exact bodyPost_ret (v := .agg (encP p).toArray) (by simp [results, Try.results34, go_sem, hl2]) rfl ⟨rfl, below_setRow hb7.out HL4.out _⟩
end Tab
end Go.Proofs.Ytbeoclcnajfjcaa
