/-
  TableNil walked. Conditions: those that each theorem names.
-/
import Derived.Test.YtbeoclcnajfjcaaAwkB
namespace Go.Proofs.Ytbeoclcnajfjcaa
open Go Go.RowKit H2
set_option linter.unusedVariables false
set_option linter.unusedSimpArgs false
namespace Tab
set_option maxHeartbeats 4000000 in
theorem same_of {pa pb : Value} {T T' : List Rt} (w : World) (h : AllOf w pa T) (h' : AllOf w pb T') (hl : T.length ≤ 300) (hl' : T'.length ≤ 300) :
    Calls Try.prog 32 #[pa, pb] w fun e w' => e = .returned (.bool (decide (T = T'))) ∧ Below w.heap.size w w' := by
  unfold AllOf at h h'
  have HA := Lib.hid (h w (Below.refl _ _))
  have HA2 := Lib.hid h'
  have HL := Lib.hid (And.intro hl hl')
  clear h h' hl hl'
  go_enter Try.func32, Try.ntmps32
  go_upto_region 1 with fail
  go_wp2_with (first
    | (go_at_call 22; (with_reducible refine (HA.out).mono ?_); rintro e w2 ⟨v1, rfl, h1, h2⟩; have HO := Lib.hid h1; have HB := Lib.hid h2; clear h1 h2)
    | (go_at_call 22; (with_reducible refine (HA2.out w2 HB.out).mono ?_); rintro e w3 ⟨v2, rfl, h1, h2⟩; obtain ⟨A2, c2, hv2, _⟩ := own_rv h1; obtain rfl := hv2.eq; obtain ⟨A1, c1, hv1, _⟩ := own_rv (own_below HO.out h2); obtain rfl := hv1.eq; have HE := Lib.hid (equal_any A1 A2 c1 c2 T T' (Nat.le_trans HL.out.1 (by decide)) (Nat.le_trans HL.out.2 (by decide)) w3 hv1.rd hv2.rd); have HB2 := Lib.hid (HB.out.trans (h2.mono HB.out.size)); clear h1 h2 hv1 hv2)
    | (go_at_call 47; (with_reducible refine (HE.out).mono ?_); rintro e w4 ⟨rfl, h1⟩; have HB3 := Lib.hid (HB2.out.trans (h1.mono HB2.out.size)); clear h1))
  go_ret
  exact ⟨rfl, HB3.out⟩
theorem fold_I (k : Int) (r : Rt) : List.foldl (fun cs x => cs.setIfInBounds (1 + x.snd) x.fst) ((encI zI).set 0 (Value.int IntKind.i64 k)).toArray (encR r).zipIdx = (encI ⟨k, r⟩).toArray := by
  obtain ⟨⟨s, a, n⟩, m, q⟩ := r
  obtain ⟨a0, a1, a2, a3, a4, a5, a6, a7, a8, a9, a10, a11, a12, a13, a14, a15, rfl⟩ := vec16 a
  kernel_rfl
set_option maxRecDepth 100000 in
set_option maxHeartbeats 16000000 in
theorem tnil_any (r : Rt) (k : Int) (w : World) : Calls Try.prog 7 #[.agg (encR r).toArray, .int .i64 k] w fun e w' => e = .returned (.bool true) ∧ Below w.heap.size w w' := by
  go_enter Try.func7, Try.ntmps7
  go_upto_region 1 with fail
  have H := Lib.hid (rAt_new w r 34 (0, 0))
  have hb := Lib.hid (show Below w.heap.size w (w.alloc (.cells (encR r).toArray 34 (0, 0))) from (Below.refl _ _).alloc (Nat.le_refl _) _)
  generalize w.alloc _ = W at H hb ⊢
  obtain ⟨B, hB⟩ : ∃ b, w.heap.size = b := ⟨_, rfl⟩
  rw [hB] at H ⊢
  clear hB
  have c0 := H.out.to.all.load (k := n18) (encP_n _) Try.prog
  go_upto_region 3 with (go_at_call 18; (with_reducible refine (get_none_any _ _).mono ?_); rintro e w2 ⟨rfl, hb1⟩; have H := Lib.hid (H.out.below hb1); have hb := Lib.hid (hb.out.trans (hb1.mono hb.out.size)); clear hb1 c0; have hst := store_row (o := 0) (vs := encR zR) (heap_alloc_new w2 (.cells (encR zR).toArray 34 (0, 0))) (by simp [encR_len]) (encR_one _) Try.prog; rw [splice_whole (by simp [encR_len])] at hst)
  have hbx := Lib.hid (below_setRow ((Below.refl w2.heap.size w2).alloc (Nat.le_refl _) (.cells (encR zR).toArray 34 (0, 0))) (Nat.le_refl _) (encR zR).toArray)
  clear hst
  generalize (w2.alloc _).setRow _ _ = W5 at hbx ⊢
  have H := Lib.hid (H.out.below hbx.out)
  have hb := Lib.hid (hb.out.trans (hbx.out.mono hb.out.size))
  clear hbx
  go_upto_region 4 with (go_at_call 11; (with_reducible refine (new_none _).mono ?_); rintro e w3 ⟨b8, v8, rfl, h1, hb1⟩; have HT := Lib.hid h1; have H := Lib.hid (H.out.below hb1); have hb := Lib.hid (hb.out.trans (hb1.mono hb.out.size)); clear hb1 h1)
  have HB := Lib.hid (Below.refl w3.heap.size w3)
  have HSA := Lib.hid (fun (W : World) (hb : Below w3.heap.size w3 W) => same_of W (allOf_none W) (allOf_tb (HT.out.below hb)) (by simp) (by simp))
  rw [show decide (([] : List Rt) = []) = true by simp] at HSA
  have HCH := Lib.hid (fun (W : World) (hb : Below w3.heap.size w3 W) => changes_any (.pointer none) _ [] [] W (allOf_none W) (allOf_tb (HT.out.below hb)) (by simp) (by simp))
  rw [chg_nn] at HCH
  have HLP := Lib.hid (fun (W : World) (hb : Below w3.heap.size w3 W) => (H.out.below hb).to.all.load (k := n18) (encP_n _) Try.prog)
  have HLR := Lib.hid (fun (W : World) (hb : Below w3.heap.size w3 W) => (H.out.below hb).all.load (k := n20) (encR_n _) Try.prog)
  clear HT H
  go_wp2_with (first
    | (go_at_call 10; (with_reducible refine (awake_any _).mono ?_); rintro e w4 ⟨rfl, hb1⟩; have HB := Lib.hid (HB.out.trans (hb1.mono HB.out.size)); clear hb1; have c1 := HLR.out _ HB.out)
    | (go_at_call 12; (with_reducible refine (put_nil _ _).mono ?_); rintro e w5 ⟨rfl, hb1⟩; have HB := Lib.hid (HB.out.trans (hb1.mono HB.out.size)); clear hb1 c1; have c1 := HLP.out _ HB.out)
    | (go_at_call 14; (with_reducible refine (drop_nil _ _).mono ?_); rintro e w6 ⟨rfl, hb1⟩; have HB := Lib.hid (HB.out.trans (hb1.mono HB.out.size)); clear hb1 c1; have c1 := HLR.out _ HB.out)
    | (refine wpList_build_run (o := ⟨some 47, .build 43 #[(0, .tmp 45), (1, .tmp 46)], _, _, _, _⟩) rfl 43 #[(0, .tmp 45), (1, .tmp 46)] rfl #[(0, .int .i64 k), (1, .agg (encR r).toArray)] (by simp [Act.eval, Act.put]) (build_I _ _ _) ?_)
    | (go_at_call 16; rw [fold_I]; (with_reducible refine (do_nil _ _).mono ?_); rintro e w7 ⟨rfl, hb1⟩; have HB := Lib.hid (HB.out.trans (hb1.mono HB.out.size)); clear hb1 c1)
    | (go_at_call 20; (with_reducible refine (len_nil _).mono ?_); rintro e w8 ⟨rfl, hw⟩; subst hw)
    | (go_at_call 22; (with_reducible refine (all_nil _).mono ?_); rintro e w9 ⟨rfl, hw⟩; subst hw; have c1 := HLP.out _ HB.out)
    | (go_at_call 23; (with_reducible refine (between_none _ _ _).mono ?_); rintro e w10 ⟨rfl, hb1⟩; have HB := Lib.hid (HB.out.trans (hb1.mono HB.out.size)); clear hb1 c1)
    | (go_at_call 29; (with_reducible refine (copy_none _).mono ?_); rintro e w11 ⟨rfl, hw⟩; subst hw)
    | (go_at_call 32; (with_reducible refine (HSA.out _ HB.out).mono ?_); rintro e w12 ⟨rfl, hb1⟩; have HB := Lib.hid (HB.out.trans (hb1.mono HB.out.size)); clear hb1)
    | (go_at_call 28; (with_reducible refine (HCH.out _ HB.out).mono ?_); rintro e w13 ⟨v13, rfl, h1, hb1⟩; obtain ⟨A13, c13, hv13⟩ := ownI_rv h1; obtain rfl := hv13.eq; rw [List.length_nil]; have HB := Lib.hid (HB.out.trans (hb1.mono HB.out.size)); clear hb1 h1 hv13))
  go_ret
  exact ⟨rfl, hb.out.trans (HB.out.mono hb.out.size)⟩
end Tab
end Go.Proofs.Ytbeoclcnajfjcaa
