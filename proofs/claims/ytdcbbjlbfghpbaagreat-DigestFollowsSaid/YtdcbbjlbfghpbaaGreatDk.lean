/-
  Joined texts: AwkD AwkE OpenR OpenL DgC. Conditions: those that each theorem names.
-/
import Derived.Test.YtdcbbjlbfghpbaaGreatDc
import Derived.Test.YtdcbbjlbfghpbaaGreatDigW
import Derived.Test.YtdcbbjlbfghpbaaGreatDigD
import Derived.Test.YtdcbbjlbfghpbaaGreatDj
import Derived.Test.YtdcbbjlbfghpbaaGreatDb
import Derived.Deep.SlicePairs
import Derived.ProofKit
import Derived.OpenShut
import Derived.Deep.Fields
import Derived.Lib.SmallJoins
import Derived.Test.YtdcbbjlbfghpbaaGreatDd
/-
  The digest laws' awake: its tables. Conditions: those that each theorem names.
-/
namespace Go.Proofs.YtdcbbjlbfghpbaaGreat
open Go Go.RowKit H2
set_option linter.unusedVariables false
set_option linter.unusedSimpArgs false
namespace Dig
open Tab Byt
/-- New of two fresh routes -/
theorem new_two (r s : Rt) (w : World) : Calls Tryz.prog 5 #[.slice (some ⟨w.heap.size, 0, none⟩) 2 2] (w.alloc (.cells (encR r ++ encR s).toArray 36 (0, 0))) fun e w' => Made (w.alloc (.cells (encR r ++ encR s).toArray 36 (0, 0))) w' [r, s] e ∧ Below w.heap.size w w' :=
  (new_any (some ⟨w.heap.size, 0, none⟩) 2 [r, s] (by simp) _ ⟨rfl, Nat.le_refl _, by decide, Rd.at (L := [r, s]) (by rw [show flat [r, s] = encR r ++ encR s by simp [flat]]; exact at_new w _ _ _), fun e => (by cases e), fun a e => (by cases e; exact ⟨_, _, rfl, by simp⟩)⟩).mono fun e w' ⟨h1, h2⟩ => ⟨h1, (Below.refl _ w).alloc (Nat.le_refl _) _ |>.trans (h2.mono (by simp))⟩
theorem tb_lower {base base' : Nat} {w : World} {b : Nat} {v : Value} {T : List Rt} (h : Tb base w b v T) (hb : base' ≤ base) : Tb base' w b v T := ⟨h.blk, own_le h.own hb, Nat.le_trans hb h.lo, h.tok⟩
theorem made_ok {w w' : World} {L T : List Rt} {e : Ending} (h : Made w w' L e) (hc : newC L = 0) (hf : fold L = T) : ∃ b v, e = .returned (.tuple #[.pointer (some ⟨b, 0, none⟩), .int .i64 0]) ∧ Tb w.heap.size w' b v T := by
  rcases h with ⟨h, _⟩ | ⟨_, b, v, h1, h2⟩
  · exact absurd hc h
  · exact ⟨b, v, h1, hf ▸ h2⟩
def aL : List Rt := [rx 10 1, rx 200 2]
def bL : List Rt := [rx 10 2, rx 200 2]
theorem aC : newC aL = 0 := by decide
theorem aF : fold aL = aL := by decide
theorem bC : newC bL = 0 := by decide
theorem bF : fold bL = bL := by decide
theorem pB : bL.filter (inK 0) = [rx 10 2] := by decide
theorem cC : newC ((aL.filter fun r => !inK 0 r) ++ [rx 10 2]) = 0 := by decide
theorem cF : fold ((aL.filter fun r => !inK 0 r) ++ [rx 10 2]) = bL := by decide
theorem c1 : [rx 10 2].any (fun r => !inK 1 r) = true := by decide
theorem c0 : [rx 10 2].any (fun r => !inK 0 r) = false := by decide
theorem dA : difs 17 17 (dgs aL) (dgs bL) 17 = [0] := by decide +kernel
theorem dN (F : Dg) : (difs 0 17 dg0 F 17).length = 17 := by
  unfold difs
  rw [List.filter_eq_self.2 (by intro a _; simp), List.length_map, List.length_range]
theorem iA : ∀ i, i < 17 → 0 ≤ (dgs aL i).1 ∧ (dgs aL i).1 ≤ 300 ∧ 0 ≤ (dgs aL i).2 ∧ (dgs aL i).2 < 18446744073709551616 := by decide +kernel
theorem n0 : dgs aL 0 = (1, mk (rx 10 1)) := by decide +kernel
theorem mN : mk (rx 10 1) ≠ mk (rx 10 2) := by decide +kernel
theorem sS (F : Dg) : smD 17 17 F F = true := decide_eq_true ⟨rfl, fun _ _ => rfl⟩
theorem gn_rd {wl w : World} {v : Value} {D : List Int} (h : Gn wl w v D) : ∃ A cap, v = .slice A D.length cap ∧ RdN w A D.length (fun i => D.getD i 0) := by
  rcases h.own.2 with ⟨rfl, h0⟩ | ⟨g, cap, cur, rfl, hg, hh, hc, hm, hs, ht⟩
  · have e : D = [] := List.length_eq_zero_iff.1 h0
    subst e
    exact ⟨none, 0, rfl, fun i hi => absurd hi (Nat.not_lt_zero i)⟩
  · refine ⟨_, cap, rfl, fun i hi => ⟨g, 0, rfl, ?_⟩⟩
    rw [Nat.zero_add, blk_cell hh]
    have hj : (encN D)[i]? = some (.int .i64 (D.getD i 0)) := by simp [encN, List.getD_eq_getElem?_getD, List.getElem?_eq_getElem hi]
    rw [← ht, List.getElem?_take] at hj
    split at hj
    · simpa using hj
    · cases hj
theorem sm0 : smN 1 1 (fun i => [(0 : Int)].getD i 0) (fun _ => 0) = true := decide_eq_true ⟨rfl, fun i hi => by
  have : i = 0 := by omega
  subst this
  rfl⟩
theorem ints0 (A : Option Addr) (cap : Nat) (w : World) (hr : RdN w A 1 (fun i => [(0 : Int)].getD i 0)) : Calls Tryz.prog 19 #[.slice A 1 cap, .slice (some ⟨w.heap.size, 0, none⟩) 1 1] (w.alloc (.cells #[.int .i64 0] 3 (0, 0))) fun e w' => e = .returned (.bool true) ∧ Below w.heap.size w w' :=
  (ints_any A (some ⟨w.heap.size, 0, none⟩) 1 1 cap 1 (fun i => [(0 : Int)].getD i 0) (fun _ => 0) (by decide) _ (hr.below ((Below.refl _ w).alloc (Nat.le_refl _) _)) (fun i hi => ⟨_, 0, rfl, by
    obtain rfl : i = 0 := by omega
    exact (blk_cell (heap_alloc_new w _) 0).trans rfl⟩)).mono fun e w' ⟨h1, h2⟩ => ⟨by rw [h1, sm0], ((Below.refl _ w).alloc (Nat.le_refl _) _).trans (h2.mono (by simp))⟩
theorem r101 (w : World) : Calls Tryz.prog 13 #[.int .i64 10, .int .i64 1] w fun e w' => e = .returned (.agg (encR (rx 10 1)).toArray) ∧ Below w.heap.size w w' := route_any 10 1 w
theorem r102 (w : World) : Calls Tryz.prog 13 #[.int .i64 10, .int .i64 2] w fun e w' => e = .returned (.agg (encR (rx 10 2)).toArray) ∧ Below w.heap.size w w' := route_any 10 2 w
theorem r200 (w : World) : Calls Tryz.prog 13 #[.int .i64 200, .int .i64 2] w fun e w' => e = .returned (.agg (encR (rx 200 2)).toArray) ∧ Below w.heap.size w w' := route_any 200 2 w
theorem newA (w : World) : Calls Tryz.prog 5 #[.slice (some ⟨w.heap.size, 0, none⟩) 2 2] (w.alloc (.cells (encR (rx 10 1) ++ encR (rx 200 2)).toArray 36 (0, 0))) fun e w' => ∃ b v, e = .returned (.tuple #[.pointer (some ⟨b, 0, none⟩), .int .i64 0]) ∧ Tb w.heap.size w' b v aL ∧ Below w.heap.size w w' :=
  (new_two _ _ w).mono fun e w' ⟨h1, h2⟩ => by
    obtain ⟨b, v, h3, h4⟩ := made_ok (T := aL) h1 aC aF
    exact ⟨b, v, h3, tb_lower h4 (by simp), h2⟩
theorem newB (w : World) : Calls Tryz.prog 5 #[.slice (some ⟨w.heap.size, 0, none⟩) 2 2] (w.alloc (.cells (encR (rx 10 2) ++ encR (rx 200 2)).toArray 36 (0, 0))) fun e w' => ∃ b v, e = .returned (.tuple #[.pointer (some ⟨b, 0, none⟩), .int .i64 0]) ∧ Tb w.heap.size w' b v bL ∧ Below w.heap.size w w' :=
  (new_two _ _ w).mono fun e w' ⟨h1, h2⟩ => by
    obtain ⟨b, v, h3, h4⟩ := made_ok (T := bL) h1 bC bF
    exact ⟨b, v, h3, tb_lower h4 (by simp), h2⟩
/-- what the law's second table has in range 0 -/
theorem partB {base b : Nat} {v : Value} (w : World) (h : Tb base w b v bL) : Calls Tryz.prog 16 #[.pointer (some ⟨b, 0, none⟩), .int .i64 0] w fun e w' => ∃ A cap, e = .returned (.slice A 1 cap) ∧ Rd w' A [rx 10 2] ∧ (A = none → [rx 10 2] = []) ∧ Below w.heap.size w w' :=
  (digPart_any 0 w h).mono fun e w' ⟨v', h1, h2, h3⟩ => by
    rw [pB] at h2
    obtain ⟨A, cap, hv, _⟩ := own_rv h2
    exact ⟨A, cap, by rw [h1, hv.eq]; rfl, hv.rd, (fun e => by obtain ⟨b, o, e2, _⟩ := hv.rd 0 (by simp); rw [e] at e2; cases e2), h3⟩
theorem repl0 {base b : Nat} {v : Value} (A : Option Addr) (cap : Nat) (w : World) (h : Tb base w b v aL) (hr : Rd w A [rx 10 2]) (hA : A = none → [rx 10 2] = []) : Calls Tryz.prog 15 #[.pointer (some ⟨b, 0, none⟩), .int .i64 0, .slice A 1 cap] w fun e w' => ∃ b' v', e = .returned (.tuple #[.pointer (some ⟨b', 0, none⟩), .int .i64 0]) ∧ Tb w.heap.size w' b' v' bL ∧ Below w.heap.size w w' :=
  (repl_any 0 A cap [rx 10 2] (by simp) w h hr hA).mono fun e w' ⟨h1, h2⟩ => by
    rcases h1 with ⟨h, _⟩ | ⟨_, h, _⟩ | ⟨_, _, h⟩
    · exact absurd (by decide) h
    · rw [c0] at h; cases h
    · obtain ⟨b', v', h3, h4⟩ := made_ok (T := bL) h cC cF
      exact ⟨b', v', h3, h4, h2⟩
theorem repl17 {base b : Nat} {v : Value} (w : World) (h : Tb base w b v aL) : Calls Tryz.prog 15 #[.pointer (some ⟨b, 0, none⟩), .int .i64 17, .slice none 0 0] w fun e w' => e = .returned (.tuple #[.pointer none, .int .i64 2]) ∧ Below w.heap.size w w' :=
  (repl_any 17 none 0 [] (by simp) w h (fun i hi => absurd hi (by simp)) (fun _ => rfl)).mono fun e w' ⟨h1, h2⟩ => by
    rcases h1 with ⟨_, h⟩ | ⟨h, _⟩ | ⟨h, _⟩
    · exact ⟨h, h2⟩
    · exact absurd h (by decide)
    · exact absurd h (by decide)
theorem repl1 {base b : Nat} {v : Value} (A : Option Addr) (cap : Nat) (w : World) (h : Tb base w b v aL) (hr : Rd w A [rx 10 2]) (hA : A = none → [rx 10 2] = []) : Calls Tryz.prog 15 #[.pointer (some ⟨b, 0, none⟩), .int .i64 1, .slice A 1 cap] w fun e w' => e = .returned (.tuple #[.pointer none, .int .i64 1]) ∧ Below w.heap.size w w' :=
  (repl_any 1 A cap [rx 10 2] (by simp) w h hr hA).mono fun e w' ⟨h1, h2⟩ => by
    rcases h1 with ⟨h, _⟩ | ⟨_, _, h⟩ | ⟨_, h, _⟩
    · exact absurd (by decide) h
    · exact ⟨h, h2⟩
    · rw [c1] at h; cases h
end Dig
end Go.Proofs.YtdcbbjlbfghpbaaGreat

/-
  The digest laws' awake. Conditions: those that each theorem names.
-/
namespace Go.Proofs.YtdcbbjlbfghpbaaGreat
open Go Go.RowKit H2
set_option linter.unusedVariables false
set_option linter.unusedSimpArgs false
namespace Dig
open Tab Byt
set_option maxRecDepth 100000 in
set_option maxHeartbeats 16000000 in
theorem awake_any (w : World) : Calls Tryz.prog 4 #[] w fun e w' => e = .returned (.bool true) ∧ Below w.heap.size w w' := by
  go_enter Tryz.func4, Tryz.ntmps4
  go_upto_region 1 with fail
  go_upto_region 2 with (first
    | (go_at_call 13; (with_reducible refine (r101 _).mono ?_); rintro e w1 ⟨rfl, hb1⟩; have HB := Lib.hid hb1; clear hb1)
    | (go_at_call 13; (with_reducible refine (r200 _).mono ?_); rintro e w1 ⟨rfl, hb1⟩; have HB := Lib.hid (HB.out.trans (hb1.mono HB.out.size)); clear hb1)
    | (refine wpList_row_run (o := ⟨some 19, .buildSlice 22 2 #[(0, .tmp 17), (1, .tmp 18)], _, _, _, _⟩) rfl 22 2 #[(0, .tmp 17), (1, .tmp 18)] rfl #[(0, .agg (encR (rx 10 1)).toArray), (1, .agg (encR (rx 200 2)).toArray)] (by simp [Act.eval, Act.put]) (row_R2 _ _ _) ?_)
    | (go_at_call 5; (with_reducible refine (newA _).mono ?_); rintro e w2 ⟨b1, v1, rfl, h1, hb1⟩; have HT1 := Lib.hid (tb_lower h1 HB.out.size); have HB := Lib.hid (HB.out.trans (hb1.mono HB.out.size)); clear hb1 h1))
  have HB0 := HB
  have HB := Lib.hid (Below.refl w2.heap.size w2)
  go_upto_region 3 with (first
    | (go_at_call 13; (with_reducible refine (r102 _).mono ?_); rintro e w3 ⟨rfl, hb1⟩; have HB := Lib.hid (HB.out.trans (hb1.mono HB.out.size)); clear hb1)
    | (go_at_call 13; (with_reducible refine (r200 _).mono ?_); rintro e w3 ⟨rfl, hb1⟩; have HB := Lib.hid (HB.out.trans (hb1.mono HB.out.size)); clear hb1)
    | (refine wpList_row_run (o := ⟨some 26, .buildSlice 22 2 #[(0, .tmp 24), (1, .tmp 25)], _, _, _, _⟩) rfl 22 2 #[(0, .tmp 24), (1, .tmp 25)] rfl #[(0, .agg (encR (rx 10 2)).toArray), (1, .agg (encR (rx 200 2)).toArray)] (by simp [Act.eval, Act.put]) (row_R2 _ _ _) ?_)
    | (go_at_call 5; (with_reducible refine (newB _).mono ?_); rintro e w4 ⟨b3, v3, rfl, h1, hb1⟩; have HT3 := Lib.hid h1; have HB := Lib.hid (HB.out.trans (hb1.mono HB.out.size)); clear hb1 h1))
  have HT1 := Lib.hid (HT1.out.below HB.out)
  have HBA := Lib.hid (HB0.out.trans (HB.out.mono HB0.out.size))
  clear HB0 HB
  have HAL := Lib.hid (fun (W : World) (hb : Below w4.heap.size w4 W) => digAll_any W (HT1.out.below hb))
  have HAM := Lib.hid (fun (W : World) (hb : Below w4.heap.size w4 W) => digAll_any W (HT3.out.below hb))
  have HB := Lib.hid (Below.refl w4.heap.size w4)
  go_upto_region 4 with (first
    | (go_at_call 6; (with_reducible refine (HAL.out _ HB.out).mono ?_); rintro e w5 ⟨⟨g5, rfl, _, h1⟩, hb1⟩; have HD5 := Lib.hid h1; have HB := Lib.hid (HB.out.trans (hb1.mono HB.out.size)); clear h1 hb1)
    | (go_at_call 6; (with_reducible refine (HAM.out _ HB.out).mono ?_); rintro e w6 ⟨⟨g6, rfl, _, h1⟩, hb1⟩; have HD5 := Lib.hid (HD5.out.below hb1); have HD6 := Lib.hid h1; have HB := Lib.hid (HB.out.trans (hb1.mono HB.out.size)); clear h1 hb1))
  clear HAL HAM
  have HT1 := Lib.hid (HT1.out.below HB.out)
  have HT3 := Lib.hid (HT3.out.below HB.out)
  have HBA := Lib.hid (HBA.out.trans (HB.out.mono HBA.out.size))
  clear HB
  have HDF := Lib.hid (differ_any (some ⟨g5, 0, none⟩) (some ⟨g6, 0, none⟩) 17 17 17 17 (dgs aL) (dgs bL) w6 HD5.out.rd HD6.out.rd)
  go_upto_region 5 with (go_at_call 14; (with_reducible refine (HDF.out).mono ?_); rintro e w7 ⟨v7, rfl, h1⟩; have H7 := Lib.hid h1; clear h1)
  have HB := Lib.hid H7.out.bel
  have HT1 := Lib.hid (HT1.out.below HB.out)
  have HT3 := Lib.hid (HT3.out.below HB.out)
  have HD5 := Lib.hid (HD5.out.below HB.out)
  have HBA := Lib.hid (HBA.out.trans (HB.out.mono HBA.out.size))
  clear HDF HB
  have HB := Lib.hid (Below.refl w7.heap.size w7)
  have HPT := Lib.hid (fun (W : World) (hb : Below w7.heap.size w7 W) => partB W (HT3.out.below hb))
  have HRP := Lib.hid (fun A cap (W : World) (hb : Below w7.heap.size w7 W) => repl0 A cap W (HT1.out.below hb))
  go_upto_region 6 with (first
    | (go_at_call 16; (with_reducible refine (HPT.out _ HB.out).mono ?_); rintro e w8 ⟨A8, c8, rfl, h1, h2, hb1⟩; have HB := Lib.hid (HB.out.trans (hb1.mono HB.out.size)); have HR8 := Lib.hid h1; have HN8 := Lib.hid h2; clear h1 h2 hb1)
    | (go_at_call 15; (with_reducible refine (HRP.out _ _ _ HB.out HR8.out HN8.out).mono ?_); rintro e w9 ⟨b9, v9, rfl, h1, hb1⟩; have HT9 := Lib.hid h1; have HB := Lib.hid (HB.out.trans (hb1.mono HB.out.size)); clear h1 hb1))
  clear HPT HRP HR8 HN8
  have HT1 := Lib.hid (HT1.out.below HB.out)
  have HT3 := Lib.hid (HT3.out.below HB.out)
  have HD5 := Lib.hid (HD5.out.below HB.out)
  have H7 := Lib.hid (H7.out.below HB.out)
  have HBA := Lib.hid (HBA.out.trans (HB.out.mono HBA.out.size))
  clear HB
  have HB := Lib.hid (Below.refl w9.heap.size w9)
  have HPR := Lib.hid (print_any (some ⟨g5, 0, none⟩) 17 17 (dgs aL) (by decide) (by decide) w9 ⟨iA⟩ HD5.out.rd)
  have HRD := Lib.hid (fun (W : World) => read_any (dgs aL) W ⟨iA⟩)
  generalize pbD (dgs aL) 17 = PB at HPR HRD
  go_upto_region 7 with (first
    | (go_at_call 18; (with_reducible refine (HPR.out).mono ?_); rintro e w10 ⟨rfl, hb1⟩; have HB := Lib.hid (HB.out.trans (hb1.mono HB.out.size)); clear hb1)
    | (go_at_call 17; (with_reducible refine (HRD.out _).mono ?_); rintro e w11 ⟨v11, rfl, h1⟩; have H11 := Lib.hid h1; have HB := Lib.hid (HB.out.trans (h1.bel.mono HB.out.size)); clear h1))
  clear HPR HRD
  have HT1 := Lib.hid (HT1.out.below HB.out)
  have HT3 := Lib.hid (HT3.out.below HB.out)
  have HT9 := Lib.hid (HT9.out.below HB.out)
  have HD5 := Lib.hid (HD5.out.below HB.out)
  have H7 := Lib.hid (H7.out.below HB.out)
  have HBA := Lib.hid (HBA.out.trans (HB.out.mono HBA.out.size))
  clear HB
  have HB := Lib.hid (Below.refl w11.heap.size w11)
  have HRP := Lib.hid (repl17 w11 HT1.out)
  go_upto_region 8 with (go_at_call 15; (with_reducible refine (HRP.out).mono ?_); rintro e w12 ⟨rfl, hb1⟩; have HB := Lib.hid (HB.out.trans (hb1.mono HB.out.size)); clear hb1)
  clear HRP
  have HPT := Lib.hid (fun (W : World) (hb : Below w11.heap.size w11 W) => partB W (HT3.out.below hb))
  have HRP := Lib.hid (fun A cap (W : World) (hb : Below w11.heap.size w11 W) => repl1 A cap W (HT1.out.below hb))
  go_upto_region 9 with (first
    | (go_at_call 16; (with_reducible refine (HPT.out _ HB.out).mono ?_); rintro e w13 ⟨A13, c13, rfl, h1, h2, hb1⟩; have HB := Lib.hid (HB.out.trans (hb1.mono HB.out.size)); have HR13 := Lib.hid h1; have HN13 := Lib.hid h2; clear h1 h2 hb1)
    | (go_at_call 15; (with_reducible refine (HRP.out _ _ _ HB.out HR13.out HN13.out).mono ?_); rintro e w14 ⟨rfl, hb1⟩; have HB := Lib.hid (HB.out.trans (hb1.mono HB.out.size)); clear hb1))
  clear HPT HRP HR13 HN13
  have HT3 := Lib.hid (HT3.out.below HB.out)
  have HT9 := Lib.hid (HT9.out.below HB.out)
  have HD5 := Lib.hid (HD5.out.below HB.out)
  have H7 := Lib.hid (H7.out.below HB.out)
  have H11 := Lib.hid (H11.out.below HB.out)
  have HBA := Lib.hid (HBA.out.trans (HB.out.mono HBA.out.size))
  clear HB HT1
  obtain ⟨A7, c7, hv7, hr7⟩ := gn_rd H7.out
  obtain ⟨A11, c11, hv11, hr11⟩ := H11.out.rdl
  have HR7 := Lib.hid hr7
  have HR11 := Lib.hid hr11
  rw [dA] at hv7 HR7
  subst hv7
  subst hv11
  clear hr7 hr11 H7 H11
  have z0 : w14.cell? ⟨g5, 0, none⟩ = some (.int .i64 1) := by have := (HD5.out.n (k := 0) (by decide)).1; rw [n0] at this; exact this
  have HB := Lib.hid (Below.refl w14.heap.size w14)
  have HIN := Lib.hid (fun (W : World) (hb : Below w14.heap.size w14 W) => ints0 A7 c7 W (HR7.out.below hb))
  have HSA := Lib.hid (fun (W : World) (hb : Below w14.heap.size w14 W) => same_any W (HT9.out.below hb) (HT3.out.below hb))
  rw [show decide (bL = bL) = true by simp] at HSA
  have HLK := Lib.hid (fun (W : World) (hb : Below w14.heap.size w14 W) => like_any (some ⟨g5, 0, none⟩) 17 17 (dgs aL) (by decide) W (HD5.out.below hb).rd)
  have HSD := Lib.hid (fun B cap (W : World) (hb : Below w14.heap.size w14 W) => same_dig A11 B 17 17 c11 cap (dgs aL) (dgs aL) (by decide) W (HR11.out.below hb))
  rw [sS] at HSD
  have HDN := Lib.hid (fun (W : World) (hb : Below w14.heap.size w14 W) => differ_any none (some ⟨g5, 0, none⟩) 0 17 0 17 dg0 (dgs aL) W (fun i hi => absurd hi (Nat.not_lt_zero i)) (HD5.out.below hb).rd)
  have HMN := Lib.hid mN
  have HM1 := Lib.hid (fun W => mark_any (rx 10 1) W)
  have HM2 := Lib.hid (fun W => mark_any (rx 10 2) W)
  generalize mk (rx 10 1) = m1 at HMN HM1
  generalize mk (rx 10 2) = m2 at HMN HM2
  have hmn : ¬ m1 = m2 := HMN.out
  have hmn2 : decide (¬ m1 = m2) = true := decide_eq_true hmn
  have hmn3 : (m1 == m2) = false := by simpa using hmn
  have hmn4 : (m1 != m2) = true := by simpa using hmn
  clear HT3 HT9 HR7 HR11 HD5
  go_wp2_with (first
    | (go_at_call 19; (with_reducible refine (HIN.out _ HB.out).mono ?_); rintro e w15 ⟨rfl, hb1⟩; clear z0; have HB := Lib.hid (HB.out.trans (hb1.mono HB.out.size)); clear hb1)
    | (go_at_call 20; (with_reducible refine (HSA.out _ HB.out).mono ?_); rintro e w16 ⟨rfl, hb1⟩; have HB := Lib.hid (HB.out.trans (hb1.mono HB.out.size)); clear hb1)
    | (go_at_call 21; (with_reducible refine (HLK.out _ HB.out).mono ?_); rintro e w17 ⟨v17, rfl, h1⟩; have HB := Lib.hid (HB.out.trans (h1.bel.mono HB.out.size)); obtain ⟨A17, c17, rfl, hr17⟩ := h1.rdl; have HR17 := Lib.hid hr17; clear h1 hr17)
    | (go_at_call 10; (with_reducible refine (HSD.out _ _ _ HB.out HR17.out).mono ?_); rintro e w18 ⟨rfl, hb1⟩; have HB := Lib.hid (HB.out.trans (hb1.mono HB.out.size)); clear hb1)
    | (go_at_call 22; (with_reducible refine (buckets_any _).mono ?_); rintro e w19 ⟨rfl, rfl⟩)
    | (go_at_call 13; (with_reducible refine (r101 _).mono ?_); rintro e w20 ⟨rfl, hb1⟩; have HB := Lib.hid (HB.out.trans (hb1.mono HB.out.size)); clear hb1)
    | (go_at_call 23; (with_reducible refine (HM1.out _).mono ?_); rintro e w21 ⟨rfl, hb1⟩; have HB := Lib.hid (HB.out.trans (hb1.mono HB.out.size)); clear hb1)
    | (go_at_call 13; (with_reducible refine (r102 _).mono ?_); rintro e w22 ⟨rfl, hb1⟩; have HB := Lib.hid (HB.out.trans (hb1.mono HB.out.size)); clear hb1)
    | (go_at_call 23; (with_reducible refine (HM2.out _).mono ?_); rintro e w23 ⟨rfl, hb1⟩; have HB := Lib.hid (HB.out.trans (hb1.mono HB.out.size)); clear hb1)
    | (go_at_call 14; (with_reducible refine (HDN.out _ HB.out).mono ?_); rintro e w24 ⟨v24, rfl, h1⟩; obtain ⟨A24, c24, hv24, _⟩ := gn_rd h1; rw [dN] at hv24; subst hv24; have HB := Lib.hid (HB.out.trans (h1.bel.mono HB.out.size)); clear h1))
  go_ret
  exact ⟨rfl, HBA.out.trans (HB.out.mono HBA.out.size)⟩
end Dig
end Go.Proofs.YtdcbbjlbfghpbaaGreat

/-
  A prefix, a route that came in, opened. Conditions: those that each theorem names.
-/
namespace Go.Proofs.YtdcbbjlbfghpbaaGreat
open Go Go.Deep Go.Joins Go.ChangeShapes Go.WideShapes Go.RowKit
set_option linter.unusedVariables false
set_option linter.unusedSimpArgs false
namespace Tab
theorem co_b : Tryz.prog.cellsOf 4 = 1 := by kernel_rfl
theorem co_u8 : Tryz.prog.cellsOf 5 = 1 := by kernel_rfl
theorem co_i : Tryz.prog.cellsOf 3 = 1 := by kernel_rfl
theorem co_u32 : Tryz.prog.cellsOf 34 = 1 := by kernel_rfl
theorem co_A : Tryz.prog.cellsOf 31 = 16 := by kernel_rfl
theorem co_P : Tryz.prog.cellsOf 33 = 18 := by kernel_rfl
theorem co_R : Tryz.prog.cellsOf 36 = 20 := by kernel_rfl
section
variable {H : Type} {enc : TypeId × Value → H} {W : World} {fuel : Nat} {cs : List Value} {x : DataW H × List MemPlace}
theorem open_A (h : DataW.trod enc Tryz.prog W 0 (fun _ => true) true fuel 31 cs = some x) : ∃ a : Vector UInt8 16, cs = encA a := by
  obtain ⟨xs, m, rfl, _, hl, hx, hi⟩ := DataW.trod_array Tryz.underlying31 h
  rw [co_A] at hl
  have each : ∀ i : Fin 16, ∃ b : UInt8, cs[i.val]? = some (.int .u8 (b.toNat : Int)) := fun ⟨i, hi'⟩ => by
    have h1 := hi i hi'
    rw [co_u8, List.getElem?_eq_getElem (show i < xs.length by omega)] at h1
    obtain ⟨a, e, _, wa⟩ := DataW.trod_int Tryz.underlying5 h1
    have e' : cs[i]? = some (.int .u8 a) := by
      have : ((cs.drop (i * 1)).take 1)[0]? = some (.int .u8 a) := by rw [e]; rfl
      rw [List.getElem?_take, if_pos (by omega), List.getElem?_drop] at this
      simpa using this
    simp [Lit.wf, IntKind.min, IntKind.max, IntKind.signed, IntKind.bits] at wa
    refine ⟨UInt8.ofNat a.toNat, ?_⟩
    show cs[i]? = _
    rw [e', UInt8.toNat_ofNat', show ((a.toNat % 2 ^ 8 : Nat) : Int) = a by omega]
  obtain ⟨f, hf⟩ := Classical.axiomOfChoice each
  refine ⟨Vector.ofFn f, List.ext_getElem? fun i => ?_⟩
  by_cases hi' : i < 16
  · have hfi : cs[i]? = _ := hf ⟨i, hi'⟩
    rw [hfi]
    unfold encA
    rw [List.getElem?_map, List.getElem?_eq_getElem (by simpa using hi')]
    simp
  · rw [List.getElem?_eq_none (by omega), List.getElem?_eq_none (by rw [encA_len]; omega)]
theorem take_one {l : List Value} {k : Nat} {v : Value} (h : (l.drop k).take 1 = [v]) : l[k]? = some v := by
  have : ((l.drop k).take 1)[0]? = some v := by rw [h]; rfl
  rw [List.getElem?_take, if_pos (by omega), List.getElem?_drop] at this
  simpa using this
theorem open_P (h : DataW.trod enc Tryz.prog W 0 (fun _ => true) true fuel 33 cs = some x) : ∃ p : Pf, cs = encP p := by
  obtain ⟨xs, n, rfl, _, hl, hxl, hf⟩ := DataW.trod_struct Tryz.underlying33 h
  rw [co_P] at hl
  have hx3 : xs.length = 3 := hxl
  have g0 : DataW.trod enc Tryz.prog W 0 (fun _ => true) true n 4 ((cs.drop 0).take (Tryz.prog.cellsOf 4)) = xs[0]? := hf 0 _ rfl
  have g1 : DataW.trod enc Tryz.prog W 0 (fun _ => true) true n 31 ((cs.drop 1).take (Tryz.prog.cellsOf 31)) = xs[1]? := hf 1 _ rfl
  have g2 : DataW.trod enc Tryz.prog W 0 (fun _ => true) true n 3 ((cs.drop 17).take (Tryz.prog.cellsOf 3)) = xs[2]? := hf 2 _ rfl
  rw [co_b, List.getElem?_eq_getElem (show 0 < xs.length by omega)] at g0
  rw [co_A, List.getElem?_eq_getElem (show 1 < xs.length by omega)] at g1
  rw [co_i, List.getElem?_eq_getElem (show 2 < xs.length by omega)] at g2
  obtain ⟨s, e0, _⟩ := DataW.trod_bool Tryz.underlying4 g0
  obtain ⟨a, e1⟩ := open_A g1
  obtain ⟨l, e2, _, _⟩ := DataW.trod_int Tryz.underlying3 g2
  refine ⟨⟨s, a, l⟩, ?_⟩
  have d1 : cs = cs.take 1 ++ ((cs.drop 1).take 16 ++ (cs.drop 17).take 1) := by
    rw [List.take_of_length_le (l := cs.drop 17) (by simp; omega), show cs.drop 17 = (cs.drop 1).drop 16 by rw [List.drop_drop], List.take_append_drop, List.take_append_drop]
  rw [d1, e1]
  rw [List.drop_zero] at e0
  rw [e0, e2]
  rfl
theorem open_R (h : DataW.trod enc Tryz.prog W 0 (fun _ => true) true fuel 36 cs = some x) : ∃ r : Rt, cs = encR r := by
  obtain ⟨xs, n, rfl, _, hl, hxl, hf⟩ := DataW.trod_struct Tryz.underlying36 h
  rw [co_R] at hl
  have hx3 : xs.length = 3 := hxl
  have g0 : DataW.trod enc Tryz.prog W 0 (fun _ => true) true n 33 ((cs.drop 0).take (Tryz.prog.cellsOf 33)) = xs[0]? := hf 0 _ rfl
  have g1 : DataW.trod enc Tryz.prog W 0 (fun _ => true) true n 3 ((cs.drop 18).take (Tryz.prog.cellsOf 3)) = xs[1]? := hf 1 _ rfl
  have g2 : DataW.trod enc Tryz.prog W 0 (fun _ => true) true n 34 ((cs.drop 19).take (Tryz.prog.cellsOf 34)) = xs[2]? := hf 2 _ rfl
  rw [co_P, List.getElem?_eq_getElem (show 0 < xs.length by omega)] at g0
  rw [co_i, List.getElem?_eq_getElem (show 1 < xs.length by omega)] at g1
  rw [co_u32, List.getElem?_eq_getElem (show 2 < xs.length by omega)] at g2
  obtain ⟨p, e0⟩ := open_P g0
  obtain ⟨m, e1, _, _⟩ := DataW.trod_int Tryz.underlying3 g1
  obtain ⟨q, e2, _, _⟩ := DataW.trod_int Tryz.underlying34 g2
  refine ⟨⟨p, m, q⟩, ?_⟩
  have d1 : cs = cs.take 18 ++ ((cs.drop 18).take 1 ++ (cs.drop 19).take 1) := by
    rw [List.take_of_length_le (l := cs.drop 19) (by simp; omega), show cs.drop 19 = (cs.drop 18).drop 1 by rw [List.drop_drop], List.take_append_drop, List.take_append_drop]
  rw [List.drop_zero] at e0
  rw [d1, e0, e1, e2]
  rfl
end
/-- a route that came in -/
def IsR (W : World) (v : Value) : Prop := ∃ r : Rt, v = .agg (encR r).toArray
def IsP (W : World) (v : Value) : Prop := ∃ p : Pf, v = .agg (encP p).toArray
set_option maxRecDepth 100000 in
theorem open_route {H : Type} {enc : TypeId × Value → H} {W : World} {base : Nat} {v : Value} {d : DataW H} {p : List MemPlace} (hv : Value.okWide Tryz.prog W .any base 36 v)
    (h : DataW.Trod enc Tryz.prog W 0 (fun _ => true) true 36 v d p) : IsR W v := by
  obtain ⟨cs, rfl, _⟩ := okWide_struct Tryz.underlying36 hv
  obtain ⟨fuel, hf⟩ := h
  obtain ⟨r, e⟩ := open_R (cs := cs.toList) (fuel := fuel) hf
  exact ⟨r, by rw [← e, Array.toArray_toList]⟩
set_option maxRecDepth 100000 in
theorem open_prefix {H : Type} {enc : TypeId × Value → H} {W : World} {base : Nat} {v : Value} {d : DataW H} {p : List MemPlace} (hv : Value.okWide Tryz.prog W .any base 33 v)
    (h : DataW.Trod enc Tryz.prog W 0 (fun _ => true) true 33 v d p) : IsP W v := by
  obtain ⟨cs, rfl, _⟩ := okWide_struct Tryz.underlying33 hv
  obtain ⟨fuel, hf⟩ := h
  obtain ⟨r, e⟩ := open_P (cs := cs.toList) (fuel := fuel) hf
  exact ⟨r, by rw [← e, Array.toArray_toList]⟩
end Tab
end Go.Proofs.YtdcbbjlbfghpbaaGreat

/-
  Lists of routes, lists of calls that came in, opened. Conditions: those that each theorem names.
-/
namespace Go.Proofs.YtdcbbjlbfghpbaaGreat
open Go Go.Deep Go.Joins Go.ChangeShapes Go.WideShapes Go.RowKit
set_option linter.unusedVariables false
set_option linter.unusedSimpArgs false
namespace Tab
instance : Inhabited Pf := ⟨⟨false, Vector.replicate 16 0, 0⟩⟩
instance : Inhabited Rt := ⟨⟨default, 0, 0⟩⟩
/-- a slice's cells, element by element -/
theorem open_rows {H : Type} {enc : TypeId × Value → H} {W : World} {fuel k : Nat} {t e : TypeId} {v : Value} {x : DataW H × List MemPlace} {α : Type} [Inhabited α] (enc' : α → List Value)
    (ht : Tryz.prog.underlying t = some (.slice e)) (ce : Tryz.prog.cellsOf e = k) (hk : 0 < k) (hlen : ∀ a, (enc' a).length = k)
    (hop : ∀ {cs n y}, DataW.trod enc Tryz.prog W 0 (fun _ => true) true n e cs = some y → ∃ a, cs = enc' a)
    (h : DataW.trod enc Tryz.prog W 0 (fun _ => true) true fuel t [v] = some x) :
    ∃ (A : Option Addr) (cap : Nat) (L : List α), v = .slice A L.length cap ∧ (L.length ≤ cap ∧ cap ≤ maxLen) ∧ ∀ i (h : i < L.length), ∃ b o, A = some ⟨b, o, none⟩ ∧ At W b (o + i * k) (enc' L[i]) := by
  rcases open_slice ht h with h0 | ⟨a, len, cap, m, n, D, Pl, hv, hb, hl, hm, hmm, rfl, hx⟩
  · have := h0.1
    simp at this
    exact ⟨none, 0, [], this, ⟨by simp, by decide⟩, fun i hi => by simp at hi⟩
  · simp at hv
    subst hv
    have hlm : len ≤ m := by rw [hmm]; split <;> omega
    have each : ∀ i, i < len → ∃ r : α, ∃ b o, a = ⟨b, o, none⟩ ∧ At W b (o + i * k) (enc' r) := by
      intro i hi
      obtain ⟨cs', h1, h2⟩ := hx i (by omega)
      rw [ce] at h1
      obtain ⟨_, hlen', hcell⟩ := World.cells?_some h1
      obtain ⟨r, rfl⟩ := hop h2
      have hs0 : a.spot = none := by
        obtain ⟨cs0, k1, k2⟩ := hx 0 (by omega)
        rw [ce] at k1
        obtain ⟨_, hlen0, hcell0⟩ := World.cells?_some k1
        obtain ⟨r0, rfl⟩ := hop k2
        have e0 := hcell0 0 hk
        have hl0 : 0 < (enc' r0).length := by rw [hlen]; exact hk
        rw [add_add, List.getElem?_eq_getElem hl0] at e0
        simpa [Addr.add] using World.cell?_spot e0
      obtain ⟨ab, ao, sp⟩ := a
      have hs : sp = none := hs0
      subst hs
      refine ⟨r, ab, ao, rfl, fun j u hj => ?_⟩
      have hj' : j < k := by have := (List.getElem?_eq_some_iff.1 hj).1; rw [hlen] at this; exact this
      have := hcell j hj'
      rw [add_add, Addr.add_lit, hj] at this
      rw [Nat.add_assoc]
      exact this
    obtain ⟨f, hf⟩ := choose_lt each
    refine ⟨some a, cap, (List.range len).map f, by simp, ⟨by simpa using hl, hm⟩, fun i hi => ?_⟩
    have hi' : i < len := by simpa using hi
    obtain ⟨b, o, rfl, h3⟩ := hf i hi'
    exact ⟨b, o, rfl, by simpa using h3⟩
/-- routes that came in -/
def IsRs (W : World) (v : Value) : Prop := ∃ (A : Option Addr) (cap : Nat) (L : List Rt), v = .slice A L.length cap ∧ (L.length ≤ cap ∧ cap ≤ maxLen) ∧ Rd W A L
set_option maxRecDepth 100000 in
theorem open_routes {H : Type} {enc : TypeId × Value → H} {W : World} {base : Nat} {v : Value} {d : DataW H} {p : List MemPlace} (hv : Value.okWide Tryz.prog W .any base 22 v)
    (h : DataW.Trod enc Tryz.prog W 0 (fun _ => true) true 22 v d p) : IsRs W v := by
  obtain ⟨a1, len, cap, rfl⟩ := okWide_slice Tryz.underlying22 hv
  obtain ⟨fuel, hf⟩ := h
  obtain ⟨A, cap', L, e, hl, hr⟩ := open_rows encR Tryz.underlying22 co_R (by decide) encR_len open_R (fuel := fuel) (v := .slice a1 len cap) (by simpa [Value.cells] using hf)
  exact ⟨A, cap', L, e, hl, fun i hi => by obtain ⟨b, o, e, h⟩ := hr i hi; exact ⟨b, o, e, ⟨h⟩⟩⟩
/-- one call of a law's list -/
structure OpL where
  kind : Int
  inc : Int
  rt : Rt
  deriving Inhabited
def encO (x : OpL) : List Value := .int .i64 x.kind :: .int .i64 x.inc :: encR x.rt
theorem encO_len (x : OpL) : (encO x).length = 22 := by simp [encO, encR_len]
def n22 : Nat := 22
theorem encO_n (x : OpL) : (encO x).length = n22 := encO_len x
theorem n22_ne : (n22 = 0) = False := by unfold n22; simp
def zO : OpL := ⟨0, 0, zR⟩
attribute [go_sem] encO_n n22_ne
theorem encO_one (r : OpL) : ∀ v ∈ encO r, v.oneCell' = true := fun v hv => by
  rcases List.mem_cons.1 hv with rfl | h
  · rfl
  · rcases List.mem_cons.1 h with rfl | h
    · rfl
    · exact encR_one _ v h
structure OAt (w : World) (B o : Nat) (x : OpL) : Prop where
  all : At w B o (encO x)
theorem OAt.below {w w' : World} {B o : Nat} {x : OpL} (h : OAt w B o x) (hb : Below w.heap.size w w') : OAt w' B o x := ⟨h.all.below hb⟩
theorem OAt.drew {w : World} {B o : Nat} {x : OpL} (h : OAt w B o x) : OAt w.drew B o x := ⟨h.all⟩
theorem OAt.kind {w : World} {B o : Nat} {x : OpL} (h : OAt w B o x) : w.cell? ⟨B, o, none⟩ = some (.int .i64 x.kind) := h.all.cons.1
theorem OAt.inc {w : World} {B o : Nat} {x : OpL} (h : OAt w B o x) : w.cell? ⟨B, o + 1, none⟩ = some (.int .i64 x.inc) := h.all.cons.2.cons.1
theorem OAt.rt {w : World} {B o : Nat} {x : OpL} (h : OAt w B o x) : RAt w B (o + 2) x.rt := ⟨h.all.cons.2.cons.2⟩
/-- calls behind an address -/
def RdP (W : World) (A : Option Addr) (L : List OpL) : Prop := ∀ i (h : i < L.length), ∃ b o, A = some ⟨b, o, none⟩ ∧ OAt W b (o + i * 22) L[i]
theorem RdP.below {w w' : World} {A : Option Addr} {L : List OpL} (h : RdP w A L) (hb : Below w.heap.size w w') : RdP w' A L := fun i hi => by
  obtain ⟨b, o, e, hr⟩ := h i hi
  exact ⟨b, o, e, hr.below hb⟩
/-- calls that came in -/
def IsOs (W : World) (v : Value) : Prop := ∃ (A : Option Addr) (cap : Nat) (L : List OpL), v = .slice A L.length cap ∧ (L.length ≤ cap ∧ cap ≤ maxLen) ∧ RdP W A L
end Tab
end Go.Proofs.YtdcbbjlbfghpbaaGreat

/-
  The digest laws: what they share. Conditions: those that each theorem names.
-/
namespace Go.Proofs.YtdcbbjlbfghpbaaGreat
open Go Go.RowKit H2
set_option linter.unusedVariables false
set_option linter.unusedSimpArgs false
namespace Dig
open Tab Byt
theorem rd_nil {w : World} {A : Option Addr} {L : List Rt} (h : Rd w A L) : A = none → L = [] := fun e => by
  subst e
  cases hL : L with
  | nil => rfl
  | cons x M =>
    obtain ⟨_, _, h0, _⟩ := h 0 (by rw [hL]; simp)
    cases h0
theorem made_no {w w' : World} {L : List Rt} {e : Ending} {c : Int} (h : Made w w' L e) (hc : newC L = c) (h0 : c ≠ 0) : e = .returned (.tuple #[.pointer none, .int .i64 c]) := by
  subst hc
  rcases h with ⟨_, h⟩ | ⟨h, _⟩
  · exact h
  · exact absurd h h0
/-- the sum of marks -/
def ms (l : List Rt) (s : Int) : Int := l.foldl (fun s r => IntKind.u64.wrap (s + mk r)) s
theorem ms_take {l : List Rt} {i : Nat} (h : i < l.length) : ms (l.take (i + 1)) 0 = IntKind.u64.wrap (ms (l.take i) 0 + mk l[i]) := by
  unfold ms
  rw [← List.take_append_getElem h, List.foldl_append]
  rfl
theorem fold_part (T : List Rt) (k : Nat) : ∀ D : Dg, T.foldl dgAdd D k = ((D k).1 + ((T.filter (inK k)).length : Int), ms (T.filter (inK k)) (D k).2) := by
  induction T with
  | nil => intro D; simp [ms]
  | cons r T ih =>
    intro D
    rw [List.foldl_cons, ih]
    by_cases h : k = bk r.to
    · have h1 : inK k r = true := decide_eq_true (by rw [h])
      rw [List.filter_cons, if_pos h1]
      unfold dgAdd
      rw [if_pos h]
      simp only [List.length_cons, ms, List.foldl_cons, Prod.mk.injEq, and_true]
      omega
    · have h1 : ¬ inK k r = true := fun e => h (by have := of_decide_eq_true e; omega)
      rw [List.filter_cons, if_neg h1]
      unfold dgAdd
      rw [if_neg h]
theorem dgs_part (T : List Rt) (k : Nat) : dgs T k = (((T.filter (inK k)).length : Int), ms (T.filter (inK k)) 0) := by
  unfold dgs
  rw [fold_part]
  simp [dg0]
/-- how many routes there are below a range -/
def cnt (T : List Rt) (k : Nat) : Nat := (T.filter fun r => decide (bk r.to < k)).length
theorem cnt_zero (T : List Rt) : cnt T 0 = 0 := by unfold cnt; rw [List.filter_eq_nil_iff.2 (by simp)]; rfl
theorem cnt_all (T : List Rt) : cnt T 17 = T.length := by unfold cnt; rw [List.filter_eq_self.2 (fun r _ => decide_eq_true (bk_lt r.to))]
theorem cnt_succ (T : List Rt) (k : Nat) : cnt T (k + 1) = cnt T k + (T.filter (inK k)).length := by
  unfold cnt
  induction T with
  | nil => rfl
  | cons r T ih =>
    simp only [List.filter_cons]
    by_cases h : bk r.to = k
    · have h1 : inK k r = true := decide_eq_true (by rw [h])
      rw [if_pos (decide_eq_true (by omega)), if_neg (by simp; omega), if_pos h1, List.length_cons, List.length_cons, ih]
      omega
    · have h1 : ¬ inK k r = true := fun e => h (by have := of_decide_eq_true e; omega)
      rw [if_neg h1]
      by_cases h2 : bk r.to < k
      · rw [if_pos (decide_eq_true (by omega)), if_pos (decide_eq_true h2), List.length_cons, List.length_cons, ih]
        omega
      · rw [if_neg (by simp; omega), if_neg (by simp; omega), ih]
theorem difs_self (F : Dg) : difs 17 17 F F 17 = [] := by
  unfold difs
  rw [List.filter_eq_nil_iff.2 (by intro a _; simp)]
  rfl
end Dig
end Go.Proofs.YtdcbbjlbfghpbaaGreat
