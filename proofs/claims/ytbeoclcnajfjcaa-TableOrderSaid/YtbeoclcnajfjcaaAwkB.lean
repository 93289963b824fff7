/-
  The law's awake. Conditions: those that each theorem names.
-/
import Derived.Test.YtbeoclcnajfjcaaAwkA
namespace Go.Proofs.Ytbeoclcnajfjcaa
open Go Go.RowKit H2
set_option linter.unusedVariables false
set_option linter.unusedSimpArgs false
namespace Tab
set_option maxRecDepth 100000 in
set_option maxHeartbeats 16000000 in
theorem awake_any (w : World) : Calls Try.prog 10 #[] w fun e w' => e = .returned (.bool true) ∧ Below w.heap.size w w' := by
  go_enter Try.func10, Try.ntmps10
  go_upto_region 1 with fail
  go_upto_region 2 with (first
    | (go_at_call 34; (with_reducible refine (four2 _).mono ?_); rintro e w1 ⟨rfl, hb1⟩; have HB := Lib.hid hb1; clear hb1)
    | (go_at_call 34; (with_reducible refine (four1 _).mono ?_); rintro e w1 ⟨rfl, hb1⟩; have HB := Lib.hid (HB.out.trans (hb1.mono HB.out.size)); clear hb1)
    | (refine wpList_build_run (o := ⟨some 15, .build 34 #[(0, .tmp 14), (1, .const (.int .i64 2))], _, _, _, _⟩) rfl 34 #[(0, .tmp 14), (1, .const (.int .i64 2))] rfl #[(0, .agg (encP (pk 2)).toArray), (1, .int .i64 2)] (by simp [Act.eval, Act.put]) (build_R2 _ _ _) ?_)
    | (refine wpList_build_run (o := ⟨some 17, .build 34 #[(0, .tmp 16), (1, .const (.int .i64 1))], _, _, _, _⟩) rfl 34 #[(0, .tmp 16), (1, .const (.int .i64 1))] rfl #[(0, .agg (encP (pk 1)).toArray), (1, .int .i64 1)] (by simp [Act.eval, Act.put]) (build_R2 _ _ _) ?_)
    | (refine wpList_row_run (o := ⟨some 18, .buildSlice 31 2 #[(0, .tmp 15), (1, .tmp 17)], _, _, _, _⟩) rfl 31 2 #[(0, .tmp 15), (1, .tmp 17)] rfl #[(0, .agg (encR (rk 2 2)).toArray), (1, .agg (encR (rk 1 1)).toArray)] (by simp [Act.eval, Act.put]; exact ⟨rfl, rfl⟩) (row_R2 _ _ _) ?_)
    | (go_at_call 11; (with_reducible refine (awk_new1 _).mono ?_); rintro e w2 ⟨b1, v1, rfl, h1, hb1⟩; have HT1 := Lib.hid (h1.lower HB.out.size); have HB := Lib.hid (HB.out.trans (hb1.mono HB.out.size)); clear hb1 h1))
  have HB0 := HB
  have HB := Lib.hid (Below.refl w2.heap.size w2)
  go_upto_region 3 with (first
    | (go_at_call 34; (with_reducible refine (four2 _).mono ?_); rintro e w3 ⟨rfl, hb1⟩; have HB := Lib.hid (HB.out.trans (hb1.mono HB.out.size)); clear hb1)
    | (go_at_call 34; (with_reducible refine (four3 _).mono ?_); rintro e w3 ⟨rfl, hb1⟩; have HB := Lib.hid (HB.out.trans (hb1.mono HB.out.size)); clear hb1)
    | (refine wpList_build_run (o := ⟨some 24, .build 34 #[(0, .tmp 23), (1, .const (.int .i64 3))], _, _, _, _⟩) rfl 34 #[(0, .tmp 23), (1, .const (.int .i64 3))] rfl #[(0, .agg (encP (pk 2)).toArray), (1, .int .i64 3)] (by simp [Act.eval, Act.put]) (build_R2 _ _ _) ?_)
    | (refine wpList_build_run (o := ⟨some 26, .build 34 #[(0, .tmp 25), (1, .const (.int .i64 4))], _, _, _, _⟩) rfl 34 #[(0, .tmp 25), (1, .const (.int .i64 4))] rfl #[(0, .agg (encP (pk 3)).toArray), (1, .int .i64 4)] (by simp [Act.eval, Act.put]) (build_R2 _ _ _) ?_)
    | (refine wpList_row_run (o := ⟨some 27, .buildSlice 31 2 #[(0, .tmp 24), (1, .tmp 26)], _, _, _, _⟩) rfl 31 2 #[(0, .tmp 24), (1, .tmp 26)] rfl #[(0, .agg (encR (rk 2 3)).toArray), (1, .agg (encR (rk 3 4)).toArray)] (by simp [Act.eval, Act.put]; exact ⟨rfl, rfl⟩) (row_R2 _ _ _) ?_)
    | (go_at_call 11; (with_reducible refine (awk_new2 _).mono ?_); rintro e w4 ⟨b3, v3, rfl, h1, hb1⟩; have HT3 := Lib.hid h1; have HB := Lib.hid (HB.out.trans (hb1.mono HB.out.size)); clear hb1 h1))
  have HT1 := Lib.hid (HT1.out.below HB.out)
  have HBA := Lib.hid (HB0.out.trans (HB.out.mono HB0.out.size))
  clear HB0
  have HB := Lib.hid (Below.refl w4.heap.size w4)
  go_upto_region 4 with (first
    | (refine wpList_build_run (o := ⟨some 32, .build 34 #[(1, .const (.int .i64 65535))], _, _, _, _⟩) rfl 34 #[(1, .const (.int .i64 65535))] rfl #[(1, .int .i64 65535)] (by simp [Act.eval, Act.put]) (build_Rm _ _) ?_)
    | (refine wpList_row_run (o := ⟨some 33, .buildSlice 31 1 #[(0, .tmp 32)], _, _, _, _⟩) rfl 31 1 #[(0, .tmp 32)] rfl #[(0, .agg (encR ⟨zP, 65535, 0⟩).toArray)] (by simp [Act.eval, Act.put]) (row_R1 _ _) ?_)
    | (go_at_call 11; (with_reducible refine (awk_new3 _).mono ?_); rintro e w5 ⟨rfl, hb1⟩; have HB := Lib.hid (HB.out.trans (hb1.mono HB.out.size)); clear hb1))
  have HT1 := Lib.hid (HT1.out.below HB.out)
  have HT3 := Lib.hid (HT3.out.below HB.out)
  have HBA := Lib.hid (HBA.out.trans (HB.out.mono HBA.out.size))
  clear HB
  have HCH := Lib.hid (changes_any _ _ aT bL w5 (allOf_tb HT1.out) (allOf_tb HT3.out) (by decide) (by decide))
  rw [iC] at HCH
  go_upto_region 7 with (go_at_call 28; (with_reducible refine (HCH.out).mono ?_); rintro e w6 ⟨v6, rfl, h1, hb1⟩; have HI := Lib.hid h1; have HT1 := Lib.hid (HT1.out.below hb1); have HT3 := Lib.hid (HT3.out.below hb1); have HBA := Lib.hid (HBA.out.trans (hb1.mono HBA.out.size)); clear hb1 h1)
  have HCO := Lib.hid (copy_any w6 HT1.out)
  go_upto_region 8 with (go_at_call 29; (with_reducible refine (HCO.out).mono ?_); rintro e w7 ⟨b8, v8, rfl, h1, hb1⟩; have HT8 := Lib.hid h1; have HB7 := Lib.hid hb1; clear hb1 h1)
  obtain ⟨AI, cI, hvI⟩ := ownI_rv HI.out
  obtain rfl := hvI.eq
  rw [show iL.length = 3 from rfl]
  have HRI := Lib.hid hvI.rd
  clear hvI HI HCO HCH
  go_wp2
  go_loopw [50] (fun s50 wr => ∃ (k : Nat) (v : Value), k ≤ 3 ∧ s50 = .int .i64 k ∧ Tb w6.heap.size wr b8 v (stg k) ∧ Below w6.heap.size w6 wr) (fun s50 _ => 3 - (intOf s50).toNat)
  case atStart => exact ⟨0, v8, by omega, rfl, HT8.out, HB7.out⟩
  case round =>
    clear HT8 HB7
    obtain ⟨k, v, hk, rfl, ht8, hb⟩ := hrel
    have HT8 := Lib.hid ht8
    have HB := Lib.hid hb
    clear ht8 hb
    by_cases hlt : k < 3
    · have hlt' : (k : Int) < 3 := by omega
      have k0 : (0 : Int) ≤ (k : Int) := by omega
      have hkl : k < iL.length := hlt
      obtain ⟨bI, oI, rfl, hia⟩ := HRI.out k hkl
      have HST := Lib.hid (stg_step k hkl)
      have hl1 : Sem.run Try.prog (loadCellsFrom ⟨bI, oI + k * n21, none⟩ 0 n21 #[]) wr = .ok (encI iL[k]).toArray wr := (hia.below HB.out).all.load (k := n21) (encI_n _) Try.prog
      clear hia
      generalize iL[k] = x at hl1 HST
      have hst := store_row (o := 0) (vs := encI x) (heap_alloc_new wr (.cells (encI zI).toArray 43 (0, 0))) (by simp [encI_len]) (encI_one _) Try.prog
      rw [splice_whole (by simp [encI_len])] at hst
      go_upto_region 11 with fail
      have HBX := Lib.hid (setRow_heap (wr.alloc (.cells (encI zI).toArray 43 (0, 0))) wr.heap.size _ (encI x).toArray 43 (0, 0) (heap_alloc_new wr _))
      have hbx := Lib.hid (below_setRow ((Below.refl wr.heap.size wr).alloc (Nat.le_refl _) (.cells (encI zI).toArray 43 (0, 0))) (Nat.le_refl _) (encI x).toArray)
      clear hst hl1
      generalize (wr.alloc _).setRow _ _ = W5 at HBX hbx ⊢
      have HT5 := Lib.hid (HT8.out.below hbx.out)
      have HB5 := Lib.hid (HB.out.trans (hbx.out.mono HB.out.size))
      have c0 := (at_row HBX.out).load (k := n21) (encI_n _) Try.prog
      have HDO := Lib.hid (do_any x W5 HT5.out)
      rw [HST.out.1, HST.out.2] at HDO
      go_wp2_with (go_at_call 16; (with_reducible refine (HDO.out).mono ?_); rintro e w9 ⟨v9, rfl, h1, h2⟩; have HT9 := Lib.hid h1; have HB9 := Lib.hid (HB5.out.trans (tb_below HT5.out h2)); clear h1 h2 c0)
      go_roundw
      case rel => exact ⟨k + 1, v9, by omega, by go_num, HT9.out, HB9.out⟩
      case measure => simp [intOf]; omega
    · obtain rfl : k = 3 := by omega
      have HT8 := Lib.hid (show Tb w6.heap.size wr b8 v bL from HT8.out)
      have HT1 := Lib.hid (HT1.out.below HB.out)
      have HT3 := Lib.hid (HT3.out.below HB.out)
      have HBA := Lib.hid (HBA.out.trans (HB.out.mono HBA.out.size))
      have HB6 := HB
      clear hlt hk
      have HB := Lib.hid (Below.refl wr.heap.size wr)
      have HGT := Lib.hid (fun (W : World) (hb : Below wr.heap.size wr W) => get_any (pk 1) W (HT1.out.below hb))
      rw [gT.1, gT.2, Option.getD_some] at HGT
      go_upto_region 15 with (first
        | (go_at_call 34; (with_reducible refine (four1 _).mono ?_); rintro e w10 ⟨rfl, hb1⟩; have HB := Lib.hid (HB.out.trans (hb1.mono HB.out.size)); clear hb1)
        | (go_at_call 18; (with_reducible refine (HGT.out _ HB.out).mono ?_); rintro e w11 ⟨rfl, hb1⟩; have HB := Lib.hid (HB.out.trans (hb1.mono HB.out.size)); clear hb1; have hst := store_row (o := 0) (vs := encR (rk 1 1)) (heap_alloc_new w11 (.cells (encR zR).toArray 34 (0, 0))) (by simp [encR_len]) (encR_one _) Try.prog; rw [splice_whole (by simp [encR_len])] at hst))
      clear hst
      have HBX := Lib.hid (setRow_heap (w11.alloc (.cells (encR zR).toArray 34 (0, 0))) w11.heap.size _ (encR (rk 1 1)).toArray 34 (0, 0) (heap_alloc_new w11 _))
      have HB := Lib.hid (HB.out.trans ((below_setRow ((Below.refl w11.heap.size w11).alloc (Nat.le_refl _) (.cells (encR zR).toArray 34 (0, 0))) (Nat.le_refl _) (encR (rk 1 1)).toArray).mono HB.out.size))
      generalize w11.heap.size = B11 at HBX HB ⊢
      generalize (w11.alloc _).setRow _ _ = W5 at HBX HB ⊢
      have HR11 := Lib.hid (show RAt W5 B11 0 (rk 1 1) from ⟨at_row HBX.out⟩)
      have HT1 := Lib.hid (HT1.out.below HB.out)
      have HT3 := Lib.hid (HT3.out.below HB.out)
      have HT8 := Lib.hid (HT8.out.below HB.out)
      have HBA := Lib.hid (HBA.out.trans (HB.out.mono HBA.out.size))
      have hWI : Below w6.heap.size w6 W5 := HB6.out.trans (HB.out.mono HB6.out.size)
      obtain ⟨bI, oI, rfl, hi0⟩ := HRI.out 0 (by decide)
      obtain ⟨bI1, oI1, e1, hi1⟩ := HRI.out 1 (by decide)
      obtain ⟨bI2, oI2, e2, hi2⟩ := HRI.out 2 (by decide)
      cases e1
      cases e2
      have k0 : W5.cell? ⟨bI, oI, none⟩ = some (.int .i64 3) := by have := (hi0.below hWI).kind; rw [Nat.zero_mul, Nat.add_zero] at this; exact this
      have k1 : W5.cell? ⟨bI, oI + n21, none⟩ = some (.int .i64 2) := by have := (hi1.below hWI).kind; rw [Nat.one_mul] at this; exact this
      have k2 : W5.cell? ⟨bI, oI + 2 * n21, none⟩ = some (.int .i64 1) := (hi2.below hWI).kind
      clear hi0 hi1 hi2 hWI
      have HB := Lib.hid (Below.refl W5.heap.size W5)
      have HS1 := Lib.hid (fun (W : World) (hb : Below W5.heap.size W5 W) => same_any W (HT8.out.below hb) (HT3.out.below hb))
      have HS2 := Lib.hid (fun (W : World) (hb : Below W5.heap.size W5 W) => same_any W (HT1.out.below hb) (HT3.out.below hb))
      have HLE := Lib.hid (fun (W : World) (hb : Below W5.heap.size W5 W) => len_any W (HT1.out.below hb))
      have HAL := Lib.hid (fun (W : World) (hb : Below W5.heap.size W5 W) => all_any W (HT1.out.below hb))
      have HBE := Lib.hid (fun (W : World) (hb : Below W5.heap.size W5 W) => between_any (pk 1) (pk 2) W (HT1.out.below hb))
      have HDR := Lib.hid (fun (W : World) (hb : Below W5.heap.size W5 W) => drop_any (pk 9) W (HT1.out.below hb))
      have HTB := Lib.hid (fun (W : World) (hb : Below W5.heap.size W5 W) => HT1.out.below hb)
      rw [show decide (bL = bL) = true by simp] at HS1
      rw [sT] at HS2
      rw [show aT.length = 2 from rfl] at HLE
      rw [bwT] at HBE
      rw [dropT] at HDR
      clear HT1 HT3 HT8 HGT HRI HB6 HBX
      go_wp2_with (first
        | (go_at_call 32; (with_reducible refine (HS1.out _ HB.out).mono ?_); rintro e w12 ⟨rfl, hb1⟩; clear k0 k1 k2; have HB := Lib.hid (HB.out.trans (hb1.mono HB.out.size)); clear hb1)
        | (go_at_call 32; (with_reducible refine (HS2.out _ HB.out).mono ?_); rintro e w13 ⟨rfl, hb1⟩; have HB := Lib.hid (HB.out.trans (hb1.mono HB.out.size)); clear hb1; have cm : w13.cell? ⟨B11, 19 - 1, none⟩ = some (.int .i64 1) := (HR11.out.below HB.out).met; simp only [Nat.reduceSub] at cm)
        | (go_at_call 20; (with_reducible refine (HLE.out _ HB.out).mono ?_); rintro e w14 ⟨rfl, hw⟩; subst hw)
        | (go_at_call 22; (with_reducible refine (HAL.out _ HB.out).mono ?_); rintro e w15 ⟨v15, rfl, h1, h2⟩; obtain ⟨A15, c15, hv15, _⟩ := own_rv h1; obtain rfl := hv15.eq; obtain ⟨b15, o15, rfl, hr15⟩ := hv15.rd 0 (by decide); rw [show aT.length = 2 from rfl]; have cm : w15.cell? ⟨b15, o15 + 18, none⟩ = some (.int .i64 1) := (by have := hr15.met; rw [Nat.zero_mul, Nat.add_zero] at this; exact this); have HB := Lib.hid (HB.out.trans (h2.mono HB.out.size)); clear h1 h2 hv15 hr15)
        | (go_at_call 34; (with_reducible refine (four1 _).mono ?_); rintro e w16 ⟨rfl, hb1⟩; have HB := Lib.hid (HB.out.trans (hb1.mono HB.out.size)); clear hb1)
        | (go_at_call 34; (with_reducible refine (four2 _).mono ?_); rintro e w17 ⟨rfl, hb1⟩; have HB := Lib.hid (HB.out.trans (hb1.mono HB.out.size)); clear hb1)
        | (go_at_call 23; (with_reducible refine (HBE.out _ HB.out).mono ?_); rintro e w18 ⟨v18, rfl, h1, h2⟩; obtain ⟨A18, c18, hv18, _⟩ := own_rv h1; obtain rfl := hv18.eq; rw [show [rk 1 1].length = 1 from rfl]; have HB := Lib.hid (HB.out.trans (h2.mono HB.out.size)); clear h1 h2 hv18)
        | (go_at_call 34; (with_reducible refine (four9 _).mono ?_); rintro e w19 ⟨rfl, hb1⟩; have HB := Lib.hid (HB.out.trans (hb1.mono HB.out.size)); clear hb1)
        | (go_at_call 14; (with_reducible refine (HDR.out _ HB.out).mono ?_); rintro e w20 ⟨v20, rfl, h1, h2⟩; have HBZ := Lib.hid ((HBA.out.trans (HB.out.mono HBA.out.size)).trans (tb_below (HTB.out _ HB.out) h2)); clear h1 h2))
      go_ret
      exact ⟨rfl, HBZ.out⟩
end Tab
end Go.Proofs.Ytbeoclcnajfjcaa
