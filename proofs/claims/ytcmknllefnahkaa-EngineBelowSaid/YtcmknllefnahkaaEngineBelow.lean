/-
  EngineBelow: the walk. Conditions: none.
-/
import Derived.Test.YtcmknllefnahkaaMapP
namespace Go.Proofs.Ytcmknllefnahkaa
open Go.RowKit FR FP H2 OW
set_option linter.unusedVariables false
set_option linter.unusedSimpArgs false
namespace EngineBelow
open Feas Eng RefN BelowP MapP
theorem infoD : (Try.prog.info? 55).map (fun i => (i.zero, i.size, i.bytes)) = some (some (.complex .f64 0 0), 1, 16) := by kernel_rfl
def toldRow (s : St) (k : Nat) : List Value := (List.range k).map fun d => dp (s.told d)
theorem toldRow_succ (s : St) (k : Nat) : toldRow s (k + 1) = toldRow s k ++ [dp (s.told k)] := by simp [toldRow, List.range_succ]
theorem toldRow_get (s : St) (n k : Nat) (h : k < n) : (toldRow s n)[k]? = some (dp (s.told k)) := by simp [toldRow, h]
theorem tl_id (s : St) (t : Int) : (tl s t).id = s.id := by unfold tl; split <;> rfl
attribute [local go_sem] order_sm cmp_eq run_makeMap
set_option maxRecDepth 1000000 in
set_option maxHeartbeats 40000000 in
theorem walk_long (id0 n0 : Int) (A : Option Addr) (m cap : Nat) (f : Nat → OpV) (w : World) (hm : m ≤ maxLen) (hf : RdOp w A m f) (hl : (lng f m || decide (150 < m)) = true) : Calls Try.prog 4 #[.int .i64 id0, .int .i64 n0, .slice A m cap] w fun e w' => e = .returned (.bool true) ∧ Below w.heap.size w w' := by
  obtain ⟨r, hr, hrr⟩ := remk n0 5 (by omega)
  obtain ⟨n, hn⟩ : ∃ n : Nat, n = 2 + r := ⟨_, rfl⟩
  have hn2 : 2 ≤ n := by omega
  have hn6 : n ≤ 6 := by omega
  obtain ⟨id, hid, hidd⟩ := remk id0 n (by omega)
  have e5 : ((5 : Nat) : Int) = 5 := rfl
  rw [e5] at hrr
  have w1 : IntKind.i64.wrap (r : Int) = (r : Int) := IntWalk.i64_in _ (by omega)
  have w2 : IntKind.i64.wrap (2 + (r : Int)) = (n : Int) := by rw [IntWalk.i64_in _ (by omega)]; omega
  have w3 : IntKind.u64.wrap (n : Int) = (n : Int) := by simp [IntKind.wrap, IntKind.bits, IntKind.signed]; omega
  have w4 : IntKind.i64.wrap (id : Int) = (id : Int) := IntWalk.i64_in _ (by omega)
  have hz : ((n : Int) == 0) = false := by simp; omega
  have hz' : ¬ (n : Int) = 0 := by omega
  clear hn e5
  have hlg : ∀ w1, Below w.heap.size w w1 → Calls Try.prog 10 #[.slice A m cap] w1 fun e w' => e = .returned (.bool true) ∧ Below w1.heap.size w1 w' := fun w1 hb => by
    have := long_is A m cap f w1 hm (hf.below hb)
    rw [hl] at this
    exact this
  have HLG := Lib.hid hlg
  clear hf hm hl hlg
  go_enter Try.func4, Try.ntmps4
  go_wp2_with (first
    | (go_at_call 9; (with_reducible refine (awake_any w).mono ?_); rintro e w1 ⟨rfl, hb⟩; have HB1 := Lib.hid hb; clear hb)
    | (go_at_call 10; (with_reducible refine (HLG.out w1 HB1.out).mono ?_); rintro e w2 ⟨rfl, hb⟩; have HB2 := Lib.hid (HB1.out.trans (hb.mono HB1.out.size)); clear hb)
    | (go_at_call 9; (with_reducible refine (awake_any w2).mono ?_); rintro e w3 ⟨rfl, hb⟩; have HB3 := Lib.hid (HB2.out.trans (hb.mono HB2.out.size)); clear hb))
  go_ret
  exact ⟨rfl, HB3.out⟩
set_option maxRecDepth 1000000 in
set_option maxHeartbeats 40000000 in
theorem walk (id0 n0 : Int) (v : Value) (w : World) (_ : (Lit.int .i64 id0).wf = true) (_ : (Lit.int .i64 n0).wf = true) (wv : IsOps w v) : Calls Try.prog 4 #[.int .i64 id0, .int .i64 n0, v] w fun e w' => e = .returned (.bool true) ∧ Below w.heap.size w w' := by
  obtain ⟨A, m, cap, f, rfl, hm, hf⟩ := wv
  have HF := Lib.hid hf
  have HM := Lib.hid hm
  obtain ⟨r, hr, hrr⟩ := remk n0 5 (by omega)
  obtain ⟨n, hn⟩ : ∃ n : Nat, n = 2 + r := ⟨_, rfl⟩
  have hn2 : 2 ≤ n := by omega
  have hn6 : n ≤ 6 := by omega
  obtain ⟨id, hid, hidd⟩ := remk id0 n (by omega)
  have e5 : ((5 : Nat) : Int) = 5 := rfl
  rw [e5] at hrr
  have w1 : IntKind.i64.wrap (r : Int) = (r : Int) := IntWalk.i64_in _ (by omega)
  have w2 : IntKind.i64.wrap (2 + (r : Int)) = (n : Int) := by rw [IntWalk.i64_in _ (by omega)]; omega
  have w3 : IntKind.u64.wrap (n : Int) = (n : Int) := by simp [IntKind.wrap, IntKind.bits, IntKind.signed]; omega
  have w4 : IntKind.i64.wrap (id : Int) = (id : Int) := IntWalk.i64_in _ (by omega)
  have hz : ((n : Int) == 0) = false := by simp; omega
  have hz' : ¬ (n : Int) = 0 := by omega
  clear hn e5
  by_cases hl : (lng f m || decide (150 < m)) = true
  · exact walk_long id0 n0 A m cap f w hm hf hl
  have hl' : (lng f m || decide (150 < m)) = false := by simpa using hl
  have hl1 : lng f m = false := (Bool.or_eq_false_iff.1 hl').1
  have hl2 : m ≤ 150 := by have := (Bool.or_eq_false_iff.1 hl').2; simp at this; omega
  have HL1 := Lib.hid hl1
  have hlg : ∀ w1, Below w.heap.size w w1 → Calls Try.prog 10 #[.slice A m cap] w1 fun e w' => e = .returned (.bool false) ∧ Below w1.heap.size w1 w' := fun w1 hb => by
    have := long_is A m cap f w1 hm (hf.below hb)
    rw [hl'] at this
    exact this
  have HLG := Lib.hid hlg
  clear hf hm hl hl' hl1 hlg
  obtain ⟨i0, hi0, hz0, hz1, hz2⟩ := info_parts infoD
  have HI := Lib.hid hi0
  clear hi0
  go_enter Try.func4, Try.ntmps4
  go_upto_region 8 with (first
    | (go_at_call 9; (with_reducible refine (awake_any w).mono ?_); rintro e w1 ⟨rfl, hb⟩; have HB1 := Lib.hid hb; clear hb)
    | (go_at_call 10; (with_reducible refine (HLG.out w1 HB1.out).mono ?_); rintro e w2 ⟨rfl, hb⟩; have HB2 := Lib.hid (HB1.out.trans (hb.mono HB1.out.size)); clear hb)
    | (go_at_call 11; (with_reducible refine (nd_new id n w w2 HB2.out hid hn6).mono ?_); rintro e w3 ⟨bx, rfl, hi, _⟩; have N3 := Lib.hid hi; clear hi))
  go_upto_region 10 with fail
  have HA0 : All w ((w3.alloc (.map #[] 0)).alloc (.map #[] 0)) bx w3.heap.size (w3.heap.size + 1) (new id n) (fun _ _ => (0, 0)) (fun _ => 0) 0 :=
    ⟨(N3.out.alloc _).alloc _, (heard_made w3).obj (Below.heap_alloc _ _ _ (by simp)), (by have := cost_made (w3.alloc (.map #[] 0)); simpa using this), ⟨N3.out.bel.size, Nat.le_succ_of_le N3.out.bel.size, by omega⟩⟩
  have HA := Lib.hid HA0
  clear HA0 N3
  generalize (w3.alloc (.map #[] 0)).alloc (.map #[] 0) = W4 at HA ⊢
  obtain ⟨b10, hb10⟩ : ∃ b, w3.heap.size + 1 = b := ⟨_, rfl⟩
  rw [hb10] at HA ⊢
  clear hb10
  generalize w3.heap.size = b9 at HA ⊢
  go_wp2
  go_loopw [56] (fun s56 wr => ∃ (i N : Nat) (s : St) (h : Hd) (c : Nat → Int), i ≤ m ∧ s56 = .int .i64 i ∧ (s.n = n ∧ s.id = id ∧ N ≤ 100 * i) ∧ Inv s h c ∧ All w wr bx b9 b10 s h c N) (fun s56 _ => m - (intOf s56).toNat)
  case atStart => exact ⟨0, 0, _, _, _, by omega, rfl, ⟨rfl, rfl, by omega⟩, inv_new _ _ _ _, HA.out⟩
  case round =>
    obtain ⟨i, N, s, h, c, hi, rfl, hsn, hiv, hal⟩ := hrel
    have HS := Lib.hid hsn
    have IV := Lib.hid hiv
    have AL := Lib.hid hal
    clear hsn hiv hal HA
    by_cases hlt : i < m
    · have hlt' : (i : Int) < (m : Int) := by omega
      have ii0 : (0 : Int) ≤ (i : Int) := by omega
      obtain ⟨g, o, rfl, hg, x0, x1, x2, x3, x4, x5, x6⟩ := (HF.out.below AL.out.nd.bel) i hlt
      have X5 := Lib.hid (HF.out i hlt).choose_spec.choose_spec.2.2.2.2.2.2.2.1
      have x50 := lng_lt HL1.out hlt
      generalize f i = qq at x0 x1 x2 x3 x4 x5 x6 X5 x50
      obtain ⟨kk, a, bb, A', n', cap', f'⟩ := qq
      dsimp only at x0 x1 x2 x3 x4 x5 x6 X5 x50
      have X4 := Lib.hid x4
      have X6 := Lib.hid x6
      have X50 := Lib.hid x50
      clear x4 x5 x6 x50
      go_upto_region 13 with fail
      have HX := Lib.hid (heap_alloc_new wr (.cells #[.int .i64 kk, .int .i64 a, .int .i64 bb, .slice A' n' cap'] 33 (0, 0)))
      have AW := Lib.hid (AL.out.alloc (.cells #[.int .i64 kk, .int .i64 a, .int .i64 bb, .slice A' n' cap'] 33 (0, 0)))
      have HNE := Lib.hid (show wr.heap.size ≠ bx from Nat.ne_of_gt AL.out.nd.lt)
      generalize wr.alloc _ = W at HX AW ⊢
      generalize wr.heap.size = B at HX HNE ⊢
      clear x0 x1 x2 x3 AL
      go_wp2
      go_loopw [13, 61] (fun s13 s61 wx => ∃ (d : Nat) (sv : Value), d ≤ n ∧ s61 = .int .i64 d ∧ sv = s13 ∧ wx.ownsRow w.heap.size 55 1 sv d (toldRow s d) ∧ All w wx bx b9 b10 s h c N ∧ wx.heap[B]? = some (.cells #[.int .i64 kk, .int .i64 a, .int .i64 bb, .slice A' n' cap'] 33 (0, 0))) (fun _ s61 _ => n - (intOf s61).toNat)
      case atStart => exact ⟨0, _, by omega, rfl, rfl, World.ownsRow_nil _ _ _ _, AW.out, HX.out⟩
      case round =>
        obtain ⟨d, sv, hd, rfl, rfl, ho, hal, hx⟩ := hrel
        have HO := Lib.hid ho
        have A1 := Lib.hid hal
        have X1 := Lib.hid hx
        clear ho hal hx AW HX
        by_cases hdn : d < n
        · have hdn' : (d : Int) < (n : Int) := by omega
          have d0 : (0 : Int) ≤ (d : Int) := by omega
          have htd := told_any bx s d wr A1.out.nd.isn (by rw [HS.out.1]; exact hdn)
          have HTD := Lib.hid htd
          clear htd
          go_wp2_with (first
            | (go_at_call 30; with_reducible refine (HTD.out).mono ?_; rintro e w7 ⟨rfl, rfl⟩)
            | (at_builtin; refine wpList_append_lies _ rfl (.tmp 64) (.tmp 68) 69 rfl w.heap.size 55 i0 _ 1 16 Try.underlying69 HI.out hz0 hz1 hz2 rfl (by omega) sv d _ rfl (HO.out.alloc _) ⟨wr.heap.size, 0, none⟩ 1 1 [dp (s.told d)] rfl rfl (cell_one_new _ _ _) (by simp [Value.oneCell']) (by omega) (by unfold maxLen; omega) (by omega) (by have := A1.out.nd.bel.size; simp; omega) (wr.heap.size + 1) (by simp) ?_; intro g2 cap2 w8 hown1 hgrow1 hat1 hlt1; have HO2 := Lib.hid (show w8.ownsRow w.heap.size 55 1 _ (d + 1) (toldRow s (d + 1)) by rw [toldRow_succ]; exact hown1); have A2 := Lib.hid (show All w w8 bx b9 b10 s h c N from All.app A1.out HO.out (show (55 : TypeId) ≠ 83 from by decide) hgrow1); have X2 := Lib.hid (blk_app X1.out HO.out (show (55 : TypeId) ≠ 33 from by decide) hgrow1); clear hown1 hgrow1 hat1 hlt1))
          go_roundw
          case rel => exact ⟨d + 1, _, by omega, by go_num, rfl, HO2.out, A2.out, X2.out⟩
          case measure => simp [intOf]; omega
        · obtain rfl : n = d := by omega
          go_upto_region 19 with fail
          have z0 := blk_cell X1.out 0
          iterate 10 go_step
          have WFT := Lib.hid A1.out.nd.wf.told
          go_cut [13] (fun s13 wx => sv = s13 ∧ ∃ (s2 : St) (h2 : Hd) (c2 : Nat → Int) (N2 : Nat), (s2.n = n ∧ s2.id = id ∧ N2 ≤ N + 50) ∧ Inv s2 h2 c2 ∧ Mono s s2 ∧ wx.ownsRow w.heap.size 55 1 sv n (toldRow s n) ∧ All w wx bx b9 b10 s2 h2 c2 N2)
          case first =>
            have y1 : wr.cell? ⟨B, 1, none⟩ = some (.int .i64 a) := blk_cell X1.out 1
            have y2 : wr.cell? ⟨B, 2, none⟩ = some (.int .i64 bb) := blk_cell X1.out 2
            have y3 : wr.cell? ⟨B, 3, none⟩ = some (.slice A' n' cap') := blk_cell X1.out 3
            have HNB := Lib.hid (own_ne_blk HO.out A1.out.nd.isn.blk.choose_spec.1 (show (55 : TypeId) ≠ 83 from by decide))
            have HNM := Lib.hid (show N + 50 ≤ 100 * i + 50 ∧ N < maxLen from ⟨by have := HS.out.2.2; omega, by have := HS.out.2.2; unfold maxLen; omega⟩)
            clear z0
            by_cases h1 : kk = 1
            · as_aux_lemma =>
              subst h1
              clear y3
              by_cases hl : lnk s a bb = 0
              · obtain ⟨k, rfl, hk, _⟩ := oth_nat (link_yes hl).1
                have hk6 : k < 6 := by have := HS.out.1; omega
                have HIL := Lib.hid (inv_link IV.out hl)
                have hlk := fun (w3 : World) (h : Nd w w3 bx s) => nd_link h k bb
                rw [hl] at hlk
                have HLK := Lib.hid hlk
                clear hl hlk
                go_upto_region 22 with (go_at_call 13; (with_reducible refine (HLK.out wr A1.out.nd).mono ?_); rintro e w4 ⟨rfl, hn4, ho4⟩; have A4 := Lib.hid (A1.out.node hn4 ho4); have R4 := Lib.hid (ho4.own HO.out (fun q hq e => HNB.out (e ▸ hq))); have X4 := Lib.hid ((ho4.block B (blk_lt X1.out) HNE.out).trans X1.out); clear hn4 ho4)
                have y1 : w4.cell? ⟨B, 1, none⟩ = some (.int .i64 (k : Int)) := blk_cell X4.out 1
                have y2 : w4.cell? ⟨B, 2, none⟩ = some (.int .i64 bb) := blk_cell X4.out 2
                obtain ⟨w5, hrun, hc5, hg5⟩ := A4.out.cm.put HNM.out.2 hk6 bb
                have A5 := Lib.hid (A4.out.put10 hc5 hg5)
                have R5 := Lib.hid (row_map R4.out A4.out.cm.choose_spec.1 hg5)
                clear hc5 hg5
                go_wp2
                go_meet
                case rel => exact ⟨rfl, _, _, _, _, ⟨(link_same s k bb).2.1.trans HS.out.1, (link_same s k bb).1.trans HS.out.2.1, by omega⟩, HIL.out, mono_same (link_same s k bb).2.2.1, R5.out, A5.out⟩
              · have hb : (lnk s a bb == 0) = false := by simpa using hl
                have HLN := Lib.hid (link_no hl)
                clear hl
                go_wp2_with (go_at_call 13; (with_reducible refine (nd_link A1.out.nd a bb).mono ?_); rintro e w4 ⟨rfl, hn4, ho4⟩; rw [HLN.out] at hn4; have A4 := Lib.hid (A1.out.node hn4 ho4); have R4 := Lib.hid (ho4.own HO.out (fun q hq e => HNB.out (e ▸ hq))); clear hn4 ho4)
                go_meet
                case rel => exact ⟨rfl, s, h, c, N, ⟨HS.out.1, HS.out.2.1, by omega⟩, IV.out, mono_same rfl, R4.out, A4.out⟩
            clear y2
            by_cases h2 : kk = 2
            · as_aux_lemma =>
              subst h2
              have hnh := fun (w3 : World) (h : Nd w w3 bx s) => nd_hear0 h a A' n' cap' f' X4.out X5.out X6.out
              by_cases hh : hea s a f' n' = 0
              · have hy := hear_yes hh
                obtain ⟨k, rfl, hk, _⟩ := oth_nat (upv_oth hy.1)
                have hk6 : k < 6 := by have := HS.out.1; omega
                have HIH := Lib.hid (inv_hear IV.out hh)
                have HFT := Lib.hid hy.2
                have HSM := Lib.hid (hear_same s k f' n')
                have HTO := Lib.hid (hear_told' s k f' n')
                rw [hh] at hnh
                have HNH := Lib.hid hnh
                clear hh hy hnh
                go_upto_region 25 with (go_at_call 15; (with_reducible refine (HNH.out wr A1.out.nd).mono ?_); rintro e w4 ⟨rfl, hn4, ho4⟩; have A4 := Lib.hid (A1.out.node hn4 ho4); have R4 := Lib.hid (ho4.own HO.out (fun q hq e => HNB.out (e ▸ hq))); have XB := Lib.hid ((ho4.block B (blk_lt X1.out) HNE.out).trans X1.out); clear hn4 ho4)
                clear y1 y3
                have y3 : w4.cell? ⟨B, 3, none⟩ = some (.slice A' n' cap') := blk_cell XB.out 3
                have hnm : n' ≤ 9223372036854775807 := by have := X50.out; omega
                go_wp2
                go_loopw [99] (fun s99 wx => ∃ j : Nat, j ≤ n' ∧ s99 = .int .i64 j ∧ wx.ownsRow w.heap.size 55 1 sv n (toldRow s n) ∧ All w wx bx b9 b10 (s.hear k f' n') (hds h k f' j) c (N + j) ∧ wx.heap[B]? = some (.cells #[.int .i64 2, .int .i64 k, .int .i64 bb, .slice A' n' cap'] 33 (0, 0))) (fun s99 _ => n' - (intOf s99).toNat)
                case atStart => exact ⟨0, by omega, rfl, R4.out, A4.out, XB.out⟩
                case round =>
                  obtain ⟨j, hj, rfl, hro, hal, hxb⟩ := hrel
                  have RO := Lib.hid hro
                  have AJ := Lib.hid hal
                  have XJ := Lib.hid hxb
                  clear hro hal hxb R4 A4 XB y3
                  by_cases hjn : j < n'
                  · have hjn' : (j : Int) < (n' : Int) := by omega
                    have j0 : (0 : Int) ≤ (j : Int) := by omega
                    obtain ⟨g3, o3, rfl, _, v0, v1, v2⟩ := (X5.out.below AJ.out.nd.bel) j hjn
                    have hft := fits_lt HFT.out hjn
                    obtain ⟨⟨d0, m3, q3⟩, ho⟩ : ∃ o, f' j = o := ⟨_, rfl⟩
                    rw [ho] at v0 v1 v2 hft
                    simp [fit] at hft
                    obtain ⟨d, rfl⟩ : ∃ d : Nat, d0 = d := ⟨d0.toNat, by omega⟩
                    have hd6 : d < 6 := by have := HS.out.1; omega
                    have HHD := Lib.hid (hds_succ h k f' j d m3 q3 ho)
                    have NJ := Lib.hid (show N + j < maxLen from by have := X50.out; have := HNM.out.1; have := HS.out.2.2; unfold maxLen; omega)
                    clear ho hft
                    dsimp only at v0 v1 v2
                    go_upto_region 28 with fail
                    have HV := Lib.hid (heap_alloc_new wr (.cells #[.int .i64 d, .int .i64 m3, .int .u32 q3] 71 (0, 0)))
                    have AV := Lib.hid (AJ.out.alloc (.cells #[.int .i64 d, .int .i64 m3, .int .u32 q3] 71 (0, 0)))
                    have RV' := Lib.hid (RO.out.alloc (.cells #[.int .i64 d, .int .i64 m3, .int .u32 q3] 71 (0, 0)))
                    have XV := Lib.hid ((Below.heap_alloc wr (.cells #[.int .i64 d, .int .i64 m3, .int .u32 q3] 71 (0, 0)) B (blk_lt XJ.out)).trans XJ.out)
                    generalize wr.alloc _ = W at HV AV RV' XV ⊢
                    generalize wr.heap.size = B2 at HV ⊢
                    clear v0 v1 v2 RO AJ XJ
                    have u0 : W.cell? ⟨B2, 0, none⟩ = some (.int .i64 d) := blk_cell HV.out 0
                    have u1 : W.cell? ⟨B2, 1, none⟩ = some (.int .i64 m3) := blk_cell HV.out 1
                    have u2 : W.cell? ⟨B2, 2, none⟩ = some (.int .u32 q3) := blk_cell HV.out 2
                    have u3 : W.cell? ⟨B, 1, none⟩ = some (.int .i64 k) := blk_cell XV.out 1
                    refine wp_region_held_drew (S := (fun w' => (w'.cell? ⟨B2, 0, none⟩ = some (.int .i64 d) ∧ w'.cell? ⟨B2, 1, none⟩ = some (.int .i64 m3)) ∧ w'.cell? ⟨B2, 2, none⟩ = some (.int .u32 q3) ∧ w'.cell? ⟨B, 1, none⟩ = some (.int .i64 k))) (by kernel_rfl) ⟨⟨u0, u1⟩, u2, u3⟩ (fun _ => ?_)
                    refine held_take 0 103 (v := ?_) rfl rfl (by kernel_rfl) (by kernel_rfl) (by kernel_rfl) (fun _ _ _ h => h) (by rfl) ?_ ⟨⟨u0, u1⟩, u2, u3⟩ ?_
                    rotate_left
                    · (intro w hSw; (try dsimp only at hSw); obtain ⟨⟨h1, h2⟩, h3, h4⟩ := hSw;try simp only [List.getElem_toArray, List.getElem_cons_zero, List.getElem_cons_succ]; go_simp; try (with_reducible rfl))
                    try simp only [List.setIfInBounds_toArray, List.set_cons_zero, List.set_cons_succ]
                    refine held_take 1 104 (v := ?_) rfl rfl (by kernel_rfl) (by kernel_rfl) (by kernel_rfl) (fun _ _ _ h => h) (by rfl) ?_ ⟨⟨u0, u1⟩, u2, u3⟩ ?_
                    rotate_left
                    · (intro w hSw; (try dsimp only at hSw); obtain ⟨⟨h1, h2⟩, h3, h4⟩ := hSw;try simp only [List.getElem_toArray, List.getElem_cons_zero, List.getElem_cons_succ]; go_simp; try (with_reducible rfl))
                    try simp only [List.setIfInBounds_toArray, List.set_cons_zero, List.set_cons_succ]
                    refine held_take 2 105 (v := ?_) rfl rfl (by kernel_rfl) (by kernel_rfl) (by kernel_rfl) (fun _ _ _ h => h) (by rfl) ?_ ⟨⟨u0, u1⟩, u2, u3⟩ ?_
                    rotate_left
                    · (intro w hSw; (try dsimp only at hSw); obtain ⟨⟨h1, h2⟩, h3, h4⟩ := hSw;try simp only [List.getElem_toArray, List.getElem_cons_zero, List.getElem_cons_succ]; go_simp; try (with_reducible rfl))
                    try simp only [List.setIfInBounds_toArray, List.set_cons_zero, List.set_cons_succ]
                    refine held_take 3 106 (v := ?_) rfl rfl (by kernel_rfl) (by kernel_rfl) (by kernel_rfl) (fun _ _ _ h => h) (by rfl) ?_ ⟨⟨u0, u1⟩, u2, u3⟩ ?_
                    rotate_left
                    · (intro w hSw; (try dsimp only at hSw); obtain ⟨⟨h1, h2⟩, h3, h4⟩ := hSw;try simp only [List.getElem_toArray, List.getElem_cons_zero, List.getElem_cons_succ]; go_simp; try (with_reducible rfl))
                    try simp only [List.setIfInBounds_toArray, List.set_cons_zero, List.set_cons_succ]
                    refine held_take 4 107 (v := ?_) rfl rfl (by kernel_rfl) (by kernel_rfl) (by kernel_rfl) (fun _ _ _ h => h) (by rfl) ?_ ⟨⟨u0, u1⟩, u2, u3⟩ ?_
                    rotate_left
                    · (intro w hSw; (try dsimp only at hSw); obtain ⟨⟨h1, h2⟩, h3, h4⟩ := hSw;try simp only [List.getElem_toArray, List.getElem_cons_zero, List.getElem_cons_succ]; go_simp; try (with_reducible rfl))
                    try simp only [List.setIfInBounds_toArray, List.set_cons_zero, List.set_cons_succ]
                    refine held_take 5 108 (v := ?_) rfl rfl (by kernel_rfl) (by kernel_rfl) (by kernel_rfl) (fun _ _ _ h => h) (by rfl) ?_ ⟨⟨u0, u1⟩, u2, u3⟩ ?_
                    rotate_left
                    · (intro w hSw; (try dsimp only at hSw); obtain ⟨⟨h1, h2⟩, h3, h4⟩ := hSw;try simp only [List.getElem_toArray, List.getElem_cons_zero, List.getElem_cons_succ]; go_simp; try (with_reducible rfl))
                    try simp only [List.setIfInBounds_toArray, List.set_cons_zero, List.set_cons_succ]
                    refine held_take 6 109 (v := ?_) rfl rfl (by kernel_rfl) (by kernel_rfl) (by kernel_rfl) (fun _ _ _ h => h) (by rfl) ?_ ⟨⟨u0, u1⟩, u2, u3⟩ ?_
                    rotate_left
                    · (intro w hSw; (try dsimp only at hSw); obtain ⟨⟨h1, h2⟩, h3, h4⟩ := hSw;try simp only [List.getElem_toArray, List.getElem_cons_zero, List.getElem_cons_succ]; go_simp; try (with_reducible rfl))
                    try simp only [List.setIfInBounds_toArray, List.set_cons_zero, List.set_cons_succ]
                    refine held_take 7 110 (v := ?_) rfl rfl (by kernel_rfl) (by kernel_rfl) (by kernel_rfl) (fun _ _ _ h => h) (by rfl) ?_ ⟨⟨u0, u1⟩, u2, u3⟩ ?_
                    rotate_left
                    · (intro w hSw; (try dsimp only at hSw); obtain ⟨⟨h1, h2⟩, h3, h4⟩ := hSw;try simp only [List.getElem_toArray, List.getElem_cons_zero, List.getElem_cons_succ]; go_simp; try (with_reducible rfl))
                    try simp only [List.setIfInBounds_toArray, List.set_cons_zero, List.set_cons_succ]
                    refine held_take 8 111 (v := ?_) rfl rfl (by kernel_rfl) (by kernel_rfl) (by kernel_rfl) (fun _ _ _ h => h) (by rfl) ?_ ⟨⟨u0, u1⟩, u2, u3⟩ ?_
                    rotate_left
                    · (intro w hSw; (try dsimp only at hSw); obtain ⟨⟨h1, h2⟩, h3, h4⟩ := hSw;try simp only [List.getElem_toArray, List.getElem_cons_zero, List.getElem_cons_succ]; go_simp; try (with_reducible rfl))
                    try simp only [List.setIfInBounds_toArray, List.set_cons_zero, List.set_cons_succ]
                    refine held_take 9 112 (v := ?_) rfl rfl (by kernel_rfl) (by kernel_rfl) (by kernel_rfl) (fun _ _ _ h => h) (by rfl) ?_ ⟨⟨u0, u1⟩, u2, u3⟩ ?_
                    rotate_left
                    · (intro w hSw; (try dsimp only at hSw); obtain ⟨⟨h1, h2⟩, h3, h4⟩ := hSw;try simp only [List.getElem_toArray, List.getElem_cons_zero, List.getElem_cons_succ]; go_simp; try (with_reducible rfl))
                    try simp only [List.setIfInBounds_toArray, List.set_cons_zero, List.set_cons_succ]
                    refine held_call 10 113 rfl rfl (by kernel_rfl) (by rfl) (fun K hK => ?_)
                    try simp only [List.getElem_toArray, List.getElem_cons_zero, List.getElem_cons_succ]
                    go_simp
                    (go_at_call 31; (with_reducible refine (make_any m3 q3 _).mono ?_); rintro e w2 ⟨rfl, rfl⟩)
                    try go_wp2_with fail
                    try simp only [Act.put, List.setIfInBounds_toArray, List.set_cons_zero, List.set_cons_succ]
                    refine hK.out _ _ _ ⟨⟨u0, u1⟩, u2, u3⟩ ?_
                    clear hK K
                    refine held_do 11 rfl (by kernel_rfl) (by rfl) (fun K hK => ?_)
                    try simp only [List.getElem_toArray, List.getElem_cons_zero, List.getElem_cons_succ]
                    (obtain ⟨w5, hrun, hc5, hg5⟩ := AV.out.drew.hm.put NJ.out hd6 hk6 (cl m3, q3); have A5 := Lib.hid (AV.out.drew.put9 hc5 hg5); have R5 := Lib.hid (row_map RV'.out.drew AV.out.drew.hm.choose_spec.1 hg5); have X5b := Lib.hid (blk_map (w := W.drew) XV.out AV.out.drew.hm.choose_spec.1 hg5); have V5b := Lib.hid (blk_map (w := W.drew) HV.out AV.out.drew.hm.choose_spec.1 hg5); rw [← HHD.out] at A5; have u0 : w5.cell? ⟨B2, 0, none⟩ = some (.int .i64 d) := blk_cell V5b.out 0; have u1 : w5.cell? ⟨B2, 1, none⟩ = some (.int .i64 m3) := blk_cell V5b.out 1; have u2 : w5.cell? ⟨B2, 2, none⟩ = some (.int .u32 q3) := blk_cell V5b.out 2; have u3 : w5.cell? ⟨B, 1, none⟩ = some (.int .i64 k) := blk_cell X5b.out 1; clear hc5 hg5; trace_state; go_simp)
                    try simp only [Act.put, List.setIfInBounds_toArray, List.set_cons_zero, List.set_cons_succ]
                    refine hK.out _ _ _ ⟨⟨u0, u1⟩, u2, u3⟩ ?_
                    clear hK K
                    refine wpAnyH_done (by kernel_rfl) ?_ _
                    go_wp2
                    go_roundw
                    case rel => exact ⟨j + 1, by omega, by go_num, R5.out, A5.out, X5b.out⟩
                    case measure => simp [intOf]; omega
                  · obtain rfl : n' = j := by omega
                    go_wp2
                    go_meet
                    case rel => exact ⟨rfl, _, _, _, _, ⟨HSM.out.2.trans HS.out.1, HSM.out.1.trans HS.out.2.1, by have := X50.out; omega⟩, HIH.out, mono_same HTO.out, RO.out, AJ.out⟩
              · have hb : (hea s a f' n' == 0) = false := by simpa using hh
                have HLN := Lib.hid (hear_no hh)
                have HNH := Lib.hid hnh
                clear hh hnh
                go_wp2_with (go_at_call 15; (with_reducible refine (HNH.out wr A1.out.nd).mono ?_); rintro e w4 ⟨rfl, hn4, ho4⟩; rw [HLN.out] at hn4; have A4 := Lib.hid (A1.out.node hn4 ho4); have R4 := Lib.hid (ho4.own HO.out (fun q hq e => HNB.out (e ▸ hq))); clear hn4 ho4)
                go_meet
                case rel => exact ⟨rfl, s, h, c, N, ⟨HS.out.1, HS.out.2.1, by omega⟩, IV.out, mono_same rfl, R4.out, A4.out⟩
            by_cases h3 : kk = 3
            · as_aux_lemma =>
              subst h3
              clear y3
              have ntt : tln s a ≤ 6 := by have := tln_le s a; have := HS.out.1; omega
              have htl := tell_p A1.out.nd a
              have HTP := Lib.hid htl
              have HWF := Lib.hid A1.out.nd.wf
              clear htl
              go_upto_region 32 with (go_at_call 18; (with_reducible refine (HTP.out).mono ?_); rintro e w4 ⟨⟨v4, rfl, hv4⟩, hn4, ho4⟩; obtain ⟨A4, c4, rfl, _, hr4, _⟩ := rdO_own hv4; have HR4 := Lib.hid hr4; have N4 := Lib.hid (A1.out.node hn4 ho4); have R4 := Lib.hid (ho4.own HO.out (fun q hq e => HNB.out (e ▸ hq))); clear hn4 ho4 hv4 hr4)
              clear y1
              go_wp2
              go_loopw [126] (fun s126 wx => ∃ j : Nat, j ≤ tln s a ∧ s126 = .int .i64 j ∧ RdO wx A4 (tln s a) (fun i => s.offer a i) ∧ wx.ownsRow w.heap.size 55 1 sv n (toldRow s n) ∧ All w wx bx b9 b10 (tl s a) h c N) (fun s126 _ => tln s a - (intOf s126).toNat)
              case atStart => exact ⟨0, by omega, rfl, HR4.out, R4.out, N4.out⟩
              case round =>
                obtain ⟨j, hj, rfl, hrd, hro, hal⟩ := hrel
                have RD := Lib.hid hrd
                have RO := Lib.hid hro
                have AJ := Lib.hid hal
                clear hrd hro hal HR4 R4 N4
                by_cases hjn : j < tln s a
                · have hjn' : (j : Int) < (tln s a : Int) := by omega
                  have j0 : (0 : Int) ≤ (j : Int) := by omega
                  obtain ⟨hu, hjs⟩ : upv s a = 0 ∧ j < s.n := by
                    unfold tln at hjn
                    split at hjn
                    · exact ⟨by assumption, hjn⟩
                    · omega
                  have hlw := fun (h1 : j ≠ s.id) (h2 : (s.offer a j).2.1 < 65535) => tell_law HWF.out hu hjs h1 h2
                  have htd := fun (w9 : World) (h : Nd w w9 bx (tl s a)) => told_any bx (tl s a) j w9 h.isn (by rw [RefN.tl_same]; exact hjs)
                  have hwt := AJ.out.nd.wf.told j
                  obtain ⟨g3, o3, rfl, _, v0, v1, v2⟩ := RD.out j hjn
                  have hfs := offer_fst s a j
                  dsimp only at v0 v1 v2
                  generalize s.offer a (j : Nat) = off at v0 v1 v2 hfs hlw
                  obtain ⟨d0, m3, q3⟩ := off
                  dsimp only at v0 v1 v2 hfs hlw
                  subst hfs
                  generalize (tl s a).told j = tt at htd hwt hlw
                  obtain ⟨u1, u2⟩ := tt
                  dsimp only at htd hwt hlw
                  have su1 : Sm u1 := ⟨hwt.1.1, by have := hwt.1.2; omega⟩
                  have su2 : Sm u2 := hwt.2
                  have HLW := Lib.hid hlw
                  have HTD := Lib.hid htd
                  clear hu hjs hlw htd hwt
                  go_upto_region 35 with fail
                  have HV := Lib.hid (heap_alloc_new wr (.cells #[.int .i64 j, .int .i64 m3, .int .u32 q3] 71 (0, 0)))
                  have AV := Lib.hid (AJ.out.alloc (.cells #[.int .i64 j, .int .i64 m3, .int .u32 q3] 71 (0, 0))).drew
                  have RV' := Lib.hid (RO.out.alloc (.cells #[.int .i64 j, .int .i64 m3, .int .u32 q3] 71 (0, 0))).drew
                  have RW := Lib.hid (RD.out.below ((Below.refl _ _).alloc (Nat.le_refl _) (.cells #[.int .i64 j, .int .i64 m3, .int .u32 q3] 71 (0, 0))).drew)
                  generalize wr.alloc _ = W at HV AV RV' RW ⊢
                  generalize wr.heap.size = B2 at HV ⊢
                  clear v0 v1 v2 RO AJ RD
                  have z0 : W.cell? ⟨B2, 0, none⟩ = some (.int .i64 j) := blk_cell HV.out 0
                  have z1 : W.cell? ⟨B2, 1, none⟩ = some (.int .i64 m3) := blk_cell HV.out 1
                  have z2 : W.cell? ⟨B2, 2, none⟩ = some (.int .u32 q3) := blk_cell HV.out 2
                  by_cases hji : j = id
                  · have hji' : ((j : Int) != (id : Int)) = false := by simp [hji]
                    clear hji HLW
                    refine wp_region_held_drew (S := (fun w' => (w'.cell? ⟨B2, 0, none⟩ = some (.int .i64 j) ∧ w'.cell? ⟨B2, 1, none⟩ = some (.int .i64 m3)) ∧ w'.cell? ⟨B2, 2, none⟩ = some (.int .u32 q3))) (by kernel_rfl) ⟨⟨z0, z1⟩, z2⟩ (fun _ => ?_)
                    refine held_take 0 130 (v := ?_) rfl rfl (by kernel_rfl) (by kernel_rfl) (by kernel_rfl) (fun _ _ _ h => h) (by rfl) ?_ ⟨⟨z0, z1⟩, z2⟩ ?_
                    rotate_left
                    · (intro w hSw; (try dsimp only at hSw); obtain ⟨⟨h1, h2⟩, h3⟩ := hSw;try simp only [List.getElem_toArray, List.getElem_cons_zero, List.getElem_cons_succ]; go_simp; try (with_reducible rfl))
                    try simp only [List.setIfInBounds_toArray, List.set_cons_zero, List.set_cons_succ]
                    refine held_take 1 131 (v := ?_) rfl rfl (by kernel_rfl) (by kernel_rfl) (by kernel_rfl) (fun _ _ _ h => h) (by rfl) ?_ ⟨⟨z0, z1⟩, z2⟩ ?_
                    rotate_left
                    · (intro w hSw; (try dsimp only at hSw); obtain ⟨⟨h1, h2⟩, h3⟩ := hSw;try simp only [List.getElem_toArray, List.getElem_cons_zero, List.getElem_cons_succ]; go_simp; try (with_reducible rfl))
                    try simp only [List.setIfInBounds_toArray, List.set_cons_zero, List.set_cons_succ]
                    refine held_take 2 132 (v := ?_) rfl rfl (by kernel_rfl) (by kernel_rfl) (by kernel_rfl) (fun _ _ _ h => h) (by rfl) ?_ ⟨⟨z0, z1⟩, z2⟩ ?_
                    rotate_left
                    · (intro w hSw; (try dsimp only at hSw); obtain ⟨⟨h1, h2⟩, h3⟩ := hSw;try simp only [List.getElem_toArray, List.getElem_cons_zero, List.getElem_cons_succ]; go_simp; try (with_reducible rfl))
                    try simp only [List.setIfInBounds_toArray, List.set_cons_zero, List.set_cons_succ]
                    refine held_take 3 133 (v := ?_) rfl rfl (by kernel_rfl) (by kernel_rfl) (by kernel_rfl) (fun _ _ _ h => h) (by rfl) ?_ ⟨⟨z0, z1⟩, z2⟩ ?_
                    rotate_left
                    · (intro w hSw; (try dsimp only at hSw); obtain ⟨⟨h1, h2⟩, h3⟩ := hSw;try simp only [List.getElem_toArray, List.getElem_cons_zero, List.getElem_cons_succ]; go_simp; try (with_reducible rfl))
                    try simp only [List.setIfInBounds_toArray, List.set_cons_zero, List.set_cons_succ]
                    refine held_take 4 134 (v := ?_) rfl rfl (by kernel_rfl) (by kernel_rfl) (by kernel_rfl) (fun _ _ _ h => h) (by rfl) ?_ ⟨⟨z0, z1⟩, z2⟩ ?_
                    rotate_left
                    · (intro w hSw; (try dsimp only at hSw); obtain ⟨⟨h1, h2⟩, h3⟩ := hSw;try simp only [List.getElem_toArray, List.getElem_cons_zero, List.getElem_cons_succ]; go_simp; try (with_reducible rfl))
                    try simp only [List.setIfInBounds_toArray, List.set_cons_zero, List.set_cons_succ]
                    refine held_skip 5 135 rfl rfl (by kernel_rfl) (by kernel_rfl) (by kernel_rfl) (fun _ _ _ h => h) (by rfl) ⟨⟨z0, z1⟩, z2⟩ ?_
                    try simp only [List.setIfInBounds_toArray, List.set_cons_zero, List.set_cons_succ]
                    refine held_skip 6 136 rfl rfl (by kernel_rfl) (by kernel_rfl) (by kernel_rfl) (fun _ _ _ h => h) (by rfl) ⟨⟨z0, z1⟩, z2⟩ ?_
                    try simp only [List.setIfInBounds_toArray, List.set_cons_zero, List.set_cons_succ]
                    refine held_skip 7 137 rfl rfl (by kernel_rfl) (by kernel_rfl) (by kernel_rfl) (fun _ _ _ h => h) (by rfl) ⟨⟨z0, z1⟩, z2⟩ ?_
                    try simp only [List.setIfInBounds_toArray, List.set_cons_zero, List.set_cons_succ]
                    refine held_take 8 138 (v := ?_) rfl rfl (by kernel_rfl) (by kernel_rfl) (by kernel_rfl) (fun _ _ _ h => h) (by rfl) ?_ ⟨⟨z0, z1⟩, z2⟩ ?_
                    rotate_left
                    · (intro w hSw; (try dsimp only at hSw); obtain ⟨⟨h1, h2⟩, h3⟩ := hSw;try simp only [List.getElem_toArray, List.getElem_cons_zero, List.getElem_cons_succ]; go_simp; try (with_reducible rfl))
                    try simp only [List.setIfInBounds_toArray, List.set_cons_zero, List.set_cons_succ]
                    refine held_take 9 139 (v := ?_) rfl rfl (by kernel_rfl) (by kernel_rfl) (by kernel_rfl) (fun _ _ _ h => h) (by rfl) ?_ ⟨⟨z0, z1⟩, z2⟩ ?_
                    rotate_left
                    · (intro w hSw; (try dsimp only at hSw); obtain ⟨⟨h1, h2⟩, h3⟩ := hSw;try simp only [List.getElem_toArray, List.getElem_cons_zero, List.getElem_cons_succ]; go_simp; try (with_reducible rfl))
                    try simp only [List.setIfInBounds_toArray, List.set_cons_zero, List.set_cons_succ]
                    refine held_skip 10 140 rfl rfl (by kernel_rfl) (by kernel_rfl) (by kernel_rfl) (fun _ _ _ h => h) (by rfl) ⟨⟨z0, z1⟩, z2⟩ ?_
                    try simp only [List.setIfInBounds_toArray, List.set_cons_zero, List.set_cons_succ]
                    refine held_skip 11 141 rfl rfl (by kernel_rfl) (by kernel_rfl) (by kernel_rfl) (fun _ _ _ h => h) (by rfl) ⟨⟨z0, z1⟩, z2⟩ ?_
                    try simp only [List.setIfInBounds_toArray, List.set_cons_zero, List.set_cons_succ]
                    refine held_skip 12 142 rfl rfl (by kernel_rfl) (by kernel_rfl) (by kernel_rfl) (fun _ _ _ h => h) (by rfl) ⟨⟨z0, z1⟩, z2⟩ ?_
                    try simp only [List.setIfInBounds_toArray, List.set_cons_zero, List.set_cons_succ]
                    refine held_skip 13 143 rfl rfl (by kernel_rfl) (by kernel_rfl) (by kernel_rfl) (fun _ _ _ h => h) (by rfl) ⟨⟨z0, z1⟩, z2⟩ ?_
                    try simp only [List.setIfInBounds_toArray, List.set_cons_zero, List.set_cons_succ]
                    refine held_skip 14 144 rfl rfl (by kernel_rfl) (by kernel_rfl) (by kernel_rfl) (fun _ _ _ h => h) (by rfl) ⟨⟨z0, z1⟩, z2⟩ ?_
                    try simp only [List.setIfInBounds_toArray, List.set_cons_zero, List.set_cons_succ]
                    refine held_skip 15 145 rfl rfl (by kernel_rfl) (by kernel_rfl) (by kernel_rfl) (fun _ _ _ h => h) (by rfl) ⟨⟨z0, z1⟩, z2⟩ ?_
                    try simp only [List.setIfInBounds_toArray, List.set_cons_zero, List.set_cons_succ]
                    refine held_skip 16 146 rfl rfl (by kernel_rfl) (by kernel_rfl) (by kernel_rfl) (fun _ _ _ h => h) (by rfl) ⟨⟨z0, z1⟩, z2⟩ ?_
                    try simp only [List.setIfInBounds_toArray, List.set_cons_zero, List.set_cons_succ]
                    refine held_skip 17 147 rfl rfl (by kernel_rfl) (by kernel_rfl) (by kernel_rfl) (fun _ _ _ h => h) (by rfl) ⟨⟨z0, z1⟩, z2⟩ ?_
                    try simp only [List.setIfInBounds_toArray, List.set_cons_zero, List.set_cons_succ]
                    refine held_skip 18 148 rfl rfl (by kernel_rfl) (by kernel_rfl) (by kernel_rfl) (fun _ _ _ h => h) (by rfl) ⟨⟨z0, z1⟩, z2⟩ ?_
                    try simp only [List.setIfInBounds_toArray, List.set_cons_zero, List.set_cons_succ]
                    refine held_skip 19 149 rfl rfl (by kernel_rfl) (by kernel_rfl) (by kernel_rfl) (fun _ _ _ h => h) (by rfl) ⟨⟨z0, z1⟩, z2⟩ ?_
                    try simp only [List.setIfInBounds_toArray, List.set_cons_zero, List.set_cons_succ]
                    refine held_skip 20 150 rfl rfl (by kernel_rfl) (by kernel_rfl) (by kernel_rfl) (fun _ _ _ h => h) (by rfl) ⟨⟨z0, z1⟩, z2⟩ ?_
                    try simp only [List.setIfInBounds_toArray, List.set_cons_zero, List.set_cons_succ]
                    refine held_skip 21 151 rfl rfl (by kernel_rfl) (by kernel_rfl) (by kernel_rfl) (fun _ _ _ h => h) (by rfl) ⟨⟨z0, z1⟩, z2⟩ ?_
                    try simp only [List.setIfInBounds_toArray, List.set_cons_zero, List.set_cons_succ]
                    refine held_skip 22 152 rfl rfl (by kernel_rfl) (by kernel_rfl) (by kernel_rfl) (fun _ _ _ h => h) (by rfl) ⟨⟨z0, z1⟩, z2⟩ ?_
                    try simp only [List.setIfInBounds_toArray, List.set_cons_zero, List.set_cons_succ]
                    refine held_skip 23 153 rfl rfl (by kernel_rfl) (by kernel_rfl) (by kernel_rfl) (fun _ _ _ h => h) (by rfl) ⟨⟨z0, z1⟩, z2⟩ ?_
                    try simp only [List.setIfInBounds_toArray, List.set_cons_zero, List.set_cons_succ]
                    refine held_skip 24 154 rfl rfl (by kernel_rfl) (by kernel_rfl) (by kernel_rfl) (fun _ _ _ h => h) (by rfl) ⟨⟨z0, z1⟩, z2⟩ ?_
                    try simp only [List.setIfInBounds_toArray, List.set_cons_zero, List.set_cons_succ]
                    refine held_skip 25 155 rfl rfl (by kernel_rfl) (by kernel_rfl) (by kernel_rfl) (fun _ _ _ h => h) (by rfl) ⟨⟨z0, z1⟩, z2⟩ ?_
                    try simp only [List.setIfInBounds_toArray, List.set_cons_zero, List.set_cons_succ]
                    refine held_skip 26 156 rfl rfl (by kernel_rfl) (by kernel_rfl) (by kernel_rfl) (fun _ _ _ h => h) (by rfl) ⟨⟨z0, z1⟩, z2⟩ ?_
                    try simp only [List.setIfInBounds_toArray, List.set_cons_zero, List.set_cons_succ]
                    refine held_skip 27 157 rfl rfl (by kernel_rfl) (by kernel_rfl) (by kernel_rfl) (fun _ _ _ h => h) (by rfl) ⟨⟨z0, z1⟩, z2⟩ ?_
                    try simp only [List.setIfInBounds_toArray, List.set_cons_zero, List.set_cons_succ]
                    refine held_skip 28 158 rfl rfl (by kernel_rfl) (by kernel_rfl) (by kernel_rfl) (fun _ _ _ h => h) (by rfl) ⟨⟨z0, z1⟩, z2⟩ ?_
                    try simp only [List.setIfInBounds_toArray, List.set_cons_zero, List.set_cons_succ]
                    refine held_skip 29 159 rfl rfl (by kernel_rfl) (by kernel_rfl) (by kernel_rfl) (fun _ _ _ h => h) (by rfl) ⟨⟨z0, z1⟩, z2⟩ ?_
                    try simp only [List.setIfInBounds_toArray, List.set_cons_zero, List.set_cons_succ]
                    refine held_skip 30 160 rfl rfl (by kernel_rfl) (by kernel_rfl) (by kernel_rfl) (fun _ _ _ h => h) (by rfl) ⟨⟨z0, z1⟩, z2⟩ ?_
                    try simp only [List.setIfInBounds_toArray, List.set_cons_zero, List.set_cons_succ]
                    refine held_take 31 161 (v := ?_) rfl rfl (by kernel_rfl) (by kernel_rfl) (by kernel_rfl) (fun _ _ _ h => h) (by rfl) ?_ ⟨⟨z0, z1⟩, z2⟩ ?_
                    rotate_left
                    · (intro w hSw; (try dsimp only at hSw); obtain ⟨⟨h1, h2⟩, h3⟩ := hSw;try simp only [List.getElem_toArray, List.getElem_cons_zero, List.getElem_cons_succ]; go_simp; try (with_reducible rfl))
                    try simp only [List.setIfInBounds_toArray, List.set_cons_zero, List.set_cons_succ]
                    refine wpAnyH_done (by kernel_rfl) ?_ _
                    go_wp2
                    go_roundw
                    case rel => exact ⟨j + 1, by omega, by go_num, RW.out, RV'.out, AV.out⟩
                    case measure => simp [intOf]; omega
                  · have hji' : ((j : Int) != (id : Int)) = true := by simp; omega
                    by_cases hm3 : m3 < 65535
                    · have hm3' : decide (m3 < 65535) = true := by simpa using hm3
                      have hl := HLW.out (by rw [HS.out.2.1]; exact hji) hm3
                      obtain ⟨hb, h0, sq3⟩ := hl
                      have sm3 : Sm m3 := ⟨h0, by omega⟩
                      have HCL := Lib.hid (show cl m3 = m3 from by unfold cl; omega)
                      clear hji HLW hm3 h0
                      by_cases e1 : u1 = m3
                      · obtain rfl := e1.symm
                        by_cases e2 : u2 = q3
                        · obtain rfl := e2.symm
                          have hb' : bet m3 q3 m3 q3 = false := bet_self _ _
                          have HBT := Lib.hid hb'
                          clear hb hb'
                          refine wp_region_held_drew (S := (fun w' => (w'.cell? ⟨B2, 0, none⟩ = some (.int .i64 j) ∧ w'.cell? ⟨B2, 1, none⟩ = some (.int .i64 m3)) ∧ w'.cell? ⟨B2, 2, none⟩ = some (.int .u32 q3))) (by kernel_rfl) ⟨⟨z0, z1⟩, z2⟩ (fun _ => ?_)
                          refine held_take 0 130 (v := ?_) rfl rfl (by kernel_rfl) (by kernel_rfl) (by kernel_rfl) (fun _ _ _ h => h) (by rfl) ?_ ⟨⟨z0, z1⟩, z2⟩ ?_
                          rotate_left
                          · (intro w hSw; (try dsimp only at hSw); obtain ⟨⟨h1, h2⟩, h3⟩ := hSw;try simp only [List.getElem_toArray, List.getElem_cons_zero, List.getElem_cons_succ]; go_simp; try (with_reducible rfl))
                          try simp only [List.setIfInBounds_toArray, List.set_cons_zero, List.set_cons_succ]
                          refine held_take 1 131 (v := ?_) rfl rfl (by kernel_rfl) (by kernel_rfl) (by kernel_rfl) (fun _ _ _ h => h) (by rfl) ?_ ⟨⟨z0, z1⟩, z2⟩ ?_
                          rotate_left
                          · (intro w hSw; (try dsimp only at hSw); obtain ⟨⟨h1, h2⟩, h3⟩ := hSw;try simp only [List.getElem_toArray, List.getElem_cons_zero, List.getElem_cons_succ]; go_simp; try (with_reducible rfl))
                          try simp only [List.setIfInBounds_toArray, List.set_cons_zero, List.set_cons_succ]
                          refine held_take 2 132 (v := ?_) rfl rfl (by kernel_rfl) (by kernel_rfl) (by kernel_rfl) (fun _ _ _ h => h) (by rfl) ?_ ⟨⟨z0, z1⟩, z2⟩ ?_
                          rotate_left
                          · (intro w hSw; (try dsimp only at hSw); obtain ⟨⟨h1, h2⟩, h3⟩ := hSw;try simp only [List.getElem_toArray, List.getElem_cons_zero, List.getElem_cons_succ]; go_simp; try (with_reducible rfl))
                          try simp only [List.setIfInBounds_toArray, List.set_cons_zero, List.set_cons_succ]
                          refine held_take 3 133 (v := ?_) rfl rfl (by kernel_rfl) (by kernel_rfl) (by kernel_rfl) (fun _ _ _ h => h) (by rfl) ?_ ⟨⟨z0, z1⟩, z2⟩ ?_
                          rotate_left
                          · (intro w hSw; (try dsimp only at hSw); obtain ⟨⟨h1, h2⟩, h3⟩ := hSw;try simp only [List.getElem_toArray, List.getElem_cons_zero, List.getElem_cons_succ]; go_simp; try (with_reducible rfl))
                          try simp only [List.setIfInBounds_toArray, List.set_cons_zero, List.set_cons_succ]
                          refine held_take 4 134 (v := ?_) rfl rfl (by kernel_rfl) (by kernel_rfl) (by kernel_rfl) (fun _ _ _ h => h) (by rfl) ?_ ⟨⟨z0, z1⟩, z2⟩ ?_
                          rotate_left
                          · (intro w hSw; (try dsimp only at hSw); obtain ⟨⟨h1, h2⟩, h3⟩ := hSw;try simp only [List.getElem_toArray, List.getElem_cons_zero, List.getElem_cons_succ]; go_simp; try (with_reducible rfl))
                          try simp only [List.setIfInBounds_toArray, List.set_cons_zero, List.set_cons_succ]
                          refine held_take 5 135 (v := ?_) rfl rfl (by kernel_rfl) (by kernel_rfl) (by kernel_rfl) (fun _ _ _ h => h) (by rfl) ?_ ⟨⟨z0, z1⟩, z2⟩ ?_
                          rotate_left
                          · (intro w hSw; (try dsimp only at hSw); obtain ⟨⟨h1, h2⟩, h3⟩ := hSw;try simp only [List.getElem_toArray, List.getElem_cons_zero, List.getElem_cons_succ]; go_simp; try (with_reducible rfl))
                          try simp only [List.setIfInBounds_toArray, List.set_cons_zero, List.set_cons_succ]
                          refine held_take 6 136 (v := ?_) rfl rfl (by kernel_rfl) (by kernel_rfl) (by kernel_rfl) (fun _ _ _ h => h) (by rfl) ?_ ⟨⟨z0, z1⟩, z2⟩ ?_
                          rotate_left
                          · (intro w hSw; (try dsimp only at hSw); obtain ⟨⟨h1, h2⟩, h3⟩ := hSw;try simp only [List.getElem_toArray, List.getElem_cons_zero, List.getElem_cons_succ]; go_simp; try (with_reducible rfl))
                          try simp only [List.setIfInBounds_toArray, List.set_cons_zero, List.set_cons_succ]
                          refine held_take 7 137 (v := ?_) rfl rfl (by kernel_rfl) (by kernel_rfl) (by kernel_rfl) (fun _ _ _ h => h) (by rfl) ?_ ⟨⟨z0, z1⟩, z2⟩ ?_
                          rotate_left
                          · (intro w hSw; (try dsimp only at hSw); obtain ⟨⟨h1, h2⟩, h3⟩ := hSw;try simp only [List.getElem_toArray, List.getElem_cons_zero, List.getElem_cons_succ]; go_simp; try (with_reducible rfl))
                          try simp only [List.setIfInBounds_toArray, List.set_cons_zero, List.set_cons_succ]
                          refine held_take 8 138 (v := ?_) rfl rfl (by kernel_rfl) (by kernel_rfl) (by kernel_rfl) (fun _ _ _ h => h) (by rfl) ?_ ⟨⟨z0, z1⟩, z2⟩ ?_
                          rotate_left
                          · (intro w hSw; (try dsimp only at hSw); obtain ⟨⟨h1, h2⟩, h3⟩ := hSw;try simp only [List.getElem_toArray, List.getElem_cons_zero, List.getElem_cons_succ]; go_simp; try (with_reducible rfl))
                          try simp only [List.setIfInBounds_toArray, List.set_cons_zero, List.set_cons_succ]
                          refine held_take 9 139 (v := ?_) rfl rfl (by kernel_rfl) (by kernel_rfl) (by kernel_rfl) (fun _ _ _ h => h) (by rfl) ?_ ⟨⟨z0, z1⟩, z2⟩ ?_
                          rotate_left
                          · (intro w hSw; (try dsimp only at hSw); obtain ⟨⟨h1, h2⟩, h3⟩ := hSw;try simp only [List.getElem_toArray, List.getElem_cons_zero, List.getElem_cons_succ]; go_simp; try (with_reducible rfl))
                          try simp only [List.setIfInBounds_toArray, List.set_cons_zero, List.set_cons_succ]
                          refine held_take 10 140 (v := ?_) rfl rfl (by kernel_rfl) (by kernel_rfl) (by kernel_rfl) (fun _ _ _ h => h) (by rfl) ?_ ⟨⟨z0, z1⟩, z2⟩ ?_
                          rotate_left
                          · (intro w hSw; (try dsimp only at hSw); obtain ⟨⟨h1, h2⟩, h3⟩ := hSw;try simp only [List.getElem_toArray, List.getElem_cons_zero, List.getElem_cons_succ]; go_simp; try (with_reducible rfl))
                          try simp only [List.setIfInBounds_toArray, List.set_cons_zero, List.set_cons_succ]
                          refine held_take 11 141 (v := ?_) rfl rfl (by kernel_rfl) (by kernel_rfl) (by kernel_rfl) (fun _ _ _ h => h) (by rfl) ?_ ⟨⟨z0, z1⟩, z2⟩ ?_
                          rotate_left
                          · (intro w hSw; (try dsimp only at hSw); obtain ⟨⟨h1, h2⟩, h3⟩ := hSw;try simp only [List.getElem_toArray, List.getElem_cons_zero, List.getElem_cons_succ]; go_simp; try (with_reducible rfl))
                          try simp only [List.setIfInBounds_toArray, List.set_cons_zero, List.set_cons_succ]
                          refine held_take 12 142 (v := ?_) rfl rfl (by kernel_rfl) (by kernel_rfl) (by kernel_rfl) (fun _ _ _ h => h) (by rfl) ?_ ⟨⟨z0, z1⟩, z2⟩ ?_
                          rotate_left
                          · (intro w hSw; (try dsimp only at hSw); obtain ⟨⟨h1, h2⟩, h3⟩ := hSw;try simp only [List.getElem_toArray, List.getElem_cons_zero, List.getElem_cons_succ]; go_simp; try (with_reducible rfl))
                          try simp only [List.setIfInBounds_toArray, List.set_cons_zero, List.set_cons_succ]
                          refine held_take 14 144 (v := ?_) rfl rfl (by kernel_rfl) (by kernel_rfl) (by kernel_rfl) (fun _ _ _ h => h) (by rfl) ?_ ⟨⟨z0, z1⟩, z2⟩ ?_
                          rotate_left
                          · (intro w hSw; (try dsimp only at hSw); obtain ⟨⟨h1, h2⟩, h3⟩ := hSw;try simp only [List.getElem_toArray, List.getElem_cons_zero, List.getElem_cons_succ]; go_simp; try (with_reducible rfl))
                          try simp only [List.setIfInBounds_toArray, List.set_cons_zero, List.set_cons_succ]
                          refine held_take 15 145 (v := ?_) rfl rfl (by kernel_rfl) (by kernel_rfl) (by kernel_rfl) (fun _ _ _ h => h) (by rfl) ?_ ⟨⟨z0, z1⟩, z2⟩ ?_
                          rotate_left
                          · (intro w hSw; (try dsimp only at hSw); obtain ⟨⟨h1, h2⟩, h3⟩ := hSw;try simp only [List.getElem_toArray, List.getElem_cons_zero, List.getElem_cons_succ]; go_simp; try (with_reducible rfl))
                          try simp only [List.setIfInBounds_toArray, List.set_cons_zero, List.set_cons_succ]
                          refine held_take 16 146 (v := ?_) rfl rfl (by kernel_rfl) (by kernel_rfl) (by kernel_rfl) (fun _ _ _ h => h) (by rfl) ?_ ⟨⟨z0, z1⟩, z2⟩ ?_
                          rotate_left
                          · (intro w hSw; (try dsimp only at hSw); obtain ⟨⟨h1, h2⟩, h3⟩ := hSw;try simp only [List.getElem_toArray, List.getElem_cons_zero, List.getElem_cons_succ]; go_simp; try (with_reducible rfl))
                          try simp only [List.setIfInBounds_toArray, List.set_cons_zero, List.set_cons_succ]
                          refine held_take 17 147 (v := ?_) rfl rfl (by kernel_rfl) (by kernel_rfl) (by kernel_rfl) (fun _ _ _ h => h) (by rfl) ?_ ⟨⟨z0, z1⟩, z2⟩ ?_
                          rotate_left
                          · (intro w hSw; (try dsimp only at hSw); obtain ⟨⟨h1, h2⟩, h3⟩ := hSw;try simp only [List.getElem_toArray, List.getElem_cons_zero, List.getElem_cons_succ]; go_simp; try (with_reducible rfl))
                          try simp only [List.setIfInBounds_toArray, List.set_cons_zero, List.set_cons_succ]
                          refine held_take 20 150 (v := ?_) rfl rfl (by kernel_rfl) (by kernel_rfl) (by kernel_rfl) (fun _ _ _ h => h) (by rfl) ?_ ⟨⟨z0, z1⟩, z2⟩ ?_
                          rotate_left
                          · (intro w hSw; (try dsimp only at hSw); obtain ⟨⟨h1, h2⟩, h3⟩ := hSw;try simp only [List.getElem_toArray, List.getElem_cons_zero, List.getElem_cons_succ]; go_simp; try (with_reducible rfl))
                          try simp only [List.setIfInBounds_toArray, List.set_cons_zero, List.set_cons_succ]
                          refine held_take 21 151 (v := ?_) rfl rfl (by kernel_rfl) (by kernel_rfl) (by kernel_rfl) (fun _ _ _ h => h) (by rfl) ?_ ⟨⟨z0, z1⟩, z2⟩ ?_
                          rotate_left
                          · (intro w hSw; (try dsimp only at hSw); obtain ⟨⟨h1, h2⟩, h3⟩ := hSw;try simp only [List.getElem_toArray, List.getElem_cons_zero, List.getElem_cons_succ]; go_simp; try (with_reducible rfl))
                          try simp only [List.setIfInBounds_toArray, List.set_cons_zero, List.set_cons_succ]
                          refine held_take 22 152 (v := ?_) rfl rfl (by kernel_rfl) (by kernel_rfl) (by kernel_rfl) (fun _ _ _ h => h) (by rfl) ?_ ⟨⟨z0, z1⟩, z2⟩ ?_
                          rotate_left
                          · (intro w hSw; (try dsimp only at hSw); obtain ⟨⟨h1, h2⟩, h3⟩ := hSw;try simp only [List.getElem_toArray, List.getElem_cons_zero, List.getElem_cons_succ]; go_simp; try (with_reducible rfl))
                          try simp only [List.setIfInBounds_toArray, List.set_cons_zero, List.set_cons_succ]
                          refine held_take 24 154 (v := ?_) rfl rfl (by kernel_rfl) (by kernel_rfl) (by kernel_rfl) (fun _ _ _ h => h) (by rfl) ?_ ⟨⟨z0, z1⟩, z2⟩ ?_
                          rotate_left
                          · (intro w hSw; (try dsimp only at hSw); obtain ⟨⟨h1, h2⟩, h3⟩ := hSw;try simp only [List.getElem_toArray, List.getElem_cons_zero, List.getElem_cons_succ]; go_simp; try (with_reducible rfl))
                          try simp only [List.setIfInBounds_toArray, List.set_cons_zero, List.set_cons_succ]
                          refine held_take 25 155 (v := ?_) rfl rfl (by kernel_rfl) (by kernel_rfl) (by kernel_rfl) (fun _ _ _ h => h) (by rfl) ?_ ⟨⟨z0, z1⟩, z2⟩ ?_
                          rotate_left
                          · (intro w hSw; (try dsimp only at hSw); obtain ⟨⟨h1, h2⟩, h3⟩ := hSw;try simp only [List.getElem_toArray, List.getElem_cons_zero, List.getElem_cons_succ]; go_simp; try (with_reducible rfl))
                          try simp only [List.setIfInBounds_toArray, List.set_cons_zero, List.set_cons_succ]
                          refine held_take 26 156 (v := ?_) rfl rfl (by kernel_rfl) (by kernel_rfl) (by kernel_rfl) (fun _ _ _ h => h) (by rfl) ?_ ⟨⟨z0, z1⟩, z2⟩ ?_
                          rotate_left
                          · (intro w hSw; (try dsimp only at hSw); obtain ⟨⟨h1, h2⟩, h3⟩ := hSw;try simp only [List.getElem_toArray, List.getElem_cons_zero, List.getElem_cons_succ]; go_simp; try (with_reducible rfl))
                          try simp only [List.setIfInBounds_toArray, List.set_cons_zero, List.set_cons_succ]
                          refine held_take 27 157 (v := ?_) rfl rfl (by kernel_rfl) (by kernel_rfl) (by kernel_rfl) (fun _ _ _ h => h) (by rfl) ?_ ⟨⟨z0, z1⟩, z2⟩ ?_
                          rotate_left
                          · (intro w hSw; (try dsimp only at hSw); obtain ⟨⟨h1, h2⟩, h3⟩ := hSw;try simp only [List.getElem_toArray, List.getElem_cons_zero, List.getElem_cons_succ]; go_simp; try (with_reducible rfl))
                          try simp only [List.setIfInBounds_toArray, List.set_cons_zero, List.set_cons_succ]
                          refine held_call 13 143 rfl rfl (by kernel_rfl) (by rfl) (fun K hK => ?_)
                          try simp only [List.getElem_toArray, List.getElem_cons_zero, List.getElem_cons_succ]
                          go_simp
                          (go_at_call 30; (with_reducible refine (HTD.out _ AV.out.nd).mono ?_); rintro e w2 ⟨rfl, rfl⟩)
                          try go_wp2_with fail
                          try simp only [Act.put, List.setIfInBounds_toArray, List.set_cons_zero, List.set_cons_succ]
                          refine hK.out _ _ _ ⟨⟨z0, z1⟩, z2⟩ ?_
                          clear hK K
                          refine held_call 18 148 rfl rfl (by kernel_rfl) (by rfl) (fun K hK => ?_)
                          try simp only [List.getElem_toArray, List.getElem_cons_zero, List.getElem_cons_succ]
                          go_simp
                          (go_at_call 31; (with_reducible refine (make_any m3 q3 _).mono ?_); rintro e w2 ⟨rfl, rfl⟩; rw [HCL.out])
                          try go_wp2_with fail
                          try simp only [Act.put, List.setIfInBounds_toArray, List.set_cons_zero, List.set_cons_succ]
                          refine hK.out _ _ _ ⟨⟨z0, z1⟩, z2⟩ ?_
                          clear hK K
                          refine held_call 19 149 rfl rfl (by kernel_rfl) (by rfl) (fun K hK => ?_)
                          try simp only [List.getElem_toArray, List.getElem_cons_zero, List.getElem_cons_succ]
                          go_simp
                          (go_at_call 32; (with_reducible refine (bet_any _ _ _ _ su1 su2 sm3 sq3 _).mono ?_); rintro e w2 ⟨rfl, rfl⟩; rw [HBT.out])
                          try go_wp2_with fail
                          try simp only [Act.put, List.setIfInBounds_toArray, List.set_cons_zero, List.set_cons_succ]
                          refine hK.out _ _ _ ⟨⟨z0, z1⟩, z2⟩ ?_
                          clear hK K
                          refine held_call 23 153 rfl rfl (by kernel_rfl) (by rfl) (fun K hK => ?_)
                          try simp only [List.getElem_toArray, List.getElem_cons_zero, List.getElem_cons_succ]
                          go_simp
                          (go_at_call 30; (with_reducible refine (HTD.out _ AV.out.nd).mono ?_); rintro e w2 ⟨rfl, rfl⟩)
                          try go_wp2_with fail
                          try simp only [Act.put, List.setIfInBounds_toArray, List.set_cons_zero, List.set_cons_succ]
                          refine hK.out _ _ _ ⟨⟨z0, z1⟩, z2⟩ ?_
                          clear hK K
                          refine held_call 28 158 rfl rfl (by kernel_rfl) (by rfl) (fun K hK => ?_)
                          try simp only [List.getElem_toArray, List.getElem_cons_zero, List.getElem_cons_succ]
                          go_simp
                          (go_at_call 31; (with_reducible refine (make_any m3 q3 _).mono ?_); rintro e w2 ⟨rfl, rfl⟩; rw [HCL.out])
                          try go_wp2_with fail
                          try simp only [Act.put, List.setIfInBounds_toArray, List.set_cons_zero, List.set_cons_succ]
                          refine hK.out _ _ _ ⟨⟨z0, z1⟩, z2⟩ ?_
                          clear hK K
                          refine held_take 29 159 (v := ?_) rfl rfl (by kernel_rfl) (by kernel_rfl) (by kernel_rfl) (fun _ _ _ h => h) (by rfl) ?_ ⟨⟨z0, z1⟩, z2⟩ ?_
                          rotate_left
                          · (intro w hSw; (try dsimp only at hSw); obtain ⟨⟨h1, h2⟩, h3⟩ := hSw;try simp only [List.getElem_toArray, List.getElem_cons_zero, List.getElem_cons_succ]; go_simp; try (with_reducible rfl))
                          try simp only [List.setIfInBounds_toArray, List.set_cons_zero, List.set_cons_succ]
                          refine held_take 30 160 (v := ?_) rfl rfl (by kernel_rfl) (by kernel_rfl) (by kernel_rfl) (fun _ _ _ h => h) (by rfl) ?_ ⟨⟨z0, z1⟩, z2⟩ ?_
                          rotate_left
                          · (intro w hSw; (try dsimp only at hSw); obtain ⟨⟨h1, h2⟩, h3⟩ := hSw;try simp only [List.getElem_toArray, List.getElem_cons_zero, List.getElem_cons_succ]; go_simp; try (with_reducible rfl))
                          try simp only [List.setIfInBounds_toArray, List.set_cons_zero, List.set_cons_succ]
                          refine held_take 31 161 (v := ?_) rfl rfl (by kernel_rfl) (by kernel_rfl) (by kernel_rfl) (fun _ _ _ h => h) (by rfl) ?_ ⟨⟨z0, z1⟩, z2⟩ ?_
                          rotate_left
                          · (intro w hSw; (try dsimp only at hSw); obtain ⟨⟨h1, h2⟩, h3⟩ := hSw;try simp only [List.getElem_toArray, List.getElem_cons_zero, List.getElem_cons_succ]; go_simp; try (with_reducible rfl))
                          try simp only [List.setIfInBounds_toArray, List.set_cons_zero, List.set_cons_succ]
                          refine wpAnyH_done (by kernel_rfl) ?_ _
                          go_wp2
                          go_roundw
                          case rel => exact ⟨j + 1, by omega, by go_num, RW.out, RV'.out, AV.out⟩
                          case measure => simp [intOf]; omega
                        · have hb' : bet m3 u2 m3 q3 = true := by rw [hb]; simp [e2]
                          have HBT := Lib.hid hb'
                          have he2 : decide (u2 = q3) = false := by simpa using e2
                          clear hb hb' e2
                          refine wp_region_held_drew (S := (fun w' => (w'.cell? ⟨B2, 0, none⟩ = some (.int .i64 j) ∧ w'.cell? ⟨B2, 1, none⟩ = some (.int .i64 m3)) ∧ w'.cell? ⟨B2, 2, none⟩ = some (.int .u32 q3))) (by kernel_rfl) ⟨⟨z0, z1⟩, z2⟩ (fun _ => ?_)
                          refine held_take 0 130 (v := ?_) rfl rfl (by kernel_rfl) (by kernel_rfl) (by kernel_rfl) (fun _ _ _ h => h) (by rfl) ?_ ⟨⟨z0, z1⟩, z2⟩ ?_
                          rotate_left
                          · (intro w hSw; (try dsimp only at hSw); obtain ⟨⟨h1, h2⟩, h3⟩ := hSw;try simp only [List.getElem_toArray, List.getElem_cons_zero, List.getElem_cons_succ]; go_simp; try (with_reducible rfl))
                          try simp only [List.setIfInBounds_toArray, List.set_cons_zero, List.set_cons_succ]
                          refine held_take 1 131 (v := ?_) rfl rfl (by kernel_rfl) (by kernel_rfl) (by kernel_rfl) (fun _ _ _ h => h) (by rfl) ?_ ⟨⟨z0, z1⟩, z2⟩ ?_
                          rotate_left
                          · (intro w hSw; (try dsimp only at hSw); obtain ⟨⟨h1, h2⟩, h3⟩ := hSw;try simp only [List.getElem_toArray, List.getElem_cons_zero, List.getElem_cons_succ]; go_simp; try (with_reducible rfl))
                          try simp only [List.setIfInBounds_toArray, List.set_cons_zero, List.set_cons_succ]
                          refine held_take 2 132 (v := ?_) rfl rfl (by kernel_rfl) (by kernel_rfl) (by kernel_rfl) (fun _ _ _ h => h) (by rfl) ?_ ⟨⟨z0, z1⟩, z2⟩ ?_
                          rotate_left
                          · (intro w hSw; (try dsimp only at hSw); obtain ⟨⟨h1, h2⟩, h3⟩ := hSw;try simp only [List.getElem_toArray, List.getElem_cons_zero, List.getElem_cons_succ]; go_simp; try (with_reducible rfl))
                          try simp only [List.setIfInBounds_toArray, List.set_cons_zero, List.set_cons_succ]
                          refine held_take 3 133 (v := ?_) rfl rfl (by kernel_rfl) (by kernel_rfl) (by kernel_rfl) (fun _ _ _ h => h) (by rfl) ?_ ⟨⟨z0, z1⟩, z2⟩ ?_
                          rotate_left
                          · (intro w hSw; (try dsimp only at hSw); obtain ⟨⟨h1, h2⟩, h3⟩ := hSw;try simp only [List.getElem_toArray, List.getElem_cons_zero, List.getElem_cons_succ]; go_simp; try (with_reducible rfl))
                          try simp only [List.setIfInBounds_toArray, List.set_cons_zero, List.set_cons_succ]
                          refine held_take 4 134 (v := ?_) rfl rfl (by kernel_rfl) (by kernel_rfl) (by kernel_rfl) (fun _ _ _ h => h) (by rfl) ?_ ⟨⟨z0, z1⟩, z2⟩ ?_
                          rotate_left
                          · (intro w hSw; (try dsimp only at hSw); obtain ⟨⟨h1, h2⟩, h3⟩ := hSw;try simp only [List.getElem_toArray, List.getElem_cons_zero, List.getElem_cons_succ]; go_simp; try (with_reducible rfl))
                          try simp only [List.setIfInBounds_toArray, List.set_cons_zero, List.set_cons_succ]
                          refine held_take 5 135 (v := ?_) rfl rfl (by kernel_rfl) (by kernel_rfl) (by kernel_rfl) (fun _ _ _ h => h) (by rfl) ?_ ⟨⟨z0, z1⟩, z2⟩ ?_
                          rotate_left
                          · (intro w hSw; (try dsimp only at hSw); obtain ⟨⟨h1, h2⟩, h3⟩ := hSw;try simp only [List.getElem_toArray, List.getElem_cons_zero, List.getElem_cons_succ]; go_simp; try (with_reducible rfl))
                          try simp only [List.setIfInBounds_toArray, List.set_cons_zero, List.set_cons_succ]
                          refine held_take 6 136 (v := ?_) rfl rfl (by kernel_rfl) (by kernel_rfl) (by kernel_rfl) (fun _ _ _ h => h) (by rfl) ?_ ⟨⟨z0, z1⟩, z2⟩ ?_
                          rotate_left
                          · (intro w hSw; (try dsimp only at hSw); obtain ⟨⟨h1, h2⟩, h3⟩ := hSw;try simp only [List.getElem_toArray, List.getElem_cons_zero, List.getElem_cons_succ]; go_simp; try (with_reducible rfl))
                          try simp only [List.setIfInBounds_toArray, List.set_cons_zero, List.set_cons_succ]
                          refine held_take 7 137 (v := ?_) rfl rfl (by kernel_rfl) (by kernel_rfl) (by kernel_rfl) (fun _ _ _ h => h) (by rfl) ?_ ⟨⟨z0, z1⟩, z2⟩ ?_
                          rotate_left
                          · (intro w hSw; (try dsimp only at hSw); obtain ⟨⟨h1, h2⟩, h3⟩ := hSw;try simp only [List.getElem_toArray, List.getElem_cons_zero, List.getElem_cons_succ]; go_simp; try (with_reducible rfl))
                          try simp only [List.setIfInBounds_toArray, List.set_cons_zero, List.set_cons_succ]
                          refine held_take 8 138 (v := ?_) rfl rfl (by kernel_rfl) (by kernel_rfl) (by kernel_rfl) (fun _ _ _ h => h) (by rfl) ?_ ⟨⟨z0, z1⟩, z2⟩ ?_
                          rotate_left
                          · (intro w hSw; (try dsimp only at hSw); obtain ⟨⟨h1, h2⟩, h3⟩ := hSw;try simp only [List.getElem_toArray, List.getElem_cons_zero, List.getElem_cons_succ]; go_simp; try (with_reducible rfl))
                          try simp only [List.setIfInBounds_toArray, List.set_cons_zero, List.set_cons_succ]
                          refine held_take 9 139 (v := ?_) rfl rfl (by kernel_rfl) (by kernel_rfl) (by kernel_rfl) (fun _ _ _ h => h) (by rfl) ?_ ⟨⟨z0, z1⟩, z2⟩ ?_
                          rotate_left
                          · (intro w hSw; (try dsimp only at hSw); obtain ⟨⟨h1, h2⟩, h3⟩ := hSw;try simp only [List.getElem_toArray, List.getElem_cons_zero, List.getElem_cons_succ]; go_simp; try (with_reducible rfl))
                          try simp only [List.setIfInBounds_toArray, List.set_cons_zero, List.set_cons_succ]
                          refine held_take 10 140 (v := ?_) rfl rfl (by kernel_rfl) (by kernel_rfl) (by kernel_rfl) (fun _ _ _ h => h) (by rfl) ?_ ⟨⟨z0, z1⟩, z2⟩ ?_
                          rotate_left
                          · (intro w hSw; (try dsimp only at hSw); obtain ⟨⟨h1, h2⟩, h3⟩ := hSw;try simp only [List.getElem_toArray, List.getElem_cons_zero, List.getElem_cons_succ]; go_simp; try (with_reducible rfl))
                          try simp only [List.setIfInBounds_toArray, List.set_cons_zero, List.set_cons_succ]
                          refine held_take 11 141 (v := ?_) rfl rfl (by kernel_rfl) (by kernel_rfl) (by kernel_rfl) (fun _ _ _ h => h) (by rfl) ?_ ⟨⟨z0, z1⟩, z2⟩ ?_
                          rotate_left
                          · (intro w hSw; (try dsimp only at hSw); obtain ⟨⟨h1, h2⟩, h3⟩ := hSw;try simp only [List.getElem_toArray, List.getElem_cons_zero, List.getElem_cons_succ]; go_simp; try (with_reducible rfl))
                          try simp only [List.setIfInBounds_toArray, List.set_cons_zero, List.set_cons_succ]
                          refine held_take 12 142 (v := ?_) rfl rfl (by kernel_rfl) (by kernel_rfl) (by kernel_rfl) (fun _ _ _ h => h) (by rfl) ?_ ⟨⟨z0, z1⟩, z2⟩ ?_
                          rotate_left
                          · (intro w hSw; (try dsimp only at hSw); obtain ⟨⟨h1, h2⟩, h3⟩ := hSw;try simp only [List.getElem_toArray, List.getElem_cons_zero, List.getElem_cons_succ]; go_simp; try (with_reducible rfl))
                          try simp only [List.setIfInBounds_toArray, List.set_cons_zero, List.set_cons_succ]
                          refine held_take 14 144 (v := ?_) rfl rfl (by kernel_rfl) (by kernel_rfl) (by kernel_rfl) (fun _ _ _ h => h) (by rfl) ?_ ⟨⟨z0, z1⟩, z2⟩ ?_
                          rotate_left
                          · (intro w hSw; (try dsimp only at hSw); obtain ⟨⟨h1, h2⟩, h3⟩ := hSw;try simp only [List.getElem_toArray, List.getElem_cons_zero, List.getElem_cons_succ]; go_simp; try (with_reducible rfl))
                          try simp only [List.setIfInBounds_toArray, List.set_cons_zero, List.set_cons_succ]
                          refine held_take 15 145 (v := ?_) rfl rfl (by kernel_rfl) (by kernel_rfl) (by kernel_rfl) (fun _ _ _ h => h) (by rfl) ?_ ⟨⟨z0, z1⟩, z2⟩ ?_
                          rotate_left
                          · (intro w hSw; (try dsimp only at hSw); obtain ⟨⟨h1, h2⟩, h3⟩ := hSw;try simp only [List.getElem_toArray, List.getElem_cons_zero, List.getElem_cons_succ]; go_simp; try (with_reducible rfl))
                          try simp only [List.setIfInBounds_toArray, List.set_cons_zero, List.set_cons_succ]
                          refine held_take 16 146 (v := ?_) rfl rfl (by kernel_rfl) (by kernel_rfl) (by kernel_rfl) (fun _ _ _ h => h) (by rfl) ?_ ⟨⟨z0, z1⟩, z2⟩ ?_
                          rotate_left
                          · (intro w hSw; (try dsimp only at hSw); obtain ⟨⟨h1, h2⟩, h3⟩ := hSw;try simp only [List.getElem_toArray, List.getElem_cons_zero, List.getElem_cons_succ]; go_simp; try (with_reducible rfl))
                          try simp only [List.setIfInBounds_toArray, List.set_cons_zero, List.set_cons_succ]
                          refine held_take 17 147 (v := ?_) rfl rfl (by kernel_rfl) (by kernel_rfl) (by kernel_rfl) (fun _ _ _ h => h) (by rfl) ?_ ⟨⟨z0, z1⟩, z2⟩ ?_
                          rotate_left
                          · (intro w hSw; (try dsimp only at hSw); obtain ⟨⟨h1, h2⟩, h3⟩ := hSw;try simp only [List.getElem_toArray, List.getElem_cons_zero, List.getElem_cons_succ]; go_simp; try (with_reducible rfl))
                          try simp only [List.setIfInBounds_toArray, List.set_cons_zero, List.set_cons_succ]
                          refine held_take 20 150 (v := ?_) rfl rfl (by kernel_rfl) (by kernel_rfl) (by kernel_rfl) (fun _ _ _ h => h) (by rfl) ?_ ⟨⟨z0, z1⟩, z2⟩ ?_
                          rotate_left
                          · (intro w hSw; (try dsimp only at hSw); obtain ⟨⟨h1, h2⟩, h3⟩ := hSw;try simp only [List.getElem_toArray, List.getElem_cons_zero, List.getElem_cons_succ]; go_simp; try (with_reducible rfl))
                          try simp only [List.setIfInBounds_toArray, List.set_cons_zero, List.set_cons_succ]
                          refine held_take 21 151 (v := ?_) rfl rfl (by kernel_rfl) (by kernel_rfl) (by kernel_rfl) (fun _ _ _ h => h) (by rfl) ?_ ⟨⟨z0, z1⟩, z2⟩ ?_
                          rotate_left
                          · (intro w hSw; (try dsimp only at hSw); obtain ⟨⟨h1, h2⟩, h3⟩ := hSw;try simp only [List.getElem_toArray, List.getElem_cons_zero, List.getElem_cons_succ]; go_simp; try (with_reducible rfl))
                          try simp only [List.setIfInBounds_toArray, List.set_cons_zero, List.set_cons_succ]
                          refine held_take 22 152 (v := ?_) rfl rfl (by kernel_rfl) (by kernel_rfl) (by kernel_rfl) (fun _ _ _ h => h) (by rfl) ?_ ⟨⟨z0, z1⟩, z2⟩ ?_
                          rotate_left
                          · (intro w hSw; (try dsimp only at hSw); obtain ⟨⟨h1, h2⟩, h3⟩ := hSw;try simp only [List.getElem_toArray, List.getElem_cons_zero, List.getElem_cons_succ]; go_simp; try (with_reducible rfl))
                          try simp only [List.setIfInBounds_toArray, List.set_cons_zero, List.set_cons_succ]
                          refine held_take 24 154 (v := ?_) rfl rfl (by kernel_rfl) (by kernel_rfl) (by kernel_rfl) (fun _ _ _ h => h) (by rfl) ?_ ⟨⟨z0, z1⟩, z2⟩ ?_
                          rotate_left
                          · (intro w hSw; (try dsimp only at hSw); obtain ⟨⟨h1, h2⟩, h3⟩ := hSw;try simp only [List.getElem_toArray, List.getElem_cons_zero, List.getElem_cons_succ]; go_simp; try (with_reducible rfl))
                          try simp only [List.setIfInBounds_toArray, List.set_cons_zero, List.set_cons_succ]
                          refine held_take 25 155 (v := ?_) rfl rfl (by kernel_rfl) (by kernel_rfl) (by kernel_rfl) (fun _ _ _ h => h) (by rfl) ?_ ⟨⟨z0, z1⟩, z2⟩ ?_
                          rotate_left
                          · (intro w hSw; (try dsimp only at hSw); obtain ⟨⟨h1, h2⟩, h3⟩ := hSw;try simp only [List.getElem_toArray, List.getElem_cons_zero, List.getElem_cons_succ]; go_simp; try (with_reducible rfl))
                          try simp only [List.setIfInBounds_toArray, List.set_cons_zero, List.set_cons_succ]
                          refine held_take 26 156 (v := ?_) rfl rfl (by kernel_rfl) (by kernel_rfl) (by kernel_rfl) (fun _ _ _ h => h) (by rfl) ?_ ⟨⟨z0, z1⟩, z2⟩ ?_
                          rotate_left
                          · (intro w hSw; (try dsimp only at hSw); obtain ⟨⟨h1, h2⟩, h3⟩ := hSw;try simp only [List.getElem_toArray, List.getElem_cons_zero, List.getElem_cons_succ]; go_simp; try (with_reducible rfl))
                          try simp only [List.setIfInBounds_toArray, List.set_cons_zero, List.set_cons_succ]
                          refine held_take 27 157 (v := ?_) rfl rfl (by kernel_rfl) (by kernel_rfl) (by kernel_rfl) (fun _ _ _ h => h) (by rfl) ?_ ⟨⟨z0, z1⟩, z2⟩ ?_
                          rotate_left
                          · (intro w hSw; (try dsimp only at hSw); obtain ⟨⟨h1, h2⟩, h3⟩ := hSw;try simp only [List.getElem_toArray, List.getElem_cons_zero, List.getElem_cons_succ]; go_simp; try (with_reducible rfl))
                          try simp only [List.setIfInBounds_toArray, List.set_cons_zero, List.set_cons_succ]
                          refine held_call 13 143 rfl rfl (by kernel_rfl) (by rfl) (fun K hK => ?_)
                          try simp only [List.getElem_toArray, List.getElem_cons_zero, List.getElem_cons_succ]
                          go_simp
                          (go_at_call 30; (with_reducible refine (HTD.out _ AV.out.nd).mono ?_); rintro e w2 ⟨rfl, rfl⟩)
                          try go_wp2_with fail
                          try simp only [Act.put, List.setIfInBounds_toArray, List.set_cons_zero, List.set_cons_succ]
                          refine hK.out _ _ _ ⟨⟨z0, z1⟩, z2⟩ ?_
                          clear hK K
                          refine held_call 18 148 rfl rfl (by kernel_rfl) (by rfl) (fun K hK => ?_)
                          try simp only [List.getElem_toArray, List.getElem_cons_zero, List.getElem_cons_succ]
                          go_simp
                          (go_at_call 31; (with_reducible refine (make_any m3 q3 _).mono ?_); rintro e w2 ⟨rfl, rfl⟩; rw [HCL.out])
                          try go_wp2_with fail
                          try simp only [Act.put, List.setIfInBounds_toArray, List.set_cons_zero, List.set_cons_succ]
                          refine hK.out _ _ _ ⟨⟨z0, z1⟩, z2⟩ ?_
                          clear hK K
                          refine held_call 19 149 rfl rfl (by kernel_rfl) (by rfl) (fun K hK => ?_)
                          try simp only [List.getElem_toArray, List.getElem_cons_zero, List.getElem_cons_succ]
                          go_simp
                          (go_at_call 32; (with_reducible refine (bet_any _ _ _ _ su1 su2 sm3 sq3 _).mono ?_); rintro e w2 ⟨rfl, rfl⟩; rw [HBT.out])
                          try go_wp2_with fail
                          try simp only [Act.put, List.setIfInBounds_toArray, List.set_cons_zero, List.set_cons_succ]
                          refine hK.out _ _ _ ⟨⟨z0, z1⟩, z2⟩ ?_
                          clear hK K
                          refine held_call 23 153 rfl rfl (by kernel_rfl) (by rfl) (fun K hK => ?_)
                          try simp only [List.getElem_toArray, List.getElem_cons_zero, List.getElem_cons_succ]
                          go_simp
                          (go_at_call 30; (with_reducible refine (HTD.out _ AV.out.nd).mono ?_); rintro e w2 ⟨rfl, rfl⟩)
                          try go_wp2_with fail
                          try simp only [Act.put, List.setIfInBounds_toArray, List.set_cons_zero, List.set_cons_succ]
                          refine hK.out _ _ _ ⟨⟨z0, z1⟩, z2⟩ ?_
                          clear hK K
                          refine held_call 28 158 rfl rfl (by kernel_rfl) (by rfl) (fun K hK => ?_)
                          try simp only [List.getElem_toArray, List.getElem_cons_zero, List.getElem_cons_succ]
                          go_simp
                          (go_at_call 31; (with_reducible refine (make_any m3 q3 _).mono ?_); rintro e w2 ⟨rfl, rfl⟩; rw [HCL.out])
                          try go_wp2_with fail
                          try simp only [Act.put, List.setIfInBounds_toArray, List.set_cons_zero, List.set_cons_succ]
                          refine hK.out _ _ _ ⟨⟨z0, z1⟩, z2⟩ ?_
                          clear hK K
                          refine held_take 29 159 (v := ?_) rfl rfl (by kernel_rfl) (by kernel_rfl) (by kernel_rfl) (fun _ _ _ h => h) (by rfl) ?_ ⟨⟨z0, z1⟩, z2⟩ ?_
                          rotate_left
                          · (intro w hSw; (try dsimp only at hSw); obtain ⟨⟨h1, h2⟩, h3⟩ := hSw;try simp only [List.getElem_toArray, List.getElem_cons_zero, List.getElem_cons_succ]; go_simp; try (with_reducible rfl))
                          try simp only [List.setIfInBounds_toArray, List.set_cons_zero, List.set_cons_succ]
                          refine held_take 30 160 (v := ?_) rfl rfl (by kernel_rfl) (by kernel_rfl) (by kernel_rfl) (fun _ _ _ h => h) (by rfl) ?_ ⟨⟨z0, z1⟩, z2⟩ ?_
                          rotate_left
                          · (intro w hSw; (try dsimp only at hSw); obtain ⟨⟨h1, h2⟩, h3⟩ := hSw;try simp only [List.getElem_toArray, List.getElem_cons_zero, List.getElem_cons_succ]; go_simp; try (with_reducible rfl))
                          try simp only [List.setIfInBounds_toArray, List.set_cons_zero, List.set_cons_succ]
                          refine held_take 31 161 (v := ?_) rfl rfl (by kernel_rfl) (by kernel_rfl) (by kernel_rfl) (fun _ _ _ h => h) (by rfl) ?_ ⟨⟨z0, z1⟩, z2⟩ ?_
                          rotate_left
                          · (intro w hSw; (try dsimp only at hSw); obtain ⟨⟨h1, h2⟩, h3⟩ := hSw;try simp only [List.getElem_toArray, List.getElem_cons_zero, List.getElem_cons_succ]; go_simp; try (with_reducible rfl))
                          try simp only [List.setIfInBounds_toArray, List.set_cons_zero, List.set_cons_succ]
                          refine wpAnyH_done (by kernel_rfl) ?_ _
                          go_wp2
                          go_roundw
                          case rel => exact ⟨j + 1, by omega, by go_num, RW.out, RV'.out, AV.out⟩
                          case measure => simp [intOf]; omega
                      · have hb' : bet u1 u2 m3 q3 = true := by rw [hb]; simp [e1]
                        have HBT := Lib.hid hb'
                        have he1 : decide (u1 = m3) = false := by simpa using e1
                        clear hb hb' e1
                        refine wp_region_held_drew (S := (fun w' => (w'.cell? ⟨B2, 0, none⟩ = some (.int .i64 j) ∧ w'.cell? ⟨B2, 1, none⟩ = some (.int .i64 m3)) ∧ w'.cell? ⟨B2, 2, none⟩ = some (.int .u32 q3))) (by kernel_rfl) ⟨⟨z0, z1⟩, z2⟩ (fun _ => ?_)
                        refine held_take 0 130 (v := ?_) rfl rfl (by kernel_rfl) (by kernel_rfl) (by kernel_rfl) (fun _ _ _ h => h) (by rfl) ?_ ⟨⟨z0, z1⟩, z2⟩ ?_
                        rotate_left
                        · (intro w hSw; (try dsimp only at hSw); obtain ⟨⟨h1, h2⟩, h3⟩ := hSw;try simp only [List.getElem_toArray, List.getElem_cons_zero, List.getElem_cons_succ]; go_simp; try (with_reducible rfl))
                        try simp only [List.setIfInBounds_toArray, List.set_cons_zero, List.set_cons_succ]
                        refine held_take 1 131 (v := ?_) rfl rfl (by kernel_rfl) (by kernel_rfl) (by kernel_rfl) (fun _ _ _ h => h) (by rfl) ?_ ⟨⟨z0, z1⟩, z2⟩ ?_
                        rotate_left
                        · (intro w hSw; (try dsimp only at hSw); obtain ⟨⟨h1, h2⟩, h3⟩ := hSw;try simp only [List.getElem_toArray, List.getElem_cons_zero, List.getElem_cons_succ]; go_simp; try (with_reducible rfl))
                        try simp only [List.setIfInBounds_toArray, List.set_cons_zero, List.set_cons_succ]
                        refine held_take 2 132 (v := ?_) rfl rfl (by kernel_rfl) (by kernel_rfl) (by kernel_rfl) (fun _ _ _ h => h) (by rfl) ?_ ⟨⟨z0, z1⟩, z2⟩ ?_
                        rotate_left
                        · (intro w hSw; (try dsimp only at hSw); obtain ⟨⟨h1, h2⟩, h3⟩ := hSw;try simp only [List.getElem_toArray, List.getElem_cons_zero, List.getElem_cons_succ]; go_simp; try (with_reducible rfl))
                        try simp only [List.setIfInBounds_toArray, List.set_cons_zero, List.set_cons_succ]
                        refine held_take 3 133 (v := ?_) rfl rfl (by kernel_rfl) (by kernel_rfl) (by kernel_rfl) (fun _ _ _ h => h) (by rfl) ?_ ⟨⟨z0, z1⟩, z2⟩ ?_
                        rotate_left
                        · (intro w hSw; (try dsimp only at hSw); obtain ⟨⟨h1, h2⟩, h3⟩ := hSw;try simp only [List.getElem_toArray, List.getElem_cons_zero, List.getElem_cons_succ]; go_simp; try (with_reducible rfl))
                        try simp only [List.setIfInBounds_toArray, List.set_cons_zero, List.set_cons_succ]
                        refine held_take 4 134 (v := ?_) rfl rfl (by kernel_rfl) (by kernel_rfl) (by kernel_rfl) (fun _ _ _ h => h) (by rfl) ?_ ⟨⟨z0, z1⟩, z2⟩ ?_
                        rotate_left
                        · (intro w hSw; (try dsimp only at hSw); obtain ⟨⟨h1, h2⟩, h3⟩ := hSw;try simp only [List.getElem_toArray, List.getElem_cons_zero, List.getElem_cons_succ]; go_simp; try (with_reducible rfl))
                        try simp only [List.setIfInBounds_toArray, List.set_cons_zero, List.set_cons_succ]
                        refine held_take 5 135 (v := ?_) rfl rfl (by kernel_rfl) (by kernel_rfl) (by kernel_rfl) (fun _ _ _ h => h) (by rfl) ?_ ⟨⟨z0, z1⟩, z2⟩ ?_
                        rotate_left
                        · (intro w hSw; (try dsimp only at hSw); obtain ⟨⟨h1, h2⟩, h3⟩ := hSw;try simp only [List.getElem_toArray, List.getElem_cons_zero, List.getElem_cons_succ]; go_simp; try (with_reducible rfl))
                        try simp only [List.setIfInBounds_toArray, List.set_cons_zero, List.set_cons_succ]
                        refine held_take 6 136 (v := ?_) rfl rfl (by kernel_rfl) (by kernel_rfl) (by kernel_rfl) (fun _ _ _ h => h) (by rfl) ?_ ⟨⟨z0, z1⟩, z2⟩ ?_
                        rotate_left
                        · (intro w hSw; (try dsimp only at hSw); obtain ⟨⟨h1, h2⟩, h3⟩ := hSw;try simp only [List.getElem_toArray, List.getElem_cons_zero, List.getElem_cons_succ]; go_simp; try (with_reducible rfl))
                        try simp only [List.setIfInBounds_toArray, List.set_cons_zero, List.set_cons_succ]
                        refine held_take 7 137 (v := ?_) rfl rfl (by kernel_rfl) (by kernel_rfl) (by kernel_rfl) (fun _ _ _ h => h) (by rfl) ?_ ⟨⟨z0, z1⟩, z2⟩ ?_
                        rotate_left
                        · (intro w hSw; (try dsimp only at hSw); obtain ⟨⟨h1, h2⟩, h3⟩ := hSw;try simp only [List.getElem_toArray, List.getElem_cons_zero, List.getElem_cons_succ]; go_simp; try (with_reducible rfl))
                        try simp only [List.setIfInBounds_toArray, List.set_cons_zero, List.set_cons_succ]
                        refine held_take 8 138 (v := ?_) rfl rfl (by kernel_rfl) (by kernel_rfl) (by kernel_rfl) (fun _ _ _ h => h) (by rfl) ?_ ⟨⟨z0, z1⟩, z2⟩ ?_
                        rotate_left
                        · (intro w hSw; (try dsimp only at hSw); obtain ⟨⟨h1, h2⟩, h3⟩ := hSw;try simp only [List.getElem_toArray, List.getElem_cons_zero, List.getElem_cons_succ]; go_simp; try (with_reducible rfl))
                        try simp only [List.setIfInBounds_toArray, List.set_cons_zero, List.set_cons_succ]
                        refine held_take 9 139 (v := ?_) rfl rfl (by kernel_rfl) (by kernel_rfl) (by kernel_rfl) (fun _ _ _ h => h) (by rfl) ?_ ⟨⟨z0, z1⟩, z2⟩ ?_
                        rotate_left
                        · (intro w hSw; (try dsimp only at hSw); obtain ⟨⟨h1, h2⟩, h3⟩ := hSw;try simp only [List.getElem_toArray, List.getElem_cons_zero, List.getElem_cons_succ]; go_simp; try (with_reducible rfl))
                        try simp only [List.setIfInBounds_toArray, List.set_cons_zero, List.set_cons_succ]
                        refine held_take 10 140 (v := ?_) rfl rfl (by kernel_rfl) (by kernel_rfl) (by kernel_rfl) (fun _ _ _ h => h) (by rfl) ?_ ⟨⟨z0, z1⟩, z2⟩ ?_
                        rotate_left
                        · (intro w hSw; (try dsimp only at hSw); obtain ⟨⟨h1, h2⟩, h3⟩ := hSw;try simp only [List.getElem_toArray, List.getElem_cons_zero, List.getElem_cons_succ]; go_simp; try (with_reducible rfl))
                        try simp only [List.setIfInBounds_toArray, List.set_cons_zero, List.set_cons_succ]
                        refine held_take 11 141 (v := ?_) rfl rfl (by kernel_rfl) (by kernel_rfl) (by kernel_rfl) (fun _ _ _ h => h) (by rfl) ?_ ⟨⟨z0, z1⟩, z2⟩ ?_
                        rotate_left
                        · (intro w hSw; (try dsimp only at hSw); obtain ⟨⟨h1, h2⟩, h3⟩ := hSw;try simp only [List.getElem_toArray, List.getElem_cons_zero, List.getElem_cons_succ]; go_simp; try (with_reducible rfl))
                        try simp only [List.setIfInBounds_toArray, List.set_cons_zero, List.set_cons_succ]
                        refine held_take 12 142 (v := ?_) rfl rfl (by kernel_rfl) (by kernel_rfl) (by kernel_rfl) (fun _ _ _ h => h) (by rfl) ?_ ⟨⟨z0, z1⟩, z2⟩ ?_
                        rotate_left
                        · (intro w hSw; (try dsimp only at hSw); obtain ⟨⟨h1, h2⟩, h3⟩ := hSw;try simp only [List.getElem_toArray, List.getElem_cons_zero, List.getElem_cons_succ]; go_simp; try (with_reducible rfl))
                        try simp only [List.setIfInBounds_toArray, List.set_cons_zero, List.set_cons_succ]
                        refine held_take 14 144 (v := ?_) rfl rfl (by kernel_rfl) (by kernel_rfl) (by kernel_rfl) (fun _ _ _ h => h) (by rfl) ?_ ⟨⟨z0, z1⟩, z2⟩ ?_
                        rotate_left
                        · (intro w hSw; (try dsimp only at hSw); obtain ⟨⟨h1, h2⟩, h3⟩ := hSw;try simp only [List.getElem_toArray, List.getElem_cons_zero, List.getElem_cons_succ]; go_simp; try (with_reducible rfl))
                        try simp only [List.setIfInBounds_toArray, List.set_cons_zero, List.set_cons_succ]
                        refine held_take 15 145 (v := ?_) rfl rfl (by kernel_rfl) (by kernel_rfl) (by kernel_rfl) (fun _ _ _ h => h) (by rfl) ?_ ⟨⟨z0, z1⟩, z2⟩ ?_
                        rotate_left
                        · (intro w hSw; (try dsimp only at hSw); obtain ⟨⟨h1, h2⟩, h3⟩ := hSw;try simp only [List.getElem_toArray, List.getElem_cons_zero, List.getElem_cons_succ]; go_simp; try (with_reducible rfl))
                        try simp only [List.setIfInBounds_toArray, List.set_cons_zero, List.set_cons_succ]
                        refine held_take 16 146 (v := ?_) rfl rfl (by kernel_rfl) (by kernel_rfl) (by kernel_rfl) (fun _ _ _ h => h) (by rfl) ?_ ⟨⟨z0, z1⟩, z2⟩ ?_
                        rotate_left
                        · (intro w hSw; (try dsimp only at hSw); obtain ⟨⟨h1, h2⟩, h3⟩ := hSw;try simp only [List.getElem_toArray, List.getElem_cons_zero, List.getElem_cons_succ]; go_simp; try (with_reducible rfl))
                        try simp only [List.setIfInBounds_toArray, List.set_cons_zero, List.set_cons_succ]
                        refine held_take 17 147 (v := ?_) rfl rfl (by kernel_rfl) (by kernel_rfl) (by kernel_rfl) (fun _ _ _ h => h) (by rfl) ?_ ⟨⟨z0, z1⟩, z2⟩ ?_
                        rotate_left
                        · (intro w hSw; (try dsimp only at hSw); obtain ⟨⟨h1, h2⟩, h3⟩ := hSw;try simp only [List.getElem_toArray, List.getElem_cons_zero, List.getElem_cons_succ]; go_simp; try (with_reducible rfl))
                        try simp only [List.setIfInBounds_toArray, List.set_cons_zero, List.set_cons_succ]
                        refine held_take 20 150 (v := ?_) rfl rfl (by kernel_rfl) (by kernel_rfl) (by kernel_rfl) (fun _ _ _ h => h) (by rfl) ?_ ⟨⟨z0, z1⟩, z2⟩ ?_
                        rotate_left
                        · (intro w hSw; (try dsimp only at hSw); obtain ⟨⟨h1, h2⟩, h3⟩ := hSw;try simp only [List.getElem_toArray, List.getElem_cons_zero, List.getElem_cons_succ]; go_simp; try (with_reducible rfl))
                        try simp only [List.setIfInBounds_toArray, List.set_cons_zero, List.set_cons_succ]
                        refine held_take 21 151 (v := ?_) rfl rfl (by kernel_rfl) (by kernel_rfl) (by kernel_rfl) (fun _ _ _ h => h) (by rfl) ?_ ⟨⟨z0, z1⟩, z2⟩ ?_
                        rotate_left
                        · (intro w hSw; (try dsimp only at hSw); obtain ⟨⟨h1, h2⟩, h3⟩ := hSw;try simp only [List.getElem_toArray, List.getElem_cons_zero, List.getElem_cons_succ]; go_simp; try (with_reducible rfl))
                        try simp only [List.setIfInBounds_toArray, List.set_cons_zero, List.set_cons_succ]
                        refine held_take 22 152 (v := ?_) rfl rfl (by kernel_rfl) (by kernel_rfl) (by kernel_rfl) (fun _ _ _ h => h) (by rfl) ?_ ⟨⟨z0, z1⟩, z2⟩ ?_
                        rotate_left
                        · (intro w hSw; (try dsimp only at hSw); obtain ⟨⟨h1, h2⟩, h3⟩ := hSw;try simp only [List.getElem_toArray, List.getElem_cons_zero, List.getElem_cons_succ]; go_simp; try (with_reducible rfl))
                        try simp only [List.setIfInBounds_toArray, List.set_cons_zero, List.set_cons_succ]
                        refine held_take 24 154 (v := ?_) rfl rfl (by kernel_rfl) (by kernel_rfl) (by kernel_rfl) (fun _ _ _ h => h) (by rfl) ?_ ⟨⟨z0, z1⟩, z2⟩ ?_
                        rotate_left
                        · (intro w hSw; (try dsimp only at hSw); obtain ⟨⟨h1, h2⟩, h3⟩ := hSw;try simp only [List.getElem_toArray, List.getElem_cons_zero, List.getElem_cons_succ]; go_simp; try (with_reducible rfl))
                        try simp only [List.setIfInBounds_toArray, List.set_cons_zero, List.set_cons_succ]
                        refine held_take 25 155 (v := ?_) rfl rfl (by kernel_rfl) (by kernel_rfl) (by kernel_rfl) (fun _ _ _ h => h) (by rfl) ?_ ⟨⟨z0, z1⟩, z2⟩ ?_
                        rotate_left
                        · (intro w hSw; (try dsimp only at hSw); obtain ⟨⟨h1, h2⟩, h3⟩ := hSw;try simp only [List.getElem_toArray, List.getElem_cons_zero, List.getElem_cons_succ]; go_simp; try (with_reducible rfl))
                        try simp only [List.setIfInBounds_toArray, List.set_cons_zero, List.set_cons_succ]
                        refine held_take 26 156 (v := ?_) rfl rfl (by kernel_rfl) (by kernel_rfl) (by kernel_rfl) (fun _ _ _ h => h) (by rfl) ?_ ⟨⟨z0, z1⟩, z2⟩ ?_
                        rotate_left
                        · (intro w hSw; (try dsimp only at hSw); obtain ⟨⟨h1, h2⟩, h3⟩ := hSw;try simp only [List.getElem_toArray, List.getElem_cons_zero, List.getElem_cons_succ]; go_simp; try (with_reducible rfl))
                        try simp only [List.setIfInBounds_toArray, List.set_cons_zero, List.set_cons_succ]
                        refine held_take 27 157 (v := ?_) rfl rfl (by kernel_rfl) (by kernel_rfl) (by kernel_rfl) (fun _ _ _ h => h) (by rfl) ?_ ⟨⟨z0, z1⟩, z2⟩ ?_
                        rotate_left
                        · (intro w hSw; (try dsimp only at hSw); obtain ⟨⟨h1, h2⟩, h3⟩ := hSw;try simp only [List.getElem_toArray, List.getElem_cons_zero, List.getElem_cons_succ]; go_simp; try (with_reducible rfl))
                        try simp only [List.setIfInBounds_toArray, List.set_cons_zero, List.set_cons_succ]
                        refine held_call 13 143 rfl rfl (by kernel_rfl) (by rfl) (fun K hK => ?_)
                        try simp only [List.getElem_toArray, List.getElem_cons_zero, List.getElem_cons_succ]
                        go_simp
                        (go_at_call 30; (with_reducible refine (HTD.out _ AV.out.nd).mono ?_); rintro e w2 ⟨rfl, rfl⟩)
                        try go_wp2_with fail
                        try simp only [Act.put, List.setIfInBounds_toArray, List.set_cons_zero, List.set_cons_succ]
                        refine hK.out _ _ _ ⟨⟨z0, z1⟩, z2⟩ ?_
                        clear hK K
                        refine held_call 18 148 rfl rfl (by kernel_rfl) (by rfl) (fun K hK => ?_)
                        try simp only [List.getElem_toArray, List.getElem_cons_zero, List.getElem_cons_succ]
                        go_simp
                        (go_at_call 31; (with_reducible refine (make_any m3 q3 _).mono ?_); rintro e w2 ⟨rfl, rfl⟩; rw [HCL.out])
                        try go_wp2_with fail
                        try simp only [Act.put, List.setIfInBounds_toArray, List.set_cons_zero, List.set_cons_succ]
                        refine hK.out _ _ _ ⟨⟨z0, z1⟩, z2⟩ ?_
                        clear hK K
                        refine held_call 19 149 rfl rfl (by kernel_rfl) (by rfl) (fun K hK => ?_)
                        try simp only [List.getElem_toArray, List.getElem_cons_zero, List.getElem_cons_succ]
                        go_simp
                        (go_at_call 32; (with_reducible refine (bet_any _ _ _ _ su1 su2 sm3 sq3 _).mono ?_); rintro e w2 ⟨rfl, rfl⟩; rw [HBT.out])
                        try go_wp2_with fail
                        try simp only [Act.put, List.setIfInBounds_toArray, List.set_cons_zero, List.set_cons_succ]
                        refine hK.out _ _ _ ⟨⟨z0, z1⟩, z2⟩ ?_
                        clear hK K
                        refine held_call 23 153 rfl rfl (by kernel_rfl) (by rfl) (fun K hK => ?_)
                        try simp only [List.getElem_toArray, List.getElem_cons_zero, List.getElem_cons_succ]
                        go_simp
                        (go_at_call 30; (with_reducible refine (HTD.out _ AV.out.nd).mono ?_); rintro e w2 ⟨rfl, rfl⟩)
                        try go_wp2_with fail
                        try simp only [Act.put, List.setIfInBounds_toArray, List.set_cons_zero, List.set_cons_succ]
                        refine hK.out _ _ _ ⟨⟨z0, z1⟩, z2⟩ ?_
                        clear hK K
                        refine held_call 28 158 rfl rfl (by kernel_rfl) (by rfl) (fun K hK => ?_)
                        try simp only [List.getElem_toArray, List.getElem_cons_zero, List.getElem_cons_succ]
                        go_simp
                        (go_at_call 31; (with_reducible refine (make_any m3 q3 _).mono ?_); rintro e w2 ⟨rfl, rfl⟩; rw [HCL.out])
                        try go_wp2_with fail
                        try simp only [Act.put, List.setIfInBounds_toArray, List.set_cons_zero, List.set_cons_succ]
                        refine hK.out _ _ _ ⟨⟨z0, z1⟩, z2⟩ ?_
                        clear hK K
                        refine held_take 29 159 (v := ?_) rfl rfl (by kernel_rfl) (by kernel_rfl) (by kernel_rfl) (fun _ _ _ h => h) (by rfl) ?_ ⟨⟨z0, z1⟩, z2⟩ ?_
                        rotate_left
                        · (intro w hSw; (try dsimp only at hSw); obtain ⟨⟨h1, h2⟩, h3⟩ := hSw;try simp only [List.getElem_toArray, List.getElem_cons_zero, List.getElem_cons_succ]; go_simp; try (with_reducible rfl))
                        try simp only [List.setIfInBounds_toArray, List.set_cons_zero, List.set_cons_succ]
                        refine held_take 30 160 (v := ?_) rfl rfl (by kernel_rfl) (by kernel_rfl) (by kernel_rfl) (fun _ _ _ h => h) (by rfl) ?_ ⟨⟨z0, z1⟩, z2⟩ ?_
                        rotate_left
                        · (intro w hSw; (try dsimp only at hSw); obtain ⟨⟨h1, h2⟩, h3⟩ := hSw;try simp only [List.getElem_toArray, List.getElem_cons_zero, List.getElem_cons_succ]; go_simp; try (with_reducible rfl))
                        try simp only [List.setIfInBounds_toArray, List.set_cons_zero, List.set_cons_succ]
                        refine held_take 31 161 (v := ?_) rfl rfl (by kernel_rfl) (by kernel_rfl) (by kernel_rfl) (fun _ _ _ h => h) (by rfl) ?_ ⟨⟨z0, z1⟩, z2⟩ ?_
                        rotate_left
                        · (intro w hSw; (try dsimp only at hSw); obtain ⟨⟨h1, h2⟩, h3⟩ := hSw;try simp only [List.getElem_toArray, List.getElem_cons_zero, List.getElem_cons_succ]; go_simp; try (with_reducible rfl))
                        try simp only [List.setIfInBounds_toArray, List.set_cons_zero, List.set_cons_succ]
                        refine wpAnyH_done (by kernel_rfl) ?_ _
                        go_wp2
                        go_roundw
                        case rel => exact ⟨j + 1, by omega, by go_num, RW.out, RV'.out, AV.out⟩
                        case measure => simp [intOf]; omega
                    · have hm3' : decide (m3 < 65535) = false := by simpa using hm3
                      clear hji HLW hm3
                      refine wp_region_held_drew (S := (fun w' => (w'.cell? ⟨B2, 0, none⟩ = some (.int .i64 j) ∧ w'.cell? ⟨B2, 1, none⟩ = some (.int .i64 m3)) ∧ w'.cell? ⟨B2, 2, none⟩ = some (.int .u32 q3))) (by kernel_rfl) ⟨⟨z0, z1⟩, z2⟩ (fun _ => ?_)
                      refine held_take 0 130 (v := ?_) rfl rfl (by kernel_rfl) (by kernel_rfl) (by kernel_rfl) (fun _ _ _ h => h) (by rfl) ?_ ⟨⟨z0, z1⟩, z2⟩ ?_
                      rotate_left
                      · (intro w hSw; (try dsimp only at hSw); obtain ⟨⟨h1, h2⟩, h3⟩ := hSw;try simp only [List.getElem_toArray, List.getElem_cons_zero, List.getElem_cons_succ]; go_simp; try (with_reducible rfl))
                      try simp only [List.setIfInBounds_toArray, List.set_cons_zero, List.set_cons_succ]
                      refine held_take 1 131 (v := ?_) rfl rfl (by kernel_rfl) (by kernel_rfl) (by kernel_rfl) (fun _ _ _ h => h) (by rfl) ?_ ⟨⟨z0, z1⟩, z2⟩ ?_
                      rotate_left
                      · (intro w hSw; (try dsimp only at hSw); obtain ⟨⟨h1, h2⟩, h3⟩ := hSw;try simp only [List.getElem_toArray, List.getElem_cons_zero, List.getElem_cons_succ]; go_simp; try (with_reducible rfl))
                      try simp only [List.setIfInBounds_toArray, List.set_cons_zero, List.set_cons_succ]
                      refine held_take 2 132 (v := ?_) rfl rfl (by kernel_rfl) (by kernel_rfl) (by kernel_rfl) (fun _ _ _ h => h) (by rfl) ?_ ⟨⟨z0, z1⟩, z2⟩ ?_
                      rotate_left
                      · (intro w hSw; (try dsimp only at hSw); obtain ⟨⟨h1, h2⟩, h3⟩ := hSw;try simp only [List.getElem_toArray, List.getElem_cons_zero, List.getElem_cons_succ]; go_simp; try (with_reducible rfl))
                      try simp only [List.setIfInBounds_toArray, List.set_cons_zero, List.set_cons_succ]
                      refine held_take 3 133 (v := ?_) rfl rfl (by kernel_rfl) (by kernel_rfl) (by kernel_rfl) (fun _ _ _ h => h) (by rfl) ?_ ⟨⟨z0, z1⟩, z2⟩ ?_
                      rotate_left
                      · (intro w hSw; (try dsimp only at hSw); obtain ⟨⟨h1, h2⟩, h3⟩ := hSw;try simp only [List.getElem_toArray, List.getElem_cons_zero, List.getElem_cons_succ]; go_simp; try (with_reducible rfl))
                      try simp only [List.setIfInBounds_toArray, List.set_cons_zero, List.set_cons_succ]
                      refine held_take 4 134 (v := ?_) rfl rfl (by kernel_rfl) (by kernel_rfl) (by kernel_rfl) (fun _ _ _ h => h) (by rfl) ?_ ⟨⟨z0, z1⟩, z2⟩ ?_
                      rotate_left
                      · (intro w hSw; (try dsimp only at hSw); obtain ⟨⟨h1, h2⟩, h3⟩ := hSw;try simp only [List.getElem_toArray, List.getElem_cons_zero, List.getElem_cons_succ]; go_simp; try (with_reducible rfl))
                      try simp only [List.setIfInBounds_toArray, List.set_cons_zero, List.set_cons_succ]
                      refine held_take 5 135 (v := ?_) rfl rfl (by kernel_rfl) (by kernel_rfl) (by kernel_rfl) (fun _ _ _ h => h) (by rfl) ?_ ⟨⟨z0, z1⟩, z2⟩ ?_
                      rotate_left
                      · (intro w hSw; (try dsimp only at hSw); obtain ⟨⟨h1, h2⟩, h3⟩ := hSw;try simp only [List.getElem_toArray, List.getElem_cons_zero, List.getElem_cons_succ]; go_simp; try (with_reducible rfl))
                      try simp only [List.setIfInBounds_toArray, List.set_cons_zero, List.set_cons_succ]
                      refine held_take 6 136 (v := ?_) rfl rfl (by kernel_rfl) (by kernel_rfl) (by kernel_rfl) (fun _ _ _ h => h) (by rfl) ?_ ⟨⟨z0, z1⟩, z2⟩ ?_
                      rotate_left
                      · (intro w hSw; (try dsimp only at hSw); obtain ⟨⟨h1, h2⟩, h3⟩ := hSw;try simp only [List.getElem_toArray, List.getElem_cons_zero, List.getElem_cons_succ]; go_simp; try (with_reducible rfl))
                      try simp only [List.setIfInBounds_toArray, List.set_cons_zero, List.set_cons_succ]
                      refine held_take 7 137 (v := ?_) rfl rfl (by kernel_rfl) (by kernel_rfl) (by kernel_rfl) (fun _ _ _ h => h) (by rfl) ?_ ⟨⟨z0, z1⟩, z2⟩ ?_
                      rotate_left
                      · (intro w hSw; (try dsimp only at hSw); obtain ⟨⟨h1, h2⟩, h3⟩ := hSw;try simp only [List.getElem_toArray, List.getElem_cons_zero, List.getElem_cons_succ]; go_simp; try (with_reducible rfl))
                      try simp only [List.setIfInBounds_toArray, List.set_cons_zero, List.set_cons_succ]
                      refine held_take 8 138 (v := ?_) rfl rfl (by kernel_rfl) (by kernel_rfl) (by kernel_rfl) (fun _ _ _ h => h) (by rfl) ?_ ⟨⟨z0, z1⟩, z2⟩ ?_
                      rotate_left
                      · (intro w hSw; (try dsimp only at hSw); obtain ⟨⟨h1, h2⟩, h3⟩ := hSw;try simp only [List.getElem_toArray, List.getElem_cons_zero, List.getElem_cons_succ]; go_simp; try (with_reducible rfl))
                      try simp only [List.setIfInBounds_toArray, List.set_cons_zero, List.set_cons_succ]
                      refine held_take 9 139 (v := ?_) rfl rfl (by kernel_rfl) (by kernel_rfl) (by kernel_rfl) (fun _ _ _ h => h) (by rfl) ?_ ⟨⟨z0, z1⟩, z2⟩ ?_
                      rotate_left
                      · (intro w hSw; (try dsimp only at hSw); obtain ⟨⟨h1, h2⟩, h3⟩ := hSw;try simp only [List.getElem_toArray, List.getElem_cons_zero, List.getElem_cons_succ]; go_simp; try (with_reducible rfl))
                      try simp only [List.setIfInBounds_toArray, List.set_cons_zero, List.set_cons_succ]
                      refine held_skip 10 140 rfl rfl (by kernel_rfl) (by kernel_rfl) (by kernel_rfl) (fun _ _ _ h => h) (by rfl) ⟨⟨z0, z1⟩, z2⟩ ?_
                      try simp only [List.setIfInBounds_toArray, List.set_cons_zero, List.set_cons_succ]
                      refine held_skip 11 141 rfl rfl (by kernel_rfl) (by kernel_rfl) (by kernel_rfl) (fun _ _ _ h => h) (by rfl) ⟨⟨z0, z1⟩, z2⟩ ?_
                      try simp only [List.setIfInBounds_toArray, List.set_cons_zero, List.set_cons_succ]
                      refine held_skip 12 142 rfl rfl (by kernel_rfl) (by kernel_rfl) (by kernel_rfl) (fun _ _ _ h => h) (by rfl) ⟨⟨z0, z1⟩, z2⟩ ?_
                      try simp only [List.setIfInBounds_toArray, List.set_cons_zero, List.set_cons_succ]
                      refine held_skip 13 143 rfl rfl (by kernel_rfl) (by kernel_rfl) (by kernel_rfl) (fun _ _ _ h => h) (by rfl) ⟨⟨z0, z1⟩, z2⟩ ?_
                      try simp only [List.setIfInBounds_toArray, List.set_cons_zero, List.set_cons_succ]
                      refine held_skip 14 144 rfl rfl (by kernel_rfl) (by kernel_rfl) (by kernel_rfl) (fun _ _ _ h => h) (by rfl) ⟨⟨z0, z1⟩, z2⟩ ?_
                      try simp only [List.setIfInBounds_toArray, List.set_cons_zero, List.set_cons_succ]
                      refine held_skip 15 145 rfl rfl (by kernel_rfl) (by kernel_rfl) (by kernel_rfl) (fun _ _ _ h => h) (by rfl) ⟨⟨z0, z1⟩, z2⟩ ?_
                      try simp only [List.setIfInBounds_toArray, List.set_cons_zero, List.set_cons_succ]
                      refine held_skip 16 146 rfl rfl (by kernel_rfl) (by kernel_rfl) (by kernel_rfl) (fun _ _ _ h => h) (by rfl) ⟨⟨z0, z1⟩, z2⟩ ?_
                      try simp only [List.setIfInBounds_toArray, List.set_cons_zero, List.set_cons_succ]
                      refine held_skip 17 147 rfl rfl (by kernel_rfl) (by kernel_rfl) (by kernel_rfl) (fun _ _ _ h => h) (by rfl) ⟨⟨z0, z1⟩, z2⟩ ?_
                      try simp only [List.setIfInBounds_toArray, List.set_cons_zero, List.set_cons_succ]
                      refine held_skip 18 148 rfl rfl (by kernel_rfl) (by kernel_rfl) (by kernel_rfl) (fun _ _ _ h => h) (by rfl) ⟨⟨z0, z1⟩, z2⟩ ?_
                      try simp only [List.setIfInBounds_toArray, List.set_cons_zero, List.set_cons_succ]
                      refine held_skip 19 149 rfl rfl (by kernel_rfl) (by kernel_rfl) (by kernel_rfl) (fun _ _ _ h => h) (by rfl) ⟨⟨z0, z1⟩, z2⟩ ?_
                      try simp only [List.setIfInBounds_toArray, List.set_cons_zero, List.set_cons_succ]
                      refine held_skip 20 150 rfl rfl (by kernel_rfl) (by kernel_rfl) (by kernel_rfl) (fun _ _ _ h => h) (by rfl) ⟨⟨z0, z1⟩, z2⟩ ?_
                      try simp only [List.setIfInBounds_toArray, List.set_cons_zero, List.set_cons_succ]
                      refine held_skip 21 151 rfl rfl (by kernel_rfl) (by kernel_rfl) (by kernel_rfl) (fun _ _ _ h => h) (by rfl) ⟨⟨z0, z1⟩, z2⟩ ?_
                      try simp only [List.setIfInBounds_toArray, List.set_cons_zero, List.set_cons_succ]
                      refine held_skip 22 152 rfl rfl (by kernel_rfl) (by kernel_rfl) (by kernel_rfl) (fun _ _ _ h => h) (by rfl) ⟨⟨z0, z1⟩, z2⟩ ?_
                      try simp only [List.setIfInBounds_toArray, List.set_cons_zero, List.set_cons_succ]
                      refine held_skip 23 153 rfl rfl (by kernel_rfl) (by kernel_rfl) (by kernel_rfl) (fun _ _ _ h => h) (by rfl) ⟨⟨z0, z1⟩, z2⟩ ?_
                      try simp only [List.setIfInBounds_toArray, List.set_cons_zero, List.set_cons_succ]
                      refine held_skip 24 154 rfl rfl (by kernel_rfl) (by kernel_rfl) (by kernel_rfl) (fun _ _ _ h => h) (by rfl) ⟨⟨z0, z1⟩, z2⟩ ?_
                      try simp only [List.setIfInBounds_toArray, List.set_cons_zero, List.set_cons_succ]
                      refine held_skip 25 155 rfl rfl (by kernel_rfl) (by kernel_rfl) (by kernel_rfl) (fun _ _ _ h => h) (by rfl) ⟨⟨z0, z1⟩, z2⟩ ?_
                      try simp only [List.setIfInBounds_toArray, List.set_cons_zero, List.set_cons_succ]
                      refine held_skip 26 156 rfl rfl (by kernel_rfl) (by kernel_rfl) (by kernel_rfl) (fun _ _ _ h => h) (by rfl) ⟨⟨z0, z1⟩, z2⟩ ?_
                      try simp only [List.setIfInBounds_toArray, List.set_cons_zero, List.set_cons_succ]
                      refine held_skip 27 157 rfl rfl (by kernel_rfl) (by kernel_rfl) (by kernel_rfl) (fun _ _ _ h => h) (by rfl) ⟨⟨z0, z1⟩, z2⟩ ?_
                      try simp only [List.setIfInBounds_toArray, List.set_cons_zero, List.set_cons_succ]
                      refine held_skip 28 158 rfl rfl (by kernel_rfl) (by kernel_rfl) (by kernel_rfl) (fun _ _ _ h => h) (by rfl) ⟨⟨z0, z1⟩, z2⟩ ?_
                      try simp only [List.setIfInBounds_toArray, List.set_cons_zero, List.set_cons_succ]
                      refine held_skip 29 159 rfl rfl (by kernel_rfl) (by kernel_rfl) (by kernel_rfl) (fun _ _ _ h => h) (by rfl) ⟨⟨z0, z1⟩, z2⟩ ?_
                      try simp only [List.setIfInBounds_toArray, List.set_cons_zero, List.set_cons_succ]
                      refine held_skip 30 160 rfl rfl (by kernel_rfl) (by kernel_rfl) (by kernel_rfl) (fun _ _ _ h => h) (by rfl) ⟨⟨z0, z1⟩, z2⟩ ?_
                      try simp only [List.setIfInBounds_toArray, List.set_cons_zero, List.set_cons_succ]
                      refine held_take 31 161 (v := ?_) rfl rfl (by kernel_rfl) (by kernel_rfl) (by kernel_rfl) (fun _ _ _ h => h) (by rfl) ?_ ⟨⟨z0, z1⟩, z2⟩ ?_
                      rotate_left
                      · (intro w hSw; (try dsimp only at hSw); obtain ⟨⟨h1, h2⟩, h3⟩ := hSw;try simp only [List.getElem_toArray, List.getElem_cons_zero, List.getElem_cons_succ]; go_simp; try (with_reducible rfl))
                      try simp only [List.setIfInBounds_toArray, List.set_cons_zero, List.set_cons_succ]
                      refine wpAnyH_done (by kernel_rfl) ?_ _
                      go_wp2
                      go_roundw
                      case rel => exact ⟨j + 1, by omega, by go_num, RW.out, RV'.out, AV.out⟩
                      case measure => simp [intOf]; omega
                · obtain rfl : tln s a = j := by omega
                  go_wp2
                  go_meet
                  case rel => exact ⟨rfl, tl s a, h, c, N, ⟨(RefN.tl_same s a).trans HS.out.1, (tl_id s a).trans HS.out.2.1, by omega⟩, inv_tl IV.out a, mono_tl s a, RO.out, AJ.out⟩
            clear y1 y3
            by_cases h5 : kk = 5
            · as_aux_lemma =>
              subst h5
              go_wp2_with (go_at_call 23; (with_reducible refine (clear_p A1.out.nd).mono ?_); rintro e w4 ⟨rfl, hn4, ho4⟩; have A4 := Lib.hid (A1.out.node hn4 ho4); have R4 := Lib.hid (ho4.own HO.out (fun q hq e => HNB.out (e ▸ hq))); clear hn4 ho4)
              go_meet
              case rel => exact ⟨rfl, s.clear, h, c, N, ⟨HS.out.1, HS.out.2.1, by omega⟩, inv_clear IV.out, mono_same rfl, R4.out, A4.out⟩
            have e1 : (kk == 1) = false := by simpa using h1
            have e2 : (kk == 2) = false := by simpa using h2
            have e3 : (kk == 3) = false := by simpa using h3
            have e5 : (kk == 5) = false := by simpa using h5
            clear h1 h2 h3 h5
            go_wp2
            go_meet
            case rel => exact ⟨rfl, s, h, c, N, ⟨HS.out.1, HS.out.2.1, by omega⟩, IV.out, mono_same rfl, HO.out, A1.out⟩
          case rest =>
            as_aux_lemma =>
            obtain ⟨rfl, s2, h2, c2, N2, hs2, hi2, hm2, hr2, ha2⟩ := hcut
            have HS2 := Lib.hid hs2
            have I2 := Lib.hid hi2
            have M2 := Lib.hid hm2
            have R2 := Lib.hid hr2
            have A2 := Lib.hid ha2
            clear hs2 hi2 hm2 hr2 ha2 HO A1 X1 z0
            obtain ⟨gs, caps, rfl, _, _, _⟩ := own_form R2.out (by omega)
            go_wp2
            go_loopw [168] (fun s168 wx => ∃ d : Nat, d ≤ n ∧ s168 = .int .i64 d ∧ wx.ownsRow w.heap.size 55 1 (.slice (some ⟨gs, 0, none⟩) n caps) n (toldRow s n) ∧ All w wx bx b9 b10 s2 h2 c2 N2) (fun s168 _ => n - (intOf s168).toNat)
            case atStart => exact ⟨0, by omega, rfl, R2.out, A2.out⟩
            case round =>
              obtain ⟨d, hd, rfl, hro, hal⟩ := hrel
              have RO := Lib.hid hro
              have D := Lib.hid hal
              clear hro hal R2 A2
              by_cases hdn : d < n
              · have hdn' : (d : Int) < (n : Int) := by omega
                have d0 : (0 : Int) ≤ (d : Int) := by omega
                have hd6 : d < 6 := by omega
                have hds : d < s2.n := by rw [HS2.out.1]; exact hdn
                have hcell := own_cell RO.out d (dp (s.told d)) (toldRow_get s n d hdn)
                have hmo := M2.out d
                have hwo := WFT.out d
                have hwu := D.out.nd.wf.told d
                have htu := fun (w9 : World) (h : Nd w w9 bx s2) => told_any bx s2 d w9 h.isn hds
                have hrp := fun (w9 : World) (h : Nd w w9 bx s2) => nd_route h d
                have hrr := route_range s2 D.out.nd.wf d
                have hby := fun (hne : d ≠ s2.id) (nx : Int) (p : Int × Int) => route_by I2.out hds hne (nx := nx) (p := p)
                have hin := D.out.nd.wf.inn d
                obtain ⟨⟨a1, a2⟩, ha⟩ : ∃ x, s.told d = x := ⟨_, rfl⟩
                obtain ⟨⟨u1, u2⟩, hu⟩ : ∃ x, s2.told d = x := ⟨_, rfl⟩
                obtain ⟨nx, ⟨mm, qq⟩, ok, hr⟩ : ∃ nx mq ok, s2.route d = (nx, mq, ok) := ⟨_, _, _, rfl⟩
                rw [ha] at hcell hmo hwo
                rw [hu] at hmo hwu htu hby
                rw [hr] at hrp hrr hby
                dsimp only at hcell hmo hwo hwu htu hby hrp hrr
                have sa1 : Sm a1 := ⟨hwo.1.1, by have := hwo.1.2; omega⟩
                have sa2 := hwo.2
                have su1 : Sm u1 := ⟨hwu.1.1, by have := hwu.1.2; omega⟩
                have su2 := hwu.2
                have smm : Sm mm := ⟨hrr.1.1, by have := hrr.1.2; omega⟩
                have sqq := hrr.2
                have HTU := Lib.hid htu
                have HRP := Lib.hid hrp
                have HBY := Lib.hid hby
                have HIN := Lib.hid hin
                clear hwo hwu hrr htu hrp hby hin ha hu hr
                have D1 := Lib.hid D.out.drew
                go_upto_region 43 with fail
                go_cut [186] (fun s186 wx => s186 = .bool false ∧ wx = wr.drew)
                case first =>
                  as_aux_lemma =>
                  clear smm sqq HRP HBY HIN
                  cases hb : bet a1 a2 u1 u2
                  · clear hmo
                    refine wp_region_held_drew (S := (fun w' => w'.cell? ⟨gs, d, none⟩ = some (dv a1 a2))) (by kernel_rfl) hcell (fun _ => ?_)
                    refine held_take 0 171 (v := ?_) rfl rfl (by kernel_rfl) (by kernel_rfl) (by kernel_rfl) (fun _ _ _ h => h) (by rfl) ?_ hcell ?_
                    rotate_left
                    · (intro w hSw; (try dsimp only at hSw); try simp only [List.getElem_toArray, List.getElem_cons_zero, List.getElem_cons_succ]; go_simp; try (with_reducible rfl))
                    try simp only [List.setIfInBounds_toArray, List.set_cons_zero, List.set_cons_succ]
                    refine held_take 1 172 (v := ?_) rfl rfl (by kernel_rfl) (by kernel_rfl) (by kernel_rfl) (fun _ _ _ h => h) (by rfl) ?_ hcell ?_
                    rotate_left
                    · (intro w hSw; (try dsimp only at hSw); try simp only [List.getElem_toArray, List.getElem_cons_zero, List.getElem_cons_succ]; go_simp; try (with_reducible rfl))
                    try simp only [List.setIfInBounds_toArray, List.set_cons_zero, List.set_cons_succ]
                    refine held_take 2 173 (v := ?_) rfl rfl (by kernel_rfl) (by kernel_rfl) (by kernel_rfl) (fun _ _ _ h => h) (by rfl) ?_ hcell ?_
                    rotate_left
                    · (intro w hSw; (try dsimp only at hSw); try simp only [List.getElem_toArray, List.getElem_cons_zero, List.getElem_cons_succ]; go_simp; try (with_reducible rfl))
                    try simp only [List.setIfInBounds_toArray, List.set_cons_zero, List.set_cons_succ]
                    refine held_take 3 174 (v := ?_) rfl rfl (by kernel_rfl) (by kernel_rfl) (by kernel_rfl) (fun _ _ _ h => h) (by rfl) ?_ hcell ?_
                    rotate_left
                    · (intro w hSw; (try dsimp only at hSw); try simp only [List.getElem_toArray, List.getElem_cons_zero, List.getElem_cons_succ]; go_simp; try (with_reducible rfl))
                    try simp only [List.setIfInBounds_toArray, List.set_cons_zero, List.set_cons_succ]
                    refine held_take 4 175 (v := ?_) rfl rfl (by kernel_rfl) (by kernel_rfl) (by kernel_rfl) (fun _ _ _ h => h) (by rfl) ?_ hcell ?_
                    rotate_left
                    · (intro w hSw; (try dsimp only at hSw); try simp only [List.getElem_toArray, List.getElem_cons_zero, List.getElem_cons_succ]; go_simp; try (with_reducible rfl))
                    try simp only [List.setIfInBounds_toArray, List.set_cons_zero, List.set_cons_succ]
                    refine held_take 5 176 (v := ?_) rfl rfl (by kernel_rfl) (by kernel_rfl) (by kernel_rfl) (fun _ _ _ h => h) (by rfl) ?_ hcell ?_
                    rotate_left
                    · (intro w hSw; (try dsimp only at hSw); try simp only [List.getElem_toArray, List.getElem_cons_zero, List.getElem_cons_succ]; go_simp; try (with_reducible rfl))
                    try simp only [List.setIfInBounds_toArray, List.set_cons_zero, List.set_cons_succ]
                    refine held_call 6 177 rfl rfl (by kernel_rfl) (by rfl) (fun K hK => ?_)
                    try simp only [List.getElem_toArray, List.getElem_cons_zero, List.getElem_cons_succ]
                    go_simp
                    (go_at_call 30; (with_reducible refine (HTU.out _ D1.out.nd).mono ?_); rintro e w2 ⟨rfl, rfl⟩)
                    try go_wp2_with fail
                    try simp only [Act.put, List.setIfInBounds_toArray, List.set_cons_zero, List.set_cons_succ]
                    refine hK.out _ _ _ hcell ?_
                    clear hK K
                    refine held_call 7 178 rfl rfl (by kernel_rfl) (by rfl) (fun K hK => ?_)
                    try simp only [List.getElem_toArray, List.getElem_cons_zero, List.getElem_cons_succ]
                    go_simp
                    (go_at_call 32; (with_reducible refine (bet_any a1 a2 u1 u2 sa1 sa2 su1 su2 _).mono ?_); rintro e w2 ⟨rfl, rfl⟩; rw [hb])
                    try go_wp2_with fail
                    try simp only [Act.put, List.setIfInBounds_toArray, List.set_cons_zero, List.set_cons_succ]
                    refine hK.out _ _ _ hcell ?_
                    clear hK K
                    refine held_take 8 179 (v := ?_) rfl rfl (by kernel_rfl) (by kernel_rfl) (by kernel_rfl) (fun _ _ _ h => h) (by rfl) ?_ hcell ?_
                    rotate_left
                    · (intro w hSw; (try dsimp only at hSw); try simp only [List.getElem_toArray, List.getElem_cons_zero, List.getElem_cons_succ]; go_simp; try (with_reducible rfl))
                    try simp only [List.setIfInBounds_toArray, List.set_cons_zero, List.set_cons_succ]
                    refine held_skip 9 180 rfl rfl (by kernel_rfl) (by kernel_rfl) (by kernel_rfl) (fun _ _ _ h => h) (by rfl) hcell ?_
                    try simp only [List.setIfInBounds_toArray, List.set_cons_zero, List.set_cons_succ]
                    refine held_skip 10 181 rfl rfl (by kernel_rfl) (by kernel_rfl) (by kernel_rfl) (fun _ _ _ h => h) (by rfl) hcell ?_
                    try simp only [List.setIfInBounds_toArray, List.set_cons_zero, List.set_cons_succ]
                    refine held_skip 11 182 rfl rfl (by kernel_rfl) (by kernel_rfl) (by kernel_rfl) (fun _ _ _ h => h) (by rfl) hcell ?_
                    try simp only [List.setIfInBounds_toArray, List.set_cons_zero, List.set_cons_succ]
                    refine held_skip 12 183 rfl rfl (by kernel_rfl) (by kernel_rfl) (by kernel_rfl) (fun _ _ _ h => h) (by rfl) hcell ?_
                    try simp only [List.setIfInBounds_toArray, List.set_cons_zero, List.set_cons_succ]
                    refine held_skip 13 184 rfl rfl (by kernel_rfl) (by kernel_rfl) (by kernel_rfl) (fun _ _ _ h => h) (by rfl) hcell ?_
                    try simp only [List.setIfInBounds_toArray, List.set_cons_zero, List.set_cons_succ]
                    refine held_skip 14 185 rfl rfl (by kernel_rfl) (by kernel_rfl) (by kernel_rfl) (fun _ _ _ h => h) (by rfl) hcell ?_
                    try simp only [List.setIfInBounds_toArray, List.set_cons_zero, List.set_cons_succ]
                    refine held_take 15 186 (v := ?_) rfl rfl (by kernel_rfl) (by kernel_rfl) (by kernel_rfl) (fun _ _ _ h => h) (by rfl) ?_ hcell ?_
                    rotate_left
                    · (intro w hSw; (try dsimp only at hSw); try simp only [List.getElem_toArray, List.getElem_cons_zero, List.getElem_cons_succ]; go_simp; try (with_reducible rfl))
                    try simp only [List.setIfInBounds_toArray, List.set_cons_zero, List.set_cons_succ]
                    refine wpAnyH_done (by kernel_rfl) ?_ _
                    go_wp2
                    go_meet
                    case rel => exact ⟨rfl, rfl⟩
                  · have hf1 : decide (65535 ≤ a1) = true := by
                      rcases hmo with h | h
                      · simpa using h
                      · rw [hb] at h; cases h
                    clear hmo
                    refine wp_region_held_drew (S := (fun w' => w'.cell? ⟨gs, d, none⟩ = some (dv a1 a2))) (by kernel_rfl) hcell (fun _ => ?_)
                    refine held_take 0 171 (v := ?_) rfl rfl (by kernel_rfl) (by kernel_rfl) (by kernel_rfl) (fun _ _ _ h => h) (by rfl) ?_ hcell ?_
                    rotate_left
                    · (intro w hSw; (try dsimp only at hSw); try simp only [List.getElem_toArray, List.getElem_cons_zero, List.getElem_cons_succ]; go_simp; try (with_reducible rfl))
                    try simp only [List.setIfInBounds_toArray, List.set_cons_zero, List.set_cons_succ]
                    refine held_take 1 172 (v := ?_) rfl rfl (by kernel_rfl) (by kernel_rfl) (by kernel_rfl) (fun _ _ _ h => h) (by rfl) ?_ hcell ?_
                    rotate_left
                    · (intro w hSw; (try dsimp only at hSw); try simp only [List.getElem_toArray, List.getElem_cons_zero, List.getElem_cons_succ]; go_simp; try (with_reducible rfl))
                    try simp only [List.setIfInBounds_toArray, List.set_cons_zero, List.set_cons_succ]
                    refine held_take 2 173 (v := ?_) rfl rfl (by kernel_rfl) (by kernel_rfl) (by kernel_rfl) (fun _ _ _ h => h) (by rfl) ?_ hcell ?_
                    rotate_left
                    · (intro w hSw; (try dsimp only at hSw); try simp only [List.getElem_toArray, List.getElem_cons_zero, List.getElem_cons_succ]; go_simp; try (with_reducible rfl))
                    try simp only [List.setIfInBounds_toArray, List.set_cons_zero, List.set_cons_succ]
                    refine held_take 3 174 (v := ?_) rfl rfl (by kernel_rfl) (by kernel_rfl) (by kernel_rfl) (fun _ _ _ h => h) (by rfl) ?_ hcell ?_
                    rotate_left
                    · (intro w hSw; (try dsimp only at hSw); try simp only [List.getElem_toArray, List.getElem_cons_zero, List.getElem_cons_succ]; go_simp; try (with_reducible rfl))
                    try simp only [List.setIfInBounds_toArray, List.set_cons_zero, List.set_cons_succ]
                    refine held_take 4 175 (v := ?_) rfl rfl (by kernel_rfl) (by kernel_rfl) (by kernel_rfl) (fun _ _ _ h => h) (by rfl) ?_ hcell ?_
                    rotate_left
                    · (intro w hSw; (try dsimp only at hSw); try simp only [List.getElem_toArray, List.getElem_cons_zero, List.getElem_cons_succ]; go_simp; try (with_reducible rfl))
                    try simp only [List.setIfInBounds_toArray, List.set_cons_zero, List.set_cons_succ]
                    refine held_take 5 176 (v := ?_) rfl rfl (by kernel_rfl) (by kernel_rfl) (by kernel_rfl) (fun _ _ _ h => h) (by rfl) ?_ hcell ?_
                    rotate_left
                    · (intro w hSw; (try dsimp only at hSw); try simp only [List.getElem_toArray, List.getElem_cons_zero, List.getElem_cons_succ]; go_simp; try (with_reducible rfl))
                    try simp only [List.setIfInBounds_toArray, List.set_cons_zero, List.set_cons_succ]
                    refine held_call 6 177 rfl rfl (by kernel_rfl) (by rfl) (fun K hK => ?_)
                    try simp only [List.getElem_toArray, List.getElem_cons_zero, List.getElem_cons_succ]
                    go_simp
                    (go_at_call 30; (with_reducible refine (HTU.out _ D1.out.nd).mono ?_); rintro e w2 ⟨rfl, rfl⟩)
                    try go_wp2_with fail
                    try simp only [Act.put, List.setIfInBounds_toArray, List.set_cons_zero, List.set_cons_succ]
                    refine hK.out _ _ _ hcell ?_
                    clear hK K
                    refine held_call 7 178 rfl rfl (by kernel_rfl) (by rfl) (fun K hK => ?_)
                    try simp only [List.getElem_toArray, List.getElem_cons_zero, List.getElem_cons_succ]
                    go_simp
                    (go_at_call 32; (with_reducible refine (bet_any a1 a2 u1 u2 sa1 sa2 su1 su2 _).mono ?_); rintro e w2 ⟨rfl, rfl⟩; rw [hb])
                    try go_wp2_with fail
                    try simp only [Act.put, List.setIfInBounds_toArray, List.set_cons_zero, List.set_cons_succ]
                    refine hK.out _ _ _ hcell ?_
                    clear hK K
                    refine held_take 8 179 (v := ?_) rfl rfl (by kernel_rfl) (by kernel_rfl) (by kernel_rfl) (fun _ _ _ h => h) (by rfl) ?_ hcell ?_
                    rotate_left
                    · (intro w hSw; (try dsimp only at hSw); try simp only [List.getElem_toArray, List.getElem_cons_zero, List.getElem_cons_succ]; go_simp; try (with_reducible rfl))
                    try simp only [List.setIfInBounds_toArray, List.set_cons_zero, List.set_cons_succ]
                    refine held_take 9 180 (v := ?_) rfl rfl (by kernel_rfl) (by kernel_rfl) (by kernel_rfl) (fun _ _ _ h => h) (by rfl) ?_ hcell ?_
                    rotate_left
                    · (intro w hSw; (try dsimp only at hSw); try simp only [List.getElem_toArray, List.getElem_cons_zero, List.getElem_cons_succ]; go_simp; try (with_reducible rfl))
                    try simp only [List.setIfInBounds_toArray, List.set_cons_zero, List.set_cons_succ]
                    refine held_take 10 181 (v := ?_) rfl rfl (by kernel_rfl) (by kernel_rfl) (by kernel_rfl) (fun _ _ _ h => h) (by rfl) ?_ hcell ?_
                    rotate_left
                    · (intro w hSw; (try dsimp only at hSw); try simp only [List.getElem_toArray, List.getElem_cons_zero, List.getElem_cons_succ]; go_simp; try (with_reducible rfl))
                    try simp only [List.setIfInBounds_toArray, List.set_cons_zero, List.set_cons_succ]
                    refine held_take 11 182 (v := ?_) rfl rfl (by kernel_rfl) (by kernel_rfl) (by kernel_rfl) (fun _ _ _ h => h) (by rfl) ?_ hcell ?_
                    rotate_left
                    · (intro w hSw; (try dsimp only at hSw); try simp only [List.getElem_toArray, List.getElem_cons_zero, List.getElem_cons_succ]; go_simp; try (with_reducible rfl))
                    try simp only [List.setIfInBounds_toArray, List.set_cons_zero, List.set_cons_succ]
                    refine held_take 12 183 (v := ?_) rfl rfl (by kernel_rfl) (by kernel_rfl) (by kernel_rfl) (fun _ _ _ h => h) (by rfl) ?_ hcell ?_
                    rotate_left
                    · (intro w hSw; (try dsimp only at hSw); try simp only [List.getElem_toArray, List.getElem_cons_zero, List.getElem_cons_succ]; go_simp; try (with_reducible rfl))
                    try simp only [List.setIfInBounds_toArray, List.set_cons_zero, List.set_cons_succ]
                    refine held_call 13 184 rfl rfl (by kernel_rfl) (by rfl) (fun K hK => ?_)
                    try simp only [List.getElem_toArray, List.getElem_cons_zero, List.getElem_cons_succ]
                    go_simp
                    (go_at_call 33; (with_reducible refine (far_any a1 a2 sa1 _).mono ?_); rintro e w2 ⟨rfl, rfl⟩; rw [hf1])
                    try go_wp2_with fail
                    try simp only [Act.put, List.setIfInBounds_toArray, List.set_cons_zero, List.set_cons_succ]
                    refine hK.out _ _ _ hcell ?_
                    clear hK K
                    refine held_take 14 185 (v := ?_) rfl rfl (by kernel_rfl) (by kernel_rfl) (by kernel_rfl) (fun _ _ _ h => h) (by rfl) ?_ hcell ?_
                    rotate_left
                    · (intro w hSw; (try dsimp only at hSw); try simp only [List.getElem_toArray, List.getElem_cons_zero, List.getElem_cons_succ]; go_simp; try (with_reducible rfl))
                    try simp only [List.setIfInBounds_toArray, List.set_cons_zero, List.set_cons_succ]
                    refine held_take 15 186 (v := ?_) rfl rfl (by kernel_rfl) (by kernel_rfl) (by kernel_rfl) (fun _ _ _ h => h) (by rfl) ?_ hcell ?_
                    rotate_left
                    · (intro w hSw; (try dsimp only at hSw); try simp only [List.getElem_toArray, List.getElem_cons_zero, List.getElem_cons_succ]; go_simp; try (with_reducible rfl))
                    try simp only [List.setIfInBounds_toArray, List.set_cons_zero, List.set_cons_succ]
                    refine wpAnyH_done (by kernel_rfl) ?_ _
                    go_wp2
                    go_meet
                    case rel => exact ⟨rfl, rfl⟩
                case rest =>
                  as_aux_lemma =>
                  obtain ⟨rfl, rfl⟩ := hcut
                  clear hcell hmo sa1 sa2
                  go_upto_region 46 with (go_at_call 26; (with_reducible refine (HRP.out _ D1.out.nd).mono ?_); rintro e w9 ⟨rfl, q9, hq9⟩; have D9 := Lib.hid (show All w w9 bx b9 b10 s2 h2 c2 N2 from hq9 ▸ D1.out.drewN q9); have R9 := Lib.hid (show w9.ownsRow w.heap.size 55 1 (.slice (some ⟨gs, 0, none⟩) n caps) n (toldRow s n) from hq9 ▸ RO.out); clear hq9)
                  cases ok
                  · go_wp2
                    go_roundw
                    case rel => exact ⟨d + 1, by omega, by go_num, R9.out, D9.out⟩
                    case measure => simp [intOf]; omega
                  · by_cases hdi : d = id
                    · have hdi' : ((d : Int) == (id : Int)) = true := by simp [hdi]
                      clear hdi
                      go_wp2
                      go_roundw
                      case rel => exact ⟨d + 1, by omega, by go_num, R9.out, D9.out⟩
                      case measure => simp [intOf]; omega
                    · have hdi' : ((d : Int) == (id : Int)) = false := by simp; omega
                      obtain ⟨k, rfl, hk, hhd, hp, hck, hfe⟩ := HBY.out (by rw [HS2.out.2.1]; exact hdi) nx (mm, qq) rfl
                      have hk6 : k < 6 := by have := HS2.out.1; omega
                      have hrun1 := D9.out.hm.look hd6 hk6
                      have hrun2 := D9.out.cm.look hk6
                      have hin := HIN.out k
                      rw [← hhd] at hin
                      clear hdi hhd
                      generalize h2 d k = x at hrun1 hin hp hfe
                      obtain ⟨im, iq⟩ := x
                      dsimp only at hrun1 hin hp hfe
                      obtain ⟨rfl, rfl⟩ := Prod.mk.inj hp
                      generalize c2 k = cc at hrun2 hck smm
                      have hc1 : ¬ cc < 1 := by omega
                      have sim : Sm im := ⟨hin.1.1, by have := hin.1.2; omega⟩
                      have hi5 := hin.1.2
                      clear hin hp hck
                      by_cases hf : 65535 ≤ u1
                      · have hf' : decide (65535 ≤ u1) = true := by simpa using hf
                        clear hf hfe
                        go_wp2_with (first
                          | (go_at_call 34; (with_reducible refine (add_any im _ cc sim sqq hi5 _).mono ?_); rintro e w2 ⟨rfl, rfl⟩)
                          | (go_at_call 30; (with_reducible refine (HTU.out _ D9.out.nd).mono ?_); rintro e w2 ⟨rfl, rfl⟩)
                          | (go_at_call 33; (with_reducible refine (far_any u1 u2 su1 _).mono ?_); rintro e w2 ⟨rfl, rfl⟩))
                        go_roundw
                        case rel => exact ⟨d + 1, by omega, by go_num, R9.out, D9.out⟩
                        case measure => simp [intOf]; omega
                      · have hf' : decide (65535 ≤ u1) = false := by simpa using hf
                        have hbt := hfe.resolve_left hf
                        clear hf hfe
                        go_wp2_with (first
                          | (go_at_call 34; (with_reducible refine (add_any im _ cc sim sqq hi5 _).mono ?_); rintro e w2 ⟨rfl, rfl⟩)
                          | (go_at_call 30; (with_reducible refine (HTU.out _ D9.out.nd).mono ?_); rintro e w2 ⟨rfl, rfl⟩)
                          | (go_at_call 33; (with_reducible refine (far_any u1 u2 su1 _).mono ?_); rintro e w2 ⟨rfl, rfl⟩)
                          | (go_at_call 32; (with_reducible refine (bet_any im _ u1 u2 sim sqq su1 su2 _).mono ?_); rintro e w2 ⟨rfl, rfl⟩))
                        go_roundw
                        case rel => exact ⟨d + 1, by omega, by go_num, R9.out, D9.out⟩
                        case measure => simp [intOf]; omega
              · obtain rfl : n = d := by omega
                go_wp2
                go_roundw
                case rel => exact ⟨i + 1, N2, s2, h2, c2, by omega, by go_num, ⟨HS2.out.1, HS2.out.2.1, by have := HS2.out.2.2; have := HS.out.2.2; omega⟩, I2.out, D.out⟩
                case measure => simp [intOf]; omega
    · obtain rfl : m = i := by omega
      go_wp2
      go_ret
      exact ⟨rfl, AL.out.nd.bel⟩
end EngineBelow
end Go.Proofs.Ytcmknllefnahkaa
