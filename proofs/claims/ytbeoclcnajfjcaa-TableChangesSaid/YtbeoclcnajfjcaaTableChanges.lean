/-
  TableChanges: the walk. Conditions: none.
-/
import Derived.Test.YtbeoclcnajfjcaaLawP
import Derived.Test.YtbeoclcnajfjcaaOpenL
import Derived.Test.YtbeoclcnajfjcaaChgQ
import Derived.Test.YtbeoclcnajfjcaaRefI
import Derived.Test.YtbeoclcnajfjcaaRefH
namespace Go.Proofs.Ytbeoclcnajfjcaa.TableChanges
open Go Go.RowKit H2 Tab
set_option linter.unusedVariables false
set_option linter.unusedSimpArgs false
theorem rd_nil {w : World} {A : Option Addr} {L : List Rt} (h : Rd w A L) : A = none → L = [] := fun e => by
  rw [e] at h
  cases hL : L with
  | nil => rfl
  | cons x M =>
    obtain ⟨_, _, h0, _⟩ := h 0 (by rw [hL]; simp)
    cases h0
set_option maxRecDepth 100000 in
set_option maxHeartbeats 40000000 in
theorem walk (v0 v1 : Value) (W : World) (w0 : Tab.IsRs W v0) (w1 : Tab.IsRs W v1) : Calls Try.prog 5 #[v0, v1] W fun e w' => e = .returned (.bool true) ∧ Below W.heap.size W w' := by
  obtain ⟨A, cap, L, rfl, hl, hr⟩ := w0
  obtain ⟨A', cap', L', rfl, hl', hr'⟩ := w1
  have HR := Lib.hid hr
  have HR' := Lib.hid hr'
  obtain ⟨n, hn⟩ : ∃ n, L.length = n := ⟨_, rfl⟩
  obtain ⟨m, hm⟩ : ∃ m, L'.length = m := ⟨_, rfl⟩
  have HN := Lib.hid hn
  have HM := Lib.hid hm
  rw [hn] at hl ⊢
  rw [hm] at hl' ⊢
  unfold maxLen at hl hl'
  have hl := Nat.le_trans hl.1 hl.2
  have hl' := Nat.le_trans hl'.1 hl'.2
  clear hr hr' hn hm
  have n0 : (0 : Int) ≤ (n : Int) := by omega
  have m0 : (0 : Int) ≤ (m : Int) := by omega
  have hb := Lib.hid (Below.refl W.heap.size W)
  by_cases hbig : (300 : Int) < (n : Int)
  · have hbd : decide ((300 : Int) < (n : Int)) = true := decide_eq_true hbig
    go_enter Try.func5, Try.ntmps5
    go_wp2_with (first
      | (go_at_call 10; (with_reducible refine (awake_any _).mono ?_); rintro e w1 ⟨rfl, h1⟩; have hb := Lib.hid (hb.out.trans (h1.mono hb.out.size)); clear h1))
    go_ret
    exact ⟨rfl, hb.out⟩
  have hbd : decide ((300 : Int) < (n : Int)) = false := decide_eq_false hbig
  by_cases hbig' : (300 : Int) < (m : Int)
  · have hbd' : decide ((300 : Int) < (m : Int)) = true := decide_eq_true hbig'
    go_enter Try.func5, Try.ntmps5
    go_wp2_with (first
      | (go_at_call 10; (with_reducible refine (awake_any _).mono ?_); rintro e w1 ⟨rfl, h1⟩; have hb := Lib.hid (hb.out.trans (h1.mono hb.out.size)); clear h1))
    go_ret
    exact ⟨rfl, hb.out⟩
  have hbd' : decide ((300 : Int) < (m : Int)) = false := decide_eq_false hbig'
  have hn3 : n ≤ 300 := by omega
  have hm3 : m ≤ 300 := by omega
  have HNI := Lib.hid (rd_nil HR.out)
  have HNI' := Lib.hid (rd_nil HR'.out)
  obtain ⟨ca, hca⟩ : ∃ c, newC L = c := ⟨_, rfl⟩
  obtain ⟨cb, hcb⟩ : ∃ c, newC L' = c := ⟨_, rfl⟩
  have HCA := Lib.hid hca
  have HCB := Lib.hid hcb
  clear hca hcb
  by_cases hca : ca = 0
  · subst hca
    by_cases hcb : cb = 0
    · subst hcb
      obtain ⟨T, hT⟩ : ∃ T, fold L = T := ⟨_, rfl⟩
      obtain ⟨T', hT'⟩ : ∃ T, fold L' = T := ⟨_, rfl⟩
      have HTF := Lib.hid hT
      have HTF' := Lib.hid hT'
      clear hT hT'
      obtain ⟨CH, hCH⟩ : ∃ C, chg T T' = C := ⟨_, rfl⟩
      have HCH := Lib.hid hCH
      clear hCH
      go_enter Try.func5, Try.ntmps5
      go_wp2_with (first
        | (go_at_call 10; (with_reducible refine (awake_any _).mono ?_); rintro e w1 ⟨rfl, h1⟩; have hb := Lib.hid (hb.out.trans (h1.mono hb.out.size)); clear h1)
        | (refine wpList_row_run (o := ⟨some 27, .buildSlice 31 0 #[], _, _, _, _⟩) rfl 31 0 #[] rfl #[] (by simp) (row_R0 _) ?_)
        | (refine wpList_appR rfl (.tmp 27) (.tmp 28) rfl _ [] L A n cap HN.out rfl rfl (gr_zero w1) ((HR.out.below hb.out).below ((Below.refl _ _).alloc (Nat.le_refl _) _)) HNI.out (by have := HN.out; simp; omega) ?_; rintro v7 w7 h7 _; rw [List.nil_append] at h7; have hb := Lib.hid (hb.out.trans (h7.bel.mono hb.out.size)); obtain ⟨A7, c7, hv7⟩ := h7.rv; obtain rfl := hv7.eq; have HNW := Lib.hid (new_any A7 c7 L (by have := HN.out; omega) w7 hv7); clear h7 hv7)
        | (go_at_call 11; (with_reducible refine (HNW.out).mono ?_); rintro e w8 ⟨h8, h9⟩; obtain ⟨b8, v8, h10, h11⟩ := made_ok h8 HCA.out HTF.out; subst h10; have HT8 := Lib.hid h11; clear h11; have hb := Lib.hid (hb.out.trans (h9.mono hb.out.size)); clear h8 h9)
        | (refine wpList_row_run (o := ⟨some 34, .buildSlice 31 0 #[], _, _, _, _⟩) rfl 31 0 #[] rfl #[] (by simp) (row_R0 _) ?_)
        | (refine wpList_appR rfl (.tmp 34) (.tmp 35) rfl _ [] L' A' m cap' HM.out rfl rfl (gr_zero w8) ((HR'.out.below hb.out).below ((Below.refl _ _).alloc (Nat.le_refl _) _)) HNI'.out (by have := HM.out; simp; omega) ?_; rintro v9 w9 h7 _; rw [List.nil_append] at h7; have hb := Lib.hid (hb.out.trans (h7.bel.mono hb.out.size)); have HT8 := Lib.hid (HT8.out.below h7.bel); obtain ⟨A9, c9, hv7⟩ := h7.rv; obtain rfl := hv7.eq; have HNW' := Lib.hid (new_any A9 c9 L' (by have := HM.out; omega) w9 hv7); clear h7 hv7)
        | (go_at_call 11; (with_reducible refine (HNW'.out).mono ?_); rintro e w10 ⟨h8, h9⟩; obtain ⟨b10, v10, h10, h11⟩ := made_ok h8 HCB.out HTF'.out; subst h10; have HT8 := Lib.hid (HT8.out.below h9); have HT10 := Lib.hid h11; clear h11; have hb := Lib.hid (hb.out.trans (h9.mono hb.out.size)); clear h8 h9)
        | (go_at_call 28; (with_reducible refine (changes_any _ _ T T' _ (allOf_tb HT8.out) (allOf_tb HT10.out) HT8.out.tok.len HT10.out.tok.len).mono ?_); rintro e w11 ⟨v11, rfl, h1, h2⟩; rw [HCH.out] at h1; obtain ⟨A11, c11, hv11⟩ := ownI_rv h1; obtain rfl := hv11.eq; have HRI := Lib.hid hv11.rd; have HT8 := Lib.hid (HT8.out.below h2); have HT10 := Lib.hid (HT10.out.below h2); have hb := Lib.hid (hb.out.trans (h2.mono hb.out.size)); clear h1 h2 hv11) | (go_at_call 29; (with_reducible refine (copy_any _ HT8.out).mono ?_); rintro e w12 ⟨bc, vc, rfl, h1, h2⟩; have HTC := Lib.hid h1; have HB12 := Lib.hid h2; clear h1 h2))
      obtain ⟨nl, hnl⟩ : ∃ k, CH.length = k := ⟨_, rfl⟩
      have HNL := Lib.hid hnl
      have hnl6 : nl ≤ 600 := by rw [← hnl, ← HCH.out]; exact chg_len 600 T T' (by have := HT8.out.tok.len; have := HT10.out.tok.len; omega)
      rw [hnl]
      clear hnl hbig hbig' hbd hbd' hn3 hm3 hl hl' n0 m0 HN HM HR HR' HNI HNI' HNW HNW' HCA HCB HTF HTF'
      go_loopw [53] (fun s53 wr => ∃ (k : Nat) (v : Value) (E A2 B2 : List Rt), k ≤ nl ∧ s53 = .int .i64 k ∧ Tb w11.heap.size wr bc v (E ++ A2) ∧ Below w11.heap.size w11 wr ∧ Std E A2 B2 ∧ CH.drop k = chg A2 B2 ∧ (T.length + T'.length ≤ 300 → E ++ B2 = T' ∧ A2.length ≤ T.length)) (fun s53 _ => nl - (intOf s53).toNat)
      case atStart => exact ⟨0, vc, [], T, T', by omega, rfl, HTC.out, HB12.out, std_start HT8.out.tok.srt HT10.out.tok.srt HT8.out.tok.ok HT10.out.tok.ok HT8.out.tok.len, by rw [List.drop_zero]; exact HCH.out.symm, fun _ => ⟨rfl, Nat.le_refl _⟩⟩
      case round =>
        clear HTC HB12
        obtain ⟨k, v, E, A2, B2, hk, rfl, ht, hbb, hstd, hdr, hfl⟩ := hrel
        have HT := Lib.hid ht
        have HB := Lib.hid hbb
        have HST := Lib.hid hstd
        have HDR := Lib.hid hdr
        have HFL := Lib.hid hfl
        clear ht hbb hstd hdr hfl
        by_cases hlt : k < nl
        · have hlt' : (k : Int) < (nl : Int) := by omega
          have k0 : (0 : Int) ≤ (k : Int) := by omega
          have hkl : k < CH.length := by rw [HNL.out]; exact hlt
          obtain ⟨g, o, rfl, hx⟩ := HRI.out k hkl
          have HX := Lib.hid (hx.below HB.out)
          have hsg := chg_step (A2.length + B2.length) E A2 B2 (Nat.le_refl _) HST.out CH[k] (CH.drop (k + 1)) (by rw [← HDR.out]; exact List.drop_eq_getElem_cons hkl)
          have HSG := Lib.hid hsg
          clear hx hsg
          generalize CH[k] = x at HX HSG
          obtain ⟨hco, E2, A3, B3, hd2, hs2, hc2, hf2⟩ := HSG.out
          have HD2 := Lib.hid hd2
          have HS2 := Lib.hid hs2
          have HC2 := Lib.hid hc2
          have HF2 := Lib.hid (fun h : T.length + T'.length ≤ 300 => hf2 T' T.length (HFL.out h).2 h (HFL.out h).1)
          rw [hd2] at hco
          clear hd2 hs2 hc2 hf2 HSG
          have hl1 : Sem.run Try.prog (loadCellsFrom ⟨g, o + k * n21, none⟩ 0 n21 #[]) wr = .ok (Tab.encI x).toArray wr := HX.out.all.load (k := n21) (Tab.encI_n _) Try.prog
          have hst := store_row (o := 0) (vs := Tab.encI x) (heap_alloc_new wr (.cells (Tab.encI zI).toArray 43 (0, 0))) (by simp [Tab.encI_len]) (Tab.encI_one _) Try.prog
          rw [splice_whole (by simp [Tab.encI_len])] at hst
          obtain ⟨cd, hcd⟩ : ∃ c, doC (E ++ A2) x = c := ⟨_, rfl⟩
          have HCD := Lib.hid hcd
          rw [hcd] at hco
          clear hcd
          have HCO := Lib.hid hco
          clear hco
          by_cases hcd0 : cd = 0
          · subst hcd0
            go_upto_region 12 with fail
            have HBX := Lib.hid (setRow_heap (wr.alloc (.cells (Tab.encI zI).toArray 43 (0, 0))) wr.heap.size _ (Tab.encI x).toArray 43 (0, 0) (heap_alloc_new wr _))
            have hbx := Lib.hid (below_setRow ((Below.refl wr.heap.size wr).alloc (Nat.le_refl _) (.cells (Tab.encI zI).toArray 43 (0, 0))) (Nat.le_refl _) (Tab.encI x).toArray)
            clear hst hl1
            generalize (wr.alloc _).setRow _ _ = W5 at HBX hbx ⊢
            have HT5 := Lib.hid (HT.out.below hbx.out)
            have HB5 := Lib.hid (HB.out.trans (hbx.out.mono HB.out.size))
            have c0 := (at_row HBX.out).load (k := n21) (Tab.encI_n _) Try.prog
            have HDO := Lib.hid (do_any x W5 HT5.out)
            rw [HCD.out, HD2.out] at HDO
            go_wp2_with (go_at_call 16; (with_reducible refine (HDO.out).mono ?_); rintro e w13 ⟨v9, rfl, h1, h2⟩; have HT9 := Lib.hid h1; have HB9 := Lib.hid (HB5.out.trans (tb_below HT5.out h2)); clear h1 h2 c0)
            go_roundw
            case rel => exact ⟨k + 1, v9, E2, A3, B3, by omega, by go_num, HT9.out, HB9.out, HS2.out, HC2.out.symm, HF2.out⟩
            case measure => simp [intOf]; omega
          · have hcd1 : (cd == 0) = false := by simpa using hcd0
            have hcd2 : decide (cd = 0) = false := decide_eq_false hcd0
            have h300 : 300 ≤ (E2 ++ A3).length := HCO.out.resolve_left hcd0
            obtain ⟨q, hq⟩ : ∃ q, (E2 ++ A3).length = q := ⟨_, rfl⟩
            have HQ := Lib.hid hq
            rw [hq] at h300
            have h301 : ¬ (q : Int) < 300 := by omega
            have h302 : decide ((q : Int) < 300) = false := decide_eq_false h301
            clear hq
            go_upto_region 12 with fail
            have HBX := Lib.hid (setRow_heap (wr.alloc (.cells (Tab.encI zI).toArray 43 (0, 0))) wr.heap.size _ (Tab.encI x).toArray 43 (0, 0) (heap_alloc_new wr _))
            have hbx := Lib.hid (below_setRow ((Below.refl wr.heap.size wr).alloc (Nat.le_refl _) (.cells (Tab.encI zI).toArray 43 (0, 0))) (Nat.le_refl _) (Tab.encI x).toArray)
            clear hst hl1
            generalize (wr.alloc _).setRow _ _ = W5 at HBX hbx ⊢
            have HT5 := Lib.hid (HT.out.below hbx.out)
            have HB5 := Lib.hid (HB.out.trans (hbx.out.mono HB.out.size))
            have c0 := (at_row HBX.out).load (k := n21) (Tab.encI_n _) Try.prog
            have HDO := Lib.hid (do_any x W5 HT5.out)
            rw [HCD.out, HD2.out] at HDO
            go_wp2_with (first
              | (go_at_call 16; (with_reducible refine (HDO.out).mono ?_); rintro e w13 ⟨v9, rfl, h1, h2⟩; have HT9 := Lib.hid h1; have HB9 := Lib.hid (HB5.out.trans (tb_below HT5.out h2)); clear h1 h2 c0)
              | (go_at_call 20; (with_reducible refine (len_any _ HT9.out).mono ?_); rintro e w14 ⟨rfl, hw⟩; subst hw; rw [HQ.out]))
            go_roundw
            case rel => exact ⟨k + 1, v9, E2, A3, B3, by omega, by go_num, HT9.out, HB9.out, HS2.out, HC2.out.symm, HF2.out⟩
            case measure => simp [intOf]; omega
        · obtain rfl : k = nl := by omega
          have hkk : ¬ (k : Int) < (k : Int) := by omega
          have hab : A2 = B2 := chg_nil _ A2 B2 (Nat.le_refl _) (by rw [← HDR.out]; exact List.drop_of_length_le (by rw [HNL.out]; exact Nat.le_refl _))
          have HFZ := Lib.hid (fun h : T.length + T'.length ≤ 300 => show E ++ A2 = T' by rw [hab]; exact (HFL.out h).1)
          clear hab hlt hk HST HDR HFL
          have HT8 := Lib.hid (HT8.out.below HB.out)
          have HT10 := Lib.hid (HT10.out.below HB.out)
          have HWZ := Lib.hid (hb.out.trans (HB.out.mono hb.out.size))
          have HRZ := Lib.hid (fun (V : World) (hb : Below wr.heap.size wr V) => (HRI.out.below HB.out).below hb)
          have h3 := HT8.out.tok.len
          have h4 := HT10.out.tok.len
          have HL3 := Lib.hid h3
          have HL4 := Lib.hid h4
          have HB0 := Lib.hid (Below.refl wr.heap.size wr)
          have HAX := Lib.hid (fun (V : World) (hb : Below wr.heap.size wr V) => all_any V (HT8.out.below hb))
          have HAY := Lib.hid (fun (V : World) (hb : Below wr.heap.size wr V) => all_any V (HT10.out.below hb))
          have HLX := Lib.hid (fun (V : World) (hb : Below wr.heap.size wr V) => len_any V (HT8.out.below hb))
          have HLY := Lib.hid (fun (V : World) (hb : Below wr.heap.size wr V) => len_any V (HT10.out.below hb))
          have HSC := Lib.hid (fun (V : World) (hb : Below wr.heap.size wr V) => same_any V (HT.out.below hb) (HT10.out.below hb))
          have HSX := Lib.hid (fun (V : World) (hb : Below wr.heap.size wr V) => same_any V (HT8.out.below hb) (HT10.out.below hb))
          have HCX := Lib.hid (fun (V : World) (hb : Below wr.heap.size wr V) => changes_any _ _ T T V (allOf_tb (HT8.out.below hb)) (allOf_tb (HT8.out.below hb)) h3 h3)
          rw [chg_self] at HCX
          obtain ⟨p, hp⟩ : ∃ q, T.length = q := ⟨_, rfl⟩
          obtain ⟨q, hq⟩ : ∃ q, T'.length = q := ⟨_, rfl⟩
          have HP := Lib.hid hp
          have HQ := Lib.hid hq
          rw [hp] at h3
          rw [hq] at h4
          have hpq : IntKind.i64.wrap ((p : Int) + (q : Int)) = (p : Int) + (q : Int) := IntWalk.i64_in _ (by omega)
          clear hp hq HT8 HT10 HT HRI
          obtain ⟨d1, hd1⟩ : ∃ d, decide (E ++ A2 = T') = d := ⟨_, rfl⟩
          obtain ⟨d2, hd2⟩ : ∃ d, decide (T = T') = d := ⟨_, rfl⟩
          have HD1 := Lib.hid hd1
          have HD2 := Lib.hid hd2
          rw [hd1] at HSC
          rw [hd2] at HSX
          clear hd1 hd2
          cases d1 with
          | true =>
            cases d2 with
            | true =>
              have hk0 : k = 0 := by rw [← HNL.out, ← HCH.out, of_decide_eq_true HD2.out, chg_self]; rfl
              subst hk0
              go_wp2_with (first
                | (go_at_call 22; (with_reducible refine (HAX.out _ HB0.out).mono ?_); rintro e w15 ⟨v15, rfl, h1, h2⟩; obtain ⟨A15, c15, hv15, _⟩ := own_rv h1; obtain rfl := hv15.eq; have HR15 := Lib.hid hv15.rd; have HB0 := Lib.hid (HB0.out.trans (h2.mono HB0.out.size)); clear h1 h2 hv15)
                | (go_at_call 22; (with_reducible refine (HAY.out _ HB0.out).mono ?_); rintro e w16 ⟨v16, rfl, h1, h2⟩; obtain ⟨A16, c16, hv16, _⟩ := own_rv h1; obtain rfl := hv16.eq; have HRC := Lib.hid (refChanges_any A15 A16 c15 c16 T T' HL3.out HL4.out w16 (HR15.out.below h2) hv16.rd); rw [HCH.out] at HRC; have HB0 := Lib.hid (HB0.out.trans (h2.mono HB0.out.size)); clear h1 h2 hv16)
                | (go_at_call 31; (with_reducible refine (HRC.out).mono ?_); rintro e w17 ⟨v17, rfl, h1, h2⟩; obtain ⟨A17, c17, hv17⟩ := ownI_rv h1; obtain rfl := hv17.eq; have HB0 := Lib.hid (HB0.out.trans (h2.mono HB0.out.size)); have HSI := Lib.hid (refSameI_any A11 A17 c11 c17 CH CH (by rw [HNL.out]; omega) (by rw [HNL.out]; omega) w17 (HRZ.out _ HB0.out) hv17.rd); rw [decide_eq_true rfl, HNL.out] at HSI; rw [HNL.out]; clear h1 h2 hv17)
                | (go_at_call 30; (with_reducible refine (HSI.out).mono ?_); rintro e w18 ⟨rfl, h2⟩; have HB0 := Lib.hid (HB0.out.trans (h2.mono HB0.out.size)); clear h2)
                | (go_at_call 32; (with_reducible refine (HSC.out _ HB0.out).mono ?_); rintro e w19 ⟨rfl, h2⟩; have HB0 := Lib.hid (HB0.out.trans (h2.mono HB0.out.size)); clear h2)
                | (go_at_call 32; (with_reducible refine (HSX.out _ HB0.out).mono ?_); rintro e w20 ⟨rfl, h2⟩; have HB0 := Lib.hid (HB0.out.trans (h2.mono HB0.out.size)); clear h2)
                | (go_at_call 20; (with_reducible refine (HLX.out _ HB0.out).mono ?_); rintro e w21 ⟨rfl, hw⟩; subst hw; rw [HP.out])
                | (go_at_call 20; (with_reducible refine (HLY.out _ HB0.out).mono ?_); rintro e w22 ⟨rfl, hw⟩; subst hw; rw [HQ.out])
                | (go_at_call 28; (with_reducible refine (HCX.out _ HB0.out).mono ?_); rintro e w23 ⟨v23, rfl, h1, h2⟩; obtain ⟨A23, c23, hv23⟩ := ownI_rv h1; obtain rfl := hv23.eq; rw [List.length_nil]; have HB0 := Lib.hid (HB0.out.trans (h2.mono HB0.out.size)); clear h1 h2 hv23))
              go_ret
              exact ⟨rfl, HWZ.out.trans (HB0.out.mono HWZ.out.size)⟩
            | false =>
              have hk0 : ¬ (k : Int) = 0 := fun e => by
                have h0 : k = 0 := by omega
                have h1 : CH = [] := List.length_eq_zero_iff.1 (by rw [HNL.out]; exact h0)
                have h2 := chg_nil _ T T' (Nat.le_refl _) (by rw [HCH.out]; exact h1)
                exact of_decide_eq_false HD2.out h2
              have hk1 : ((k : Int) == 0) = false := by simpa using hk0
              have hk2 : decide ((k : Int) = 0) = false := decide_eq_false hk0
              go_wp2_with (first
                | (go_at_call 22; (with_reducible refine (HAX.out _ HB0.out).mono ?_); rintro e w15 ⟨v15, rfl, h1, h2⟩; obtain ⟨A15, c15, hv15, _⟩ := own_rv h1; obtain rfl := hv15.eq; have HR15 := Lib.hid hv15.rd; have HB0 := Lib.hid (HB0.out.trans (h2.mono HB0.out.size)); clear h1 h2 hv15)
                | (go_at_call 22; (with_reducible refine (HAY.out _ HB0.out).mono ?_); rintro e w16 ⟨v16, rfl, h1, h2⟩; obtain ⟨A16, c16, hv16, _⟩ := own_rv h1; obtain rfl := hv16.eq; have HRC := Lib.hid (refChanges_any A15 A16 c15 c16 T T' HL3.out HL4.out w16 (HR15.out.below h2) hv16.rd); rw [HCH.out] at HRC; have HB0 := Lib.hid (HB0.out.trans (h2.mono HB0.out.size)); clear h1 h2 hv16)
                | (go_at_call 31; (with_reducible refine (HRC.out).mono ?_); rintro e w17 ⟨v17, rfl, h1, h2⟩; obtain ⟨A17, c17, hv17⟩ := ownI_rv h1; obtain rfl := hv17.eq; have HB0 := Lib.hid (HB0.out.trans (h2.mono HB0.out.size)); have HSI := Lib.hid (refSameI_any A11 A17 c11 c17 CH CH (by rw [HNL.out]; omega) (by rw [HNL.out]; omega) w17 (HRZ.out _ HB0.out) hv17.rd); rw [decide_eq_true rfl, HNL.out] at HSI; rw [HNL.out]; clear h1 h2 hv17)
                | (go_at_call 30; (with_reducible refine (HSI.out).mono ?_); rintro e w18 ⟨rfl, h2⟩; have HB0 := Lib.hid (HB0.out.trans (h2.mono HB0.out.size)); clear h2)
                | (go_at_call 32; (with_reducible refine (HSC.out _ HB0.out).mono ?_); rintro e w19 ⟨rfl, h2⟩; have HB0 := Lib.hid (HB0.out.trans (h2.mono HB0.out.size)); clear h2)
                | (go_at_call 32; (with_reducible refine (HSX.out _ HB0.out).mono ?_); rintro e w20 ⟨rfl, h2⟩; have HB0 := Lib.hid (HB0.out.trans (h2.mono HB0.out.size)); clear h2)
                | (go_at_call 20; (with_reducible refine (HLX.out _ HB0.out).mono ?_); rintro e w21 ⟨rfl, hw⟩; subst hw; rw [HP.out])
                | (go_at_call 20; (with_reducible refine (HLY.out _ HB0.out).mono ?_); rintro e w22 ⟨rfl, hw⟩; subst hw; rw [HQ.out])
                | (go_at_call 28; (with_reducible refine (HCX.out _ HB0.out).mono ?_); rintro e w23 ⟨v23, rfl, h1, h2⟩; obtain ⟨A23, c23, hv23⟩ := ownI_rv h1; obtain rfl := hv23.eq; rw [List.length_nil]; have HB0 := Lib.hid (HB0.out.trans (h2.mono HB0.out.size)); clear h1 h2 hv23))
              go_ret
              exact ⟨rfl, HWZ.out.trans (HB0.out.mono HWZ.out.size)⟩
          | false =>
            have h30 : (300 : Int) < (p : Int) + (q : Int) := by
              have h1 : ¬ (T.length + T'.length ≤ 300) := fun h => of_decide_eq_false HD1.out (HFZ.out h)
              rw [HP.out, HQ.out] at h1
              omega
            have h31 : decide ((300 : Int) < (p : Int) + (q : Int)) = true := decide_eq_true h30
            cases d2 with
            | true =>
              have hk0 : k = 0 := by rw [← HNL.out, ← HCH.out, of_decide_eq_true HD2.out, chg_self]; rfl
              subst hk0
              go_wp2_with (first
                | (go_at_call 22; (with_reducible refine (HAX.out _ HB0.out).mono ?_); rintro e w15 ⟨v15, rfl, h1, h2⟩; obtain ⟨A15, c15, hv15, _⟩ := own_rv h1; obtain rfl := hv15.eq; have HR15 := Lib.hid hv15.rd; have HB0 := Lib.hid (HB0.out.trans (h2.mono HB0.out.size)); clear h1 h2 hv15)
                | (go_at_call 22; (with_reducible refine (HAY.out _ HB0.out).mono ?_); rintro e w16 ⟨v16, rfl, h1, h2⟩; obtain ⟨A16, c16, hv16, _⟩ := own_rv h1; obtain rfl := hv16.eq; have HRC := Lib.hid (refChanges_any A15 A16 c15 c16 T T' HL3.out HL4.out w16 (HR15.out.below h2) hv16.rd); rw [HCH.out] at HRC; have HB0 := Lib.hid (HB0.out.trans (h2.mono HB0.out.size)); clear h1 h2 hv16)
                | (go_at_call 31; (with_reducible refine (HRC.out).mono ?_); rintro e w17 ⟨v17, rfl, h1, h2⟩; obtain ⟨A17, c17, hv17⟩ := ownI_rv h1; obtain rfl := hv17.eq; have HB0 := Lib.hid (HB0.out.trans (h2.mono HB0.out.size)); have HSI := Lib.hid (refSameI_any A11 A17 c11 c17 CH CH (by rw [HNL.out]; omega) (by rw [HNL.out]; omega) w17 (HRZ.out _ HB0.out) hv17.rd); rw [decide_eq_true rfl, HNL.out] at HSI; rw [HNL.out]; clear h1 h2 hv17)
                | (go_at_call 30; (with_reducible refine (HSI.out).mono ?_); rintro e w18 ⟨rfl, h2⟩; have HB0 := Lib.hid (HB0.out.trans (h2.mono HB0.out.size)); clear h2)
                | (go_at_call 32; (with_reducible refine (HSC.out _ HB0.out).mono ?_); rintro e w19 ⟨rfl, h2⟩; have HB0 := Lib.hid (HB0.out.trans (h2.mono HB0.out.size)); clear h2)
                | (go_at_call 32; (with_reducible refine (HSX.out _ HB0.out).mono ?_); rintro e w20 ⟨rfl, h2⟩; have HB0 := Lib.hid (HB0.out.trans (h2.mono HB0.out.size)); clear h2)
                | (go_at_call 20; (with_reducible refine (HLX.out _ HB0.out).mono ?_); rintro e w21 ⟨rfl, hw⟩; subst hw; rw [HP.out])
                | (go_at_call 20; (with_reducible refine (HLY.out _ HB0.out).mono ?_); rintro e w22 ⟨rfl, hw⟩; subst hw; rw [HQ.out])
                | (go_at_call 28; (with_reducible refine (HCX.out _ HB0.out).mono ?_); rintro e w23 ⟨v23, rfl, h1, h2⟩; obtain ⟨A23, c23, hv23⟩ := ownI_rv h1; obtain rfl := hv23.eq; rw [List.length_nil]; have HB0 := Lib.hid (HB0.out.trans (h2.mono HB0.out.size)); clear h1 h2 hv23))
              go_ret
              exact ⟨rfl, HWZ.out.trans (HB0.out.mono HWZ.out.size)⟩
            | false =>
              have hk0 : ¬ (k : Int) = 0 := fun e => by
                have h0 : k = 0 := by omega
                have h1 : CH = [] := List.length_eq_zero_iff.1 (by rw [HNL.out]; exact h0)
                have h2 := chg_nil _ T T' (Nat.le_refl _) (by rw [HCH.out]; exact h1)
                exact of_decide_eq_false HD2.out h2
              have hk1 : ((k : Int) == 0) = false := by simpa using hk0
              have hk2 : decide ((k : Int) = 0) = false := decide_eq_false hk0
              go_wp2_with (first
                | (go_at_call 22; (with_reducible refine (HAX.out _ HB0.out).mono ?_); rintro e w15 ⟨v15, rfl, h1, h2⟩; obtain ⟨A15, c15, hv15, _⟩ := own_rv h1; obtain rfl := hv15.eq; have HR15 := Lib.hid hv15.rd; have HB0 := Lib.hid (HB0.out.trans (h2.mono HB0.out.size)); clear h1 h2 hv15)
                | (go_at_call 22; (with_reducible refine (HAY.out _ HB0.out).mono ?_); rintro e w16 ⟨v16, rfl, h1, h2⟩; obtain ⟨A16, c16, hv16, _⟩ := own_rv h1; obtain rfl := hv16.eq; have HRC := Lib.hid (refChanges_any A15 A16 c15 c16 T T' HL3.out HL4.out w16 (HR15.out.below h2) hv16.rd); rw [HCH.out] at HRC; have HB0 := Lib.hid (HB0.out.trans (h2.mono HB0.out.size)); clear h1 h2 hv16)
                | (go_at_call 31; (with_reducible refine (HRC.out).mono ?_); rintro e w17 ⟨v17, rfl, h1, h2⟩; obtain ⟨A17, c17, hv17⟩ := ownI_rv h1; obtain rfl := hv17.eq; have HB0 := Lib.hid (HB0.out.trans (h2.mono HB0.out.size)); have HSI := Lib.hid (refSameI_any A11 A17 c11 c17 CH CH (by rw [HNL.out]; omega) (by rw [HNL.out]; omega) w17 (HRZ.out _ HB0.out) hv17.rd); rw [decide_eq_true rfl, HNL.out] at HSI; rw [HNL.out]; clear h1 h2 hv17)
                | (go_at_call 30; (with_reducible refine (HSI.out).mono ?_); rintro e w18 ⟨rfl, h2⟩; have HB0 := Lib.hid (HB0.out.trans (h2.mono HB0.out.size)); clear h2)
                | (go_at_call 32; (with_reducible refine (HSC.out _ HB0.out).mono ?_); rintro e w19 ⟨rfl, h2⟩; have HB0 := Lib.hid (HB0.out.trans (h2.mono HB0.out.size)); clear h2)
                | (go_at_call 32; (with_reducible refine (HSX.out _ HB0.out).mono ?_); rintro e w20 ⟨rfl, h2⟩; have HB0 := Lib.hid (HB0.out.trans (h2.mono HB0.out.size)); clear h2)
                | (go_at_call 20; (with_reducible refine (HLX.out _ HB0.out).mono ?_); rintro e w21 ⟨rfl, hw⟩; subst hw; rw [HP.out])
                | (go_at_call 20; (with_reducible refine (HLY.out _ HB0.out).mono ?_); rintro e w22 ⟨rfl, hw⟩; subst hw; rw [HQ.out])
                | (go_at_call 28; (with_reducible refine (HCX.out _ HB0.out).mono ?_); rintro e w23 ⟨v23, rfl, h1, h2⟩; obtain ⟨A23, c23, hv23⟩ := ownI_rv h1; obtain rfl := hv23.eq; rw [List.length_nil]; have HB0 := Lib.hid (HB0.out.trans (h2.mono HB0.out.size)); clear h1 h2 hv23))
              go_ret
              exact ⟨rfl, HWZ.out.trans (HB0.out.mono HWZ.out.size)⟩
    · have hc1 : (cb == 0) = false := by simpa using hcb
      have hc2 : decide (cb = 0) = false := decide_eq_false hcb
      go_enter Try.func5, Try.ntmps5
      go_wp2_with (first
        | (go_at_call 10; (with_reducible refine (awake_any _).mono ?_); rintro e w1 ⟨rfl, h1⟩; have hb := Lib.hid (hb.out.trans (h1.mono hb.out.size)); clear h1)
        | (refine wpList_row_run (o := ⟨some 27, .buildSlice 31 0 #[], _, _, _, _⟩) rfl 31 0 #[] rfl #[] (by simp) (row_R0 _) ?_)
        | (refine wpList_appR rfl (.tmp 27) (.tmp 28) rfl _ [] L A n cap HN.out rfl rfl (gr_zero w1) ((HR.out.below hb.out).below ((Below.refl _ _).alloc (Nat.le_refl _) _)) HNI.out (by have := HN.out; simp; omega) ?_; rintro v7 w7 h7 _; rw [List.nil_append] at h7; have hb := Lib.hid (hb.out.trans (h7.bel.mono hb.out.size)); obtain ⟨A7, c7, hv7⟩ := h7.rv; obtain rfl := hv7.eq; have HNW := Lib.hid (new_any A7 c7 L (by have := HN.out; omega) w7 hv7); clear h7 hv7)
        | (go_at_call 11; (with_reducible refine (HNW.out).mono ?_); rintro e w8 ⟨h8, h9⟩; obtain ⟨b8, v8, h10, h11⟩ := made_ok h8 HCA.out rfl; subst h10; clear h11; have hb := Lib.hid (hb.out.trans (h9.mono hb.out.size)); clear h8 h9)
        | (refine wpList_row_run (o := ⟨some 34, .buildSlice 31 0 #[], _, _, _, _⟩) rfl 31 0 #[] rfl #[] (by simp) (row_R0 _) ?_)
        | (refine wpList_appR rfl (.tmp 34) (.tmp 35) rfl _ [] L' A' m cap' HM.out rfl rfl (gr_zero w8) ((HR'.out.below hb.out).below ((Below.refl _ _).alloc (Nat.le_refl _) _)) HNI'.out (by have := HM.out; simp; omega) ?_; rintro v9 w9 h7 _; rw [List.nil_append] at h7; have hb := Lib.hid (hb.out.trans (h7.bel.mono hb.out.size));  obtain ⟨A9, c9, hv7⟩ := h7.rv; obtain rfl := hv7.eq; have HNW' := Lib.hid (new_any A9 c9 L' (by have := HM.out; omega) w9 hv7); clear h7 hv7)
        | (go_at_call 11; (with_reducible refine (HNW'.out).mono ?_); rintro e w10 ⟨h8, h9⟩; have e8 := made_no h8 HCB.out hcb; subst e8; have hb := Lib.hid (hb.out.trans (h9.mono hb.out.size)); clear h8 h9)
        )
      go_ret
      exact ⟨rfl, hb.out⟩
  · have hc1 : (ca == 0) = false := by simpa using hca
    have hc2 : decide (ca = 0) = false := decide_eq_false hca
    by_cases hcb : cb = 0
    · subst hcb
      go_enter Try.func5, Try.ntmps5
      go_wp2_with (first
        | (go_at_call 10; (with_reducible refine (awake_any _).mono ?_); rintro e w1 ⟨rfl, h1⟩; have hb := Lib.hid (hb.out.trans (h1.mono hb.out.size)); clear h1)
        | (refine wpList_row_run (o := ⟨some 27, .buildSlice 31 0 #[], _, _, _, _⟩) rfl 31 0 #[] rfl #[] (by simp) (row_R0 _) ?_)
        | (refine wpList_appR rfl (.tmp 27) (.tmp 28) rfl _ [] L A n cap HN.out rfl rfl (gr_zero w1) ((HR.out.below hb.out).below ((Below.refl _ _).alloc (Nat.le_refl _) _)) HNI.out (by have := HN.out; simp; omega) ?_; rintro v7 w7 h7 _; rw [List.nil_append] at h7; have hb := Lib.hid (hb.out.trans (h7.bel.mono hb.out.size)); obtain ⟨A7, c7, hv7⟩ := h7.rv; obtain rfl := hv7.eq; have HNW := Lib.hid (new_any A7 c7 L (by have := HN.out; omega) w7 hv7); clear h7 hv7)
        | (go_at_call 11; (with_reducible refine (HNW.out).mono ?_); rintro e w8 ⟨h8, h9⟩; have e8 := made_no h8 HCA.out hca; subst e8; have hb := Lib.hid (hb.out.trans (h9.mono hb.out.size)); clear h8 h9)
        | (refine wpList_row_run (o := ⟨some 34, .buildSlice 31 0 #[], _, _, _, _⟩) rfl 31 0 #[] rfl #[] (by simp) (row_R0 _) ?_)
        | (refine wpList_appR rfl (.tmp 34) (.tmp 35) rfl _ [] L' A' m cap' HM.out rfl rfl (gr_zero w8) ((HR'.out.below hb.out).below ((Below.refl _ _).alloc (Nat.le_refl _) _)) HNI'.out (by have := HM.out; simp; omega) ?_; rintro v9 w9 h7 _; rw [List.nil_append] at h7; have hb := Lib.hid (hb.out.trans (h7.bel.mono hb.out.size));  obtain ⟨A9, c9, hv7⟩ := h7.rv; obtain rfl := hv7.eq; have HNW' := Lib.hid (new_any A9 c9 L' (by have := HM.out; omega) w9 hv7); clear h7 hv7)
        | (go_at_call 11; (with_reducible refine (HNW'.out).mono ?_); rintro e w10 ⟨h8, h9⟩; obtain ⟨b10, v10, h10, h11⟩ := made_ok h8 HCB.out rfl; subst h10; clear h11; have hb := Lib.hid (hb.out.trans (h9.mono hb.out.size)); clear h8 h9)
        )
      go_ret
      exact ⟨rfl, hb.out⟩
    · skip
      go_enter Try.func5, Try.ntmps5
      go_wp2_with (first
        | (go_at_call 10; (with_reducible refine (awake_any _).mono ?_); rintro e w1 ⟨rfl, h1⟩; have hb := Lib.hid (hb.out.trans (h1.mono hb.out.size)); clear h1)
        | (refine wpList_row_run (o := ⟨some 27, .buildSlice 31 0 #[], _, _, _, _⟩) rfl 31 0 #[] rfl #[] (by simp) (row_R0 _) ?_)
        | (refine wpList_appR rfl (.tmp 27) (.tmp 28) rfl _ [] L A n cap HN.out rfl rfl (gr_zero w1) ((HR.out.below hb.out).below ((Below.refl _ _).alloc (Nat.le_refl _) _)) HNI.out (by have := HN.out; simp; omega) ?_; rintro v7 w7 h7 _; rw [List.nil_append] at h7; have hb := Lib.hid (hb.out.trans (h7.bel.mono hb.out.size)); obtain ⟨A7, c7, hv7⟩ := h7.rv; obtain rfl := hv7.eq; have HNW := Lib.hid (new_any A7 c7 L (by have := HN.out; omega) w7 hv7); clear h7 hv7)
        | (go_at_call 11; (with_reducible refine (HNW.out).mono ?_); rintro e w8 ⟨h8, h9⟩; have e8 := made_no h8 HCA.out hca; subst e8; have hb := Lib.hid (hb.out.trans (h9.mono hb.out.size)); clear h8 h9)
        | (refine wpList_row_run (o := ⟨some 34, .buildSlice 31 0 #[], _, _, _, _⟩) rfl 31 0 #[] rfl #[] (by simp) (row_R0 _) ?_)
        | (refine wpList_appR rfl (.tmp 34) (.tmp 35) rfl _ [] L' A' m cap' HM.out rfl rfl (gr_zero w8) ((HR'.out.below hb.out).below ((Below.refl _ _).alloc (Nat.le_refl _) _)) HNI'.out (by have := HM.out; simp; omega) ?_; rintro v9 w9 h7 _; rw [List.nil_append] at h7; have hb := Lib.hid (hb.out.trans (h7.bel.mono hb.out.size));  obtain ⟨A9, c9, hv7⟩ := h7.rv; obtain rfl := hv7.eq; have HNW' := Lib.hid (new_any A9 c9 L' (by have := HM.out; omega) w9 hv7); clear h7 hv7)
        | (go_at_call 11; (with_reducible refine (HNW'.out).mono ?_); rintro e w10 ⟨h8, h9⟩; have e8 := made_no h8 HCB.out hcb; subst e8; have hb := Lib.hid (hb.out.trans (h9.mono hb.out.size)); clear h8 h9)
        )
      go_ret
      exact ⟨rfl, hb.out⟩
end Go.Proofs.Ytbeoclcnajfjcaa.TableChanges
