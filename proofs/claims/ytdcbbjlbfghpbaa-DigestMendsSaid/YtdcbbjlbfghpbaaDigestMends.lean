/-
  DigestMends: the walk. Conditions: none.
-/
import Derived.Test.YtdcbbjlbfghpbaaDk
import Derived.Test.YtdcbbjlbfghpbaaDo
import Derived.Test.YtdcbbjlbfghpbaaDi
namespace Go.Proofs.Ytdcbbjlbfghpbaa.DigestMends
open Go Go.RowKit H2 Tab Dig MapB
set_option linter.unusedVariables false
set_option linter.unusedSimpArgs false
attribute [local go_sem] run_makeMap
/-- the ranges whose digests differ -/
def dn (T T' : List Rt) : List Nat := (List.range 17).filter fun i => decide (¬ dgs T i = dgs T' i)
theorem difs_dn (T T' : List Rt) : difs 17 17 (dgs T) (dgs T') 17 = (dn T T').map fun (i : Nat) => (i : Int) := by
  unfold difs dn
  congr 1
  apply List.filter_congr
  intro x _
  simp
theorem mem_dn {T T' : List Rt} {k : Nat} : k ∈ dn T T' ↔ k < 17 ∧ ¬ dgs T k = dgs T' k := by
  unfold dn
  rw [List.mem_filter, List.mem_range, decide_eq_true_eq]
theorem dn_nodup (T T' : List Rt) : (dn T T').Nodup := List.Pairwise.filter _ List.nodup_range
theorem getD_map (l : List Nat) (i : Nat) (h : i < l.length) : (l.map fun (i : Nat) => (i : Int)).getD i 0 = ((l[i] : Nat) : Int) := by
  simp [List.getD_eq_getElem?_getD, List.getElem?_map, List.getElem?_eq_getElem h]
theorem mem_take_succ {l : List Nat} {i : Nat} (h : i < l.length) (j : Nat) : j ∈ l.take (i + 1) ↔ j ∈ l.take i ∨ j = l[i] := by
  rw [← List.take_append_getElem h, List.mem_append, List.mem_singleton]
theorem not_mem_take {l : List Nat} (hn : l.Nodup) {i : Nat} (h : i < l.length) : l[i] ∉ l.take i := fun e => by
  obtain ⟨j, hj, e2⟩ := List.getElem_of_mem e
  rw [List.getElem_take] at e2
  have hji : j < i := by rw [List.length_take] at hj; omega
  exact List.pairwise_iff_getElem.1 hn j i (by omega) h hji e2
theorem same_rows (A B : Option Addr) (c c' : Nat) (L M : List Rt) (hl : L.length ≤ 1000) (hm : M.length ≤ 1000) (w : World) (ha : Rd w A L) (hb : Rd w B M) : Calls Try.prog 20 #[.slice A L.length c, .slice B M.length c'] w fun e w' => e = .returned (.bool (decide (L = M))) ∧ Below w.heap.size w w' := refSame_any A B c c' L M (by omega) (by omega) w ha hb
theorem ins_le : ∀ (T : List Rt) (r : Rt), (ins T r).length ≤ T.length + 1
  | [], r => by simp [ins]
  | x :: T, r => by
    unfold ins
    have := ins_le T r
    split
    · rw [List.length_cons, List.length_cons]; omega
    · split
      · rw [List.length_cons, List.length_cons]; omega
      · simp
theorem fold_le (L : List Rt) : (fold L).length ≤ L.length := by
  have key : ∀ (M T : List Rt), (M.foldl ins T).length ≤ M.length + T.length := by
    intro M
    induction M with
    | nil => intro T; simp
    | cons r M ih =>
      intro T
      rw [List.foldl_cons, List.length_cons]
      have h1 := ih (ins T r)
      have h2 := ins_le T r
      omega
  have := key L []
  show (L.foldl ins []).length ≤ _
  simpa using this
theorem repd_made {w w' : World} {X T' : List Rt} {k : Nat} (hk : k < 17) {e : Ending} (h : Repd w w' X (k : Int) (T'.filter (inK k)) e) (hc : newC (nx X T' k) = 0) : ∃ b v, e = .returned (.tuple #[.pointer (some ⟨b, 0, none⟩), .int .i64 0]) ∧ Tb w.heap.size w' b v (fold (nx X T' k)) := by
  have hany : (T'.filter (inK k)).any (fun r => !inK k r) = false := by
    rw [List.any_eq_false]
    intro r hr
    rw [List.mem_filter] at hr
    rw [hr.2]
    decide
  rcases h with ⟨h1, _⟩ | ⟨_, h2, _⟩ | ⟨_, _, h3⟩
  · exact absurd (show (0 : Int) ≤ (k : Int) ∧ (k : Int) < 17 by omega) h1
  · rw [hany] at h2; cases h2
  · exact made_ok (T := fold (nx X T' k)) h3 hc rfl
set_option maxRecDepth 100000 in
set_option maxHeartbeats 40000000 in
theorem walk (v0 v1 : Value) (W : World) (w0 : Tab.IsRs W v0) (w1 : Tab.IsRs W v1) : Calls Try.prog 4 #[v0, v1] W fun e w' => e = .returned (.bool true) ∧ Below W.heap.size W w' := by
  obtain ⟨A, cap, L, rfl, hl, hr⟩ := w0
  obtain ⟨A', cap', L', rfl, hl', hr'⟩ := w1
  have HR := Lib.hid hr
  have HR' := Lib.hid hr'
  obtain ⟨n, hn⟩ : ∃ n, L.length = n := ⟨_, rfl⟩
  obtain ⟨m, hm⟩ : ∃ n, L'.length = n := ⟨_, rfl⟩
  have HN := Lib.hid hn
  have HM := Lib.hid hm
  rw [hn] at hl ⊢
  rw [hm] at hl' ⊢
  unfold maxLen at hl hl'
  have hl := Nat.le_trans hl.1 hl.2
  have hl' := Nat.le_trans hl'.1 hl'.2
  clear hr hr' hn hm
  have n0 : (0 : Int) ≤ (n : Int) := by omega
  have m0 : (0 : Int) ≤ (m : Int) := by omega
  have hb := Lib.hid (Below.refl W.heap.size W)
  by_cases hbig : (150 : Int) < (n : Int)
  · have hbd : decide ((150 : Int) < (n : Int)) = true := decide_eq_true hbig
    go_enter Try.func4, Try.ntmps4
    go_wp2_with (first
      | (go_at_call 8; (with_reducible refine (Dig.awake_any _).mono ?_); rintro e w1 ⟨rfl, h1⟩; have hb := Lib.hid (hb.out.trans (h1.mono hb.out.size)); clear h1))
    go_ret
    exact ⟨rfl, hb.out⟩
  have hbd : decide ((150 : Int) < (n : Int)) = false := decide_eq_false hbig
  by_cases hbig' : (150 : Int) < (m : Int)
  · have hbd' : decide ((150 : Int) < (m : Int)) = true := decide_eq_true hbig'
    go_enter Try.func4, Try.ntmps4
    go_wp2_with (first
      | (go_at_call 8; (with_reducible refine (Dig.awake_any _).mono ?_); rintro e w1 ⟨rfl, h1⟩; have hb := Lib.hid (hb.out.trans (h1.mono hb.out.size)); clear h1))
    go_ret
    exact ⟨rfl, hb.out⟩
  have hbd' : decide ((150 : Int) < (m : Int)) = false := decide_eq_false hbig'
  have hn3 : n ≤ 150 := by omega
  have hm3 : m ≤ 150 := by omega
  have HNI := Lib.hid (Dig.rd_nil HR.out)
  have HNI' := Lib.hid (Dig.rd_nil HR'.out)
  obtain ⟨ca, hca⟩ : ∃ c, newC L = c := ⟨_, rfl⟩
  obtain ⟨cb, hcb⟩ : ∃ c, newC L' = c := ⟨_, rfl⟩
  have HCA := Lib.hid hca
  have HCB := Lib.hid hcb
  clear hca hcb
  by_cases hca : ca = 0
  · subst hca
    by_cases hcb : cb = 0
    · subst hcb
      obtain ⟨T, hT⟩ : ∃ T, fold L = T := ⟨_, rfl⟩
      obtain ⟨T', hT'⟩ : ∃ T, fold L' = T := ⟨_, rfl⟩
      have HTF := Lib.hid hT
      have HTF' := Lib.hid hT'
      have HLT := Lib.hid (show T.length ≤ n by rw [← hT, ← HN.out]; exact fold_le L)
      have HLT' := Lib.hid (show T'.length ≤ m by rw [← hT', ← HM.out]; exact fold_le L')
      clear hT hT'
      go_enter Try.func4, Try.ntmps4
      go_upto_region 7 with (first
        | (go_at_call 8; (with_reducible refine (Dig.awake_any _).mono ?_); rintro e w1 ⟨rfl, h1⟩; have hb := Lib.hid (hb.out.trans (h1.mono hb.out.size)); clear h1)
        | (refine wpList_row_run (o := ⟨some 33, .buildSlice 22 0 #[], _, _, _, _⟩) rfl 22 0 #[] rfl #[] (by simp) (row_R0 _) ?_)
        | (refine wpList_appR rfl (.tmp 33) (.tmp 34) rfl _ [] L A n cap HN.out rfl rfl (gr_zero w1) ((HR.out.below hb.out).below ((Below.refl _ _).alloc (Nat.le_refl _) _)) HNI.out (by have := HN.out; simp; omega) ?_; rintro v7 w7 h7 _; rw [List.nil_append] at h7; have hb := Lib.hid (hb.out.trans (h7.bel.mono hb.out.size)); obtain ⟨A7, c7, hv7⟩ := h7.rv; obtain rfl := hv7.eq; have HNW := Lib.hid (new_any A7 c7 L (by have := HN.out; omega) w7 hv7); clear h7 hv7)
        | (go_at_call 9; (with_reducible refine (HNW.out).mono ?_); rintro e w8 ⟨h8, h9⟩; obtain ⟨b8, v8, h10, h11⟩ := made_ok h8 HCA.out HTF.out; subst h10; have HT8 := Lib.hid h11; clear h11; have hb := Lib.hid (hb.out.trans (h9.mono hb.out.size)); clear h8 h9)
        | (refine wpList_row_run (o := ⟨some 40, .buildSlice 22 0 #[], _, _, _, _⟩) rfl 22 0 #[] rfl #[] (by simp) (row_R0 _) ?_)
        | (refine wpList_appR rfl (.tmp 40) (.tmp 41) rfl _ [] L' A' m cap' HM.out rfl rfl (gr_zero w8) ((HR'.out.below hb.out).below ((Below.refl _ _).alloc (Nat.le_refl _) _)) HNI'.out (by have := HM.out; simp; omega) ?_; rintro v9 w9 h7 _; rw [List.nil_append] at h7; have hb := Lib.hid (hb.out.trans (h7.bel.mono hb.out.size)); have HT8 := Lib.hid (HT8.out.below h7.bel); obtain ⟨A9, c9, hv7⟩ := h7.rv; obtain rfl := hv7.eq; have HNW' := Lib.hid (new_any A9 c9 L' (by have := HM.out; omega) w9 hv7); clear h7 hv7)
        | (go_at_call 9; (with_reducible refine (HNW'.out).mono ?_); rintro e w10 ⟨h8, h9⟩; obtain ⟨b10, v10, h10, h11⟩ := made_ok h8 HCB.out HTF'.out; subst h10; have HT8 := Lib.hid (HT8.out.below h9); have HT10 := Lib.hid h11; clear h11; have hb := Lib.hid (hb.out.trans (h9.mono hb.out.size)); clear h8 h9))
      have HTK := Lib.hid HT8.out.tok
      have HTK' := Lib.hid HT10.out.tok
      clear HNW HNW' HN HM HR HR' HCA HCB HTF HTF' HNI HNI'
      have HT8 := Lib.hid (tb_lower (base' := 0) HT8.out (Nat.zero_le _))
      have HT10 := Lib.hid (tb_lower (base' := 0) HT10.out (Nat.zero_le _))
      have HAL := Lib.hid (fun (V : World) (hb : Below w10.heap.size w10 V) => digAll_any V (HT8.out.below hb))
      have HAM := Lib.hid (fun (V : World) (hb : Below w10.heap.size w10 V) => digAll_any V (HT10.out.below hb))
      have HB := Lib.hid (Below.refl w10.heap.size w10)
      go_upto_region 8 with (first
        | (go_at_call 18; (with_reducible refine (HAL.out _ HB.out).mono ?_); rintro e w11 ⟨⟨g5, rfl, _, h1⟩, hb1⟩; have HD5 := Lib.hid h1; have HB := Lib.hid (HB.out.trans (hb1.mono HB.out.size)); clear h1 hb1)
        | (go_at_call 18; (with_reducible refine (HAM.out _ HB.out).mono ?_); rintro e w12 ⟨⟨g6, rfl, _, h1⟩, hb1⟩; have HB := Lib.hid (HB.out.trans (hb1.mono HB.out.size)); have HDF := Lib.hid (differ_any (some ⟨g5, 0, none⟩) (some ⟨g6, 0, none⟩) 17 17 17 17 (dgs T) (dgs T') w12 (HD5.out.below hb1).rd h1.rd); rw [difs_dn] at HDF; clear h1 hb1)
        | (go_at_call 23; (with_reducible refine (HDF.out).mono ?_); rintro e w13 ⟨v13, rfl, h1⟩; obtain ⟨A13, c13, hv13, hr13⟩ := gn_rd h1; have HR13 := Lib.hid hr13; have HB := Lib.hid (HB.out.trans (h1.bel.mono HB.out.size)); clear h1 hr13))
      subst hv13
      clear HAL HAM HD5 HDF
      rw [List.length_map] at HR13
      try rw [List.length_map]
      have HMD := Lib.hid (fun k => mem_dn (T := T) (T' := T') (k := k))
      have HND := Lib.hid (dn_nodup T T')
      have HLN := Lib.hid (show (dn T T').length ≤ 17 by
        have := List.length_filter_le (fun i => decide (¬ dgs T i = dgs T' i)) (List.range 17)
        rw [List.length_range] at this
        exact this)
      generalize dn T T' = DN at HR13 HMD HND HLN ⊢
      obtain ⟨d, hd⟩ : ∃ d, DN.length = d := ⟨_, rfl⟩
      have HDL := Lib.hid hd
      have hd17 : d ≤ 17 := by rw [← hd]; exact HLN.out
      have HD17 := Lib.hid hd17
      rw [hd] at HR13 ⊢
      clear hd
      have HDI := Lib.hid (fun i (hi : i < d) => show ∃ (h : i < DN.length), DN[i] < 17 ∧ ∃ b o, A13 = some ⟨b, o, none⟩ ∧ w13.cell? ⟨b, o + i, none⟩ = some (.int .i64 (DN[i] : Nat)) by
        have h : i < DN.length := by rw [HDL.out]; exact hi
        refine ⟨h, ((HMD.out _).1 (List.getElem_mem h)).1, ?_⟩
        obtain ⟨b, o, e, hc⟩ := HR13.out i hi
        dsimp only at hc
        rw [getD_map DN i h] at hc
        exact ⟨b, o, e, hc⟩)
      have HT8 := Lib.hid (HT8.out.below HB.out)
      have HT10 := Lib.hid (HT10.out.below HB.out)
      have hb := Lib.hid (hb.out.trans (HB.out.mono hb.out.size))
      clear HB HR13
      go_upto_region 9 with fail
      have HMP := Lib.hid (bool_made w13)
      have HB := Lib.hid (show Below w13.heap.size w13 (w13.alloc (.map #[] 0)) from (Below.refl _ _).alloc (Nat.le_refl _) _)
      obtain ⟨bm, hbm⟩ : ∃ b, w13.heap.size = b := ⟨_, rfl⟩
      have HBM := Lib.hid (show w13.heap.size ≤ bm by omega)
      rw [hbm] at HMP ⊢
      clear hbm
      generalize w13.alloc _ = W14 at HMP HB ⊢
      go_wp2
      go_loopw [60] (fun s60 wr => ∃ i : Nat, i ≤ d ∧ s60 = .int .i64 i ∧ BoolOK wr bm (fun j => decide (j ∈ DN.take i)) i ∧ Below w13.heap.size w13 wr) (fun s60 _ => d - (intOf s60).toNat)
      case atStart => exact ⟨0, by omega, rfl, by simpa using HMP.out, HB.out⟩
      case round =>
        clear HMP HB
        obtain ⟨i, hi, rfl, hmp, hbb⟩ := hrel
        have HMP := Lib.hid hmp
        have HB := Lib.hid hbb
        clear hmp hbb
        by_cases hil : i < d
        · have hil' : (i : Int) < (d : Int) := by omega
          have i0 : (0 : Int) ≤ (i : Int) := by omega
          obtain ⟨hid, h17, b, o, rfl, hc⟩ := HDI.out i hil
          have z0 := later HB.out hc
          have HTS := Lib.hid (fun j => mem_take_succ hid j)
          clear hc
          generalize DN[i] = k at z0 h17 HTS
          have k0 : (0 : Int) ≤ (k : Int) := by omega
          obtain ⟨wm, hrun, hm1, hm2⟩ := HMP.out.put (by have := HD17.out; unfold maxLen; omega) h17
          have HM1 := Lib.hid hm1
          have HM2 := Lib.hid hm2
          clear hm1 hm2 hid
          go_wp2
          go_roundw
          case rel => exact ⟨i + 1, by omega, by go_num, by
            have h9 := HM1.out
            rw [show (fun j => if j = k then true else decide (j ∈ DN.take i)) = fun j => decide (j ∈ DN.take (i + 1)) from funext fun j => by
              rw [Bool.eq_iff_iff, decide_eq_true_eq, HTS.out]
              by_cases e : j = k
              · rw [if_pos e]; simp [e]
              · rw [if_neg e]; simp [e]] at h9
            exact h9, ((Only.refl (fun q => w13.heap.size ≤ q) w13).of_below HB.out |>.grown HM2.out (fun q hq _ => by cases hq; exact HBM.out)).below (Nat.le_refl _) (fun q h1 h2 => by omega)⟩
          case measure => simp [intOf]; omega
        · have hid : i = d := by omega
          have hin : ¬ (i : Int) < (d : Int) := by omega
          have HMP := Lib.hid (show BoolOK wr bm (fun j => decide (j ∈ DN)) i by have h9 := HMP.out; rwa [List.take_of_length_le (by rw [HDL.out, hid]; exact Nat.le_refl _)] at h9)
          clear hid
          rename World => wr
          have HT8 := Lib.hid (HT8.out.below HB.out)
          have HT10 := Lib.hid (HT10.out.below HB.out)
          have hb := Lib.hid (hb.out.trans (HB.out.mono hb.out.size))
          have HDI := Lib.hid (fun i (hi : i < d) => show ∃ (h : i < DN.length), DN[i] < 17 ∧ ∃ b o, A13 = some ⟨b, o, none⟩ ∧ wr.cell? ⟨b, o + i, none⟩ = some (.int .i64 (DN[i] : Nat)) by
            obtain ⟨h, h17, b, o, e, hc⟩ := HDI.out i hi
            exact ⟨h, h17, b, o, e, later HB.out hc⟩)
          clear HB HBM
          have HPX := Lib.hid (fun (k : Nat) (V : World) (hb : Below wr.heap.size wr V) => digPart_any (k : Int) V (HT8.out.below hb))
          have HPY := Lib.hid (fun (k : Nat) (V : World) (hb : Below wr.heap.size wr V) => digPart_any (k : Int) V (HT10.out.below hb))
          go_wp2
          go_loopw [67] (fun s67 wq => ∃ k : Nat, k ≤ 17 ∧ s67 = .int .i64 k ∧ (∀ j, j < k → j ∉ DN → T.filter (inK j) = T'.filter (inK j)) ∧ Below wr.heap.size wr wq) (fun s67 _ => 17 - (intOf s67).toNat)
          case atStart => exact ⟨0, by omega, rfl, fun j h => absurd h (Nat.not_lt_zero j), Below.refl _ _⟩
          case round =>
            obtain ⟨k, hk, rfl, hall, hbb⟩ := hrel
            have HALL := Lib.hid hall
            have HB := Lib.hid hbb
            clear hall hbb
            rename World => wq
            by_cases hlt : k < 17
            · have hlt' : (k : Int) < 17 := by omega
              have k0 : (0 : Int) ≤ (k : Int) := by omega
              obtain ⟨P, hP⟩ : ∃ P, T.filter (inK k) = P := ⟨_, rfl⟩
              obtain ⟨P', hP'⟩ : ∃ P, T'.filter (inK k) = P := ⟨_, rfl⟩
              have HPE := Lib.hid hP
              have HPE' := Lib.hid hP'
              have HPL := Lib.hid (show P.length ≤ 1000 by rw [← hP]; exact Nat.le_trans (List.length_filter_le _ _) (by have := HLT.out; omega))
              have HPL' := Lib.hid (show P'.length ≤ 1000 by rw [← hP']; exact Nat.le_trans (List.length_filter_le _ _) (by have := HLT'.out; omega))
              have HMK := Lib.hid (show P = P' → k ∉ DN from fun e h => ((HMD.out k).1 h).2 (by rw [dgs_part, dgs_part, hP, hP', e]))
              have HPXK := Lib.hid (HPX.out k)
              have HPYK := Lib.hid (HPY.out k)
              rw [hP] at HPXK
              rw [hP'] at HPYK
              clear hP hP'
              go_upto_region 18 with (first
                | (go_at_call 21; (with_reducible refine (HPXK.out _ HB.out).mono ?_); rintro e w14 ⟨v14, rfl, h1, h2⟩; obtain ⟨A14, c14, hv14, _⟩ := own_rv h1; obtain rfl := hv14.eq; have HR14 := Lib.hid hv14.rd; have HB := Lib.hid (HB.out.trans (h2.mono HB.out.size)); clear h1 h2 hv14)
                | (go_at_call 21; (with_reducible refine (HPYK.out _ HB.out).mono ?_); rintro e w15 ⟨v15, rfl, h1, h2⟩; obtain ⟨A15, c15, hv15, _⟩ := own_rv h1; obtain rfl := hv15.eq; have HSM := Lib.hid (same_rows A14 A15 c14 c15 P P' HPL.out HPL'.out w15 (HR14.out.below h2) hv15.rd); have HB := Lib.hid (HB.out.trans (h2.mono HB.out.size)); clear h1 h2 hv15)
                | (go_at_call 20; (with_reducible refine (HSM.out).mono ?_); rintro e w16 ⟨rfl, h2⟩; clear HSM; have HB := Lib.hid (HB.out.trans (h2.mono HB.out.size)); clear h2))
              have hlk := (HMP.out.below HB.out).look hlt
              (try dsimp only at hlk)
              by_cases hal : P = P'
              · rw [decide_eq_true hal]
                have hnm := HMK.out hal
                rw [decide_eq_false hnm] at hlk
                clear hnm
                have HNX := Lib.hid (show T.filter (inK k) = T'.filter (inK k) by rw [HPE.out, HPE'.out, hal])
                clear hal
                go_wp2
                go_roundw
                case rel => exact ⟨k + 1, by omega, by go_num, fun j hj hn => by
                  rcases Nat.lt_succ_iff_lt_or_eq.1 hj with h2 | h2
                  · exact HALL.out j h2 hn
                  · subst h2; exact HNX.out, HB.out⟩
                case measure => simp [intOf]; omega
              · rw [decide_eq_false hal]
                clear hal
                by_cases hmem : k ∈ DN
                · rw [decide_eq_true hmem] at hlk
                  have HME := Lib.hid hmem
                  clear hmem
                  go_wp2
                  go_roundw
                  case rel => exact ⟨k + 1, by omega, by go_num, fun j hj hn => by
                    rcases Nat.lt_succ_iff_lt_or_eq.1 hj with h2 | h2
                    · exact HALL.out j h2 hn
                    · subst h2; exact absurd HME.out hn, HB.out⟩
                  case measure => simp [intOf]; omega
                · rw [decide_eq_false hmem] at hlk
                  clear hmem
                  go_wp2
                  go_ret
                  exact ⟨rfl, hb.out.trans (HB.out.mono hb.out.size)⟩
            · obtain rfl : k = 17 := by omega
              rw [show ((17 : Nat) : Int) = 17 from rfl]
              have HT8 := Lib.hid (HT8.out.below HB.out)
              have HT10 := Lib.hid (HT10.out.below HB.out)
              have hb := Lib.hid (hb.out.trans (HB.out.mono hb.out.size))
              have HDI := Lib.hid (fun i (hi : i < d) => show ∃ (h : i < DN.length), DN[i] < 17 ∧ ∃ b o, A13 = some ⟨b, o, none⟩ ∧ wq.cell? ⟨b, o + i, none⟩ = some (.int .i64 (DN[i] : Nat)) by
                obtain ⟨h, h17, b, o, e, hc⟩ := HDI.out i hi
                exact ⟨h, h17, b, o, e, later HB.out hc⟩)
              clear HB HMP HPX HPY
              have HMX := Lib.hid (mx_start T T' HTK.out.srt)
              have HLL := Lib.hid (show T.length + T'.length ≤ 300 by have := HLT.out; have := HLT'.out; omega)
              go_wp2
              go_loopw [5, 94] (fun s5 s94 wz => ∃ (i b : Nat) (v : Value) (X : List Rt), i ≤ d ∧ s94 = .int .i64 i ∧ s5 = .pointer (some ⟨b, 0, none⟩) ∧ Tb 0 wz b v X ∧ Mx T T' X (fun j => decide (j ∈ DN.take i)) ∧ Below wq.heap.size wq wz) (fun _ s94 _ => d - (intOf s94).toNat)
              case atStart => exact ⟨0, b8, v8, T, by omega, rfl, rfl, HT8.out, by simpa using HMX.out, Below.refl _ _⟩
              case round =>
                clear HT8 HMX
                obtain ⟨i, b, v, X, hi, rfl, rfl, htb, hmx, hbb⟩ := hrel
                have HT := Lib.hid htb
                have HMX := Lib.hid hmx
                have HB := Lib.hid hbb
                clear htb hmx hbb
                rename World => wz
                by_cases hil : i < d
                · have hil' : (i : Int) < (d : Int) := by omega
                  have i0 : (0 : Int) ≤ (i : Int) := by omega
                  obtain ⟨hid, h17, bb, o, rfl, hc⟩ := HDI.out i hil
                  have z0 := later HB.out hc
                  have HTS := Lib.hid (fun j => mem_take_succ hid j)
                  have HNT := Lib.hid (not_mem_take HND.out hid)
                  clear hc
                  generalize DN[i] = k at z0 h17 HTS HNT
                  have k0 : (0 : Int) ≤ (k : Int) := by omega
                  have HST := Lib.hid (mend_step HTK.out HTK'.out HLL.out k (decide_eq_false HNT.out) HMX.out)
                  have HPY := Lib.hid (digPart_any (k : Int) wz (HT10.out.below HB.out))
                  go_upto_region 27 with (first
                    | (go_at_call 21; (with_reducible refine (HPY.out).mono ?_); rintro e w14 ⟨v14, rfl, h1, h2⟩; obtain ⟨A14, c14, hv14, _⟩ := own_rv h1; obtain rfl := hv14.eq; have HRP := Lib.hid (repl_any (k : Int) A14 c14 (T'.filter (inK k)) (Nat.le_trans (List.length_filter_le _ _) (by have := HLT'.out; omega)) w14 (HT.out.below h2) hv14.rd (Dig.rd_nil hv14.rd)); have HB := Lib.hid (HB.out.trans (h2.mono HB.out.size)); clear h1 h2 hv14 z0)
                    | (go_at_call 11; (with_reducible refine (HRP.out).mono ?_); rintro e w15 ⟨h1, h2⟩; obtain ⟨b15, v15, h10, h11⟩ := repd_made h17 h1 HST.out.1; subst h10; have HT15 := Lib.hid (tb_lower (base' := 0) h11 (Nat.zero_le _)); have HB := Lib.hid (HB.out.trans (h2.mono HB.out.size)); clear h1 h2 h11))
                  go_wp2
                  go_roundw
                  case rel => exact ⟨i + 1, b15, v15, _, by omega, by go_num, rfl, HT15.out, by
                    have h9 := HST.out.2
                    rw [show (fun j => decide (j ∈ DN.take i) || j == k) = fun j => decide (j ∈ DN.take (i + 1)) from funext fun j => by
                      rw [Bool.eq_iff_iff, decide_eq_true_eq, HTS.out, Bool.or_eq_true, decide_eq_true_eq, beq_iff_eq]] at h9
                    exact h9, HB.out⟩
                  case measure => simp [intOf]; omega
                · have hin : ¬ (i : Int) < (d : Int) := by omega
                  have hid : i = d := by omega
                  have HXE := Lib.hid (show X = T' from mend_end HTK'.out.srt HMX.out (fun k hk hs => HALL.out k hk (by
                    rw [List.take_of_length_le (by rw [HDL.out, hid]; exact Nat.le_refl _)] at hs
                    exact of_decide_eq_false hs)))
                  have HSM := Lib.hid (Tab.same_any wz HT.out (HT10.out.below HB.out))
                  rw [decide_eq_true HXE.out] at HSM
                  clear hid
                  go_wp2_with (go_at_call 24; (with_reducible refine (HSM.out).mono ?_); rintro e w16 ⟨rfl, h2⟩; have HB := Lib.hid (HB.out.trans (h2.mono HB.out.size)); clear h2)
                  go_ret
                  exact ⟨rfl, hb.out.trans (HB.out.mono hb.out.size)⟩
    · have hcb' : (cb == 0) = false := by simpa using hcb
      have hcb2 : decide (¬ cb = 0) = true := decide_eq_true hcb
      have hcb3 : (cb != 0) = true := by simpa using hcb
      obtain ⟨T, hT⟩ : ∃ T, fold L = T := ⟨_, rfl⟩
      have HTF := Lib.hid hT
      clear hT
      go_enter Try.func4, Try.ntmps4
      go_wp2_with (first
        | (go_at_call 8; (with_reducible refine (Dig.awake_any _).mono ?_); rintro e w1 ⟨rfl, h1⟩; have hb := Lib.hid (hb.out.trans (h1.mono hb.out.size)); clear h1)
        | (refine wpList_row_run (o := ⟨some 33, .buildSlice 22 0 #[], _, _, _, _⟩) rfl 22 0 #[] rfl #[] (by simp) (row_R0 _) ?_)
        | (refine wpList_appR rfl (.tmp 33) (.tmp 34) rfl _ [] L A n cap HN.out rfl rfl (gr_zero w1) ((HR.out.below hb.out).below ((Below.refl _ _).alloc (Nat.le_refl _) _)) HNI.out (by have := HN.out; simp; omega) ?_; rintro v7 w7 h7 _; rw [List.nil_append] at h7; have hb := Lib.hid (hb.out.trans (h7.bel.mono hb.out.size)); obtain ⟨A7, c7, hv7⟩ := h7.rv; obtain rfl := hv7.eq; have HNW := Lib.hid (new_any A7 c7 L (by have := HN.out; omega) w7 hv7); clear h7 hv7)
        | (go_at_call 9; (with_reducible refine (HNW.out).mono ?_); rintro e w8 ⟨h8, h9⟩; obtain ⟨b8, v8, h10, h11⟩ := made_ok h8 HCA.out HTF.out; subst h10; clear h11; have hb := Lib.hid (hb.out.trans (h9.mono hb.out.size)); clear h8 h9)
        | (refine wpList_row_run (o := ⟨some 40, .buildSlice 22 0 #[], _, _, _, _⟩) rfl 22 0 #[] rfl #[] (by simp) (row_R0 _) ?_)
        | (refine wpList_appR rfl (.tmp 40) (.tmp 41) rfl _ [] L' A' m cap' HM.out rfl rfl (gr_zero w8) ((HR'.out.below hb.out).below ((Below.refl _ _).alloc (Nat.le_refl _) _)) HNI'.out (by have := HM.out; simp; omega) ?_; rintro v9 w9 h7 _; rw [List.nil_append] at h7; have hb := Lib.hid (hb.out.trans (h7.bel.mono hb.out.size));  obtain ⟨A9, c9, hv7⟩ := h7.rv; obtain rfl := hv7.eq; have HNW' := Lib.hid (new_any A9 c9 L' (by have := HM.out; omega) w9 hv7); clear h7 hv7)
        | (go_at_call 9; (with_reducible refine (HNW'.out).mono ?_); rintro e w10 ⟨h8, h9⟩; have h10 := made_no h8 HCB.out hcb; subst h10; have hb := Lib.hid (hb.out.trans (h9.mono hb.out.size)); clear h8 h9))
      go_ret
      exact ⟨rfl, hb.out⟩
  · have hca' : (ca == 0) = false := by simpa using hca
    have hca2 : decide (¬ ca = 0) = true := decide_eq_true hca
    have hca3 : (ca != 0) = true := by simpa using hca
    by_cases hcb : cb = 0
    · subst hcb
      obtain ⟨T', hT'⟩ : ∃ T, fold L' = T := ⟨_, rfl⟩
      have HTF' := Lib.hid hT'
      clear hT'
      go_enter Try.func4, Try.ntmps4
      go_wp2_with (first
        | (go_at_call 8; (with_reducible refine (Dig.awake_any _).mono ?_); rintro e w1 ⟨rfl, h1⟩; have hb := Lib.hid (hb.out.trans (h1.mono hb.out.size)); clear h1)
        | (refine wpList_row_run (o := ⟨some 33, .buildSlice 22 0 #[], _, _, _, _⟩) rfl 22 0 #[] rfl #[] (by simp) (row_R0 _) ?_)
        | (refine wpList_appR rfl (.tmp 33) (.tmp 34) rfl _ [] L A n cap HN.out rfl rfl (gr_zero w1) ((HR.out.below hb.out).below ((Below.refl _ _).alloc (Nat.le_refl _) _)) HNI.out (by have := HN.out; simp; omega) ?_; rintro v7 w7 h7 _; rw [List.nil_append] at h7; have hb := Lib.hid (hb.out.trans (h7.bel.mono hb.out.size)); obtain ⟨A7, c7, hv7⟩ := h7.rv; obtain rfl := hv7.eq; have HNW := Lib.hid (new_any A7 c7 L (by have := HN.out; omega) w7 hv7); clear h7 hv7)
        | (go_at_call 9; (with_reducible refine (HNW.out).mono ?_); rintro e w8 ⟨h8, h9⟩; have h10 := made_no h8 HCA.out hca; subst h10; have hb := Lib.hid (hb.out.trans (h9.mono hb.out.size)); clear h8 h9)
        | (refine wpList_row_run (o := ⟨some 40, .buildSlice 22 0 #[], _, _, _, _⟩) rfl 22 0 #[] rfl #[] (by simp) (row_R0 _) ?_)
        | (refine wpList_appR rfl (.tmp 40) (.tmp 41) rfl _ [] L' A' m cap' HM.out rfl rfl (gr_zero w8) ((HR'.out.below hb.out).below ((Below.refl _ _).alloc (Nat.le_refl _) _)) HNI'.out (by have := HM.out; simp; omega) ?_; rintro v9 w9 h7 _; rw [List.nil_append] at h7; have hb := Lib.hid (hb.out.trans (h7.bel.mono hb.out.size));  obtain ⟨A9, c9, hv7⟩ := h7.rv; obtain rfl := hv7.eq; have HNW' := Lib.hid (new_any A9 c9 L' (by have := HM.out; omega) w9 hv7); clear h7 hv7)
        | (go_at_call 9; (with_reducible refine (HNW'.out).mono ?_); rintro e w10 ⟨h8, h9⟩; obtain ⟨b10, v10, h10, h11⟩ := made_ok h8 HCB.out HTF'.out; subst h10; clear h11; have hb := Lib.hid (hb.out.trans (h9.mono hb.out.size)); clear h8 h9))
      go_ret
      exact ⟨rfl, hb.out⟩
    · have hcb' : (cb == 0) = false := by simpa using hcb
      go_enter Try.func4, Try.ntmps4
      go_wp2_with (first
        | (go_at_call 8; (with_reducible refine (Dig.awake_any _).mono ?_); rintro e w1 ⟨rfl, h1⟩; have hb := Lib.hid (hb.out.trans (h1.mono hb.out.size)); clear h1)
        | (refine wpList_row_run (o := ⟨some 33, .buildSlice 22 0 #[], _, _, _, _⟩) rfl 22 0 #[] rfl #[] (by simp) (row_R0 _) ?_)
        | (refine wpList_appR rfl (.tmp 33) (.tmp 34) rfl _ [] L A n cap HN.out rfl rfl (gr_zero w1) ((HR.out.below hb.out).below ((Below.refl _ _).alloc (Nat.le_refl _) _)) HNI.out (by have := HN.out; simp; omega) ?_; rintro v7 w7 h7 _; rw [List.nil_append] at h7; have hb := Lib.hid (hb.out.trans (h7.bel.mono hb.out.size)); obtain ⟨A7, c7, hv7⟩ := h7.rv; obtain rfl := hv7.eq; have HNW := Lib.hid (new_any A7 c7 L (by have := HN.out; omega) w7 hv7); clear h7 hv7)
        | (go_at_call 9; (with_reducible refine (HNW.out).mono ?_); rintro e w8 ⟨h8, h9⟩; have h10 := made_no h8 HCA.out hca; subst h10; have hb := Lib.hid (hb.out.trans (h9.mono hb.out.size)); clear h8 h9)
        | (refine wpList_row_run (o := ⟨some 40, .buildSlice 22 0 #[], _, _, _, _⟩) rfl 22 0 #[] rfl #[] (by simp) (row_R0 _) ?_)
        | (refine wpList_appR rfl (.tmp 40) (.tmp 41) rfl _ [] L' A' m cap' HM.out rfl rfl (gr_zero w8) ((HR'.out.below hb.out).below ((Below.refl _ _).alloc (Nat.le_refl _) _)) HNI'.out (by have := HM.out; simp; omega) ?_; rintro v9 w9 h7 _; rw [List.nil_append] at h7; have hb := Lib.hid (hb.out.trans (h7.bel.mono hb.out.size));  obtain ⟨A9, c9, hv7⟩ := h7.rv; obtain rfl := hv7.eq; have HNW' := Lib.hid (new_any A9 c9 L' (by have := HM.out; omega) w9 hv7); clear h7 hv7)
        | (go_at_call 9; (with_reducible refine (HNW'.out).mono ?_); rintro e w10 ⟨h8, h9⟩; have h10 := made_no h8 HCB.out hcb; subst h10; have hb := Lib.hid (hb.out.trans (h9.mono hb.out.size)); clear h8 h9))
      go_ret
      exact ⟨rfl, hb.out⟩
end Go.Proofs.Ytdcbbjlbfghpbaa.DigestMends
