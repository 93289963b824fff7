/-
  table.Changes. Conditions: those that each theorem names.
-/
import Derived.Test.YtbeoclcnajfjcaaTd
namespace Go.Proofs.Ytbeoclcnajfjcaa
open Go Go.RowKit H2
set_option linter.unusedVariables false
set_option linter.unusedSimpArgs false
namespace Tab
/-- a table as All shows it; it may be none -/
def AllOf (w : World) (P : Value) (T : List Rt) : Prop := ∀ W, Below w.heap.size w W → Calls Try.prog 22 #[P] W fun e w' => ∃ v', e = .returned v' ∧ w'.ownsRow W.heap.size 34 20 v' T.length (flat T) ∧ Below W.heap.size W w'
theorem allOf_tb {base b : Nat} {w : World} {v : Value} {T : List Rt} (h : Tb base w b v T) : AllOf w (.pointer (some ⟨b, 0, none⟩)) T := fun W hb => all_any W (h.below hb)
theorem allOf_none (w : World) : AllOf w (.pointer none) [] := fun W hb => (all_nil W).mono fun e w' ⟨h1, h2⟩ => ⟨_, h1, World.ownsRow_nil _ _ _ _, h2 ▸ Below.refl _ _⟩
/-- what is left of a row -/
structure Lft (wl : World) (v : Value) (L : List Rt) (A : Option Addr) (n c : Nat) : Prop where
  eq : v = .slice A n c
  len : L.length = n
  cap : n ≤ c
  rd : Rd wl A L
theorem ownI_le {w : World} {base base' n : Nat} {v : Value} {xs : List Value} (h : w.ownsRow base 43 21 v n xs) (hb : base' ≤ base) : w.ownsRow base' 43 21 v n xs := own_le h hb
theorem Lft.next {wl : World} {x : Rt} {L : List Rt} {b o n c : Nat} {A' : Option Addr} (h : Rd wl (some ⟨b, o, none⟩) (x :: L)) (hn : (x :: L).length = n + 1) (hc : n + 1 ≤ c) (hA : 0 < n → A' = some ⟨b, o + n20, none⟩) : Lft wl (.slice A' n (c - 1)) L A' n (c - 1) :=
  ⟨rfl, by simpa using hn, by omega, fun i hi => by
    obtain ⟨b', o', e, hr⟩ := h (i + 1) (by simpa using hi)
    cases e
    refine ⟨b, o + n20, hA (by simp at hn; omega), ?_⟩
    rw [show o + n20 + i * 20 = o + (i + 1) * 20 by show o + 20 + i * 20 = _; omega]
    exact hr⟩
set_option maxRecDepth 100000 in
set_option maxHeartbeats 16000000 in
theorem changes_any (pa pb : Value) (T T' : List Rt) (w : World) (h1 : AllOf w pa T) (h2 : AllOf w pb T') (hl : T.length ≤ 300) (hl' : T'.length ≤ 300) :
    Calls Try.prog 28 #[pa, pb] w fun e w' => ∃ v', e = .returned v' ∧ w'.ownsRow w.heap.size 43 21 v' (chg T T').length (flatI (chg T T')) ∧ Below w.heap.size w w' := by
  unfold AllOf at h1 h2
  have H1 := Lib.hid (h1 w (Below.refl _ _))
  have H2 := Lib.hid h2
  have HL := Lib.hid (And.intro hl hl')
  clear h1 h2 hl hl'
  go_enter Try.func28, Try.ntmps28
  go_upto_region 1 with fail
  go_wp2_with (first
    | (go_at_call 22; (with_reducible refine (H1.out).mono ?_); rintro e w2 ⟨v1, rfl, h1, h2⟩; have HO1 := Lib.hid h1; have HB1 := Lib.hid h2; clear h1 h2)
    | (go_at_call 22; (with_reducible refine (H2.out w2 HB1.out).mono ?_); rintro e wl ⟨v2, rfl, h1, h2⟩; have HO2 := Lib.hid h1; have HB2 := Lib.hid h2; clear h1 h2))
  have hlft1 : ∃ A c, Lft wl v1 T A T.length c := by
    obtain ⟨A, c, hv, _⟩ := own_rv (own_below HO1.out HB2.out)
    exact ⟨A, c, hv.eq, rfl, hv.len, hv.rd⟩
  have hlft2 : ∃ A c, Lft wl v2 T' A T'.length c := by
    obtain ⟨A, c, hv, _⟩ := own_rv HO2.out
    exact ⟨A, c, hv.eq, rfl, hv.len, hv.rd⟩
  obtain ⟨A1, c1, hf1⟩ := hlft1
  obtain ⟨A2, c2, hf2⟩ := hlft2
  have HF1 := Lib.hid hf1
  have HF2 := Lib.hid hf2
  have HBL := Lib.hid (HB1.out.trans (HB2.out.mono HB1.out.size))
  clear HO1 HO2 HB1 HB2 hf1 hf2 H1 H2
  generalize hct : chg T T' = CT
  have HCT := Lib.hid hct
  clear hct
  go_loopw [4, 5, 6] (fun s4 s5 s6 wr => ∃ A B D a b na nb ca cb, Lft wl s5 A a na ca ∧ Lft wl s6 B b nb cb ∧ Gat wl wr s4 D ∧ D ++ chg A B = CT ∧ na + nb + D.length ≤ 600 ∧ (∃ x y z, s4 = .slice x y z)) (fun s4 s5 s6 _ => match s5, s6 with | .slice _ n _, .slice _ m _ => n + m | _, _ => 0)
  case atStart => exact ⟨T, T', [], A1, A2, _, _, c1, c2, HF1.out, HF2.out, gat_nil wl, by rw [HCT.out]; rfl, by have := HL.out; simp; omega, none, 0, 0, rfl⟩
  case round =>
    obtain ⟨A, B, D, a, b, na, nb, ca, cb, h5, h6, hg, hd, hn, x4, y4, z4, e4⟩ := hrel
    have HG := Lib.hid hg
    have HD := Lib.hid hd
    have HN := Lib.hid hn
    have HLA := Lib.hid h5.len
    have HLB := Lib.hid h6.len
    have HRA := Lib.hid h5.rd
    have HRB := Lib.hid h6.rd
    have hca := h5.cap
    have hcb := h6.cap
    obtain rfl := h5.eq
    obtain rfl := h6.eq
    have HFA := Lib.hid (show Lft wl (.slice a na ca) A a na ca from ⟨rfl, HLA.out, hca, HRA.out⟩)
    have HFB := Lib.hid (show Lft wl (.slice b nb cb) B b nb cb from ⟨rfl, HLB.out, hcb, HRB.out⟩)
    clear h5 h6 hg hd hn
    subst e4
    cases A with
    | nil =>
      obtain rfl : na = 0 := by have := HLA.out; simpa using this.symm
      cases B with
      | nil =>
        obtain rfl : nb = 0 := by have := HLB.out; simpa using this.symm
        have HE := Lib.hid (show D = CT by have := HD.out; rw [chg_nn, List.append_nil] at this; exact this)
        go_wp2
        go_ret
        rw [HCT.out, ← HE.out]
        exact ⟨_, rfl, ownI_le HG.out.own HBL.out.size, HBL.out.trans (HG.out.bel.mono HBL.out.size)⟩
      | cons y B =>
        obtain ⟨m, rfl⟩ : ∃ m, nb = m + 1 := ⟨B.length, by have := HLB.out; simpa using this.symm⟩
        obtain ⟨b2, o2, eb, hy⟩ := HRB.out 0 (by simp)
        rw [Nat.zero_mul, Nat.add_zero, List.getElem_cons_zero] at hy
        subst eb
        have HY := Lib.hid (hy.below HG.out.bel)
        clear hy
        have q1 : (0 : Int) < (m : Int) + 1 := by omega
        have q2 : ¬ ((m : Int) + 1 = 0) := by omega
        obtain ⟨B'', htb, htb2⟩ := tail_run b2 o2 m cb hcb
        have HTB := Lib.hid htb
        have HTB2 := Lib.hid htb2
        clear htb htb2
        have HCD := Lib.hid (show D ++ ([⟨1, y⟩] ++ chg [] B) = CT by have := HD.out; rw [chg_n] at this; exact this)
        have c0 := HY.out.all.load (k := n20) (encR_n _) Try.prog
        have HGX := HG
        go_wp2_with (first
          | (refine wpList_build_run (o := ⟨some 74, .build 43 #[(0, .const (.int .i64 1)), (1, .tmp 73)], _, _, _, _⟩) rfl 43 #[(0, .const (.int .i64 1)), (1, .tmp 73)] rfl #[(0, .int .i64 1), (1, .agg (encR y).toArray)] (by simp [Act.eval, Act.put]) (build_I _ _ _) ?_)
          | (refine wpList_row_run (o := ⟨some 75, .buildSlice 58 1 #[(0, .tmp 74)], _, _, _, _⟩) rfl 58 1 #[(0, .tmp 74)] rfl #[(0, .agg (encI ⟨1, y⟩).toArray)] (by simp [Act.eval, Act.put]) (row_I1 _ _) ?_)
          | (refine wpList_appI rfl (.tmp 70) (.tmp 75) rfl _ ⟨1, y⟩ D rfl rfl HGX.out (by have := HN.out; omega) ?_; rintro v7 w7 h7 ⟨x7, y7, z7, rfl⟩; have H7 := Lib.hid h7; clear h7)
          | (refine wpList_slice_run (o := ⟨some 78, .slice 31 (.tmp 77) (some (.const (.int .i64 1))) none none, _, _, _, _⟩) rfl 31 (.tmp 77) (some (.const (.int .i64 1))) none none rfl _ _ _ _ rfl rfl rfl rfl (HTB.out _) ?_))
        go_roundw
        case rel => exact ⟨_, B, D ++ [⟨1, y⟩], _, _, _, m, _, _, HFA.out, Lft.next HRB.out HLB.out hcb HTB2.out, H7.out, by rw [List.append_assoc]; exact HCD.out, by have := HN.out; simp; omega, _, _, _, rfl⟩
        case measure => simp
    | cons x A =>
      obtain ⟨n, rfl⟩ : ∃ n, na = n + 1 := ⟨A.length, by have := HLA.out; simpa using this.symm⟩
      obtain ⟨b1, o1, ea, hx⟩ := HRA.out 0 (by simp)
      rw [Nat.zero_mul, Nat.add_zero, List.getElem_cons_zero] at hx
      subst ea
      have HX := Lib.hid (hx.below HG.out.bel)
      clear hx
      have p1 : (0 : Int) < (n : Int) + 1 := by omega
      have p2 : ¬ ((n : Int) + 1 = 0) := by omega
      obtain ⟨A'', hta, hta2⟩ := tail_run b1 o1 n ca hca
      have HTA := Lib.hid hta
      have HTA2 := Lib.hid hta2
      clear hta hta2
      cases B with
      | nil =>
        obtain rfl : nb = 0 := by have := HLB.out; simpa using this.symm
        have HCD := Lib.hid (show D ++ ([gone x] ++ chg A []) = CT by have := HD.out; rw [chg_c] at this; exact this)
        have c0 := HX.out.to.all.load (k := n18) (encP_n _) Try.prog
        have HGX := HG
        go_wp2_with (first
          | (refine wpList_build_run (o := ⟨some 61, .build 34 #[(0, .tmp 60)], _, _, _, _⟩) rfl 34 #[(0, .tmp 60)] rfl #[(0, .agg (encP x.to).toArray)] (by simp [Act.eval, Act.put]) (build_R1 _ _) ?_)
          | (refine wpList_build_run (o := ⟨some 62, .build 43 #[(0, .const (.int .i64 3)), (1, .tmp 61)], _, _, _, _⟩) rfl 43 #[(0, .const (.int .i64 3)), (1, .tmp 61)] rfl #[(0, .int .i64 3), (1, .agg (encR ⟨x.to, 0, 0⟩).toArray)] (by simp [Act.eval, Act.put]) (build_I _ _ _) ?_)
          | (refine wpList_row_run (o := ⟨some 63, .buildSlice 58 1 #[(0, .tmp 62)], _, _, _, _⟩) rfl 58 1 #[(0, .tmp 62)] rfl #[(0, .agg (encI ⟨3, ⟨x.to, 0, 0⟩⟩).toArray)] (by simp [Act.eval, Act.put]) (row_I1 _ _) ?_)
          | (refine wpList_appI rfl (.tmp 56) (.tmp 63) rfl _ ⟨3, ⟨x.to, 0, 0⟩⟩ D rfl rfl HGX.out (by have := HN.out; omega) ?_; rintro v7 w7 h7 ⟨x7, y7, z7, rfl⟩; have H7 := Lib.hid h7; clear h7)
          | (refine wpList_slice_run (o := ⟨some 66, .slice 31 (.tmp 65) (some (.const (.int .i64 1))) none none, _, _, _, _⟩) rfl 31 (.tmp 65) (some (.const (.int .i64 1))) none none rfl _ _ _ _ rfl rfl rfl rfl (HTA.out _) ?_))
        go_roundw
        case rel => exact ⟨A, _, D ++ [gone x], _, _, n, _, _, _, Lft.next HRA.out HLA.out hca HTA2.out, HFB.out, H7.out, by rw [List.append_assoc]; exact HCD.out, by have := HN.out; simp; omega, _, _, _, rfl⟩
        case measure => simp
      | cons y B =>
        obtain ⟨m, rfl⟩ : ∃ m, nb = m + 1 := ⟨B.length, by have := HLB.out; simpa using this.symm⟩
        obtain ⟨b2, o2, eb, hy⟩ := HRB.out 0 (by simp)
        rw [Nat.zero_mul, Nat.add_zero, List.getElem_cons_zero] at hy
        subst eb
        have HY := Lib.hid (hy.below HG.out.bel)
        clear hy
        have q1 : (0 : Int) < (m : Int) + 1 := by omega
        have q2 : ¬ ((m : Int) + 1 = 0) := by omega
        obtain ⟨B'', htb, htb2⟩ := tail_run b2 o2 m cb hcb
        have HTB := Lib.hid htb
        have HTB2 := Lib.hid htb2
        clear htb htb2
        obtain ⟨c, hc⟩ : ∃ c, cmpP x.to y.to = c := ⟨_, rfl⟩
        have HCV := Lib.hid hc
        clear hc
        go_upto_region 4 with fail
        have HX := Lib.hid HX.out.drew
        have HY := Lib.hid HY.out.drew
        have HG := Lib.hid (HG.out.below (Below.refl _ _).drew)
        refine wp_region_held_drew (S := (fun w' => RAt w' b1 o1 x ∧ RAt w' b2 o2 y)) (by kernel_rfl) ⟨HX.out, HY.out⟩ (fun _ => ?_)
        refine held_take 0 20 (v := ?_) rfl rfl (by kernel_rfl) (by kernel_rfl) (by kernel_rfl) (fun _ _ _ h => h) (by rfl) ?_ ⟨HX.out, HY.out⟩ ?_
        rotate_left
        · (intro w hSw; (try dsimp only at hSw); have c0 := hSw.1.to.all.load (k := n18) (encP_n _) Try.prog; have c1 := hSw.2.to.all.load (k := n18) (encP_n _) Try.prog; clear hSw;try simp only [List.getElem_toArray, List.getElem_cons_zero, List.getElem_cons_succ]; go_simp; try (with_reducible rfl))
        try simp only [List.setIfInBounds_toArray, List.set_cons_zero, List.set_cons_succ]
        refine held_take 1 21 (v := ?_) rfl rfl (by kernel_rfl) (by kernel_rfl) (by kernel_rfl) (fun _ _ _ h => h) (by rfl) ?_ ⟨HX.out, HY.out⟩ ?_
        rotate_left
        · (intro w hSw; (try dsimp only at hSw); have c0 := hSw.1.to.all.load (k := n18) (encP_n _) Try.prog; have c1 := hSw.2.to.all.load (k := n18) (encP_n _) Try.prog; clear hSw;try simp only [List.getElem_toArray, List.getElem_cons_zero, List.getElem_cons_succ]; go_simp; try (with_reducible rfl))
        try simp only [List.setIfInBounds_toArray, List.set_cons_zero, List.set_cons_succ]
        refine held_take 2 22 (v := ?_) rfl rfl (by kernel_rfl) (by kernel_rfl) (by kernel_rfl) (fun _ _ _ h => h) (by rfl) ?_ ⟨HX.out, HY.out⟩ ?_
        rotate_left
        · (intro w hSw; (try dsimp only at hSw); have c0 := hSw.1.to.all.load (k := n18) (encP_n _) Try.prog; have c1 := hSw.2.to.all.load (k := n18) (encP_n _) Try.prog; clear hSw;try simp only [List.getElem_toArray, List.getElem_cons_zero, List.getElem_cons_succ]; go_simp; try (with_reducible rfl))
        try simp only [List.setIfInBounds_toArray, List.set_cons_zero, List.set_cons_succ]
        refine held_take 3 23 (v := ?_) rfl rfl (by kernel_rfl) (by kernel_rfl) (by kernel_rfl) (fun _ _ _ h => h) (by rfl) ?_ ⟨HX.out, HY.out⟩ ?_
        rotate_left
        · (intro w hSw; (try dsimp only at hSw); have c0 := hSw.1.to.all.load (k := n18) (encP_n _) Try.prog; have c1 := hSw.2.to.all.load (k := n18) (encP_n _) Try.prog; clear hSw;try simp only [List.getElem_toArray, List.getElem_cons_zero, List.getElem_cons_succ]; go_simp; try (with_reducible rfl))
        try simp only [List.setIfInBounds_toArray, List.set_cons_zero, List.set_cons_succ]
        refine held_take 4 24 (v := ?_) rfl rfl (by kernel_rfl) (by kernel_rfl) (by kernel_rfl) (fun _ _ _ h => h) (by rfl) ?_ ⟨HX.out, HY.out⟩ ?_
        rotate_left
        · (intro w hSw; (try dsimp only at hSw); have c0 := hSw.1.to.all.load (k := n18) (encP_n _) Try.prog; have c1 := hSw.2.to.all.load (k := n18) (encP_n _) Try.prog; clear hSw;try simp only [List.getElem_toArray, List.getElem_cons_zero, List.getElem_cons_succ]; go_simp; try (with_reducible rfl))
        try simp only [List.setIfInBounds_toArray, List.set_cons_zero, List.set_cons_succ]
        refine held_take 5 25 (v := ?_) rfl rfl (by kernel_rfl) (by kernel_rfl) (by kernel_rfl) (fun _ _ _ h => h) (by rfl) ?_ ⟨HX.out, HY.out⟩ ?_
        rotate_left
        · (intro w hSw; (try dsimp only at hSw); have c0 := hSw.1.to.all.load (k := n18) (encP_n _) Try.prog; have c1 := hSw.2.to.all.load (k := n18) (encP_n _) Try.prog; clear hSw;try simp only [List.getElem_toArray, List.getElem_cons_zero, List.getElem_cons_succ]; go_simp; try (with_reducible rfl))
        try simp only [List.setIfInBounds_toArray, List.set_cons_zero, List.set_cons_succ]
        refine held_take 6 26 (v := ?_) rfl rfl (by kernel_rfl) (by kernel_rfl) (by kernel_rfl) (fun _ _ _ h => h) (by rfl) ?_ ⟨HX.out, HY.out⟩ ?_
        rotate_left
        · (intro w hSw; (try dsimp only at hSw); have c0 := hSw.1.to.all.load (k := n18) (encP_n _) Try.prog; have c1 := hSw.2.to.all.load (k := n18) (encP_n _) Try.prog; clear hSw;try simp only [List.getElem_toArray, List.getElem_cons_zero, List.getElem_cons_succ]; go_simp; try (with_reducible rfl))
        try simp only [List.setIfInBounds_toArray, List.set_cons_zero, List.set_cons_succ]
        refine held_take 7 27 (v := ?_) rfl rfl (by kernel_rfl) (by kernel_rfl) (by kernel_rfl) (fun _ _ _ h => h) (by rfl) ?_ ⟨HX.out, HY.out⟩ ?_
        rotate_left
        · (intro w hSw; (try dsimp only at hSw); have c0 := hSw.1.to.all.load (k := n18) (encP_n _) Try.prog; have c1 := hSw.2.to.all.load (k := n18) (encP_n _) Try.prog; clear hSw;try simp only [List.getElem_toArray, List.getElem_cons_zero, List.getElem_cons_succ]; go_simp; try (with_reducible rfl))
        try simp only [List.setIfInBounds_toArray, List.set_cons_zero, List.set_cons_succ]
        refine held_call 8 28 rfl rfl (by kernel_rfl) (by rfl) (fun K hK => ?_)
        try simp only [List.getElem_toArray, List.getElem_cons_zero, List.getElem_cons_succ]
        go_simp
        (go_at_call 40; (with_reducible refine (compare_any _ _ _).mono ?_); rintro e w3 ⟨rfl, hb3⟩; rw [HCV.out]; have HX := Lib.hid (HX.out.below hb3); have HY := Lib.hid (HY.out.below hb3); have HG := Lib.hid (HG.out.below hb3); clear hb3)
        try go_wp2_with fail
        try simp only [Act.put, List.setIfInBounds_toArray, List.set_cons_zero, List.set_cons_succ]
        refine hK.out _ _ _ ⟨HX.out, HY.out⟩ ?_
        clear hK K
        refine held_take 9 7 (v := ?_) rfl rfl (by kernel_rfl) (by kernel_rfl) (by kernel_rfl) (fun _ _ _ h => h) (by rfl) ?_ ⟨HX.out, HY.out⟩ ?_
        rotate_left
        · (intro w hSw; (try dsimp only at hSw); have c0 := hSw.1.to.all.load (k := n18) (encP_n _) Try.prog; have c1 := hSw.2.to.all.load (k := n18) (encP_n _) Try.prog; clear hSw;try simp only [List.getElem_toArray, List.getElem_cons_zero, List.getElem_cons_succ]; go_simp; try (with_reducible rfl))
        try simp only [List.setIfInBounds_toArray, List.set_cons_zero, List.set_cons_succ]
        refine wpAnyH_done (by kernel_rfl) ?_ _
        rcases Int.lt_trichotomy c 0 with hc | hc | hc
        · have HCD := Lib.hid (show D ++ ([gone x] ++ chg A (y :: B)) = CT by have := HD.out; rw [chg_cc, HCV.out, if_pos hc] at this; exact this)
          have c0 := HX.out.to.all.load (k := n18) (encP_n _) Try.prog
          have HGX := HG
          go_wp2_with (first
            | (refine wpList_build_run (o := ⟨some 61, .build 34 #[(0, .tmp 60)], _, _, _, _⟩) rfl 34 #[(0, .tmp 60)] rfl #[(0, .agg (encP x.to).toArray)] (by simp [Act.eval, Act.put]) (build_R1 _ _) ?_)
            | (refine wpList_build_run (o := ⟨some 62, .build 43 #[(0, .const (.int .i64 3)), (1, .tmp 61)], _, _, _, _⟩) rfl 43 #[(0, .const (.int .i64 3)), (1, .tmp 61)] rfl #[(0, .int .i64 3), (1, .agg (encR ⟨x.to, 0, 0⟩).toArray)] (by simp [Act.eval, Act.put]) (build_I _ _ _) ?_)
            | (refine wpList_row_run (o := ⟨some 63, .buildSlice 58 1 #[(0, .tmp 62)], _, _, _, _⟩) rfl 58 1 #[(0, .tmp 62)] rfl #[(0, .agg (encI ⟨3, ⟨x.to, 0, 0⟩⟩).toArray)] (by simp [Act.eval, Act.put]) (row_I1 _ _) ?_)
            | (refine wpList_appI rfl (.tmp 56) (.tmp 63) rfl _ ⟨3, ⟨x.to, 0, 0⟩⟩ D rfl rfl HGX.out (by have := HN.out; omega) ?_; rintro v7 w7 h7 ⟨x7, y7, z7, rfl⟩; have H7 := Lib.hid h7; clear h7)
            | (refine wpList_slice_run (o := ⟨some 66, .slice 31 (.tmp 65) (some (.const (.int .i64 1))) none none, _, _, _, _⟩) rfl 31 (.tmp 65) (some (.const (.int .i64 1))) none none rfl _ _ _ _ rfl rfl rfl rfl (HTA.out _) ?_))
          go_roundw
          case rel => exact ⟨A, _, D ++ [gone x], _, _, n, _, _, _, Lft.next HRA.out HLA.out hca HTA2.out, HFB.out, H7.out, by rw [List.append_assoc]; exact HCD.out, by have := HN.out; simp; omega, _, _, _, rfl⟩
          case measure => simp
        · subst hc
          by_cases hxy : x = y
          · subst hxy
            have HCD := Lib.hid (show D ++ chg A B = CT by have := HD.out; rw [chg_cc, HCV.out, if_neg (by decide), if_neg (by decide), if_pos rfl] at this; exact this)
            have hl1 : ∀ m, Sem.run Try.prog (loadCellsFrom ⟨b1, o1, none⟩ 0 n20 #[]) (w3.drewN m) = .ok (encR x).toArray (w3.drewN m) := fun m => (HX.out.drewN m).all.load (k := n20) (encR_n _) Try.prog
            have hl2 : ∀ m, Sem.run Try.prog (loadCellsFrom ⟨b2, o2, none⟩ 0 n20 #[]) (w3.drewN m) = .ok (encR x).toArray (w3.drewN m) := fun m => (HY.out.drewN m).all.load (k := n20) (encR_n _) Try.prog
            go_wp2
            go_quiet (fail)
            generalize hW : w3.drewN _ = W5
            have HG5 := Lib.hid (show Gat wl W5 (.slice x4 y4 z4) D from hW ▸ HG.out.drewN _)
            clear hl1 hl2 hW
            go_wp2_with (first
              | (refine wpList_slice_run (o := ⟨some 52, .slice 31 (.tmp 51) (some (.const (.int .i64 1))) none none, _, _, _, _⟩) rfl 31 (.tmp 51) (some (.const (.int .i64 1))) none none rfl _ _ _ _ rfl rfl rfl rfl (HTA.out _) ?_)
              | (refine wpList_slice_run (o := ⟨some 78, .slice 31 (.tmp 77) (some (.const (.int .i64 1))) none none, _, _, _, _⟩) rfl 31 (.tmp 77) (some (.const (.int .i64 1))) none none rfl _ _ _ _ rfl rfl rfl rfl (HTB.out _) ?_))
            go_roundw
            case rel => exact ⟨A, B, D, _, _, n, m, _, _, Lft.next HRA.out HLA.out hca HTA2.out, Lft.next HRB.out HLB.out hcb HTB2.out, HG5.out, HCD.out, by have := HN.out; omega, _, _, _, rfl⟩
            case measure => simp; omega
          · have HCD := Lib.hid (show D ++ ([⟨2, y⟩] ++ chg A B) = CT by have := HD.out; rw [chg_cc, HCV.out, if_neg (by decide), if_neg (by decide), if_neg hxy] at this; exact this)
            have hl1 : ∀ m, Sem.run Try.prog (loadCellsFrom ⟨b1, o1, none⟩ 0 n20 #[]) (w3.drewN m) = .ok (encR x).toArray (w3.drewN m) := fun m => (HX.out.drewN m).all.load (k := n20) (encR_n _) Try.prog
            have hl2 : ∀ m, Sem.run Try.prog (loadCellsFrom ⟨b2, o2, none⟩ 0 n20 #[]) (w3.drewN m) = .ok (encR y).toArray (w3.drewN m) := fun m => (HY.out.drewN m).all.load (k := n20) (encR_n _) Try.prog
            have hd : decide (x = y) = false := decide_eq_false hxy
            go_wp2
            go_quiet (fail)
            generalize hW : w3.drewN _ = W5
            have HGX := Lib.hid (show Gat wl W5 (.slice x4 y4 z4) D from hW ▸ HG.out.drewN _)
            have c0 : Sem.run Try.prog (loadCellsFrom ⟨b2, o2, none⟩ 0 n20 #[]) W5 = .ok (encR y).toArray W5 := hW ▸ hl2 _
            clear hl1 hl2 hW
            go_wp2_with (first
              | (refine wpList_build_run (o := ⟨some 48, .build 43 #[(0, .const (.int .i64 2)), (1, .tmp 47)], _, _, _, _⟩) rfl 43 #[(0, .const (.int .i64 2)), (1, .tmp 47)] rfl #[(0, .int .i64 2), (1, .agg (encR y).toArray)] (by simp [Act.eval, Act.put]) (build_I _ _ _) ?_)
              | (refine wpList_row_run (o := ⟨some 49, .buildSlice 58 1 #[(0, .tmp 48)], _, _, _, _⟩) rfl 58 1 #[(0, .tmp 48)] rfl #[(0, .agg (encI ⟨2, y⟩).toArray)] (by simp [Act.eval, Act.put]) (row_I1 _ _) ?_)
              | (refine wpList_appI rfl (.tmp 44) (.tmp 49) rfl _ ⟨2, y⟩ D rfl rfl HGX.out (by have := HN.out; omega) ?_; rintro v7 w7 h7 ⟨x7, y7, z7, rfl⟩; have H7 := Lib.hid h7; clear h7)
              | (refine wpList_slice_run (o := ⟨some 52, .slice 31 (.tmp 51) (some (.const (.int .i64 1))) none none, _, _, _, _⟩) rfl 31 (.tmp 51) (some (.const (.int .i64 1))) none none rfl _ _ _ _ rfl rfl rfl rfl (HTA.out _) ?_)
              | (refine wpList_slice_run (o := ⟨some 78, .slice 31 (.tmp 77) (some (.const (.int .i64 1))) none none, _, _, _, _⟩) rfl 31 (.tmp 77) (some (.const (.int .i64 1))) none none rfl _ _ _ _ rfl rfl rfl rfl (HTB.out _) ?_))
            go_roundw
            case rel => exact ⟨A, B, D ++ [⟨2, y⟩], _, _, n, m, _, _, Lft.next HRA.out HLA.out hca HTA2.out, Lft.next HRB.out HLB.out hcb HTB2.out, H7.out, by rw [List.append_assoc]; exact HCD.out, by have := HN.out; simp; omega, _, _, _, rfl⟩
            case measure => simp; omega
        · have hc' : ¬ c < 0 := by omega
          have HCD := Lib.hid (show D ++ ([⟨1, y⟩] ++ chg (x :: A) B) = CT by have := HD.out; rw [chg_cc, HCV.out, if_neg hc', if_pos hc] at this; exact this)
          have c0 := HY.out.all.load (k := n20) (encR_n _) Try.prog
          have HGX := HG
          go_wp2_with (first
            | (refine wpList_build_run (o := ⟨some 74, .build 43 #[(0, .const (.int .i64 1)), (1, .tmp 73)], _, _, _, _⟩) rfl 43 #[(0, .const (.int .i64 1)), (1, .tmp 73)] rfl #[(0, .int .i64 1), (1, .agg (encR y).toArray)] (by simp [Act.eval, Act.put]) (build_I _ _ _) ?_)
            | (refine wpList_row_run (o := ⟨some 75, .buildSlice 58 1 #[(0, .tmp 74)], _, _, _, _⟩) rfl 58 1 #[(0, .tmp 74)] rfl #[(0, .agg (encI ⟨1, y⟩).toArray)] (by simp [Act.eval, Act.put]) (row_I1 _ _) ?_)
            | (refine wpList_appI rfl (.tmp 70) (.tmp 75) rfl _ ⟨1, y⟩ D rfl rfl HGX.out (by have := HN.out; omega) ?_; rintro v7 w7 h7 ⟨x7, y7, z7, rfl⟩; have H7 := Lib.hid h7; clear h7)
            | (refine wpList_slice_run (o := ⟨some 78, .slice 31 (.tmp 77) (some (.const (.int .i64 1))) none none, _, _, _, _⟩) rfl 31 (.tmp 77) (some (.const (.int .i64 1))) none none rfl _ _ _ _ rfl rfl rfl rfl (HTB.out _) ?_))
          go_roundw
          case rel => exact ⟨_, B, D ++ [⟨1, y⟩], _, _, _, m, _, _, HFA.out, Lft.next HRB.out HLB.out hcb HTB2.out, H7.out, by rw [List.append_assoc]; exact HCD.out, by have := HN.out; simp; omega, _, _, _, rfl⟩
          case measure => simp
end Tab
end Go.Proofs.Ytbeoclcnajfjcaa
