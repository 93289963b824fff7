/-
  DigestLists: the walk. Conditions: none.
-/
import Derived.Test.YtdcbbjlbfghpbaaDk
import Derived.Test.YtdcbbjlbfghpbaaDl
namespace Go.Proofs.Ytdcbbjlbfghpbaa.DigestLists
open Go Go.RowKit H2 Tab Dig
set_option linter.unusedVariables false
set_option linter.unusedSimpArgs false
/-- what More answers, all of it -/
def MoreA (w w' : World) (A : Option Addr) (n cap : Nat) (F : Dg) (x : In) (was : Rt) (e : Ending) : Prop :=
  ∃ A' c' F', e = .returned (.slice A' n c') ∧ RdG w' A' n F' ∧ Below w.heap.size w w' ∧ (¬ (n = 17 ∧ 1 ≤ x.kind ∧ x.kind ≤ 3) → F' = F)
theorem more_any (A : Option Addr) (n cap : Nat) (F : Dg) (x : In) (was : Rt) (w : World) (hr : RdG w A n F) :
    Calls Try.prog 26 #[.slice A n cap, .agg (Tab.encI x).toArray, .agg (encR was).toArray] w fun e w' => MoreA w w' A n cap F x was e := by
  by_cases h : n = 17 ∧ 1 ≤ x.kind ∧ x.kind ≤ 3
  · obtain ⟨rfl, h2⟩ := h
    exact (more_go A cap F x was w hr h2).mono fun e w' ⟨g, c, h3, h4, h5, h6⟩ => ⟨_, c, _, h3, h5.rd, h6, fun h7 => absurd ⟨rfl, h2⟩ h7⟩
  · exact (more_kept A n cap x was w h).mono fun e w' ⟨h1, h2⟩ => ⟨A, cap, F, h1, hr.below h2, h2, fun _ => rfl⟩
theorem smn_same (n : Nat) (F : Nat → Int) : smN n n F F = true := decide_eq_true ⟨rfl, fun _ _ => rfl⟩
theorem smd_same (n : Nat) (F : Dg) : smD n n F F = true := decide_eq_true ⟨rfl, fun _ _ => rfl⟩
theorem rg_nil {w : World} {A : Option Addr} {n : Nat} {F : Dg} (h : RdG w A n F) : A = none → n = 0 := fun e => by
  subst e
  rcases n with _ | n
  · rfl
  · obtain ⟨_, _, h0, _⟩ := h 0 (by omega)
    cases h0
set_option maxRecDepth 100000 in
set_option maxHeartbeats 40000000 in
theorem walk (v0 v1 v2 : Value) (W : World) (w0 : Dig.IsGs W v0) (w1 : Dig.IsGs W v1) (w2 : Dig.IsIn W v2) : Calls Try.prog 6 #[v0, v1, v2] W fun e w' => e = .returned (.bool true) ∧ Below W.heap.size W w' := by
  obtain ⟨A, n, cap, F, rfl, hl, hr⟩ := w0
  obtain ⟨A', n', cap', F', rfl, hl', hr'⟩ := w1
  obtain ⟨⟨k, y⟩, rfl⟩ := w2
  have HR := Lib.hid hr
  have HR' := Lib.hid hr'
  unfold maxLen at hl hl'
  have hl := Nat.le_trans hl.1 hl.2
  have hl' := Nat.le_trans hl'.1 hl'.2
  clear hr hr'
  have n0 : (0 : Int) ≤ (n : Int) := by omega
  have n0' : (0 : Int) ≤ (n' : Int) := by omega
  by_cases hbig : (40 : Int) < (n : Int)
  · have hbd : decide ((40 : Int) < (n : Int)) = true := decide_eq_true hbig
    go_enter Try.func6, Try.ntmps6
    go_upto_region 1 with fail
    have HX := Lib.hid (iAt_new W ⟨k, y⟩ 59 (0, 0))
    have HB0 := Lib.hid (show Below W.heap.size W (W.alloc (.cells (Tab.encI ⟨k, y⟩).toArray 59 (0, 0))) from (Below.refl _ _).alloc (Nat.le_refl _) _)
    generalize W.alloc _ = W0 at HX HB0 ⊢
    have hb := Lib.hid (Below.refl W0.heap.size W0)
    obtain ⟨B, hB⟩ : ∃ b, W.heap.size = b := ⟨_, rfl⟩
    rw [hB] at HX ⊢
    have HBW := Lib.hid hB
    clear hB
    go_wp2_with (first
      | (go_at_call 8; (with_reducible refine (Dig.awake_any _).mono ?_); rintro e w1 ⟨rfl, h1⟩; have hb := Lib.hid (hb.out.trans (h1.mono hb.out.size)); clear h1))
    go_ret
    exact ⟨rfl, by have h9 := HB0.out.trans (hb.out.mono HB0.out.size); first | exact h9 | (rw [HBW.out] at h9; exact h9)⟩
  have hbd : decide ((40 : Int) < (n : Int)) = false := decide_eq_false hbig
  by_cases hbig' : (40 : Int) < (n' : Int)
  · have hbd' : decide ((40 : Int) < (n' : Int)) = true := decide_eq_true hbig'
    go_enter Try.func6, Try.ntmps6
    go_upto_region 1 with fail
    have HX := Lib.hid (iAt_new W ⟨k, y⟩ 59 (0, 0))
    have HB0 := Lib.hid (show Below W.heap.size W (W.alloc (.cells (Tab.encI ⟨k, y⟩).toArray 59 (0, 0))) from (Below.refl _ _).alloc (Nat.le_refl _) _)
    generalize W.alloc _ = W0 at HX HB0 ⊢
    have hb := Lib.hid (Below.refl W0.heap.size W0)
    obtain ⟨B, hB⟩ : ∃ b, W.heap.size = b := ⟨_, rfl⟩
    rw [hB] at HX ⊢
    have HBW := Lib.hid hB
    clear hB
    go_wp2_with (first
      | (go_at_call 8; (with_reducible refine (Dig.awake_any _).mono ?_); rintro e w1 ⟨rfl, h1⟩; have hb := Lib.hid (hb.out.trans (h1.mono hb.out.size)); clear h1))
    go_ret
    exact ⟨rfl, by have h9 := HB0.out.trans (hb.out.mono HB0.out.size); first | exact h9 | (rw [HBW.out] at h9; exact h9)⟩
  have hbd' : decide ((40 : Int) < (n' : Int)) = false := decide_eq_false hbig'
  have hn3 : n ≤ 40 := by omega
  have hn3' : n' ≤ 40 := by omega
  have HNI := Lib.hid (rg_nil HR.out)
  go_enter Try.func6, Try.ntmps6
  go_upto_region 1 with fail
  have HX := Lib.hid (iAt_new W ⟨k, y⟩ 59 (0, 0))
  have HB0 := Lib.hid (show Below W.heap.size W (W.alloc (.cells (Tab.encI ⟨k, y⟩).toArray 59 (0, 0))) from (Below.refl _ _).alloc (Nat.le_refl _) _)
  generalize W.alloc _ = W0 at HX HB0 ⊢
  have hb := Lib.hid (Below.refl W0.heap.size W0)
  obtain ⟨B, hB⟩ : ∃ b, W.heap.size = b := ⟨_, rfl⟩
  rw [hB] at HX ⊢
  have HBW := Lib.hid hB
  clear hB
  go_upto_region 3 with (first
    | (go_at_call 8; (with_reducible refine (Dig.awake_any _).mono ?_); rintro e w1 ⟨rfl, h1⟩; have hb := Lib.hid (hb.out.trans (h1.mono hb.out.size)); clear h1))
  have HX1 := Lib.hid (HX.out.below hb.out).drew
  have HBW1 := Lib.hid (HB0.out.trans (hb.out.mono HB0.out.size))
  have HB1 := Lib.hid HBW1.out.drew
  have HRA := Lib.hid (HR.out.below (show Below W.heap.size W w1.drew by have h9 := HB1.out; first | exact h9 | (rw [← HBW.out] at h9; exact h9)))
  have HRB := Lib.hid (HR'.out.below (show Below W.heap.size W w1.drew by have h9 := HB1.out; first | exact h9 | (rw [← HBW.out] at h9; exact h9)))
  clear HX hb HB0
  have HRA0 := HRA
  have HX0 := HX1
  have hs0 := Lib.hid ((gd_zero 55 w1).below (Below.refl _ _).drew)
  refine wp_region_held_drew (S := (fun w' => RdG w' A n F ∧ IAt w' B 0 ⟨k, y⟩)) (by kernel_rfl) ⟨HRA.out, HX1.out⟩ (fun _ => ?_)
  refine held_take 1 25 (v := ?_) rfl rfl (by kernel_rfl) (by kernel_rfl) (by kernel_rfl) (fun _ _ _ h => h) (by rfl) ?_ ⟨HRA.out, HX1.out⟩ ?_
  rotate_left
  · (intro w hSw; (try dsimp only at hSw); have a0 := hSw.2.all.load (k := n21) (encI_n _) Try.prog; have a1 : Sem.run Try.prog (loadCellsFrom ⟨B, 1, none⟩ 0 n20 #[]) w = .ok (encR y).toArray w := hSw.2.rt.all.load (k := n20) (encR_n _) Try.prog; clear hSw;try simp only [List.getElem_toArray, List.getElem_cons_zero, List.getElem_cons_succ]; go_simp; try (with_reducible rfl))
  try simp only [List.setIfInBounds_toArray, List.set_cons_zero, List.set_cons_succ]
  refine held_take 3 27 (v := ?_) rfl rfl (by kernel_rfl) (by kernel_rfl) (by kernel_rfl) (fun _ _ _ h => h) (by rfl) ?_ ⟨HRA.out, HX1.out⟩ ?_
  rotate_left
  · (intro w hSw; (try dsimp only at hSw); have a0 := hSw.2.all.load (k := n21) (encI_n _) Try.prog; have a1 : Sem.run Try.prog (loadCellsFrom ⟨B, 1, none⟩ 0 n20 #[]) w = .ok (encR y).toArray w := hSw.2.rt.all.load (k := n20) (encR_n _) Try.prog; clear hSw;try simp only [List.getElem_toArray, List.getElem_cons_zero, List.getElem_cons_succ]; go_simp; try (with_reducible rfl))
  try simp only [List.setIfInBounds_toArray, List.set_cons_zero, List.set_cons_succ]
  refine held_take 4 28 (v := ?_) rfl rfl (by kernel_rfl) (by kernel_rfl) (by kernel_rfl) (fun _ _ _ h => h) (by rfl) ?_ ⟨HRA.out, HX1.out⟩ ?_
  rotate_left
  · (intro w hSw; (try dsimp only at hSw); have a0 := hSw.2.all.load (k := n21) (encI_n _) Try.prog; have a1 : Sem.run Try.prog (loadCellsFrom ⟨B, 1, none⟩ 0 n20 #[]) w = .ok (encR y).toArray w := hSw.2.rt.all.load (k := n20) (encR_n _) Try.prog; clear hSw;try simp only [List.getElem_toArray, List.getElem_cons_zero, List.getElem_cons_succ]; go_simp; try (with_reducible rfl))
  try simp only [List.setIfInBounds_toArray, List.set_cons_zero, List.set_cons_succ]
  refine held_take 5 29 (v := ?_) rfl rfl (by kernel_rfl) (by kernel_rfl) (by kernel_rfl) (fun _ _ _ h => h) (by rfl) ?_ ⟨HRA.out, HX1.out⟩ ?_
  rotate_left
  · (intro w hSw; (try dsimp only at hSw); have a0 := hSw.2.all.load (k := n21) (encI_n _) Try.prog; have a1 : Sem.run Try.prog (loadCellsFrom ⟨B, 1, none⟩ 0 n20 #[]) w = .ok (encR y).toArray w := hSw.2.rt.all.load (k := n20) (encR_n _) Try.prog; clear hSw;try simp only [List.getElem_toArray, List.getElem_cons_zero, List.getElem_cons_succ]; go_simp; try (with_reducible rfl))
  try simp only [List.setIfInBounds_toArray, List.set_cons_zero, List.set_cons_succ]
  refine held_call 0 24 rfl rfl (by kernel_rfl) (by rfl) (fun K hK => ?_)
  try simp only [List.getElem_toArray, List.getElem_cons_zero, List.getElem_cons_succ]
  (go_simp; have hq := (((Below.refl w1.heap.size w1).alloc (Nat.le_refl _) (.cells #[] 55 (0, 0))).drew); have HRA := Lib.hid (RdG.below (w := w1) HRA.out hq); have HX1 := Lib.hid (IAt.below (w := w1) ⟨HX1.out.all⟩ hq); clear hq)
  try simp only [Act.put, List.setIfInBounds_toArray, List.set_cons_zero, List.set_cons_succ]
  refine hK.out _ _ _ ⟨HRA.out, HX1.out⟩ ?_
  clear hK K
  refine held_call 2 26 rfl rfl (by kernel_rfl) (by rfl) (fun K hK => ?_)
  try simp only [List.getElem_toArray, List.getElem_cons_zero, List.getElem_cons_succ]
  (refine wp_appGn tyD (.tmp 24) (.tmp 25) rfl _ [] A n cap F rfl rfl hs0.out HRA.out HNI.out (by simp; omega) ?_; rintro v7 w7 h7 _; rw [List.nil_append] at h7; have HB7 := Lib.hid h7.bel; obtain ⟨A7, c7, hv7, hr7⟩ := h7.rdl; subst hv7; have HR7 := Lib.hid hr7; have HRA := Lib.hid (RdG.below (w := w1) HRA0.out HB7.out); have HX1 := Lib.hid (IAt.below (w := w1) ⟨HX0.out.all⟩ HB7.out); have HMO := Lib.hid (more_any A7 n c7 F ⟨k, y⟩ y w7 HR7.out); clear h7 hr7)
  try simp only [Act.put, List.setIfInBounds_toArray, List.set_cons_zero, List.set_cons_succ]
  refine hK.out _ _ _ ⟨HRA.out, HX1.out⟩ ?_
  clear hK K
  refine held_call 6 30 rfl rfl (by kernel_rfl) (by rfl) (fun K hK => ?_)
  try simp only [List.getElem_toArray, List.getElem_cons_zero, List.getElem_cons_succ]
  go_simp
  (go_at_call 26; (with_reducible refine (HMO.out).mono ?_); rintro e w8 ⟨A8, c8, F8, rfl, h1, h2, h3⟩; have HR8 := Lib.hid h1; have HK8 := Lib.hid h3; have HRA := Lib.hid (HRA.out.below h2); have HX1 := Lib.hid (HX1.out.below h2); have HB8 := Lib.hid (HB7.out.trans (h2.mono HB7.out.size)); clear h1 h2 h3)
  try go_wp2_with fail
  try simp only [Act.put, List.setIfInBounds_toArray, List.set_cons_zero, List.set_cons_succ]
  refine hK.out _ _ _ ⟨HRA.out, HX1.out⟩ ?_
  clear hK K
  refine held_take 7 7 (v := ?_) rfl rfl (by kernel_rfl) (by kernel_rfl) (by kernel_rfl) (fun _ _ _ h => h) (by rfl) ?_ ⟨HRA.out, HX1.out⟩ ?_
  rotate_left
  · (intro w hSw; (try dsimp only at hSw); have a0 := hSw.2.all.load (k := n21) (encI_n _) Try.prog; have a1 : Sem.run Try.prog (loadCellsFrom ⟨B, 1, none⟩ 0 n20 #[]) w = .ok (encR y).toArray w := hSw.2.rt.all.load (k := n20) (encR_n _) Try.prog; clear hSw;try simp only [List.getElem_toArray, List.getElem_cons_zero, List.getElem_cons_succ]; go_simp; try (with_reducible rfl))
  try simp only [List.setIfInBounds_toArray, List.set_cons_zero, List.set_cons_succ]
  refine wpAnyH_done (by kernel_rfl) ?_ _
  have HBA := Lib.hid (show Below W.heap.size W w8 from (by have h9 := HBW1.out.trans (HB8.out.mono HBW1.out.size); first | exact h9 | (rw [← HBW.out] at h9; exact h9)))
  have HRB := Lib.hid (RdG.below (w := w1) HRB.out HB8.out)
  have ck : w8.cell? ⟨B, 0, none⟩ = some (.int .i64 k) := HX1.out.kind
  clear HB8 HB7 HB1 HX0 HRA0 hs0 HMO HR7
  have hb := Lib.hid (Below.refl w8.heap.size w8)
  have HRP := Lib.hid (fun (V : World) => repl_nil 0 V)
  have HPN := Lib.hid (fun (V : World) => part_nil 0 V)
  have HDF := Lib.hid (fun (V : World) (hb : Below w8.heap.size w8 V) => differ_any A A' n n' cap cap' F F' V (HRA.out.below hb) (HRB.out.below hb))
  have HLA := Lib.hid (fun (V : World) (hb : Below w8.heap.size w8 V) => like_any A n cap F (by omega) V (HRA.out.below hb))
  have HLB := Lib.hid (fun (V : World) (hb : Below w8.heap.size w8 V) => like_any A' n' cap' F' (by omega) V (HRB.out.below hb))
  have HDL := Lib.hid (difs_len n n' F F' 17)
  obtain ⟨DD, hDD⟩ : ∃ D, difs n n' F F' 17 = D := ⟨_, rfl⟩
  have HDE := Lib.hid hDD
  rw [hDD] at HDF HDL
  clear hDD
  by_cases h1 : n = 17
  · subst h1
    by_cases h2 : k < 1
    · have h2d : decide (k < 1) = true := decide_eq_true h2
      have HE8 := Lib.hid (HK8.out (by intro h; have := h.2.1; omega))
      have HR8 := Lib.hid (show RdG w8 A8 17 F by have := HR8.out; rw [HE8.out] at this; exact this)
      have HSD := Lib.hid (fun B c (V : World) (hb : Below w8.heap.size w8 V) => same_dig A8 B 17 17 c8 c F F (by omega) V (HR8.out.below hb))
      rw [smd_same] at HSD
      go_wp2_with (first
        | (go_at_call 11; (with_reducible refine (HRP.out _).mono ?_); rintro e w9 ⟨rfl, h1⟩; clear ck; have hb := Lib.hid (hb.out.trans (h1.mono hb.out.size)); clear h1)
        | (go_at_call 23; (with_reducible refine (HDF.out _ hb.out).mono ?_); rintro e w10 ⟨v10, rfl, h1⟩; obtain ⟨A10, c10, hv10, hr10⟩ := gn_rd h1; subst hv10; have HR10 := Lib.hid hr10; have hb := Lib.hid (hb.out.trans (h1.bel.mono hb.out.size)); clear h1 hr10)
        | (go_at_call 29; (with_reducible refine (HLA.out _ hb.out).mono ?_); rintro e w11 ⟨v11, rfl, h1⟩; obtain ⟨A11, c11, hv11, hr11⟩ := h1.rdl; subst hv11; have HR11 := Lib.hid hr11; (try have HR10 := Lib.hid (HR10.out.below h1.bel)); have hb := Lib.hid (hb.out.trans (h1.bel.mono hb.out.size)); clear h1 hr11)
        | (go_at_call 29; (with_reducible refine (HLB.out _ hb.out).mono ?_); rintro e w12 ⟨v12, rfl, h1⟩; obtain ⟨A12, c12, hv12, hr12⟩ := h1.rdl; subst hv12; have HR12 := Lib.hid hr12; have HR10 := Lib.hid (HR10.out.below h1.bel); have HR11 := Lib.hid (HR11.out.below h1.bel); have hb := Lib.hid (hb.out.trans (h1.bel.mono hb.out.size)); clear h1 hr12; have HRD := Lib.hid (refDiffer_any A11 A12 17 n' c11 c12 F F' w12 HR11.out HR12.out); rw [HDE.out] at HRD)
        | (go_at_call 28; (with_reducible refine (HRD.out).mono ?_); rintro e w13 ⟨v13, rfl, h1⟩; obtain ⟨A13, c13, hv13, hr13⟩ := gn_rd h1; subst hv13; have HR10 := Lib.hid (HR10.out.below h1.bel); have hb := Lib.hid (hb.out.trans (h1.bel.mono hb.out.size)); have HIN := Lib.hid (ints_any A10 A13 DD.length DD.length c10 c13 _ _ (by have := HDL.out; omega) w13 HR10.out hr13); rw [smn_same] at HIN; clear h1 hr13)
        | (go_at_call 27; (with_reducible refine (HIN.out).mono ?_); rintro e w14 ⟨rfl, h1⟩; have hb := Lib.hid (hb.out.trans (h1.mono hb.out.size)); clear h1)
        | (go_at_call 17; (with_reducible refine (HSD.out _ _ _ hb.out HR11.out).mono ?_); rintro e w15 ⟨rfl, h1⟩; have hb := Lib.hid (hb.out.trans (h1.mono hb.out.size)); clear h1)
        | (go_at_call 21; (with_reducible refine (HPN.out _).mono ?_); rintro e w16 ⟨rfl, h1⟩; have hb := Lib.hid (hb.out.trans (h1.mono hb.out.size)); clear h1))
      go_ret
      exact ⟨rfl, HBA.out.trans (hb.out.mono HBA.out.size)⟩
    · have h2d : decide (k < 1) = false := decide_eq_false h2
      by_cases h3 : 3 < k
      · have h3d : decide (3 < k) = true := decide_eq_true h3
        have HE8 := Lib.hid (HK8.out (by intro h; have := h.2.2; omega))
        have HR8 := Lib.hid (show RdG w8 A8 17 F by have := HR8.out; rw [HE8.out] at this; exact this)
        have HSD := Lib.hid (fun B c (V : World) (hb : Below w8.heap.size w8 V) => same_dig A8 B 17 17 c8 c F F (by omega) V (HR8.out.below hb))
        rw [smd_same] at HSD
        go_wp2_with (first
          | (go_at_call 11; (with_reducible refine (HRP.out _).mono ?_); rintro e w9 ⟨rfl, h1⟩; clear ck; have hb := Lib.hid (hb.out.trans (h1.mono hb.out.size)); clear h1)
          | (go_at_call 23; (with_reducible refine (HDF.out _ hb.out).mono ?_); rintro e w10 ⟨v10, rfl, h1⟩; obtain ⟨A10, c10, hv10, hr10⟩ := gn_rd h1; subst hv10; have HR10 := Lib.hid hr10; have hb := Lib.hid (hb.out.trans (h1.bel.mono hb.out.size)); clear h1 hr10)
          | (go_at_call 29; (with_reducible refine (HLA.out _ hb.out).mono ?_); rintro e w11 ⟨v11, rfl, h1⟩; obtain ⟨A11, c11, hv11, hr11⟩ := h1.rdl; subst hv11; have HR11 := Lib.hid hr11; (try have HR10 := Lib.hid (HR10.out.below h1.bel)); have hb := Lib.hid (hb.out.trans (h1.bel.mono hb.out.size)); clear h1 hr11)
          | (go_at_call 29; (with_reducible refine (HLB.out _ hb.out).mono ?_); rintro e w12 ⟨v12, rfl, h1⟩; obtain ⟨A12, c12, hv12, hr12⟩ := h1.rdl; subst hv12; have HR12 := Lib.hid hr12; have HR10 := Lib.hid (HR10.out.below h1.bel); have HR11 := Lib.hid (HR11.out.below h1.bel); have hb := Lib.hid (hb.out.trans (h1.bel.mono hb.out.size)); clear h1 hr12; have HRD := Lib.hid (refDiffer_any A11 A12 17 n' c11 c12 F F' w12 HR11.out HR12.out); rw [HDE.out] at HRD)
          | (go_at_call 28; (with_reducible refine (HRD.out).mono ?_); rintro e w13 ⟨v13, rfl, h1⟩; obtain ⟨A13, c13, hv13, hr13⟩ := gn_rd h1; subst hv13; have HR10 := Lib.hid (HR10.out.below h1.bel); have hb := Lib.hid (hb.out.trans (h1.bel.mono hb.out.size)); have HIN := Lib.hid (ints_any A10 A13 DD.length DD.length c10 c13 _ _ (by have := HDL.out; omega) w13 HR10.out hr13); rw [smn_same] at HIN; clear h1 hr13)
          | (go_at_call 27; (with_reducible refine (HIN.out).mono ?_); rintro e w14 ⟨rfl, h1⟩; have hb := Lib.hid (hb.out.trans (h1.mono hb.out.size)); clear h1)
          | (go_at_call 17; (with_reducible refine (HSD.out _ _ _ hb.out HR11.out).mono ?_); rintro e w15 ⟨rfl, h1⟩; have hb := Lib.hid (hb.out.trans (h1.mono hb.out.size)); clear h1)
          | (go_at_call 21; (with_reducible refine (HPN.out _).mono ?_); rintro e w16 ⟨rfl, h1⟩; have hb := Lib.hid (hb.out.trans (h1.mono hb.out.size)); clear h1))
        go_ret
        exact ⟨rfl, HBA.out.trans (hb.out.mono HBA.out.size)⟩
      · have h3d : decide (3 < k) = false := decide_eq_false h3
        go_wp2_with (first
          | (go_at_call 11; (with_reducible refine (HRP.out _).mono ?_); rintro e w9 ⟨rfl, h1⟩; clear ck; have hb := Lib.hid (hb.out.trans (h1.mono hb.out.size)); clear h1)
          | (go_at_call 23; (with_reducible refine (HDF.out _ hb.out).mono ?_); rintro e w10 ⟨v10, rfl, h1⟩; obtain ⟨A10, c10, hv10, hr10⟩ := gn_rd h1; subst hv10; have HR10 := Lib.hid hr10; have hb := Lib.hid (hb.out.trans (h1.bel.mono hb.out.size)); clear h1 hr10)
          | (go_at_call 29; (with_reducible refine (HLA.out _ hb.out).mono ?_); rintro e w11 ⟨v11, rfl, h1⟩; obtain ⟨A11, c11, hv11, hr11⟩ := h1.rdl; subst hv11; have HR11 := Lib.hid hr11; (try have HR10 := Lib.hid (HR10.out.below h1.bel)); have hb := Lib.hid (hb.out.trans (h1.bel.mono hb.out.size)); clear h1 hr11)
          | (go_at_call 29; (with_reducible refine (HLB.out _ hb.out).mono ?_); rintro e w12 ⟨v12, rfl, h1⟩; obtain ⟨A12, c12, hv12, hr12⟩ := h1.rdl; subst hv12; have HR12 := Lib.hid hr12; have HR10 := Lib.hid (HR10.out.below h1.bel); have HR11 := Lib.hid (HR11.out.below h1.bel); have hb := Lib.hid (hb.out.trans (h1.bel.mono hb.out.size)); clear h1 hr12; have HRD := Lib.hid (refDiffer_any A11 A12 17 n' c11 c12 F F' w12 HR11.out HR12.out); rw [HDE.out] at HRD)
          | (go_at_call 28; (with_reducible refine (HRD.out).mono ?_); rintro e w13 ⟨v13, rfl, h1⟩; obtain ⟨A13, c13, hv13, hr13⟩ := gn_rd h1; subst hv13; have HR10 := Lib.hid (HR10.out.below h1.bel); have hb := Lib.hid (hb.out.trans (h1.bel.mono hb.out.size)); have HIN := Lib.hid (ints_any A10 A13 DD.length DD.length c10 c13 _ _ (by have := HDL.out; omega) w13 HR10.out hr13); rw [smn_same] at HIN; clear h1 hr13)
          | (go_at_call 27; (with_reducible refine (HIN.out).mono ?_); rintro e w14 ⟨rfl, h1⟩; have hb := Lib.hid (hb.out.trans (h1.mono hb.out.size)); clear h1)
          
          | (go_at_call 21; (with_reducible refine (HPN.out _).mono ?_); rintro e w16 ⟨rfl, h1⟩; have hb := Lib.hid (hb.out.trans (h1.mono hb.out.size)); clear h1))
        go_ret
        exact ⟨rfl, HBA.out.trans (hb.out.mono HBA.out.size)⟩
  · have g2 : ¬ (n : Int) = 17 := by omega
    have g3 : decide ((n : Int) = 17) = false := decide_eq_false g2
    have g4 : ((n : Int) == 17) = false := by simpa using g2
    have g5 : ((n : Int) != 17) = true := by simpa using g2
    have HE8 := Lib.hid (HK8.out (by intro h; exact h1 h.1))
    have HR8 := Lib.hid (show RdG w8 A8 n F by have := HR8.out; rw [HE8.out] at this; exact this)
    have HSD := Lib.hid (fun B c (V : World) (hb : Below w8.heap.size w8 V) => same_dig A8 B n n c8 c F F (by omega) V (HR8.out.below hb))
    rw [smd_same] at HSD
    go_wp2_with (first
      | (go_at_call 11; (with_reducible refine (HRP.out _).mono ?_); rintro e w9 ⟨rfl, h1⟩; clear ck; have hb := Lib.hid (hb.out.trans (h1.mono hb.out.size)); clear h1)
      | (go_at_call 23; (with_reducible refine (HDF.out _ hb.out).mono ?_); rintro e w10 ⟨v10, rfl, h1⟩; obtain ⟨A10, c10, hv10, hr10⟩ := gn_rd h1; subst hv10; have HR10 := Lib.hid hr10; have hb := Lib.hid (hb.out.trans (h1.bel.mono hb.out.size)); clear h1 hr10)
      | (go_at_call 29; (with_reducible refine (HLA.out _ hb.out).mono ?_); rintro e w11 ⟨v11, rfl, h1⟩; obtain ⟨A11, c11, hv11, hr11⟩ := h1.rdl; subst hv11; have HR11 := Lib.hid hr11; (try have HR10 := Lib.hid (HR10.out.below h1.bel)); have hb := Lib.hid (hb.out.trans (h1.bel.mono hb.out.size)); clear h1 hr11)
      | (go_at_call 29; (with_reducible refine (HLB.out _ hb.out).mono ?_); rintro e w12 ⟨v12, rfl, h1⟩; obtain ⟨A12, c12, hv12, hr12⟩ := h1.rdl; subst hv12; have HR12 := Lib.hid hr12; have HR10 := Lib.hid (HR10.out.below h1.bel); have HR11 := Lib.hid (HR11.out.below h1.bel); have hb := Lib.hid (hb.out.trans (h1.bel.mono hb.out.size)); clear h1 hr12; have HRD := Lib.hid (refDiffer_any A11 A12 n n' c11 c12 F F' w12 HR11.out HR12.out); rw [HDE.out] at HRD)
      | (go_at_call 28; (with_reducible refine (HRD.out).mono ?_); rintro e w13 ⟨v13, rfl, h1⟩; obtain ⟨A13, c13, hv13, hr13⟩ := gn_rd h1; subst hv13; have HR10 := Lib.hid (HR10.out.below h1.bel); have hb := Lib.hid (hb.out.trans (h1.bel.mono hb.out.size)); have HIN := Lib.hid (ints_any A10 A13 DD.length DD.length c10 c13 _ _ (by have := HDL.out; omega) w13 HR10.out hr13); rw [smn_same] at HIN; clear h1 hr13)
      | (go_at_call 27; (with_reducible refine (HIN.out).mono ?_); rintro e w14 ⟨rfl, h1⟩; have hb := Lib.hid (hb.out.trans (h1.mono hb.out.size)); clear h1)
      | (go_at_call 17; (with_reducible refine (HSD.out _ _ _ hb.out HR11.out).mono ?_); rintro e w15 ⟨rfl, h1⟩; have hb := Lib.hid (hb.out.trans (h1.mono hb.out.size)); clear h1)
      | (go_at_call 21; (with_reducible refine (HPN.out _).mono ?_); rintro e w16 ⟨rfl, h1⟩; have hb := Lib.hid (hb.out.trans (h1.mono hb.out.size)); clear h1))
    go_ret
    exact ⟨rfl, HBA.out.trans (hb.out.mono HBA.out.size)⟩
end Go.Proofs.Ytdcbbjlbfghpbaa.DigestLists
