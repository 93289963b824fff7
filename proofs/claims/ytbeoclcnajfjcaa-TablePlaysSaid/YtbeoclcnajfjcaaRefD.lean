/-
  The document's Drop. Conditions: those that each theorem names.
-/
import Derived.Test.YtbeoclcnajfjcaaTf
namespace Go.Proofs.Ytbeoclcnajfjcaa
open Go Go.RowKit H2
set_option linter.unusedVariables false
set_option linter.unusedSimpArgs false
namespace Tab
theorem wp_appR {o : Oper} {a : Act} {wl W : World} {K : Act → World → Prop} {Q : Exit → Act → World → Prop} (s x : Operand) (ho : o.op = .call { callee := .builtin .append, args := #[s, x], argTypes := #[31, 31] }) (v : Value) (D M : List Rt) (A : Option Addr) (n c : Nat) (hn : M.length = n)
    (hs : a.eval s = v) (hx : a.eval x = .slice A n c) (h : Gr wl W v D) (hr : Rd W A M) (hA : A = none → M = []) (hl : D.length + M.length ≤ 100000)
    (hK : ∀ v' w', Gr wl w' v' (D ++ M) → (∃ A n c, v' = .slice A n c) → K (a.put o.dst v') w') : Oper.wp Try.prog o a W K Q := by
  subst hn
  obtain ⟨v', w', hrun, h1, h2⟩ := app_run W wl.heap.size v D M o.type h.own A c hr hA (by omega) h.bel.size
  have hg := gr_grown h h1 h2
  obtain ⟨A', c', hv⟩ := hg.rv
  exact Lib.wp_append_run W s x _ _ ho _ _ hs hx _ _ hrun (hK v' w' hg ⟨A', _, c', hv.eq⟩)
theorem Rd.take {w : World} {A : Option Addr} {L : List Rt} (h : Rd w A L) (k : Nat) : Rd w A (L.take k) := fun i hi => by
  have hi' : i < L.length := by rw [List.length_take] at hi; omega
  obtain ⟨b, o, e, hr⟩ := h i hi'
  exact ⟨b, o, e, by rw [List.getElem_take]; exact hr⟩
theorem eraseI : ∀ (L : List Rt) (i : Nat), L.eraseIdx i = L.take i ++ L.drop (i + 1)
  | [], i => by simp
  | x :: L, 0 => rfl
  | x :: L, i + 1 => by rw [List.eraseIdx_cons_succ, eraseI L i]; rfl
set_option maxRecDepth 100000 in
set_option maxHeartbeats 16000000 in
theorem refDrop_anyK (A : Option Addr) (cap : Nat) (T : List Rt) (hT : TOk T) (p : Pf) (w : World) (hv : Rv w (.slice A T.length cap) A cap T) :
    Calls Try.prog 15 #[.slice A T.length cap, .agg (encP p).toArray] w fun e w' => LstK w w' A (del T p) (dropC T p) e ∧ Below w.heap.size w w' := by
  have HV := Lib.hid (fun (W : World) (hb : Below w.heap.size w W) => hv.below hb)
  have HF := Lib.hid (fun (W : World) (hb : Below w.heap.size w W) => refFind_any A cap T (Nat.le_trans hT.len (by decide)) p W (hv.rd.below hb))
  have HT := Lib.hid hT
  have hnc := hv.len
  have hcm := hv.capm
  unfold maxLen at hcm
  clear hv hT
  obtain ⟨n, hn⟩ : ∃ n, T.length = n := ⟨_, rfl⟩
  have HN := Lib.hid hn
  have hn3 : n ≤ 300 := by rw [← hn]; exact HT.out.len
  rw [hn] at HV HF hnc ⊢
  clear hn
  by_cases hh : has T p = true
  · have HC := Lib.hid (show dropC T p = 0 by unfold dropC; rw [if_pos hh])
    obtain ⟨x, hx⟩ : ∃ x, pos T p = x := ⟨_, rfl⟩
    have HFX := Lib.hid (show fnd T p = (x : Int) by rw [fnd_srt HT.out.srt hh, hx])
    have hxn : x < n := by rw [← hx, ← HN.out]; exact ((pos_has HT.out.srt p).1 hh).1
    have HD := Lib.hid (show T.take x ++ T.drop (x + 1) = del T p by rw [← del_has HT.out.srt hh, hx, eraseI])
    clear hh hx
    have x0 : (0 : Int) ≤ (x : Int) := by omega
    have x1 : ¬ ((x : Int) < 0) := by omega
    have hxc : (x : Int) ≤ (cap : Int) := by omega
    have hxn2 : (x : Int) + 1 ≤ (n : Int) := by omega
    have hxw : IntKind.i64.wrap ((x : Int) + 1) = (x : Int) + 1 := IntWalk.i64_in _ (by omega)
    have hx1 : (0 : Int) ≤ (x : Int) + 1 := by omega
    have hxt : ((x : Int) + 1).toNat = x + 1 := by omega
    have hnc2 : (n : Int) ≤ (cap : Int) := by omega
    obtain ⟨bA, oA, hA⟩ : ∃ b o, A = some ⟨b, o, none⟩ := by
      obtain ⟨b, o, e, _⟩ := (HV.out w (Below.refl _ _)).rd 0 (by rw [HN.out]; omega)
      exact ⟨b, o, e⟩
    subst hA
    have HCN := Lib.hid hnc
    have HTL := Lib.hid (show (T.take x).length = x by rw [List.length_take, HN.out]; omega)
    by_cases hcx : cap = x + 1
    · obtain rfl : n = x + 1 := by omega
      have hrd : ∀ (ad : Addr) (W : World), Rd W (some ⟨bA, oA, none⟩) T → Rd W (some ad) (T.drop (x + 1)) := fun ad W _ i hi => by rw [List.length_drop, HN.out] at hi; omega
      have HRD := Lib.hid hrd
      clear hrd
      subst hcx
      have hxc2 : (x : Int) ≤ (x : Int) + 1 := by omega
      go_enter Try.func15, Try.ntmps15
      go_upto_region 1 with fail
      have H := Lib.hid (PAt.mk (at_new w (encP p) 25 (0, 0)))
      have hb := Lib.hid (show Below w.heap.size w (w.alloc (.cells (encP p).toArray 25 (0, 0))) from (Below.refl _ _).alloc (Nat.le_refl _) _)
      generalize w.alloc _ = W at H hb ⊢
      generalize w.heap.size = B at H ⊢
      have c0 := H.out.all.load (k := n18) (encP_n _) Try.prog
      go_upto_region 2 with (go_at_call 19; (with_reducible refine (HF.out _ hb.out).mono ?_); rintro e w3 ⟨rfl, hb2⟩; rw [HFX.out]; have hb := Lib.hid (hb.out.trans (hb2.mono hb.out.size)); clear hb2 c0)
      go_upto_region 4 with fail
      have hb := Lib.hid hb.out.drew
      have HR1 := Lib.hid (fun (W : World) (hW : Below w3.drew.heap.size w3.drew W) => ((HV.out _ hb.out).rd.below hW).take x)
      have HR2 := Lib.hid (fun (W : World) (hW : Below w3.drew.heap.size w3.drew W) => HRD.out ⟨bA, oA, none⟩ W ((HV.out _ hb.out).rd.below hW))
      refine wp_region_held_drew (S := (fun _ => True)) (by kernel_rfl) trivial (fun _ => ?_)
      refine held_take 1 14 (v := ?_) rfl rfl (by kernel_rfl) (by kernel_rfl) (by kernel_rfl) (fun _ _ _ h => h) (by rfl) ?_ trivial ?_
      rotate_left
      · (intro w hSw; (try dsimp only at hSw); try simp only [List.getElem_toArray, List.getElem_cons_zero, List.getElem_cons_succ]; go_simp; try (with_reducible rfl))
      try simp only [List.setIfInBounds_toArray, List.set_cons_zero, List.set_cons_succ]
      refine held_take 2 15 (v := ?_) rfl rfl (by kernel_rfl) (by kernel_rfl) (by kernel_rfl) (fun _ _ _ h => h) (by rfl) ?_ trivial ?_
      rotate_left
      · (intro w hSw; (try dsimp only at hSw); try simp only [List.getElem_toArray, List.getElem_cons_zero, List.getElem_cons_succ]; go_simp; try (with_reducible rfl))
      try simp only [List.setIfInBounds_toArray, List.set_cons_zero, List.set_cons_succ]
      refine held_take 3 16 (v := ?_) rfl rfl (by kernel_rfl) (by kernel_rfl) (by kernel_rfl) (fun _ _ _ h => h) (by rfl) ?_ trivial ?_
      rotate_left
      · (intro w hSw; (try dsimp only at hSw); try simp only [List.getElem_toArray, List.getElem_cons_zero, List.getElem_cons_succ]; go_simp; try (with_reducible rfl))
      try simp only [List.setIfInBounds_toArray, List.set_cons_zero, List.set_cons_succ]
      refine held_take 5 18 (v := ?_) rfl rfl (by kernel_rfl) (by kernel_rfl) (by kernel_rfl) (fun _ _ _ h => h) (by rfl) ?_ trivial ?_
      rotate_left
      · (intro w hSw; (try dsimp only at hSw); try simp only [List.getElem_toArray, List.getElem_cons_zero, List.getElem_cons_succ]; go_simp; try (with_reducible rfl))
      try simp only [List.setIfInBounds_toArray, List.set_cons_zero, List.set_cons_succ]
      refine held_take 6 19 (v := ?_) rfl rfl (by kernel_rfl) (by kernel_rfl) (by kernel_rfl) (fun _ _ _ h => h) (by rfl) ?_ trivial ?_
      rotate_left
      · (intro w hSw; (try dsimp only at hSw); try simp only [List.getElem_toArray, List.getElem_cons_zero, List.getElem_cons_succ]; go_simp; try (with_reducible rfl))
      try simp only [List.setIfInBounds_toArray, List.set_cons_zero, List.set_cons_succ]
      refine held_take 7 20 (v := ?_) rfl rfl (by kernel_rfl) (by kernel_rfl) (by kernel_rfl) (fun _ _ _ h => h) (by rfl) ?_ trivial ?_
      rotate_left
      · (intro w hSw; (try dsimp only at hSw); try simp only [List.getElem_toArray, List.getElem_cons_zero, List.getElem_cons_succ]; go_simp; try (with_reducible rfl))
      try simp only [List.setIfInBounds_toArray, List.set_cons_zero, List.set_cons_succ]
      refine held_take 8 21 (v := ?_) rfl rfl (by kernel_rfl) (by kernel_rfl) (by kernel_rfl) (fun _ _ _ h => h) (by rfl) ?_ trivial ?_
      rotate_left
      · (intro w hSw; (try dsimp only at hSw); try simp only [List.getElem_toArray, List.getElem_cons_zero, List.getElem_cons_succ]; go_simp; try (with_reducible rfl))
      try simp only [List.setIfInBounds_toArray, List.set_cons_zero, List.set_cons_succ]
      refine held_call 0 13 rfl rfl (by kernel_rfl) (by rfl) (fun K hK => ?_)
      try simp only [List.getElem_toArray, List.getElem_cons_zero, List.getElem_cons_succ]
      (refine wp_row_run 31 0 #[] rfl #[] (by simp) (row_R0 _) ?_; have HG := Lib.hid (gr_zero w3.drew))
      try simp only [Act.put, List.setIfInBounds_toArray, List.set_cons_zero, List.set_cons_succ]
      refine hK.out _ _ _ trivial ?_
      clear hK K
      refine held_call 4 17 rfl rfl (by kernel_rfl) (by rfl) (fun K hK => ?_)
      try simp only [List.getElem_toArray, List.getElem_cons_zero, List.getElem_cons_succ]
      (refine wp_appR (.tmp 13) (.tmp 16) rfl _ [] (T.take x) _ x _ HTL.out rfl rfl HG.out (HR1.out _ HG.out.bel) (fun e => by cases e) (by rw [HTL.out]; simp; omega) ?_; rintro v7 w7 h7 ⟨x7, y7, z7, rfl⟩; rw [List.nil_append] at h7; have HG := Lib.hid h7; clear h7)
      try simp only [Act.put, List.setIfInBounds_toArray, List.set_cons_zero, List.set_cons_succ]
      refine hK.out _ _ _ trivial ?_
      clear hK K
      refine held_call 9 22 rfl rfl (by kernel_rfl) (by rfl) (fun K hK => ?_)
      try simp only [List.getElem_toArray, List.getElem_cons_zero, List.getElem_cons_succ]
      (refine wp_appR (.tmp 17) (.tmp 21) rfl _ (T.take x) (T.drop (x + 1)) _ 0 _ (by rw [List.length_drop, HN.out]; omega) rfl rfl HG.out (HR2.out _ HG.out.bel) (fun e => by cases e) (by rw [HTL.out, List.length_drop, HN.out]; omega) ?_; rintro v8 w8 h8 ⟨x8, y8, z8, rfl⟩; rw [HD.out] at h8; have HG := Lib.hid h8; clear h8)
      try simp only [Act.put, List.setIfInBounds_toArray, List.set_cons_zero, List.set_cons_succ]
      refine hK.out _ _ _ trivial ?_
      clear hK K
      refine held_take 10 4 (v := ?_) rfl rfl (by kernel_rfl) (by kernel_rfl) (by kernel_rfl) (fun _ _ _ h => h) (by rfl) ?_ trivial ?_
      rotate_left
      · (intro w hSw; (try dsimp only at hSw); try simp only [List.getElem_toArray, List.getElem_cons_zero, List.getElem_cons_succ]; go_simp; try (with_reducible rfl))
      try simp only [List.setIfInBounds_toArray, List.set_cons_zero, List.set_cons_succ]
      refine held_take 11 5 (v := ?_) rfl rfl (by kernel_rfl) (by kernel_rfl) (by kernel_rfl) (fun _ _ _ h => h) (by rfl) ?_ trivial ?_
      rotate_left
      · (intro w hSw; (try dsimp only at hSw); try simp only [List.getElem_toArray, List.getElem_cons_zero, List.getElem_cons_succ]; go_simp; try (with_reducible rfl))
      try simp only [List.setIfInBounds_toArray, List.set_cons_zero, List.set_cons_succ]
      refine wpAnyH_done (by kernel_rfl) ?_ _
      go_wp2
      go_ret2
      rw [HC.out]
      obtain ⟨A2, c2, hv2, hf2⟩ := HG.out.rvK
      exact ⟨⟨_, A2, c2, rfl, hv2, .inr (fun g o e => Nat.le_trans hb.out.size (hf2 g o e))⟩, hb.out.trans (HG.out.bel.mono hb.out.size)⟩
    · have hcx' : ¬ x + 1 = cap := fun e => hcx e.symm
      have hrd : ∀ (W : World), Rd W (some ⟨bA, oA, none⟩) T → Rd W (some ⟨bA, oA + (x + 1) * n20, none⟩) (T.drop (x + 1)) := fun W h => by
        have := h.part (x + 1) n (by rw [HN.out]; exact Nat.le_refl _)
        rwa [List.take_of_length_le (by rw [HN.out]; exact Nat.le_refl _)] at this
      have HRD := Lib.hid hrd
      clear hrd
      go_enter Try.func15, Try.ntmps15
      go_upto_region 1 with fail
      have H := Lib.hid (PAt.mk (at_new w (encP p) 25 (0, 0)))
      have hb := Lib.hid (show Below w.heap.size w (w.alloc (.cells (encP p).toArray 25 (0, 0))) from (Below.refl _ _).alloc (Nat.le_refl _) _)
      generalize w.alloc _ = W at H hb ⊢
      generalize w.heap.size = B at H ⊢
      have c0 := H.out.all.load (k := n18) (encP_n _) Try.prog
      go_upto_region 2 with (go_at_call 19; (with_reducible refine (HF.out _ hb.out).mono ?_); rintro e w3 ⟨rfl, hb2⟩; rw [HFX.out]; have hb := Lib.hid (hb.out.trans (hb2.mono hb.out.size)); clear hb2 c0)
      go_upto_region 4 with fail
      have hb := Lib.hid hb.out.drew
      have HR1 := Lib.hid (fun (W : World) (hW : Below w3.drew.heap.size w3.drew W) => ((HV.out _ hb.out).rd.below hW).take x)
      have HR2 := Lib.hid (fun (W : World) (hW : Below w3.drew.heap.size w3.drew W) => HRD.out W ((HV.out _ hb.out).rd.below hW))
      refine wp_region_held_drew (S := (fun _ => True)) (by kernel_rfl) trivial (fun _ => ?_)
      refine held_take 1 14 (v := ?_) rfl rfl (by kernel_rfl) (by kernel_rfl) (by kernel_rfl) (fun _ _ _ h => h) (by rfl) ?_ trivial ?_
      rotate_left
      · (intro w hSw; (try dsimp only at hSw); try simp only [List.getElem_toArray, List.getElem_cons_zero, List.getElem_cons_succ]; go_simp; try (with_reducible rfl))
      try simp only [List.setIfInBounds_toArray, List.set_cons_zero, List.set_cons_succ]
      refine held_take 2 15 (v := ?_) rfl rfl (by kernel_rfl) (by kernel_rfl) (by kernel_rfl) (fun _ _ _ h => h) (by rfl) ?_ trivial ?_
      rotate_left
      · (intro w hSw; (try dsimp only at hSw); try simp only [List.getElem_toArray, List.getElem_cons_zero, List.getElem_cons_succ]; go_simp; try (with_reducible rfl))
      try simp only [List.setIfInBounds_toArray, List.set_cons_zero, List.set_cons_succ]
      refine held_take 3 16 (v := ?_) rfl rfl (by kernel_rfl) (by kernel_rfl) (by kernel_rfl) (fun _ _ _ h => h) (by rfl) ?_ trivial ?_
      rotate_left
      · (intro w hSw; (try dsimp only at hSw); try simp only [List.getElem_toArray, List.getElem_cons_zero, List.getElem_cons_succ]; go_simp; try (with_reducible rfl))
      try simp only [List.setIfInBounds_toArray, List.set_cons_zero, List.set_cons_succ]
      refine held_take 5 18 (v := ?_) rfl rfl (by kernel_rfl) (by kernel_rfl) (by kernel_rfl) (fun _ _ _ h => h) (by rfl) ?_ trivial ?_
      rotate_left
      · (intro w hSw; (try dsimp only at hSw); try simp only [List.getElem_toArray, List.getElem_cons_zero, List.getElem_cons_succ]; go_simp; try (with_reducible rfl))
      try simp only [List.setIfInBounds_toArray, List.set_cons_zero, List.set_cons_succ]
      refine held_take 6 19 (v := ?_) rfl rfl (by kernel_rfl) (by kernel_rfl) (by kernel_rfl) (fun _ _ _ h => h) (by rfl) ?_ trivial ?_
      rotate_left
      · (intro w hSw; (try dsimp only at hSw); try simp only [List.getElem_toArray, List.getElem_cons_zero, List.getElem_cons_succ]; go_simp; try (with_reducible rfl))
      try simp only [List.setIfInBounds_toArray, List.set_cons_zero, List.set_cons_succ]
      refine held_take 7 20 (v := ?_) rfl rfl (by kernel_rfl) (by kernel_rfl) (by kernel_rfl) (fun _ _ _ h => h) (by rfl) ?_ trivial ?_
      rotate_left
      · (intro w hSw; (try dsimp only at hSw); try simp only [List.getElem_toArray, List.getElem_cons_zero, List.getElem_cons_succ]; go_simp; try (with_reducible rfl))
      try simp only [List.setIfInBounds_toArray, List.set_cons_zero, List.set_cons_succ]
      refine held_take 8 21 (v := ?_) rfl rfl (by kernel_rfl) (by kernel_rfl) (by kernel_rfl) (fun _ _ _ h => h) (by rfl) ?_ trivial ?_
      rotate_left
      · (intro w hSw; (try dsimp only at hSw); try simp only [List.getElem_toArray, List.getElem_cons_zero, List.getElem_cons_succ]; go_simp; try (with_reducible rfl))
      try simp only [List.setIfInBounds_toArray, List.set_cons_zero, List.set_cons_succ]
      refine held_call 0 13 rfl rfl (by kernel_rfl) (by rfl) (fun K hK => ?_)
      try simp only [List.getElem_toArray, List.getElem_cons_zero, List.getElem_cons_succ]
      (refine wp_row_run 31 0 #[] rfl #[] (by simp) (row_R0 _) ?_; have HG := Lib.hid (gr_zero w3.drew))
      try simp only [Act.put, List.setIfInBounds_toArray, List.set_cons_zero, List.set_cons_succ]
      refine hK.out _ _ _ trivial ?_
      clear hK K
      refine held_call 4 17 rfl rfl (by kernel_rfl) (by rfl) (fun K hK => ?_)
      try simp only [List.getElem_toArray, List.getElem_cons_zero, List.getElem_cons_succ]
      (refine wp_appR (.tmp 13) (.tmp 16) rfl _ [] (T.take x) _ x _ HTL.out rfl rfl HG.out (HR1.out _ HG.out.bel) (fun e => by cases e) (by rw [HTL.out]; simp; omega) ?_; rintro v7 w7 h7 ⟨x7, y7, z7, rfl⟩; rw [List.nil_append] at h7; have HG := Lib.hid h7; clear h7)
      try simp only [Act.put, List.setIfInBounds_toArray, List.set_cons_zero, List.set_cons_succ]
      refine hK.out _ _ _ trivial ?_
      clear hK K
      refine held_call 9 22 rfl rfl (by kernel_rfl) (by rfl) (fun K hK => ?_)
      try simp only [List.getElem_toArray, List.getElem_cons_zero, List.getElem_cons_succ]
      (refine wp_appR (.tmp 17) (.tmp 21) rfl _ (T.take x) (T.drop (x + 1)) _ (n - (x + 1)) _ (by rw [List.length_drop, HN.out]) rfl rfl HG.out (HR2.out _ HG.out.bel) (fun e => by cases e) (by rw [HTL.out, List.length_drop, HN.out]; omega) ?_; rintro v8 w8 h8 ⟨x8, y8, z8, rfl⟩; rw [HD.out] at h8; have HG := Lib.hid h8; clear h8)
      try simp only [Act.put, List.setIfInBounds_toArray, List.set_cons_zero, List.set_cons_succ]
      refine hK.out _ _ _ trivial ?_
      clear hK K
      refine held_take 10 4 (v := ?_) rfl rfl (by kernel_rfl) (by kernel_rfl) (by kernel_rfl) (fun _ _ _ h => h) (by rfl) ?_ trivial ?_
      rotate_left
      · (intro w hSw; (try dsimp only at hSw); try simp only [List.getElem_toArray, List.getElem_cons_zero, List.getElem_cons_succ]; go_simp; try (with_reducible rfl))
      try simp only [List.setIfInBounds_toArray, List.set_cons_zero, List.set_cons_succ]
      refine held_take 11 5 (v := ?_) rfl rfl (by kernel_rfl) (by kernel_rfl) (by kernel_rfl) (fun _ _ _ h => h) (by rfl) ?_ trivial ?_
      rotate_left
      · (intro w hSw; (try dsimp only at hSw); try simp only [List.getElem_toArray, List.getElem_cons_zero, List.getElem_cons_succ]; go_simp; try (with_reducible rfl))
      try simp only [List.setIfInBounds_toArray, List.set_cons_zero, List.set_cons_succ]
      refine wpAnyH_done (by kernel_rfl) ?_ _
      go_wp2
      go_ret2
      rw [HC.out]
      obtain ⟨A2, c2, hv2, hf2⟩ := HG.out.rvK
      exact ⟨⟨_, A2, c2, rfl, hv2, .inr (fun g o e => Nat.le_trans hb.out.size (hf2 g o e))⟩, hb.out.trans (HG.out.bel.mono hb.out.size)⟩
  · have hh' : has T p = false := by simpa using hh
    have HFX := Lib.hid (fnd_no hh')
    have HC := Lib.hid (show dropC T p = 8 ∧ del T p = T by unfold dropC; rw [if_neg hh]; exact ⟨rfl, del_not hh'⟩)
    clear hh hh'
    go_enter Try.func15, Try.ntmps15
    go_upto_region 1 with fail
    have H := Lib.hid (PAt.mk (at_new w (encP p) 25 (0, 0)))
    have hb := Lib.hid (show Below w.heap.size w (w.alloc (.cells (encP p).toArray 25 (0, 0))) from (Below.refl _ _).alloc (Nat.le_refl _) _)
    generalize w.alloc _ = W at H hb ⊢
    generalize w.heap.size = B at H ⊢
    have c0 := H.out.all.load (k := n18) (encP_n _) Try.prog
    go_upto_region 2 with (go_at_call 19; (with_reducible refine (HF.out _ hb.out).mono ?_); rintro e w3 ⟨rfl, hb2⟩; rw [HFX.out]; have hb := Lib.hid (hb.out.trans (hb2.mono hb.out.size)); clear hb2 c0)
    go_wp2
    go_ret2
    rw [HC.out.1, HC.out.2]
    exact ⟨⟨_, A, cap, rfl, HV.out _ hb.out, .inl rfl⟩, hb.out⟩
theorem refDrop_any (A : Option Addr) (cap : Nat) (T : List Rt) (hT : TOk T) (p : Pf) (w : World) (hv : Rv w (.slice A T.length cap) A cap T) :
    Calls Try.prog 15 #[.slice A T.length cap, .agg (encP p).toArray] w fun e w' => Lst w w' (del T p) (dropC T p) e ∧ Below w.heap.size w w' :=
  (refDrop_anyK A cap T hT p w hv).mono fun e w' ⟨h1, h2⟩ => ⟨h1.lst, h2⟩
end Tab
end Go.Proofs.Ytbeoclcnajfjcaa
