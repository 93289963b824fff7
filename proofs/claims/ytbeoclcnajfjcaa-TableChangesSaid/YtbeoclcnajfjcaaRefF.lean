/-
  The document's Between. Conditions: those that each theorem names.
-/
import Derived.Test.YtbeoclcnajfjcaaRefC
namespace Go.Proofs.Ytbeoclcnajfjcaa
open Go Go.RowKit H2
set_option linter.unusedVariables false
set_option linter.unusedSimpArgs false
namespace Tab
def inB (a b : Pf) (r : Rt) : Bool := decide (¬ cmpP r.to a < 0) && decide (cmpP r.to b < 0)
theorem btw_inB {T : List Rt} (hs : Srt T) (a b : Pf) : T.filter (inB a b) = btw T a b := by
  have hs2 : Srt (btw T a b) := List.Pairwise.sublist ((List.drop_sublist _ _).trans (List.take_sublist _ _)) hs
  refine srt_ext (List.Pairwise.filter _ hs) hs2 (fun r => ?_)
  rw [List.mem_filter]
  unfold btw
  constructor
  · rintro ⟨hr, hp⟩
    obtain ⟨i, hi, rfl⟩ := List.getElem_of_mem hr
    unfold inB at hp
    rw [Bool.and_eq_true, decide_eq_true_iff, decide_eq_true_iff] at hp
    have h1 : ¬ i < pos T a := fun e => hp.1 ((pos_lt hs hi).2 e)
    have h2 : i < pos T b := (pos_lt hs hi).1 hp.2
    refine List.mem_of_getElem (i := i - pos T a) (h := by rw [List.length_drop, List.length_take]; omega) ?_
    rw [List.getElem_drop, List.getElem_take]
    congr 1
    omega
  · intro hr
    obtain ⟨i, hi, rfl⟩ := List.getElem_of_mem hr
    rw [List.length_drop, List.length_take] at hi
    rw [List.getElem_drop, List.getElem_take]
    have hlt : pos T a + i < T.length := by omega
    refine ⟨List.getElem_mem _, ?_⟩
    unfold inB
    rw [Bool.and_eq_true, decide_eq_true_iff, decide_eq_true_iff]
    exact ⟨fun e => absurd ((pos_lt hs hlt).1 e) (by omega), (pos_lt hs hlt).2 (by omega)⟩
theorem filter_step {T : List Rt} {k : Nat} (hk : k < T.length) (f : Rt → Bool) : (T.take (k + 1)).filter f = (T.take k).filter f ++ (if f T[k] = true then [T[k]] else []) := by
  rw [← part_step hk, List.filter_append, List.filter_cons, List.filter_nil]
/-- what is answered: a list -/
def LstV (w w' : World) (L : List Rt) (e : Ending) : Prop := ∃ v A cap, e = .returned v ∧ Rv w' v A cap L
set_option maxRecDepth 100000 in
set_option maxHeartbeats 16000000 in
theorem refBetween_any (A : Option Addr) (cap : Nat) (T : List Rt) (hT : TOk T) (p q : Pf) (w : World) (hv : Rv w (.slice A T.length cap) A cap T) :
    Calls Try.prog 24 #[.slice A T.length cap, .agg (encP p).toArray, .agg (encP q).toArray] w fun e w' => LstV w w' (btw T p q) e ∧ Below w.heap.size w w' := by
  have HV := Lib.hid hv
  have HBT := Lib.hid (btw_inB hT.srt p q)
  have hn3 := hT.len
  clear hv hT
  obtain ⟨n, hn⟩ : ∃ n, T.length = n := ⟨_, rfl⟩
  have HN := Lib.hid hn
  rw [hn] at HV hn3 ⊢
  clear hn
  go_enter Try.func24, Try.ntmps24
  go_upto_region 1 with fail
  have H1 := Lib.hid ((PAt.mk (at_new w (encP p) 25 (0, 0))).below ((Below.refl _ _).alloc (Nat.le_refl _) (.cells (encP q).toArray 25 (0, 0))))
  have H2 := Lib.hid (PAt.mk (at_new (w.alloc (.cells (encP p).toArray 25 (0, 0))) (encP q) 25 (0, 0)))
  rw [show (w.alloc (.cells (encP p).toArray 25 (0, 0))).heap.size = w.heap.size + 1 by simp] at H2
  have hb := Lib.hid (show Below w.heap.size w ((w.alloc (.cells (encP p).toArray 25 (0, 0))).alloc (.cells (encP q).toArray 25 (0, 0))) from (((Below.refl _ _).alloc (Nat.le_refl _) _).alloc (by simp) _))
  generalize (w.alloc _).alloc _ = W0 at H1 H2 hb ⊢
  obtain ⟨B2, hB2⟩ : ∃ b, w.heap.size + 1 = b := ⟨_, rfl⟩
  rw [hB2] at H2 ⊢
  obtain ⟨B, hB⟩ : ∃ b, w.heap.size = b := ⟨_, rfl⟩
  rw [hB] at H1 ⊢
  clear hB hB2
  have HAT := Lib.hid (HV.out.below hb.out)
  go_wp2
  go_loopw [7, 8] (fun s7 s8 wr => ∃ k : Nat, k ≤ n ∧ s8 = .int .i64 k ∧ Gr W0 wr s7 ((T.take k).filter (inB p q)) ∧ (∃ x y z, s7 = .slice x y z)) (fun s7 s8 _ => n - (intOf s8).toNat)
  case atStart => exact ⟨0, by omega, rfl, by rw [List.take_zero]; exact gr_nil W0, _, _, _, rfl⟩
  case round =>
    obtain ⟨k, hk, rfl, hg, x8, y8, z8, rfl⟩ := hrel
    have HG := Lib.hid hg
    clear hg
    by_cases hlt : k < n
    · have hlt' : (k : Int) < (n : Int) := by omega
      have k0 : (0 : Int) ≤ (k : Int) := by omega
      have hkl : k < T.length := by rw [HN.out]; exact hlt
      obtain ⟨b, o, rfl, hra⟩ := HAT.out.rd k hkl
      have HX0 := Lib.hid hra
      have HFS := Lib.hid (filter_step hkl (inB p q))
      have HLE := Lib.hid (show ((T.take k).filter (inB p q)).length ≤ 10000 from Nat.le_trans (List.length_filter_le _ _) (by rw [List.length_take]; omega))
      clear hra
      generalize T[k] = t at HX0 HFS
      obtain ⟨c1, hc1⟩ : ∃ c, cmpP t.to p = c := ⟨_, rfl⟩
      have HC1 := Lib.hid hc1
      obtain ⟨c2, hc2⟩ : ∃ c, cmpP t.to q = c := ⟨_, rfl⟩
      have HC2 := Lib.hid hc2
      have HIN := Lib.hid (show inB p q t = (decide (¬ c1 < 0) && decide (c2 < 0)) by unfold inB; rw [hc1, hc2])
      clear hc1 hc2
      by_cases h1 : (0 : Int) ≤ c1
      · by_cases h2 : c2 < 0
        · have HFE := Lib.hid (show (T.take (k + 1)).filter (inB p q) = (T.take k).filter (inB p q) ++ [t] by rw [HFS.out, HIN.out, decide_eq_true (by omega), decide_eq_true h2]; rfl)
          go_upto_region 5 with fail
          have HG := Lib.hid HG.out.drew
          have HX := Lib.hid (HX0.out.below HG.out.bel)
          have HA := Lib.hid (H1.out.below HG.out.bel)
          have HB := Lib.hid (H2.out.below HG.out.bel)
          refine wp_region_held_drew (S := (fun w' => RAt w' b (o + k * 20) t ∧ PAt w' B 0 p ∧ PAt w' B2 0 q)) (by kernel_rfl) ⟨HX.out, HA.out, HB.out⟩ (fun _ => ?_)
          refine held_take 0 15 (v := ?_) rfl rfl (by kernel_rfl) (by kernel_rfl) (by kernel_rfl) (fun _ _ _ h => h) (by rfl) ?_ ⟨HX.out, HA.out, HB.out⟩ ?_
          rotate_left
          · (intro w hSw; (try dsimp only at hSw); have a0 : Sem.run Try.prog (loadCellsFrom ⟨b, o + k * n20, none⟩ 0 n18 #[]) w = .ok (encP t.to).toArray w := hSw.1.to.all.load (k := n18) (encP_n _) Try.prog; have a1 := hSw.2.1.all.load (k := n18) (encP_n _) Try.prog; have a2 := hSw.2.2.all.load (k := n18) (encP_n _) Try.prog; clear hSw;try simp only [List.getElem_toArray, List.getElem_cons_zero, List.getElem_cons_succ]; go_simp; try (with_reducible rfl))
          try simp only [List.setIfInBounds_toArray, List.set_cons_zero, List.set_cons_succ]
          refine held_take 1 16 (v := ?_) rfl rfl (by kernel_rfl) (by kernel_rfl) (by kernel_rfl) (fun _ _ _ h => h) (by rfl) ?_ ⟨HX.out, HA.out, HB.out⟩ ?_
          rotate_left
          · (intro w hSw; (try dsimp only at hSw); have a0 : Sem.run Try.prog (loadCellsFrom ⟨b, o + k * n20, none⟩ 0 n18 #[]) w = .ok (encP t.to).toArray w := hSw.1.to.all.load (k := n18) (encP_n _) Try.prog; have a1 := hSw.2.1.all.load (k := n18) (encP_n _) Try.prog; have a2 := hSw.2.2.all.load (k := n18) (encP_n _) Try.prog; clear hSw;try simp only [List.getElem_toArray, List.getElem_cons_zero, List.getElem_cons_succ]; go_simp; try (with_reducible rfl))
          try simp only [List.setIfInBounds_toArray, List.set_cons_zero, List.set_cons_succ]
          refine held_take 2 17 (v := ?_) rfl rfl (by kernel_rfl) (by kernel_rfl) (by kernel_rfl) (fun _ _ _ h => h) (by rfl) ?_ ⟨HX.out, HA.out, HB.out⟩ ?_
          rotate_left
          · (intro w hSw; (try dsimp only at hSw); have a0 : Sem.run Try.prog (loadCellsFrom ⟨b, o + k * n20, none⟩ 0 n18 #[]) w = .ok (encP t.to).toArray w := hSw.1.to.all.load (k := n18) (encP_n _) Try.prog; have a1 := hSw.2.1.all.load (k := n18) (encP_n _) Try.prog; have a2 := hSw.2.2.all.load (k := n18) (encP_n _) Try.prog; clear hSw;try simp only [List.getElem_toArray, List.getElem_cons_zero, List.getElem_cons_succ]; go_simp; try (with_reducible rfl))
          try simp only [List.setIfInBounds_toArray, List.set_cons_zero, List.set_cons_succ]
          refine held_take 3 18 (v := ?_) rfl rfl (by kernel_rfl) (by kernel_rfl) (by kernel_rfl) (fun _ _ _ h => h) (by rfl) ?_ ⟨HX.out, HA.out, HB.out⟩ ?_
          rotate_left
          · (intro w hSw; (try dsimp only at hSw); have a0 : Sem.run Try.prog (loadCellsFrom ⟨b, o + k * n20, none⟩ 0 n18 #[]) w = .ok (encP t.to).toArray w := hSw.1.to.all.load (k := n18) (encP_n _) Try.prog; have a1 := hSw.2.1.all.load (k := n18) (encP_n _) Try.prog; have a2 := hSw.2.2.all.load (k := n18) (encP_n _) Try.prog; clear hSw;try simp only [List.getElem_toArray, List.getElem_cons_zero, List.getElem_cons_succ]; go_simp; try (with_reducible rfl))
          try simp only [List.setIfInBounds_toArray, List.set_cons_zero, List.set_cons_succ]
          refine held_take 4 19 (v := ?_) rfl rfl (by kernel_rfl) (by kernel_rfl) (by kernel_rfl) (fun _ _ _ h => h) (by rfl) ?_ ⟨HX.out, HA.out, HB.out⟩ ?_
          rotate_left
          · (intro w hSw; (try dsimp only at hSw); have a0 : Sem.run Try.prog (loadCellsFrom ⟨b, o + k * n20, none⟩ 0 n18 #[]) w = .ok (encP t.to).toArray w := hSw.1.to.all.load (k := n18) (encP_n _) Try.prog; have a1 := hSw.2.1.all.load (k := n18) (encP_n _) Try.prog; have a2 := hSw.2.2.all.load (k := n18) (encP_n _) Try.prog; clear hSw;try simp only [List.getElem_toArray, List.getElem_cons_zero, List.getElem_cons_succ]; go_simp; try (with_reducible rfl))
          try simp only [List.setIfInBounds_toArray, List.set_cons_zero, List.set_cons_succ]
          refine held_take 5 20 (v := ?_) rfl rfl (by kernel_rfl) (by kernel_rfl) (by kernel_rfl) (fun _ _ _ h => h) (by rfl) ?_ ⟨HX.out, HA.out, HB.out⟩ ?_
          rotate_left
          · (intro w hSw; (try dsimp only at hSw); have a0 : Sem.run Try.prog (loadCellsFrom ⟨b, o + k * n20, none⟩ 0 n18 #[]) w = .ok (encP t.to).toArray w := hSw.1.to.all.load (k := n18) (encP_n _) Try.prog; have a1 := hSw.2.1.all.load (k := n18) (encP_n _) Try.prog; have a2 := hSw.2.2.all.load (k := n18) (encP_n _) Try.prog; clear hSw;try simp only [List.getElem_toArray, List.getElem_cons_zero, List.getElem_cons_succ]; go_simp; try (with_reducible rfl))
          try simp only [List.setIfInBounds_toArray, List.set_cons_zero, List.set_cons_succ]
          refine held_call 6 21 rfl rfl (by kernel_rfl) (by rfl) (fun K hK => ?_)
          try simp only [List.getElem_toArray, List.getElem_cons_zero, List.getElem_cons_succ]
          go_simp
          (go_at_call 33; (with_reducible refine (refCompare_any _ _ _).mono ?_); rintro e w4 ⟨rfl, hb3⟩; rw [HC1.out]; have HX := Lib.hid (HX.out.below hb3); have HA := Lib.hid (HA.out.below hb3); have HB := Lib.hid (HB.out.below hb3); have HG := Lib.hid (HG.out.below hb3); clear hb3)
          try go_wp2_with fail
          try simp only [Act.put, List.setIfInBounds_toArray, List.set_cons_zero, List.set_cons_succ]
          refine hK.out _ _ _ ⟨HX.out, HA.out, HB.out⟩ ?_
          clear hK K
          refine held_take 7 22 (v := ?_) rfl rfl (by kernel_rfl) (by kernel_rfl) (by kernel_rfl) (fun _ _ _ h => h) (by rfl) ?_ ⟨HX.out, HA.out, HB.out⟩ ?_
          rotate_left
          · (intro w hSw; (try dsimp only at hSw); have a0 : Sem.run Try.prog (loadCellsFrom ⟨b, o + k * n20, none⟩ 0 n18 #[]) w = .ok (encP t.to).toArray w := hSw.1.to.all.load (k := n18) (encP_n _) Try.prog; have a1 := hSw.2.1.all.load (k := n18) (encP_n _) Try.prog; have a2 := hSw.2.2.all.load (k := n18) (encP_n _) Try.prog; clear hSw;try simp only [List.getElem_toArray, List.getElem_cons_zero, List.getElem_cons_succ]; go_simp; try (with_reducible rfl))
          try simp only [List.setIfInBounds_toArray, List.set_cons_zero, List.set_cons_succ]
          refine held_take 8 23 (v := ?_) rfl rfl (by kernel_rfl) (by kernel_rfl) (by kernel_rfl) (fun _ _ _ h => h) (by rfl) ?_ ⟨HX.out, HA.out, HB.out⟩ ?_
          rotate_left
          · (intro w hSw; (try dsimp only at hSw); have a0 : Sem.run Try.prog (loadCellsFrom ⟨b, o + k * n20, none⟩ 0 n18 #[]) w = .ok (encP t.to).toArray w := hSw.1.to.all.load (k := n18) (encP_n _) Try.prog; have a1 := hSw.2.1.all.load (k := n18) (encP_n _) Try.prog; have a2 := hSw.2.2.all.load (k := n18) (encP_n _) Try.prog; clear hSw;try simp only [List.getElem_toArray, List.getElem_cons_zero, List.getElem_cons_succ]; go_simp; try (with_reducible rfl))
          try simp only [List.setIfInBounds_toArray, List.set_cons_zero, List.set_cons_succ]
          refine held_take 9 24 (v := ?_) rfl rfl (by kernel_rfl) (by kernel_rfl) (by kernel_rfl) (fun _ _ _ h => h) (by rfl) ?_ ⟨HX.out, HA.out, HB.out⟩ ?_
          rotate_left
          · (intro w hSw; (try dsimp only at hSw); have a0 : Sem.run Try.prog (loadCellsFrom ⟨b, o + k * n20, none⟩ 0 n18 #[]) w = .ok (encP t.to).toArray w := hSw.1.to.all.load (k := n18) (encP_n _) Try.prog; have a1 := hSw.2.1.all.load (k := n18) (encP_n _) Try.prog; have a2 := hSw.2.2.all.load (k := n18) (encP_n _) Try.prog; clear hSw;try simp only [List.getElem_toArray, List.getElem_cons_zero, List.getElem_cons_succ]; go_simp; try (with_reducible rfl))
          try simp only [List.setIfInBounds_toArray, List.set_cons_zero, List.set_cons_succ]
          refine held_take 10 25 (v := ?_) rfl rfl (by kernel_rfl) (by kernel_rfl) (by kernel_rfl) (fun _ _ _ h => h) (by rfl) ?_ ⟨HX.out, HA.out, HB.out⟩ ?_
          rotate_left
          · (intro w hSw; (try dsimp only at hSw); have a0 : Sem.run Try.prog (loadCellsFrom ⟨b, o + k * n20, none⟩ 0 n18 #[]) w = .ok (encP t.to).toArray w := hSw.1.to.all.load (k := n18) (encP_n _) Try.prog; have a1 := hSw.2.1.all.load (k := n18) (encP_n _) Try.prog; have a2 := hSw.2.2.all.load (k := n18) (encP_n _) Try.prog; clear hSw;try simp only [List.getElem_toArray, List.getElem_cons_zero, List.getElem_cons_succ]; go_simp; try (with_reducible rfl))
          try simp only [List.setIfInBounds_toArray, List.set_cons_zero, List.set_cons_succ]
          refine held_take 11 26 (v := ?_) rfl rfl (by kernel_rfl) (by kernel_rfl) (by kernel_rfl) (fun _ _ _ h => h) (by rfl) ?_ ⟨HX.out, HA.out, HB.out⟩ ?_
          rotate_left
          · (intro w hSw; (try dsimp only at hSw); have a0 : Sem.run Try.prog (loadCellsFrom ⟨b, o + k * n20, none⟩ 0 n18 #[]) w = .ok (encP t.to).toArray w := hSw.1.to.all.load (k := n18) (encP_n _) Try.prog; have a1 := hSw.2.1.all.load (k := n18) (encP_n _) Try.prog; have a2 := hSw.2.2.all.load (k := n18) (encP_n _) Try.prog; clear hSw;try simp only [List.getElem_toArray, List.getElem_cons_zero, List.getElem_cons_succ]; go_simp; try (with_reducible rfl))
          try simp only [List.setIfInBounds_toArray, List.set_cons_zero, List.set_cons_succ]
          refine held_take 12 27 (v := ?_) rfl rfl (by kernel_rfl) (by kernel_rfl) (by kernel_rfl) (fun _ _ _ h => h) (by rfl) ?_ ⟨HX.out, HA.out, HB.out⟩ ?_
          rotate_left
          · (intro w hSw; (try dsimp only at hSw); have a0 : Sem.run Try.prog (loadCellsFrom ⟨b, o + k * n20, none⟩ 0 n18 #[]) w = .ok (encP t.to).toArray w := hSw.1.to.all.load (k := n18) (encP_n _) Try.prog; have a1 := hSw.2.1.all.load (k := n18) (encP_n _) Try.prog; have a2 := hSw.2.2.all.load (k := n18) (encP_n _) Try.prog; clear hSw;try simp only [List.getElem_toArray, List.getElem_cons_zero, List.getElem_cons_succ]; go_simp; try (with_reducible rfl))
          try simp only [List.setIfInBounds_toArray, List.set_cons_zero, List.set_cons_succ]
          refine held_take 13 28 (v := ?_) rfl rfl (by kernel_rfl) (by kernel_rfl) (by kernel_rfl) (fun _ _ _ h => h) (by rfl) ?_ ⟨HX.out, HA.out, HB.out⟩ ?_
          rotate_left
          · (intro w hSw; (try dsimp only at hSw); have a0 : Sem.run Try.prog (loadCellsFrom ⟨b, o + k * n20, none⟩ 0 n18 #[]) w = .ok (encP t.to).toArray w := hSw.1.to.all.load (k := n18) (encP_n _) Try.prog; have a1 := hSw.2.1.all.load (k := n18) (encP_n _) Try.prog; have a2 := hSw.2.2.all.load (k := n18) (encP_n _) Try.prog; clear hSw;try simp only [List.getElem_toArray, List.getElem_cons_zero, List.getElem_cons_succ]; go_simp; try (with_reducible rfl))
          try simp only [List.setIfInBounds_toArray, List.set_cons_zero, List.set_cons_succ]
          refine held_take 14 29 (v := ?_) rfl rfl (by kernel_rfl) (by kernel_rfl) (by kernel_rfl) (fun _ _ _ h => h) (by rfl) ?_ ⟨HX.out, HA.out, HB.out⟩ ?_
          rotate_left
          · (intro w hSw; (try dsimp only at hSw); have a0 : Sem.run Try.prog (loadCellsFrom ⟨b, o + k * n20, none⟩ 0 n18 #[]) w = .ok (encP t.to).toArray w := hSw.1.to.all.load (k := n18) (encP_n _) Try.prog; have a1 := hSw.2.1.all.load (k := n18) (encP_n _) Try.prog; have a2 := hSw.2.2.all.load (k := n18) (encP_n _) Try.prog; clear hSw;try simp only [List.getElem_toArray, List.getElem_cons_zero, List.getElem_cons_succ]; go_simp; try (with_reducible rfl))
          try simp only [List.setIfInBounds_toArray, List.set_cons_zero, List.set_cons_succ]
          refine held_call 15 30 rfl rfl (by kernel_rfl) (by rfl) (fun K hK => ?_)
          try simp only [List.getElem_toArray, List.getElem_cons_zero, List.getElem_cons_succ]
          go_simp
          (go_at_call 33; (with_reducible refine (refCompare_any _ _ _).mono ?_); rintro e w5 ⟨rfl, hb3⟩; rw [HC2.out]; have HX := Lib.hid (HX.out.below hb3); have HA := Lib.hid (HA.out.below hb3); have HB := Lib.hid (HB.out.below hb3); have HG := Lib.hid (HG.out.below hb3); clear hb3)
          try go_wp2_with fail
          try simp only [Act.put, List.setIfInBounds_toArray, List.set_cons_zero, List.set_cons_succ]
          refine hK.out _ _ _ ⟨HX.out, HA.out, HB.out⟩ ?_
          clear hK K
          refine held_take 16 31 (v := ?_) rfl rfl (by kernel_rfl) (by kernel_rfl) (by kernel_rfl) (fun _ _ _ h => h) (by rfl) ?_ ⟨HX.out, HA.out, HB.out⟩ ?_
          rotate_left
          · (intro w hSw; (try dsimp only at hSw); have a0 : Sem.run Try.prog (loadCellsFrom ⟨b, o + k * n20, none⟩ 0 n18 #[]) w = .ok (encP t.to).toArray w := hSw.1.to.all.load (k := n18) (encP_n _) Try.prog; have a1 := hSw.2.1.all.load (k := n18) (encP_n _) Try.prog; have a2 := hSw.2.2.all.load (k := n18) (encP_n _) Try.prog; clear hSw;try simp only [List.getElem_toArray, List.getElem_cons_zero, List.getElem_cons_succ]; go_simp; try (with_reducible rfl))
          try simp only [List.setIfInBounds_toArray, List.set_cons_zero, List.set_cons_succ]
          refine held_take 17 32 (v := ?_) rfl rfl (by kernel_rfl) (by kernel_rfl) (by kernel_rfl) (fun _ _ _ h => h) (by rfl) ?_ ⟨HX.out, HA.out, HB.out⟩ ?_
          rotate_left
          · (intro w hSw; (try dsimp only at hSw); have a0 : Sem.run Try.prog (loadCellsFrom ⟨b, o + k * n20, none⟩ 0 n18 #[]) w = .ok (encP t.to).toArray w := hSw.1.to.all.load (k := n18) (encP_n _) Try.prog; have a1 := hSw.2.1.all.load (k := n18) (encP_n _) Try.prog; have a2 := hSw.2.2.all.load (k := n18) (encP_n _) Try.prog; clear hSw;try simp only [List.getElem_toArray, List.getElem_cons_zero, List.getElem_cons_succ]; go_simp; try (with_reducible rfl))
          try simp only [List.setIfInBounds_toArray, List.set_cons_zero, List.set_cons_succ]
          refine wpAnyH_done (by kernel_rfl) ?_ _
          have a1 : Sem.run Try.prog (loadCellsFrom ⟨b, o + k * n20, none⟩ 0 n20 #[]) w5 = .ok (encR t).toArray w5 := HX.out.all.load (k := n20) (encR_n _) Try.prog
          go_wp2_with (first
            | (refine wpList_row_run (o := ⟨some 38, .buildSlice 31 1 #[(0, .tmp 37)], _, _, _, _⟩) rfl 31 1 #[(0, .tmp 37)] rfl #[(0, .agg (encR t).toArray)] (by simp [Act.eval, Act.put]) (row_R1 _ _) ?_)
            | (refine wpList_app1 rfl (.tmp 33) (.tmp 38) rfl _ t _ rfl rfl HG.out HLE.out ?_; rintro v7 w7 h7 ⟨x7, y7, z7, rfl⟩; have H7 := Lib.hid h7; clear h7))
          go_roundw
          case rel => exact ⟨k + 1, by omega, by go_num, by rw [HFE.out]; exact H7.out, _, _, _, rfl⟩
          case measure => simp [intOf]; omega
        · have HFE := Lib.hid (show (T.take (k + 1)).filter (inB p q) = (T.take k).filter (inB p q) by rw [HFS.out, HIN.out, decide_eq_false h2, Bool.and_false, if_neg (by simp), List.append_nil])
          go_upto_region 5 with fail
          have HG := Lib.hid HG.out.drew
          have HX := Lib.hid (HX0.out.below HG.out.bel)
          have HA := Lib.hid (H1.out.below HG.out.bel)
          have HB := Lib.hid (H2.out.below HG.out.bel)
          refine wp_region_held_drew (S := (fun w' => RAt w' b (o + k * 20) t ∧ PAt w' B 0 p ∧ PAt w' B2 0 q)) (by kernel_rfl) ⟨HX.out, HA.out, HB.out⟩ (fun _ => ?_)
          refine held_take 0 15 (v := ?_) rfl rfl (by kernel_rfl) (by kernel_rfl) (by kernel_rfl) (fun _ _ _ h => h) (by rfl) ?_ ⟨HX.out, HA.out, HB.out⟩ ?_
          rotate_left
          · (intro w hSw; (try dsimp only at hSw); have a0 : Sem.run Try.prog (loadCellsFrom ⟨b, o + k * n20, none⟩ 0 n18 #[]) w = .ok (encP t.to).toArray w := hSw.1.to.all.load (k := n18) (encP_n _) Try.prog; have a1 := hSw.2.1.all.load (k := n18) (encP_n _) Try.prog; have a2 := hSw.2.2.all.load (k := n18) (encP_n _) Try.prog; clear hSw;try simp only [List.getElem_toArray, List.getElem_cons_zero, List.getElem_cons_succ]; go_simp; try (with_reducible rfl))
          try simp only [List.setIfInBounds_toArray, List.set_cons_zero, List.set_cons_succ]
          refine held_take 1 16 (v := ?_) rfl rfl (by kernel_rfl) (by kernel_rfl) (by kernel_rfl) (fun _ _ _ h => h) (by rfl) ?_ ⟨HX.out, HA.out, HB.out⟩ ?_
          rotate_left
          · (intro w hSw; (try dsimp only at hSw); have a0 : Sem.run Try.prog (loadCellsFrom ⟨b, o + k * n20, none⟩ 0 n18 #[]) w = .ok (encP t.to).toArray w := hSw.1.to.all.load (k := n18) (encP_n _) Try.prog; have a1 := hSw.2.1.all.load (k := n18) (encP_n _) Try.prog; have a2 := hSw.2.2.all.load (k := n18) (encP_n _) Try.prog; clear hSw;try simp only [List.getElem_toArray, List.getElem_cons_zero, List.getElem_cons_succ]; go_simp; try (with_reducible rfl))
          try simp only [List.setIfInBounds_toArray, List.set_cons_zero, List.set_cons_succ]
          refine held_take 2 17 (v := ?_) rfl rfl (by kernel_rfl) (by kernel_rfl) (by kernel_rfl) (fun _ _ _ h => h) (by rfl) ?_ ⟨HX.out, HA.out, HB.out⟩ ?_
          rotate_left
          · (intro w hSw; (try dsimp only at hSw); have a0 : Sem.run Try.prog (loadCellsFrom ⟨b, o + k * n20, none⟩ 0 n18 #[]) w = .ok (encP t.to).toArray w := hSw.1.to.all.load (k := n18) (encP_n _) Try.prog; have a1 := hSw.2.1.all.load (k := n18) (encP_n _) Try.prog; have a2 := hSw.2.2.all.load (k := n18) (encP_n _) Try.prog; clear hSw;try simp only [List.getElem_toArray, List.getElem_cons_zero, List.getElem_cons_succ]; go_simp; try (with_reducible rfl))
          try simp only [List.setIfInBounds_toArray, List.set_cons_zero, List.set_cons_succ]
          refine held_take 3 18 (v := ?_) rfl rfl (by kernel_rfl) (by kernel_rfl) (by kernel_rfl) (fun _ _ _ h => h) (by rfl) ?_ ⟨HX.out, HA.out, HB.out⟩ ?_
          rotate_left
          · (intro w hSw; (try dsimp only at hSw); have a0 : Sem.run Try.prog (loadCellsFrom ⟨b, o + k * n20, none⟩ 0 n18 #[]) w = .ok (encP t.to).toArray w := hSw.1.to.all.load (k := n18) (encP_n _) Try.prog; have a1 := hSw.2.1.all.load (k := n18) (encP_n _) Try.prog; have a2 := hSw.2.2.all.load (k := n18) (encP_n _) Try.prog; clear hSw;try simp only [List.getElem_toArray, List.getElem_cons_zero, List.getElem_cons_succ]; go_simp; try (with_reducible rfl))
          try simp only [List.setIfInBounds_toArray, List.set_cons_zero, List.set_cons_succ]
          refine held_take 4 19 (v := ?_) rfl rfl (by kernel_rfl) (by kernel_rfl) (by kernel_rfl) (fun _ _ _ h => h) (by rfl) ?_ ⟨HX.out, HA.out, HB.out⟩ ?_
          rotate_left
          · (intro w hSw; (try dsimp only at hSw); have a0 : Sem.run Try.prog (loadCellsFrom ⟨b, o + k * n20, none⟩ 0 n18 #[]) w = .ok (encP t.to).toArray w := hSw.1.to.all.load (k := n18) (encP_n _) Try.prog; have a1 := hSw.2.1.all.load (k := n18) (encP_n _) Try.prog; have a2 := hSw.2.2.all.load (k := n18) (encP_n _) Try.prog; clear hSw;try simp only [List.getElem_toArray, List.getElem_cons_zero, List.getElem_cons_succ]; go_simp; try (with_reducible rfl))
          try simp only [List.setIfInBounds_toArray, List.set_cons_zero, List.set_cons_succ]
          refine held_take 5 20 (v := ?_) rfl rfl (by kernel_rfl) (by kernel_rfl) (by kernel_rfl) (fun _ _ _ h => h) (by rfl) ?_ ⟨HX.out, HA.out, HB.out⟩ ?_
          rotate_left
          · (intro w hSw; (try dsimp only at hSw); have a0 : Sem.run Try.prog (loadCellsFrom ⟨b, o + k * n20, none⟩ 0 n18 #[]) w = .ok (encP t.to).toArray w := hSw.1.to.all.load (k := n18) (encP_n _) Try.prog; have a1 := hSw.2.1.all.load (k := n18) (encP_n _) Try.prog; have a2 := hSw.2.2.all.load (k := n18) (encP_n _) Try.prog; clear hSw;try simp only [List.getElem_toArray, List.getElem_cons_zero, List.getElem_cons_succ]; go_simp; try (with_reducible rfl))
          try simp only [List.setIfInBounds_toArray, List.set_cons_zero, List.set_cons_succ]
          refine held_call 6 21 rfl rfl (by kernel_rfl) (by rfl) (fun K hK => ?_)
          try simp only [List.getElem_toArray, List.getElem_cons_zero, List.getElem_cons_succ]
          go_simp
          (go_at_call 33; (with_reducible refine (refCompare_any _ _ _).mono ?_); rintro e w4 ⟨rfl, hb3⟩; rw [HC1.out]; have HX := Lib.hid (HX.out.below hb3); have HA := Lib.hid (HA.out.below hb3); have HB := Lib.hid (HB.out.below hb3); have HG := Lib.hid (HG.out.below hb3); clear hb3)
          try go_wp2_with fail
          try simp only [Act.put, List.setIfInBounds_toArray, List.set_cons_zero, List.set_cons_succ]
          refine hK.out _ _ _ ⟨HX.out, HA.out, HB.out⟩ ?_
          clear hK K
          refine held_take 7 22 (v := ?_) rfl rfl (by kernel_rfl) (by kernel_rfl) (by kernel_rfl) (fun _ _ _ h => h) (by rfl) ?_ ⟨HX.out, HA.out, HB.out⟩ ?_
          rotate_left
          · (intro w hSw; (try dsimp only at hSw); have a0 : Sem.run Try.prog (loadCellsFrom ⟨b, o + k * n20, none⟩ 0 n18 #[]) w = .ok (encP t.to).toArray w := hSw.1.to.all.load (k := n18) (encP_n _) Try.prog; have a1 := hSw.2.1.all.load (k := n18) (encP_n _) Try.prog; have a2 := hSw.2.2.all.load (k := n18) (encP_n _) Try.prog; clear hSw;try simp only [List.getElem_toArray, List.getElem_cons_zero, List.getElem_cons_succ]; go_simp; try (with_reducible rfl))
          try simp only [List.setIfInBounds_toArray, List.set_cons_zero, List.set_cons_succ]
          refine held_take 8 23 (v := ?_) rfl rfl (by kernel_rfl) (by kernel_rfl) (by kernel_rfl) (fun _ _ _ h => h) (by rfl) ?_ ⟨HX.out, HA.out, HB.out⟩ ?_
          rotate_left
          · (intro w hSw; (try dsimp only at hSw); have a0 : Sem.run Try.prog (loadCellsFrom ⟨b, o + k * n20, none⟩ 0 n18 #[]) w = .ok (encP t.to).toArray w := hSw.1.to.all.load (k := n18) (encP_n _) Try.prog; have a1 := hSw.2.1.all.load (k := n18) (encP_n _) Try.prog; have a2 := hSw.2.2.all.load (k := n18) (encP_n _) Try.prog; clear hSw;try simp only [List.getElem_toArray, List.getElem_cons_zero, List.getElem_cons_succ]; go_simp; try (with_reducible rfl))
          try simp only [List.setIfInBounds_toArray, List.set_cons_zero, List.set_cons_succ]
          refine held_take 9 24 (v := ?_) rfl rfl (by kernel_rfl) (by kernel_rfl) (by kernel_rfl) (fun _ _ _ h => h) (by rfl) ?_ ⟨HX.out, HA.out, HB.out⟩ ?_
          rotate_left
          · (intro w hSw; (try dsimp only at hSw); have a0 : Sem.run Try.prog (loadCellsFrom ⟨b, o + k * n20, none⟩ 0 n18 #[]) w = .ok (encP t.to).toArray w := hSw.1.to.all.load (k := n18) (encP_n _) Try.prog; have a1 := hSw.2.1.all.load (k := n18) (encP_n _) Try.prog; have a2 := hSw.2.2.all.load (k := n18) (encP_n _) Try.prog; clear hSw;try simp only [List.getElem_toArray, List.getElem_cons_zero, List.getElem_cons_succ]; go_simp; try (with_reducible rfl))
          try simp only [List.setIfInBounds_toArray, List.set_cons_zero, List.set_cons_succ]
          refine held_take 10 25 (v := ?_) rfl rfl (by kernel_rfl) (by kernel_rfl) (by kernel_rfl) (fun _ _ _ h => h) (by rfl) ?_ ⟨HX.out, HA.out, HB.out⟩ ?_
          rotate_left
          · (intro w hSw; (try dsimp only at hSw); have a0 : Sem.run Try.prog (loadCellsFrom ⟨b, o + k * n20, none⟩ 0 n18 #[]) w = .ok (encP t.to).toArray w := hSw.1.to.all.load (k := n18) (encP_n _) Try.prog; have a1 := hSw.2.1.all.load (k := n18) (encP_n _) Try.prog; have a2 := hSw.2.2.all.load (k := n18) (encP_n _) Try.prog; clear hSw;try simp only [List.getElem_toArray, List.getElem_cons_zero, List.getElem_cons_succ]; go_simp; try (with_reducible rfl))
          try simp only [List.setIfInBounds_toArray, List.set_cons_zero, List.set_cons_succ]
          refine held_take 11 26 (v := ?_) rfl rfl (by kernel_rfl) (by kernel_rfl) (by kernel_rfl) (fun _ _ _ h => h) (by rfl) ?_ ⟨HX.out, HA.out, HB.out⟩ ?_
          rotate_left
          · (intro w hSw; (try dsimp only at hSw); have a0 : Sem.run Try.prog (loadCellsFrom ⟨b, o + k * n20, none⟩ 0 n18 #[]) w = .ok (encP t.to).toArray w := hSw.1.to.all.load (k := n18) (encP_n _) Try.prog; have a1 := hSw.2.1.all.load (k := n18) (encP_n _) Try.prog; have a2 := hSw.2.2.all.load (k := n18) (encP_n _) Try.prog; clear hSw;try simp only [List.getElem_toArray, List.getElem_cons_zero, List.getElem_cons_succ]; go_simp; try (with_reducible rfl))
          try simp only [List.setIfInBounds_toArray, List.set_cons_zero, List.set_cons_succ]
          refine held_take 12 27 (v := ?_) rfl rfl (by kernel_rfl) (by kernel_rfl) (by kernel_rfl) (fun _ _ _ h => h) (by rfl) ?_ ⟨HX.out, HA.out, HB.out⟩ ?_
          rotate_left
          · (intro w hSw; (try dsimp only at hSw); have a0 : Sem.run Try.prog (loadCellsFrom ⟨b, o + k * n20, none⟩ 0 n18 #[]) w = .ok (encP t.to).toArray w := hSw.1.to.all.load (k := n18) (encP_n _) Try.prog; have a1 := hSw.2.1.all.load (k := n18) (encP_n _) Try.prog; have a2 := hSw.2.2.all.load (k := n18) (encP_n _) Try.prog; clear hSw;try simp only [List.getElem_toArray, List.getElem_cons_zero, List.getElem_cons_succ]; go_simp; try (with_reducible rfl))
          try simp only [List.setIfInBounds_toArray, List.set_cons_zero, List.set_cons_succ]
          refine held_take 13 28 (v := ?_) rfl rfl (by kernel_rfl) (by kernel_rfl) (by kernel_rfl) (fun _ _ _ h => h) (by rfl) ?_ ⟨HX.out, HA.out, HB.out⟩ ?_
          rotate_left
          · (intro w hSw; (try dsimp only at hSw); have a0 : Sem.run Try.prog (loadCellsFrom ⟨b, o + k * n20, none⟩ 0 n18 #[]) w = .ok (encP t.to).toArray w := hSw.1.to.all.load (k := n18) (encP_n _) Try.prog; have a1 := hSw.2.1.all.load (k := n18) (encP_n _) Try.prog; have a2 := hSw.2.2.all.load (k := n18) (encP_n _) Try.prog; clear hSw;try simp only [List.getElem_toArray, List.getElem_cons_zero, List.getElem_cons_succ]; go_simp; try (with_reducible rfl))
          try simp only [List.setIfInBounds_toArray, List.set_cons_zero, List.set_cons_succ]
          refine held_take 14 29 (v := ?_) rfl rfl (by kernel_rfl) (by kernel_rfl) (by kernel_rfl) (fun _ _ _ h => h) (by rfl) ?_ ⟨HX.out, HA.out, HB.out⟩ ?_
          rotate_left
          · (intro w hSw; (try dsimp only at hSw); have a0 : Sem.run Try.prog (loadCellsFrom ⟨b, o + k * n20, none⟩ 0 n18 #[]) w = .ok (encP t.to).toArray w := hSw.1.to.all.load (k := n18) (encP_n _) Try.prog; have a1 := hSw.2.1.all.load (k := n18) (encP_n _) Try.prog; have a2 := hSw.2.2.all.load (k := n18) (encP_n _) Try.prog; clear hSw;try simp only [List.getElem_toArray, List.getElem_cons_zero, List.getElem_cons_succ]; go_simp; try (with_reducible rfl))
          try simp only [List.setIfInBounds_toArray, List.set_cons_zero, List.set_cons_succ]
          refine held_call 15 30 rfl rfl (by kernel_rfl) (by rfl) (fun K hK => ?_)
          try simp only [List.getElem_toArray, List.getElem_cons_zero, List.getElem_cons_succ]
          go_simp
          (go_at_call 33; (with_reducible refine (refCompare_any _ _ _).mono ?_); rintro e w5 ⟨rfl, hb3⟩; rw [HC2.out]; have HX := Lib.hid (HX.out.below hb3); have HA := Lib.hid (HA.out.below hb3); have HB := Lib.hid (HB.out.below hb3); have HG := Lib.hid (HG.out.below hb3); clear hb3)
          try go_wp2_with fail
          try simp only [Act.put, List.setIfInBounds_toArray, List.set_cons_zero, List.set_cons_succ]
          refine hK.out _ _ _ ⟨HX.out, HA.out, HB.out⟩ ?_
          clear hK K
          refine held_take 16 31 (v := ?_) rfl rfl (by kernel_rfl) (by kernel_rfl) (by kernel_rfl) (fun _ _ _ h => h) (by rfl) ?_ ⟨HX.out, HA.out, HB.out⟩ ?_
          rotate_left
          · (intro w hSw; (try dsimp only at hSw); have a0 : Sem.run Try.prog (loadCellsFrom ⟨b, o + k * n20, none⟩ 0 n18 #[]) w = .ok (encP t.to).toArray w := hSw.1.to.all.load (k := n18) (encP_n _) Try.prog; have a1 := hSw.2.1.all.load (k := n18) (encP_n _) Try.prog; have a2 := hSw.2.2.all.load (k := n18) (encP_n _) Try.prog; clear hSw;try simp only [List.getElem_toArray, List.getElem_cons_zero, List.getElem_cons_succ]; go_simp; try (with_reducible rfl))
          try simp only [List.setIfInBounds_toArray, List.set_cons_zero, List.set_cons_succ]
          refine held_take 17 32 (v := ?_) rfl rfl (by kernel_rfl) (by kernel_rfl) (by kernel_rfl) (fun _ _ _ h => h) (by rfl) ?_ ⟨HX.out, HA.out, HB.out⟩ ?_
          rotate_left
          · (intro w hSw; (try dsimp only at hSw); have a0 : Sem.run Try.prog (loadCellsFrom ⟨b, o + k * n20, none⟩ 0 n18 #[]) w = .ok (encP t.to).toArray w := hSw.1.to.all.load (k := n18) (encP_n _) Try.prog; have a1 := hSw.2.1.all.load (k := n18) (encP_n _) Try.prog; have a2 := hSw.2.2.all.load (k := n18) (encP_n _) Try.prog; clear hSw;try simp only [List.getElem_toArray, List.getElem_cons_zero, List.getElem_cons_succ]; go_simp; try (with_reducible rfl))
          try simp only [List.setIfInBounds_toArray, List.set_cons_zero, List.set_cons_succ]
          refine wpAnyH_done (by kernel_rfl) ?_ _
          go_wp2
          go_roundw
          case rel => exact ⟨k + 1, by omega, by go_num, by rw [HFE.out]; exact HG.out, _, _, _, rfl⟩
          case measure => simp [intOf]; omega
      · have h1' : c1 < 0 := by omega
        have h1'' : decide (0 ≤ c1) = false := decide_eq_false h1
        have HFE := Lib.hid (show (T.take (k + 1)).filter (inB p q) = (T.take k).filter (inB p q) by rw [HFS.out, HIN.out, decide_eq_false (by omega), Bool.false_and, if_neg (by simp), List.append_nil])
        go_upto_region 5 with fail
        have HG := Lib.hid HG.out.drew
        have HX := Lib.hid (HX0.out.below HG.out.bel)
        have HA := Lib.hid (H1.out.below HG.out.bel)
        have HB := Lib.hid (H2.out.below HG.out.bel)
        refine wp_region_held_drew (S := (fun w' => RAt w' b (o + k * 20) t ∧ PAt w' B 0 p ∧ PAt w' B2 0 q)) (by kernel_rfl) ⟨HX.out, HA.out, HB.out⟩ (fun _ => ?_)
        refine held_take 0 15 (v := ?_) rfl rfl (by kernel_rfl) (by kernel_rfl) (by kernel_rfl) (fun _ _ _ h => h) (by rfl) ?_ ⟨HX.out, HA.out, HB.out⟩ ?_
        rotate_left
        · (intro w hSw; (try dsimp only at hSw); have a0 : Sem.run Try.prog (loadCellsFrom ⟨b, o + k * n20, none⟩ 0 n18 #[]) w = .ok (encP t.to).toArray w := hSw.1.to.all.load (k := n18) (encP_n _) Try.prog; have a1 := hSw.2.1.all.load (k := n18) (encP_n _) Try.prog; have a2 := hSw.2.2.all.load (k := n18) (encP_n _) Try.prog; clear hSw;try simp only [List.getElem_toArray, List.getElem_cons_zero, List.getElem_cons_succ]; go_simp; try (with_reducible rfl))
        try simp only [List.setIfInBounds_toArray, List.set_cons_zero, List.set_cons_succ]
        refine held_take 1 16 (v := ?_) rfl rfl (by kernel_rfl) (by kernel_rfl) (by kernel_rfl) (fun _ _ _ h => h) (by rfl) ?_ ⟨HX.out, HA.out, HB.out⟩ ?_
        rotate_left
        · (intro w hSw; (try dsimp only at hSw); have a0 : Sem.run Try.prog (loadCellsFrom ⟨b, o + k * n20, none⟩ 0 n18 #[]) w = .ok (encP t.to).toArray w := hSw.1.to.all.load (k := n18) (encP_n _) Try.prog; have a1 := hSw.2.1.all.load (k := n18) (encP_n _) Try.prog; have a2 := hSw.2.2.all.load (k := n18) (encP_n _) Try.prog; clear hSw;try simp only [List.getElem_toArray, List.getElem_cons_zero, List.getElem_cons_succ]; go_simp; try (with_reducible rfl))
        try simp only [List.setIfInBounds_toArray, List.set_cons_zero, List.set_cons_succ]
        refine held_take 2 17 (v := ?_) rfl rfl (by kernel_rfl) (by kernel_rfl) (by kernel_rfl) (fun _ _ _ h => h) (by rfl) ?_ ⟨HX.out, HA.out, HB.out⟩ ?_
        rotate_left
        · (intro w hSw; (try dsimp only at hSw); have a0 : Sem.run Try.prog (loadCellsFrom ⟨b, o + k * n20, none⟩ 0 n18 #[]) w = .ok (encP t.to).toArray w := hSw.1.to.all.load (k := n18) (encP_n _) Try.prog; have a1 := hSw.2.1.all.load (k := n18) (encP_n _) Try.prog; have a2 := hSw.2.2.all.load (k := n18) (encP_n _) Try.prog; clear hSw;try simp only [List.getElem_toArray, List.getElem_cons_zero, List.getElem_cons_succ]; go_simp; try (with_reducible rfl))
        try simp only [List.setIfInBounds_toArray, List.set_cons_zero, List.set_cons_succ]
        refine held_take 3 18 (v := ?_) rfl rfl (by kernel_rfl) (by kernel_rfl) (by kernel_rfl) (fun _ _ _ h => h) (by rfl) ?_ ⟨HX.out, HA.out, HB.out⟩ ?_
        rotate_left
        · (intro w hSw; (try dsimp only at hSw); have a0 : Sem.run Try.prog (loadCellsFrom ⟨b, o + k * n20, none⟩ 0 n18 #[]) w = .ok (encP t.to).toArray w := hSw.1.to.all.load (k := n18) (encP_n _) Try.prog; have a1 := hSw.2.1.all.load (k := n18) (encP_n _) Try.prog; have a2 := hSw.2.2.all.load (k := n18) (encP_n _) Try.prog; clear hSw;try simp only [List.getElem_toArray, List.getElem_cons_zero, List.getElem_cons_succ]; go_simp; try (with_reducible rfl))
        try simp only [List.setIfInBounds_toArray, List.set_cons_zero, List.set_cons_succ]
        refine held_take 4 19 (v := ?_) rfl rfl (by kernel_rfl) (by kernel_rfl) (by kernel_rfl) (fun _ _ _ h => h) (by rfl) ?_ ⟨HX.out, HA.out, HB.out⟩ ?_
        rotate_left
        · (intro w hSw; (try dsimp only at hSw); have a0 : Sem.run Try.prog (loadCellsFrom ⟨b, o + k * n20, none⟩ 0 n18 #[]) w = .ok (encP t.to).toArray w := hSw.1.to.all.load (k := n18) (encP_n _) Try.prog; have a1 := hSw.2.1.all.load (k := n18) (encP_n _) Try.prog; have a2 := hSw.2.2.all.load (k := n18) (encP_n _) Try.prog; clear hSw;try simp only [List.getElem_toArray, List.getElem_cons_zero, List.getElem_cons_succ]; go_simp; try (with_reducible rfl))
        try simp only [List.setIfInBounds_toArray, List.set_cons_zero, List.set_cons_succ]
        refine held_take 5 20 (v := ?_) rfl rfl (by kernel_rfl) (by kernel_rfl) (by kernel_rfl) (fun _ _ _ h => h) (by rfl) ?_ ⟨HX.out, HA.out, HB.out⟩ ?_
        rotate_left
        · (intro w hSw; (try dsimp only at hSw); have a0 : Sem.run Try.prog (loadCellsFrom ⟨b, o + k * n20, none⟩ 0 n18 #[]) w = .ok (encP t.to).toArray w := hSw.1.to.all.load (k := n18) (encP_n _) Try.prog; have a1 := hSw.2.1.all.load (k := n18) (encP_n _) Try.prog; have a2 := hSw.2.2.all.load (k := n18) (encP_n _) Try.prog; clear hSw;try simp only [List.getElem_toArray, List.getElem_cons_zero, List.getElem_cons_succ]; go_simp; try (with_reducible rfl))
        try simp only [List.setIfInBounds_toArray, List.set_cons_zero, List.set_cons_succ]
        refine held_call 6 21 rfl rfl (by kernel_rfl) (by rfl) (fun K hK => ?_)
        try simp only [List.getElem_toArray, List.getElem_cons_zero, List.getElem_cons_succ]
        go_simp
        (go_at_call 33; (with_reducible refine (refCompare_any _ _ _).mono ?_); rintro e w4 ⟨rfl, hb3⟩; rw [HC1.out]; have HX := Lib.hid (HX.out.below hb3); have HA := Lib.hid (HA.out.below hb3); have HB := Lib.hid (HB.out.below hb3); have HG := Lib.hid (HG.out.below hb3); clear hb3)
        try go_wp2_with fail
        try simp only [Act.put, List.setIfInBounds_toArray, List.set_cons_zero, List.set_cons_succ]
        refine hK.out _ _ _ ⟨HX.out, HA.out, HB.out⟩ ?_
        clear hK K
        refine held_take 7 22 (v := ?_) rfl rfl (by kernel_rfl) (by kernel_rfl) (by kernel_rfl) (fun _ _ _ h => h) (by rfl) ?_ ⟨HX.out, HA.out, HB.out⟩ ?_
        rotate_left
        · (intro w hSw; (try dsimp only at hSw); have a0 : Sem.run Try.prog (loadCellsFrom ⟨b, o + k * n20, none⟩ 0 n18 #[]) w = .ok (encP t.to).toArray w := hSw.1.to.all.load (k := n18) (encP_n _) Try.prog; have a1 := hSw.2.1.all.load (k := n18) (encP_n _) Try.prog; have a2 := hSw.2.2.all.load (k := n18) (encP_n _) Try.prog; clear hSw;try simp only [List.getElem_toArray, List.getElem_cons_zero, List.getElem_cons_succ]; go_simp; try (with_reducible rfl))
        try simp only [List.setIfInBounds_toArray, List.set_cons_zero, List.set_cons_succ]
        refine held_take 8 23 (v := ?_) rfl rfl (by kernel_rfl) (by kernel_rfl) (by kernel_rfl) (fun _ _ _ h => h) (by rfl) ?_ ⟨HX.out, HA.out, HB.out⟩ ?_
        rotate_left
        · (intro w hSw; (try dsimp only at hSw); have a0 : Sem.run Try.prog (loadCellsFrom ⟨b, o + k * n20, none⟩ 0 n18 #[]) w = .ok (encP t.to).toArray w := hSw.1.to.all.load (k := n18) (encP_n _) Try.prog; have a1 := hSw.2.1.all.load (k := n18) (encP_n _) Try.prog; have a2 := hSw.2.2.all.load (k := n18) (encP_n _) Try.prog; clear hSw;try simp only [List.getElem_toArray, List.getElem_cons_zero, List.getElem_cons_succ]; go_simp; try (with_reducible rfl))
        try simp only [List.setIfInBounds_toArray, List.set_cons_zero, List.set_cons_succ]
        refine held_skip 9 24 rfl rfl (by kernel_rfl) (by kernel_rfl) (by kernel_rfl) (fun _ _ _ h => h) (by rfl) ⟨HX.out, HA.out, HB.out⟩ ?_
        try simp only [List.setIfInBounds_toArray, List.set_cons_zero, List.set_cons_succ]
        refine held_skip 10 25 rfl rfl (by kernel_rfl) (by kernel_rfl) (by kernel_rfl) (fun _ _ _ h => h) (by rfl) ⟨HX.out, HA.out, HB.out⟩ ?_
        try simp only [List.setIfInBounds_toArray, List.set_cons_zero, List.set_cons_succ]
        refine held_skip 11 26 rfl rfl (by kernel_rfl) (by kernel_rfl) (by kernel_rfl) (fun _ _ _ h => h) (by rfl) ⟨HX.out, HA.out, HB.out⟩ ?_
        try simp only [List.setIfInBounds_toArray, List.set_cons_zero, List.set_cons_succ]
        refine held_skip 12 27 rfl rfl (by kernel_rfl) (by kernel_rfl) (by kernel_rfl) (fun _ _ _ h => h) (by rfl) ⟨HX.out, HA.out, HB.out⟩ ?_
        try simp only [List.setIfInBounds_toArray, List.set_cons_zero, List.set_cons_succ]
        refine held_skip 13 28 rfl rfl (by kernel_rfl) (by kernel_rfl) (by kernel_rfl) (fun _ _ _ h => h) (by rfl) ⟨HX.out, HA.out, HB.out⟩ ?_
        try simp only [List.setIfInBounds_toArray, List.set_cons_zero, List.set_cons_succ]
        refine held_skip 14 29 rfl rfl (by kernel_rfl) (by kernel_rfl) (by kernel_rfl) (fun _ _ _ h => h) (by rfl) ⟨HX.out, HA.out, HB.out⟩ ?_
        try simp only [List.setIfInBounds_toArray, List.set_cons_zero, List.set_cons_succ]
        refine held_skip 15 30 rfl rfl (by kernel_rfl) (by kernel_rfl) (by kernel_rfl) (fun _ _ _ h => h) (by rfl) ⟨HX.out, HA.out, HB.out⟩ ?_
        try simp only [List.setIfInBounds_toArray, List.set_cons_zero, List.set_cons_succ]
        refine held_skip 16 31 rfl rfl (by kernel_rfl) (by kernel_rfl) (by kernel_rfl) (fun _ _ _ h => h) (by rfl) ⟨HX.out, HA.out, HB.out⟩ ?_
        try simp only [List.setIfInBounds_toArray, List.set_cons_zero, List.set_cons_succ]
        refine held_take 17 32 (v := ?_) rfl rfl (by kernel_rfl) (by kernel_rfl) (by kernel_rfl) (fun _ _ _ h => h) (by rfl) ?_ ⟨HX.out, HA.out, HB.out⟩ ?_
        rotate_left
        · (intro w hSw; (try dsimp only at hSw); have a0 : Sem.run Try.prog (loadCellsFrom ⟨b, o + k * n20, none⟩ 0 n18 #[]) w = .ok (encP t.to).toArray w := hSw.1.to.all.load (k := n18) (encP_n _) Try.prog; have a1 := hSw.2.1.all.load (k := n18) (encP_n _) Try.prog; have a2 := hSw.2.2.all.load (k := n18) (encP_n _) Try.prog; clear hSw;try simp only [List.getElem_toArray, List.getElem_cons_zero, List.getElem_cons_succ]; go_simp; try (with_reducible rfl))
        try simp only [List.setIfInBounds_toArray, List.set_cons_zero, List.set_cons_succ]
        refine wpAnyH_done (by kernel_rfl) ?_ _
        go_wp2
        go_roundw
        case rel => exact ⟨k + 1, by omega, by go_num, by rw [HFE.out]; exact HG.out, _, _, _, rfl⟩
        case measure => simp [intOf]; omega
    · obtain rfl : k = n := by omega
      have HTK := Lib.hid (show (T.take k).filter (inB p q) = btw T p q by rw [List.take_of_length_le (by rw [HN.out]; exact Nat.le_refl _), HBT.out])
      have hlt' : ¬ (k : Int) < (k : Int) := by omega
      go_wp2
      go_ret
      have hg := HG.out
      rw [HTK.out] at hg
      obtain ⟨A2, c2, hv2⟩ := hg.rv
      exact ⟨⟨_, A2, c2, rfl, hv2⟩, hb.out.trans (hg.bel.mono hb.out.size)⟩
end Tab
end Go.Proofs.Ytbeoclcnajfjcaa
