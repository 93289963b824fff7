/-
  The document's Changes. Conditions: those that each theorem names.
-/
import Derived.Test.YtbeoclcnajfjcaaTd
import Derived.Test.YtbeoclcnajfjcaaTf
namespace Go.Proofs.Ytbeoclcnajfjcaa
open Go Go.RowKit H2
set_option linter.unusedVariables false
set_option linter.unusedSimpArgs false
namespace Tab
theorem dropC1 {L : List Rt} {i : Nat} (h : i < L.length) : L.drop i = L[i] :: L.drop (i + 1) := List.drop_eq_getElem_cons h
set_option maxRecDepth 100000 in
set_option maxHeartbeats 16000000 in
theorem refChanges_any (A B : Option Addr) (cap cap' : Nat) (T T' : List Rt) (hl : T.length ≤ 300) (hl' : T'.length ≤ 300) (w : World) (hr : Rd w A T) (hs : Rd w B T') :
    Calls Try.prog 31 #[.slice A T.length cap, .slice B T'.length cap'] w fun e w' => ∃ v', e = .returned v' ∧ w'.ownsRow w.heap.size 43 21 v' (chg T T').length (flatI (chg T T')) ∧ Below w.heap.size w w' := by
  have HR := Lib.hid hr
  have HS := Lib.hid hs
  obtain ⟨n, hn⟩ : ∃ n, T.length = n := ⟨_, rfl⟩
  obtain ⟨m, hm⟩ : ∃ m, T'.length = m := ⟨_, rfl⟩
  have HN := Lib.hid hn
  have HM := Lib.hid hm
  rw [hn, hm]
  rw [hn] at hl
  rw [hm] at hl'
  clear hr hs hn hm
  generalize hct : chg T T' = CT
  have HCT := Lib.hid hct
  clear hct
  go_enter Try.func31, Try.ntmps31
  go_wp2
  go_loopw [5, 6, 7] (fun s5 s6 s7 wr => ∃ (i j : Nat) (D : List In), i ≤ n ∧ j ≤ m ∧ s6 = .int .i64 i ∧ s7 = .int .i64 j ∧ Gat w wr s5 D ∧ D ++ chg (T.drop i) (T'.drop j) = CT ∧ D.length + (n - i) + (m - j) ≤ 600 ∧ (∃ x y z, s5 = .slice x y z)) (fun s5 s6 s7 _ => (n - (intOf s6).toNat) + (m - (intOf s7).toNat))
  case atStart => exact ⟨0, 0, [], by omega, by omega, rfl, rfl, gat_nil w, by rw [List.drop_zero, List.drop_zero]; exact HCT.out, by simp; omega, _, _, _, rfl⟩
  case round =>
    obtain ⟨i, j, D, hi, hj, rfl, rfl, hg, hd, hdl, x5, y5, z5, rfl⟩ := hrel
    have HG := Lib.hid hg
    have HD := Lib.hid hd
    have HDL := Lib.hid hdl
    clear hg hd hdl
    have i0 : (0 : Int) ≤ (i : Int) := by omega
    have j0 : (0 : Int) ≤ (j : Int) := by omega
    by_cases hin : i < n
    · have hin' : (i : Int) < (n : Int) := by omega
      have hin2 : ¬ ((i : Int) = (n : Int)) := by omega
      have hin3 : ((i : Int) == (n : Int)) = false := by simpa using hin2
      by_cases hjm : j < m
      · have hjm' : (j : Int) < (m : Int) := by omega
        have hjm2 : ¬ ((j : Int) = (m : Int)) := by omega
        have hjm3 : ((j : Int) == (m : Int)) = false := by simpa using hjm2
        have hjm4 : decide ((j : Int) = (m : Int)) = false := decide_eq_false hjm2
        have hin4 : decide ((i : Int) = (n : Int)) = false := decide_eq_false hin2
        have hin5 : decide ((i : Int) < (n : Int)) = true := decide_eq_true hin'
        have hil : i < T.length := by rw [HN.out]; exact hin
        have hjl : j < T'.length := by rw [HM.out]; exact hjm
        obtain ⟨b1, o1, rfl, hx⟩ := HR.out i hil
        obtain ⟨b2, o2, rfl, hy⟩ := HS.out j hjl
        have HX0 := Lib.hid hx
        have HY0 := Lib.hid hy
        have HCD := Lib.hid (show D ++ (if cmpP T[i].to T'[j].to < 0 then gone T[i] :: chg (T.drop (i + 1)) (T'[j] :: T'.drop (j + 1)) else if 0 < cmpP T[i].to T'[j].to then ⟨1, T'[j]⟩ :: chg (T[i] :: T.drop (i + 1)) (T'.drop (j + 1)) else if T[i] = T'[j] then chg (T.drop (i + 1)) (T'.drop (j + 1)) else ⟨2, T'[j]⟩ :: chg (T.drop (i + 1)) (T'.drop (j + 1))) = CT by
          have := HD.out
          rw [dropC1 hil, dropC1 hjl, chg_cc] at this
          exact this)
        have HTI := Lib.hid (dropC1 hil)
        have HTJ := Lib.hid (dropC1 hjl)
        clear hx hy
        generalize T[i] = x at HX0 HCD HTI
        generalize T'[j] = y at HY0 HCD HTJ
        obtain ⟨c, hc⟩ : ∃ c, cmpP x.to y.to = c := ⟨_, rfl⟩
        have HCV := Lib.hid hc
        obtain ⟨c', hc'⟩ : ∃ c', cmpP y.to x.to = c' := ⟨_, rfl⟩
        have HCN := Lib.hid hc'
        have HCC := Lib.hid (show c' = -c by rw [← hc', cmp_neg, hc])
        rw [hc] at HCD
        clear hc'
        clear hc
        go_upto_region 4 with fail
        have HG := Lib.hid HG.out
        have HG := Lib.hid (HG.out.below (Below.refl _ _).drew)
        have HX := Lib.hid (HX0.out.below HG.out.bel)
        have HY := Lib.hid (HY0.out.below HG.out.bel)
        refine wp_region_held_drew (S := (fun w' => RAt w' b1 (o1 + i * 20) x ∧ RAt w' b2 (o2 + j * 20) y)) (by kernel_rfl) ⟨HX.out, HY.out⟩ (fun _ => ?_)
        refine held_take 0 18 (v := ?_) rfl rfl (by kernel_rfl) (by kernel_rfl) (by kernel_rfl) (fun _ _ _ h => h) (by rfl) ?_ ⟨HX.out, HY.out⟩ ?_
        rotate_left
        · (intro w hSw; (try dsimp only at hSw); have a0 : Sem.run Try.prog (loadCellsFrom ⟨b1, o1 + i * n20, none⟩ 0 n18 #[]) w = .ok (encP x.to).toArray w := hSw.1.to.all.load (k := n18) (encP_n _) Try.prog; have a1 : Sem.run Try.prog (loadCellsFrom ⟨b2, o2 + j * n20, none⟩ 0 n18 #[]) w = .ok (encP y.to).toArray w := hSw.2.to.all.load (k := n18) (encP_n _) Try.prog; clear hSw;try simp only [List.getElem_toArray, List.getElem_cons_zero, List.getElem_cons_succ]; go_simp; try (with_reducible rfl))
        try simp only [List.setIfInBounds_toArray, List.set_cons_zero, List.set_cons_succ]
        refine held_take 1 19 (v := ?_) rfl rfl (by kernel_rfl) (by kernel_rfl) (by kernel_rfl) (fun _ _ _ h => h) (by rfl) ?_ ⟨HX.out, HY.out⟩ ?_
        rotate_left
        · (intro w hSw; (try dsimp only at hSw); have a0 : Sem.run Try.prog (loadCellsFrom ⟨b1, o1 + i * n20, none⟩ 0 n18 #[]) w = .ok (encP x.to).toArray w := hSw.1.to.all.load (k := n18) (encP_n _) Try.prog; have a1 : Sem.run Try.prog (loadCellsFrom ⟨b2, o2 + j * n20, none⟩ 0 n18 #[]) w = .ok (encP y.to).toArray w := hSw.2.to.all.load (k := n18) (encP_n _) Try.prog; clear hSw;try simp only [List.getElem_toArray, List.getElem_cons_zero, List.getElem_cons_succ]; go_simp; try (with_reducible rfl))
        try simp only [List.setIfInBounds_toArray, List.set_cons_zero, List.set_cons_succ]
        refine held_call 2 20 rfl rfl (by kernel_rfl) (by rfl) (fun K hK => ?_)
        try simp only [List.getElem_toArray, List.getElem_cons_zero, List.getElem_cons_succ]
        (go_simp)
        try simp only [Act.put, List.setIfInBounds_toArray, List.set_cons_zero, List.set_cons_succ]
        refine hK.out _ _ _ ⟨HX.out, HY.out⟩ ?_
        clear hK K
        refine held_take 3 21 (v := ?_) rfl rfl (by kernel_rfl) (by kernel_rfl) (by kernel_rfl) (fun _ _ _ h => h) (by rfl) ?_ ⟨HX.out, HY.out⟩ ?_
        rotate_left
        · (intro w hSw; (try dsimp only at hSw); have a0 : Sem.run Try.prog (loadCellsFrom ⟨b1, o1 + i * n20, none⟩ 0 n18 #[]) w = .ok (encP x.to).toArray w := hSw.1.to.all.load (k := n18) (encP_n _) Try.prog; have a1 : Sem.run Try.prog (loadCellsFrom ⟨b2, o2 + j * n20, none⟩ 0 n18 #[]) w = .ok (encP y.to).toArray w := hSw.2.to.all.load (k := n18) (encP_n _) Try.prog; clear hSw;try simp only [List.getElem_toArray, List.getElem_cons_zero, List.getElem_cons_succ]; go_simp; try (with_reducible rfl))
        try simp only [List.setIfInBounds_toArray, List.set_cons_zero, List.set_cons_succ]
        refine held_take 4 22 (v := ?_) rfl rfl (by kernel_rfl) (by kernel_rfl) (by kernel_rfl) (fun _ _ _ h => h) (by rfl) ?_ ⟨HX.out, HY.out⟩ ?_
        rotate_left
        · (intro w hSw; (try dsimp only at hSw); have a0 : Sem.run Try.prog (loadCellsFrom ⟨b1, o1 + i * n20, none⟩ 0 n18 #[]) w = .ok (encP x.to).toArray w := hSw.1.to.all.load (k := n18) (encP_n _) Try.prog; have a1 : Sem.run Try.prog (loadCellsFrom ⟨b2, o2 + j * n20, none⟩ 0 n18 #[]) w = .ok (encP y.to).toArray w := hSw.2.to.all.load (k := n18) (encP_n _) Try.prog; clear hSw;try simp only [List.getElem_toArray, List.getElem_cons_zero, List.getElem_cons_succ]; go_simp; try (with_reducible rfl))
        try simp only [List.setIfInBounds_toArray, List.set_cons_zero, List.set_cons_succ]
        refine held_take 5 23 (v := ?_) rfl rfl (by kernel_rfl) (by kernel_rfl) (by kernel_rfl) (fun _ _ _ h => h) (by rfl) ?_ ⟨HX.out, HY.out⟩ ?_
        rotate_left
        · (intro w hSw; (try dsimp only at hSw); have a0 : Sem.run Try.prog (loadCellsFrom ⟨b1, o1 + i * n20, none⟩ 0 n18 #[]) w = .ok (encP x.to).toArray w := hSw.1.to.all.load (k := n18) (encP_n _) Try.prog; have a1 : Sem.run Try.prog (loadCellsFrom ⟨b2, o2 + j * n20, none⟩ 0 n18 #[]) w = .ok (encP y.to).toArray w := hSw.2.to.all.load (k := n18) (encP_n _) Try.prog; clear hSw;try simp only [List.getElem_toArray, List.getElem_cons_zero, List.getElem_cons_succ]; go_simp; try (with_reducible rfl))
        try simp only [List.setIfInBounds_toArray, List.set_cons_zero, List.set_cons_succ]
        refine held_take 6 24 (v := ?_) rfl rfl (by kernel_rfl) (by kernel_rfl) (by kernel_rfl) (fun _ _ _ h => h) (by rfl) ?_ ⟨HX.out, HY.out⟩ ?_
        rotate_left
        · (intro w hSw; (try dsimp only at hSw); have a0 : Sem.run Try.prog (loadCellsFrom ⟨b1, o1 + i * n20, none⟩ 0 n18 #[]) w = .ok (encP x.to).toArray w := hSw.1.to.all.load (k := n18) (encP_n _) Try.prog; have a1 : Sem.run Try.prog (loadCellsFrom ⟨b2, o2 + j * n20, none⟩ 0 n18 #[]) w = .ok (encP y.to).toArray w := hSw.2.to.all.load (k := n18) (encP_n _) Try.prog; clear hSw;try simp only [List.getElem_toArray, List.getElem_cons_zero, List.getElem_cons_succ]; go_simp; try (with_reducible rfl))
        try simp only [List.setIfInBounds_toArray, List.set_cons_zero, List.set_cons_succ]
        refine held_call 7 25 rfl rfl (by kernel_rfl) (by rfl) (fun K hK => ?_)
        try simp only [List.getElem_toArray, List.getElem_cons_zero, List.getElem_cons_succ]
        (go_simp)
        try simp only [Act.put, List.setIfInBounds_toArray, List.set_cons_zero, List.set_cons_succ]
        refine hK.out _ _ _ ⟨HX.out, HY.out⟩ ?_
        clear hK K
        refine held_take 8 26 (v := ?_) rfl rfl (by kernel_rfl) (by kernel_rfl) (by kernel_rfl) (fun _ _ _ h => h) (by rfl) ?_ ⟨HX.out, HY.out⟩ ?_
        rotate_left
        · (intro w hSw; (try dsimp only at hSw); have a0 : Sem.run Try.prog (loadCellsFrom ⟨b1, o1 + i * n20, none⟩ 0 n18 #[]) w = .ok (encP x.to).toArray w := hSw.1.to.all.load (k := n18) (encP_n _) Try.prog; have a1 : Sem.run Try.prog (loadCellsFrom ⟨b2, o2 + j * n20, none⟩ 0 n18 #[]) w = .ok (encP y.to).toArray w := hSw.2.to.all.load (k := n18) (encP_n _) Try.prog; clear hSw;try simp only [List.getElem_toArray, List.getElem_cons_zero, List.getElem_cons_succ]; go_simp; try (with_reducible rfl))
        try simp only [List.setIfInBounds_toArray, List.set_cons_zero, List.set_cons_succ]
        refine held_take 9 27 (v := ?_) rfl rfl (by kernel_rfl) (by kernel_rfl) (by kernel_rfl) (fun _ _ _ h => h) (by rfl) ?_ ⟨HX.out, HY.out⟩ ?_
        rotate_left
        · (intro w hSw; (try dsimp only at hSw); have a0 : Sem.run Try.prog (loadCellsFrom ⟨b1, o1 + i * n20, none⟩ 0 n18 #[]) w = .ok (encP x.to).toArray w := hSw.1.to.all.load (k := n18) (encP_n _) Try.prog; have a1 : Sem.run Try.prog (loadCellsFrom ⟨b2, o2 + j * n20, none⟩ 0 n18 #[]) w = .ok (encP y.to).toArray w := hSw.2.to.all.load (k := n18) (encP_n _) Try.prog; clear hSw;try simp only [List.getElem_toArray, List.getElem_cons_zero, List.getElem_cons_succ]; go_simp; try (with_reducible rfl))
        try simp only [List.setIfInBounds_toArray, List.set_cons_zero, List.set_cons_succ]
        refine held_take 10 28 (v := ?_) rfl rfl (by kernel_rfl) (by kernel_rfl) (by kernel_rfl) (fun _ _ _ h => h) (by rfl) ?_ ⟨HX.out, HY.out⟩ ?_
        rotate_left
        · (intro w hSw; (try dsimp only at hSw); have a0 : Sem.run Try.prog (loadCellsFrom ⟨b1, o1 + i * n20, none⟩ 0 n18 #[]) w = .ok (encP x.to).toArray w := hSw.1.to.all.load (k := n18) (encP_n _) Try.prog; have a1 : Sem.run Try.prog (loadCellsFrom ⟨b2, o2 + j * n20, none⟩ 0 n18 #[]) w = .ok (encP y.to).toArray w := hSw.2.to.all.load (k := n18) (encP_n _) Try.prog; clear hSw;try simp only [List.getElem_toArray, List.getElem_cons_zero, List.getElem_cons_succ]; go_simp; try (with_reducible rfl))
        try simp only [List.setIfInBounds_toArray, List.set_cons_zero, List.set_cons_succ]
        refine held_take 11 29 (v := ?_) rfl rfl (by kernel_rfl) (by kernel_rfl) (by kernel_rfl) (fun _ _ _ h => h) (by rfl) ?_ ⟨HX.out, HY.out⟩ ?_
        rotate_left
        · (intro w hSw; (try dsimp only at hSw); have a0 : Sem.run Try.prog (loadCellsFrom ⟨b1, o1 + i * n20, none⟩ 0 n18 #[]) w = .ok (encP x.to).toArray w := hSw.1.to.all.load (k := n18) (encP_n _) Try.prog; have a1 : Sem.run Try.prog (loadCellsFrom ⟨b2, o2 + j * n20, none⟩ 0 n18 #[]) w = .ok (encP y.to).toArray w := hSw.2.to.all.load (k := n18) (encP_n _) Try.prog; clear hSw;try simp only [List.getElem_toArray, List.getElem_cons_zero, List.getElem_cons_succ]; go_simp; try (with_reducible rfl))
        try simp only [List.setIfInBounds_toArray, List.set_cons_zero, List.set_cons_succ]
        refine held_take 12 30 (v := ?_) rfl rfl (by kernel_rfl) (by kernel_rfl) (by kernel_rfl) (fun _ _ _ h => h) (by rfl) ?_ ⟨HX.out, HY.out⟩ ?_
        rotate_left
        · (intro w hSw; (try dsimp only at hSw); have a0 : Sem.run Try.prog (loadCellsFrom ⟨b1, o1 + i * n20, none⟩ 0 n18 #[]) w = .ok (encP x.to).toArray w := hSw.1.to.all.load (k := n18) (encP_n _) Try.prog; have a1 : Sem.run Try.prog (loadCellsFrom ⟨b2, o2 + j * n20, none⟩ 0 n18 #[]) w = .ok (encP y.to).toArray w := hSw.2.to.all.load (k := n18) (encP_n _) Try.prog; clear hSw;try simp only [List.getElem_toArray, List.getElem_cons_zero, List.getElem_cons_succ]; go_simp; try (with_reducible rfl))
        try simp only [List.setIfInBounds_toArray, List.set_cons_zero, List.set_cons_succ]
        refine held_take 13 31 (v := ?_) rfl rfl (by kernel_rfl) (by kernel_rfl) (by kernel_rfl) (fun _ _ _ h => h) (by rfl) ?_ ⟨HX.out, HY.out⟩ ?_
        rotate_left
        · (intro w hSw; (try dsimp only at hSw); have a0 : Sem.run Try.prog (loadCellsFrom ⟨b1, o1 + i * n20, none⟩ 0 n18 #[]) w = .ok (encP x.to).toArray w := hSw.1.to.all.load (k := n18) (encP_n _) Try.prog; have a1 : Sem.run Try.prog (loadCellsFrom ⟨b2, o2 + j * n20, none⟩ 0 n18 #[]) w = .ok (encP y.to).toArray w := hSw.2.to.all.load (k := n18) (encP_n _) Try.prog; clear hSw;try simp only [List.getElem_toArray, List.getElem_cons_zero, List.getElem_cons_succ]; go_simp; try (with_reducible rfl))
        try simp only [List.setIfInBounds_toArray, List.set_cons_zero, List.set_cons_succ]
        refine held_take 14 32 (v := ?_) rfl rfl (by kernel_rfl) (by kernel_rfl) (by kernel_rfl) (fun _ _ _ h => h) (by rfl) ?_ ⟨HX.out, HY.out⟩ ?_
        rotate_left
        · (intro w hSw; (try dsimp only at hSw); have a0 : Sem.run Try.prog (loadCellsFrom ⟨b1, o1 + i * n20, none⟩ 0 n18 #[]) w = .ok (encP x.to).toArray w := hSw.1.to.all.load (k := n18) (encP_n _) Try.prog; have a1 : Sem.run Try.prog (loadCellsFrom ⟨b2, o2 + j * n20, none⟩ 0 n18 #[]) w = .ok (encP y.to).toArray w := hSw.2.to.all.load (k := n18) (encP_n _) Try.prog; clear hSw;try simp only [List.getElem_toArray, List.getElem_cons_zero, List.getElem_cons_succ]; go_simp; try (with_reducible rfl))
        try simp only [List.setIfInBounds_toArray, List.set_cons_zero, List.set_cons_succ]
        refine held_take 15 33 (v := ?_) rfl rfl (by kernel_rfl) (by kernel_rfl) (by kernel_rfl) (fun _ _ _ h => h) (by rfl) ?_ ⟨HX.out, HY.out⟩ ?_
        rotate_left
        · (intro w hSw; (try dsimp only at hSw); have a0 : Sem.run Try.prog (loadCellsFrom ⟨b1, o1 + i * n20, none⟩ 0 n18 #[]) w = .ok (encP x.to).toArray w := hSw.1.to.all.load (k := n18) (encP_n _) Try.prog; have a1 : Sem.run Try.prog (loadCellsFrom ⟨b2, o2 + j * n20, none⟩ 0 n18 #[]) w = .ok (encP y.to).toArray w := hSw.2.to.all.load (k := n18) (encP_n _) Try.prog; clear hSw;try simp only [List.getElem_toArray, List.getElem_cons_zero, List.getElem_cons_succ]; go_simp; try (with_reducible rfl))
        try simp only [List.setIfInBounds_toArray, List.set_cons_zero, List.set_cons_succ]
        refine held_take 16 34 (v := ?_) rfl rfl (by kernel_rfl) (by kernel_rfl) (by kernel_rfl) (fun _ _ _ h => h) (by rfl) ?_ ⟨HX.out, HY.out⟩ ?_
        rotate_left
        · (intro w hSw; (try dsimp only at hSw); have a0 : Sem.run Try.prog (loadCellsFrom ⟨b1, o1 + i * n20, none⟩ 0 n18 #[]) w = .ok (encP x.to).toArray w := hSw.1.to.all.load (k := n18) (encP_n _) Try.prog; have a1 : Sem.run Try.prog (loadCellsFrom ⟨b2, o2 + j * n20, none⟩ 0 n18 #[]) w = .ok (encP y.to).toArray w := hSw.2.to.all.load (k := n18) (encP_n _) Try.prog; clear hSw;try simp only [List.getElem_toArray, List.getElem_cons_zero, List.getElem_cons_succ]; go_simp; try (with_reducible rfl))
        try simp only [List.setIfInBounds_toArray, List.set_cons_zero, List.set_cons_succ]
        refine held_take 17 35 (v := ?_) rfl rfl (by kernel_rfl) (by kernel_rfl) (by kernel_rfl) (fun _ _ _ h => h) (by rfl) ?_ ⟨HX.out, HY.out⟩ ?_
        rotate_left
        · (intro w hSw; (try dsimp only at hSw); have a0 : Sem.run Try.prog (loadCellsFrom ⟨b1, o1 + i * n20, none⟩ 0 n18 #[]) w = .ok (encP x.to).toArray w := hSw.1.to.all.load (k := n18) (encP_n _) Try.prog; have a1 : Sem.run Try.prog (loadCellsFrom ⟨b2, o2 + j * n20, none⟩ 0 n18 #[]) w = .ok (encP y.to).toArray w := hSw.2.to.all.load (k := n18) (encP_n _) Try.prog; clear hSw;try simp only [List.getElem_toArray, List.getElem_cons_zero, List.getElem_cons_succ]; go_simp; try (with_reducible rfl))
        try simp only [List.setIfInBounds_toArray, List.set_cons_zero, List.set_cons_succ]
        refine held_take 18 36 (v := ?_) rfl rfl (by kernel_rfl) (by kernel_rfl) (by kernel_rfl) (fun _ _ _ h => h) (by rfl) ?_ ⟨HX.out, HY.out⟩ ?_
        rotate_left
        · (intro w hSw; (try dsimp only at hSw); have a0 : Sem.run Try.prog (loadCellsFrom ⟨b1, o1 + i * n20, none⟩ 0 n18 #[]) w = .ok (encP x.to).toArray w := hSw.1.to.all.load (k := n18) (encP_n _) Try.prog; have a1 : Sem.run Try.prog (loadCellsFrom ⟨b2, o2 + j * n20, none⟩ 0 n18 #[]) w = .ok (encP y.to).toArray w := hSw.2.to.all.load (k := n18) (encP_n _) Try.prog; clear hSw;try simp only [List.getElem_toArray, List.getElem_cons_zero, List.getElem_cons_succ]; go_simp; try (with_reducible rfl))
        try simp only [List.setIfInBounds_toArray, List.set_cons_zero, List.set_cons_succ]
        refine held_take 19 37 (v := ?_) rfl rfl (by kernel_rfl) (by kernel_rfl) (by kernel_rfl) (fun _ _ _ h => h) (by rfl) ?_ ⟨HX.out, HY.out⟩ ?_
        rotate_left
        · (intro w hSw; (try dsimp only at hSw); have a0 : Sem.run Try.prog (loadCellsFrom ⟨b1, o1 + i * n20, none⟩ 0 n18 #[]) w = .ok (encP x.to).toArray w := hSw.1.to.all.load (k := n18) (encP_n _) Try.prog; have a1 : Sem.run Try.prog (loadCellsFrom ⟨b2, o2 + j * n20, none⟩ 0 n18 #[]) w = .ok (encP y.to).toArray w := hSw.2.to.all.load (k := n18) (encP_n _) Try.prog; clear hSw;try simp only [List.getElem_toArray, List.getElem_cons_zero, List.getElem_cons_succ]; go_simp; try (with_reducible rfl))
        try simp only [List.setIfInBounds_toArray, List.set_cons_zero, List.set_cons_succ]
        refine held_call 20 38 rfl rfl (by kernel_rfl) (by rfl) (fun K hK => ?_)
        try simp only [List.getElem_toArray, List.getElem_cons_zero, List.getElem_cons_succ]
        go_simp
        (go_at_call 33; (with_reducible refine (refCompare_any _ _ _).mono ?_); rintro e w3 ⟨rfl, hb3⟩; rw [HCV.out]; have HX := Lib.hid (HX.out.below hb3); have HY := Lib.hid (HY.out.below hb3); have HG := Lib.hid (HG.out.below hb3); clear hb3)
        try go_wp2_with fail
        try simp only [Act.put, List.setIfInBounds_toArray, List.set_cons_zero, List.set_cons_succ]
        refine hK.out _ _ _ ⟨HX.out, HY.out⟩ ?_
        clear hK K
        refine held_take 21 39 (v := ?_) rfl rfl (by kernel_rfl) (by kernel_rfl) (by kernel_rfl) (fun _ _ _ h => h) (by rfl) ?_ ⟨HX.out, HY.out⟩ ?_
        rotate_left
        · (intro w hSw; (try dsimp only at hSw); have a0 : Sem.run Try.prog (loadCellsFrom ⟨b1, o1 + i * n20, none⟩ 0 n18 #[]) w = .ok (encP x.to).toArray w := hSw.1.to.all.load (k := n18) (encP_n _) Try.prog; have a1 : Sem.run Try.prog (loadCellsFrom ⟨b2, o2 + j * n20, none⟩ 0 n18 #[]) w = .ok (encP y.to).toArray w := hSw.2.to.all.load (k := n18) (encP_n _) Try.prog; clear hSw;try simp only [List.getElem_toArray, List.getElem_cons_zero, List.getElem_cons_succ]; go_simp; try (with_reducible rfl))
        try simp only [List.setIfInBounds_toArray, List.set_cons_zero, List.set_cons_succ]
        refine held_take 22 40 (v := ?_) rfl rfl (by kernel_rfl) (by kernel_rfl) (by kernel_rfl) (fun _ _ _ h => h) (by rfl) ?_ ⟨HX.out, HY.out⟩ ?_
        rotate_left
        · (intro w hSw; (try dsimp only at hSw); have a0 : Sem.run Try.prog (loadCellsFrom ⟨b1, o1 + i * n20, none⟩ 0 n18 #[]) w = .ok (encP x.to).toArray w := hSw.1.to.all.load (k := n18) (encP_n _) Try.prog; have a1 : Sem.run Try.prog (loadCellsFrom ⟨b2, o2 + j * n20, none⟩ 0 n18 #[]) w = .ok (encP y.to).toArray w := hSw.2.to.all.load (k := n18) (encP_n _) Try.prog; clear hSw;try simp only [List.getElem_toArray, List.getElem_cons_zero, List.getElem_cons_succ]; go_simp; try (with_reducible rfl))
        try simp only [List.setIfInBounds_toArray, List.set_cons_zero, List.set_cons_succ]
        refine held_take 23 41 (v := ?_) rfl rfl (by kernel_rfl) (by kernel_rfl) (by kernel_rfl) (fun _ _ _ h => h) (by rfl) ?_ ⟨HX.out, HY.out⟩ ?_
        rotate_left
        · (intro w hSw; (try dsimp only at hSw); have a0 : Sem.run Try.prog (loadCellsFrom ⟨b1, o1 + i * n20, none⟩ 0 n18 #[]) w = .ok (encP x.to).toArray w := hSw.1.to.all.load (k := n18) (encP_n _) Try.prog; have a1 : Sem.run Try.prog (loadCellsFrom ⟨b2, o2 + j * n20, none⟩ 0 n18 #[]) w = .ok (encP y.to).toArray w := hSw.2.to.all.load (k := n18) (encP_n _) Try.prog; clear hSw;try simp only [List.getElem_toArray, List.getElem_cons_zero, List.getElem_cons_succ]; go_simp; try (with_reducible rfl))
        try simp only [List.setIfInBounds_toArray, List.set_cons_zero, List.set_cons_succ]
        refine wpAnyH_done (by kernel_rfl) ?_ _
        by_cases hc : c < 0
        · have HCD := Lib.hid (show D ++ ([gone x] ++ chg (T.drop (i + 1)) (T'.drop j)) = CT by have := HCD.out; rw [if_pos hc, ← HTJ.out] at this; exact this)
          have hc1 : decide (c < 0) = true := decide_eq_true hc
          have c0 : Sem.run Try.prog (loadCellsFrom ⟨b1, o1 + i * n20, none⟩ 0 n18 #[]) w3 = .ok (encP x.to).toArray w3 := HX.out.to.all.load (k := n18) (encP_n _) Try.prog
          go_wp2_with (first
            | (refine wpList_build_run (o := ⟨some 48, .build 34 #[(0, .tmp 47)], _, _, _, _⟩) rfl 34 #[(0, .tmp 47)] rfl #[(0, .agg (encP x.to).toArray)] (by simp [Act.eval, Act.put]) (build_R1 _ _) ?_)
            | (refine wpList_build_run (o := ⟨some 49, .build 43 #[(0, .const (.int .i64 3)), (1, .tmp 48)], _, _, _, _⟩) rfl 43 #[(0, .const (.int .i64 3)), (1, .tmp 48)] rfl #[(0, .int .i64 3), (1, .agg (encR ⟨x.to, 0, 0⟩).toArray)] (by simp [Act.eval, Act.put]) (build_I _ _ _) ?_)
            | (refine wpList_row_run (o := ⟨some 50, .buildSlice 58 1 #[(0, .tmp 49)], _, _, _, _⟩) rfl 58 1 #[(0, .tmp 49)] rfl #[(0, .agg (encI ⟨3, ⟨x.to, 0, 0⟩⟩).toArray)] (by simp [Act.eval, Act.put]) (row_I1 _ _) ?_)
            | (refine wpList_appI rfl (.tmp 42) (.tmp 50) rfl _ ⟨3, ⟨x.to, 0, 0⟩⟩ D rfl rfl HG.out (by have := HDL.out; omega) ?_; rintro v7 w7 h7 ⟨x7, y7, z7, rfl⟩; have H7 := Lib.hid h7; clear h7))
          go_roundw
          case rel => exact ⟨i + 1, j, D ++ [gone x], by omega, by omega, by go_num, rfl, H7.out, by rw [List.append_assoc]; exact HCD.out, by have := HDL.out; simp; omega, _, _, _, rfl⟩
          case measure => simp [intOf]; omega
        · have hc1 : decide (c < 0) = false := decide_eq_false hc
          go_upto_region 7 with fail
          have HG := Lib.hid (HG.out.below (Below.refl _ _).drew)
          have HX := Lib.hid (HX0.out.below HG.out.bel)
          have HY := Lib.hid (HY0.out.below HG.out.bel)
          refine wp_region_held_drew (S := (fun w' => RAt w' b1 (o1 + i * 20) x ∧ RAt w' b2 (o2 + j * 20) y)) (by kernel_rfl) ⟨HX.out, HY.out⟩ (fun _ => ?_)
          refine held_take 0 54 (v := ?_) rfl rfl (by kernel_rfl) (by kernel_rfl) (by kernel_rfl) (fun _ _ _ h => h) (by rfl) ?_ ⟨HX.out, HY.out⟩ ?_
          rotate_left
          · (intro w hSw; (try dsimp only at hSw); have a0 : Sem.run Try.prog (loadCellsFrom ⟨b1, o1 + i * n20, none⟩ 0 n18 #[]) w = .ok (encP x.to).toArray w := hSw.1.to.all.load (k := n18) (encP_n _) Try.prog; have a1 : Sem.run Try.prog (loadCellsFrom ⟨b2, o2 + j * n20, none⟩ 0 n18 #[]) w = .ok (encP y.to).toArray w := hSw.2.to.all.load (k := n18) (encP_n _) Try.prog; clear hSw;try simp only [List.getElem_toArray, List.getElem_cons_zero, List.getElem_cons_succ]; go_simp; try (with_reducible rfl))
          try simp only [List.setIfInBounds_toArray, List.set_cons_zero, List.set_cons_succ]
          refine held_take 1 55 (v := ?_) rfl rfl (by kernel_rfl) (by kernel_rfl) (by kernel_rfl) (fun _ _ _ h => h) (by rfl) ?_ ⟨HX.out, HY.out⟩ ?_
          rotate_left
          · (intro w hSw; (try dsimp only at hSw); have a0 : Sem.run Try.prog (loadCellsFrom ⟨b1, o1 + i * n20, none⟩ 0 n18 #[]) w = .ok (encP x.to).toArray w := hSw.1.to.all.load (k := n18) (encP_n _) Try.prog; have a1 : Sem.run Try.prog (loadCellsFrom ⟨b2, o2 + j * n20, none⟩ 0 n18 #[]) w = .ok (encP y.to).toArray w := hSw.2.to.all.load (k := n18) (encP_n _) Try.prog; clear hSw;try simp only [List.getElem_toArray, List.getElem_cons_zero, List.getElem_cons_succ]; go_simp; try (with_reducible rfl))
          try simp only [List.setIfInBounds_toArray, List.set_cons_zero, List.set_cons_succ]
          refine held_call 2 56 rfl rfl (by kernel_rfl) (by rfl) (fun K hK => ?_)
          try simp only [List.getElem_toArray, List.getElem_cons_zero, List.getElem_cons_succ]
          (go_simp)
          try simp only [Act.put, List.setIfInBounds_toArray, List.set_cons_zero, List.set_cons_succ]
          refine hK.out _ _ _ ⟨HX.out, HY.out⟩ ?_
          clear hK K
          refine held_take 3 57 (v := ?_) rfl rfl (by kernel_rfl) (by kernel_rfl) (by kernel_rfl) (fun _ _ _ h => h) (by rfl) ?_ ⟨HX.out, HY.out⟩ ?_
          rotate_left
          · (intro w hSw; (try dsimp only at hSw); have a0 : Sem.run Try.prog (loadCellsFrom ⟨b1, o1 + i * n20, none⟩ 0 n18 #[]) w = .ok (encP x.to).toArray w := hSw.1.to.all.load (k := n18) (encP_n _) Try.prog; have a1 : Sem.run Try.prog (loadCellsFrom ⟨b2, o2 + j * n20, none⟩ 0 n18 #[]) w = .ok (encP y.to).toArray w := hSw.2.to.all.load (k := n18) (encP_n _) Try.prog; clear hSw;try simp only [List.getElem_toArray, List.getElem_cons_zero, List.getElem_cons_succ]; go_simp; try (with_reducible rfl))
          try simp only [List.setIfInBounds_toArray, List.set_cons_zero, List.set_cons_succ]
          refine held_take 4 58 (v := ?_) rfl rfl (by kernel_rfl) (by kernel_rfl) (by kernel_rfl) (fun _ _ _ h => h) (by rfl) ?_ ⟨HX.out, HY.out⟩ ?_
          rotate_left
          · (intro w hSw; (try dsimp only at hSw); have a0 : Sem.run Try.prog (loadCellsFrom ⟨b1, o1 + i * n20, none⟩ 0 n18 #[]) w = .ok (encP x.to).toArray w := hSw.1.to.all.load (k := n18) (encP_n _) Try.prog; have a1 : Sem.run Try.prog (loadCellsFrom ⟨b2, o2 + j * n20, none⟩ 0 n18 #[]) w = .ok (encP y.to).toArray w := hSw.2.to.all.load (k := n18) (encP_n _) Try.prog; clear hSw;try simp only [List.getElem_toArray, List.getElem_cons_zero, List.getElem_cons_succ]; go_simp; try (with_reducible rfl))
          try simp only [List.setIfInBounds_toArray, List.set_cons_zero, List.set_cons_succ]
          refine held_take 5 59 (v := ?_) rfl rfl (by kernel_rfl) (by kernel_rfl) (by kernel_rfl) (fun _ _ _ h => h) (by rfl) ?_ ⟨HX.out, HY.out⟩ ?_
          rotate_left
          · (intro w hSw; (try dsimp only at hSw); have a0 : Sem.run Try.prog (loadCellsFrom ⟨b1, o1 + i * n20, none⟩ 0 n18 #[]) w = .ok (encP x.to).toArray w := hSw.1.to.all.load (k := n18) (encP_n _) Try.prog; have a1 : Sem.run Try.prog (loadCellsFrom ⟨b2, o2 + j * n20, none⟩ 0 n18 #[]) w = .ok (encP y.to).toArray w := hSw.2.to.all.load (k := n18) (encP_n _) Try.prog; clear hSw;try simp only [List.getElem_toArray, List.getElem_cons_zero, List.getElem_cons_succ]; go_simp; try (with_reducible rfl))
          try simp only [List.setIfInBounds_toArray, List.set_cons_zero, List.set_cons_succ]
          refine held_take 6 60 (v := ?_) rfl rfl (by kernel_rfl) (by kernel_rfl) (by kernel_rfl) (fun _ _ _ h => h) (by rfl) ?_ ⟨HX.out, HY.out⟩ ?_
          rotate_left
          · (intro w hSw; (try dsimp only at hSw); have a0 : Sem.run Try.prog (loadCellsFrom ⟨b1, o1 + i * n20, none⟩ 0 n18 #[]) w = .ok (encP x.to).toArray w := hSw.1.to.all.load (k := n18) (encP_n _) Try.prog; have a1 : Sem.run Try.prog (loadCellsFrom ⟨b2, o2 + j * n20, none⟩ 0 n18 #[]) w = .ok (encP y.to).toArray w := hSw.2.to.all.load (k := n18) (encP_n _) Try.prog; clear hSw;try simp only [List.getElem_toArray, List.getElem_cons_zero, List.getElem_cons_succ]; go_simp; try (with_reducible rfl))
          try simp only [List.setIfInBounds_toArray, List.set_cons_zero, List.set_cons_succ]
          refine held_take 7 61 (v := ?_) rfl rfl (by kernel_rfl) (by kernel_rfl) (by kernel_rfl) (fun _ _ _ h => h) (by rfl) ?_ ⟨HX.out, HY.out⟩ ?_
          rotate_left
          · (intro w hSw; (try dsimp only at hSw); have a0 : Sem.run Try.prog (loadCellsFrom ⟨b1, o1 + i * n20, none⟩ 0 n18 #[]) w = .ok (encP x.to).toArray w := hSw.1.to.all.load (k := n18) (encP_n _) Try.prog; have a1 : Sem.run Try.prog (loadCellsFrom ⟨b2, o2 + j * n20, none⟩ 0 n18 #[]) w = .ok (encP y.to).toArray w := hSw.2.to.all.load (k := n18) (encP_n _) Try.prog; clear hSw;try simp only [List.getElem_toArray, List.getElem_cons_zero, List.getElem_cons_succ]; go_simp; try (with_reducible rfl))
          try simp only [List.setIfInBounds_toArray, List.set_cons_zero, List.set_cons_succ]
          refine held_take 8 62 (v := ?_) rfl rfl (by kernel_rfl) (by kernel_rfl) (by kernel_rfl) (fun _ _ _ h => h) (by rfl) ?_ ⟨HX.out, HY.out⟩ ?_
          rotate_left
          · (intro w hSw; (try dsimp only at hSw); have a0 : Sem.run Try.prog (loadCellsFrom ⟨b1, o1 + i * n20, none⟩ 0 n18 #[]) w = .ok (encP x.to).toArray w := hSw.1.to.all.load (k := n18) (encP_n _) Try.prog; have a1 : Sem.run Try.prog (loadCellsFrom ⟨b2, o2 + j * n20, none⟩ 0 n18 #[]) w = .ok (encP y.to).toArray w := hSw.2.to.all.load (k := n18) (encP_n _) Try.prog; clear hSw;try simp only [List.getElem_toArray, List.getElem_cons_zero, List.getElem_cons_succ]; go_simp; try (with_reducible rfl))
          try simp only [List.setIfInBounds_toArray, List.set_cons_zero, List.set_cons_succ]
          refine held_take 9 63 (v := ?_) rfl rfl (by kernel_rfl) (by kernel_rfl) (by kernel_rfl) (fun _ _ _ h => h) (by rfl) ?_ ⟨HX.out, HY.out⟩ ?_
          rotate_left
          · (intro w hSw; (try dsimp only at hSw); have a0 : Sem.run Try.prog (loadCellsFrom ⟨b1, o1 + i * n20, none⟩ 0 n18 #[]) w = .ok (encP x.to).toArray w := hSw.1.to.all.load (k := n18) (encP_n _) Try.prog; have a1 : Sem.run Try.prog (loadCellsFrom ⟨b2, o2 + j * n20, none⟩ 0 n18 #[]) w = .ok (encP y.to).toArray w := hSw.2.to.all.load (k := n18) (encP_n _) Try.prog; clear hSw;try simp only [List.getElem_toArray, List.getElem_cons_zero, List.getElem_cons_succ]; go_simp; try (with_reducible rfl))
          try simp only [List.setIfInBounds_toArray, List.set_cons_zero, List.set_cons_succ]
          refine held_take 10 64 (v := ?_) rfl rfl (by kernel_rfl) (by kernel_rfl) (by kernel_rfl) (fun _ _ _ h => h) (by rfl) ?_ ⟨HX.out, HY.out⟩ ?_
          rotate_left
          · (intro w hSw; (try dsimp only at hSw); have a0 : Sem.run Try.prog (loadCellsFrom ⟨b1, o1 + i * n20, none⟩ 0 n18 #[]) w = .ok (encP x.to).toArray w := hSw.1.to.all.load (k := n18) (encP_n _) Try.prog; have a1 : Sem.run Try.prog (loadCellsFrom ⟨b2, o2 + j * n20, none⟩ 0 n18 #[]) w = .ok (encP y.to).toArray w := hSw.2.to.all.load (k := n18) (encP_n _) Try.prog; clear hSw;try simp only [List.getElem_toArray, List.getElem_cons_zero, List.getElem_cons_succ]; go_simp; try (with_reducible rfl))
          try simp only [List.setIfInBounds_toArray, List.set_cons_zero, List.set_cons_succ]
          refine held_take 11 65 (v := ?_) rfl rfl (by kernel_rfl) (by kernel_rfl) (by kernel_rfl) (fun _ _ _ h => h) (by rfl) ?_ ⟨HX.out, HY.out⟩ ?_
          rotate_left
          · (intro w hSw; (try dsimp only at hSw); have a0 : Sem.run Try.prog (loadCellsFrom ⟨b1, o1 + i * n20, none⟩ 0 n18 #[]) w = .ok (encP x.to).toArray w := hSw.1.to.all.load (k := n18) (encP_n _) Try.prog; have a1 : Sem.run Try.prog (loadCellsFrom ⟨b2, o2 + j * n20, none⟩ 0 n18 #[]) w = .ok (encP y.to).toArray w := hSw.2.to.all.load (k := n18) (encP_n _) Try.prog; clear hSw;try simp only [List.getElem_toArray, List.getElem_cons_zero, List.getElem_cons_succ]; go_simp; try (with_reducible rfl))
          try simp only [List.setIfInBounds_toArray, List.set_cons_zero, List.set_cons_succ]
          refine held_take 12 66 (v := ?_) rfl rfl (by kernel_rfl) (by kernel_rfl) (by kernel_rfl) (fun _ _ _ h => h) (by rfl) ?_ ⟨HX.out, HY.out⟩ ?_
          rotate_left
          · (intro w hSw; (try dsimp only at hSw); have a0 : Sem.run Try.prog (loadCellsFrom ⟨b1, o1 + i * n20, none⟩ 0 n18 #[]) w = .ok (encP x.to).toArray w := hSw.1.to.all.load (k := n18) (encP_n _) Try.prog; have a1 : Sem.run Try.prog (loadCellsFrom ⟨b2, o2 + j * n20, none⟩ 0 n18 #[]) w = .ok (encP y.to).toArray w := hSw.2.to.all.load (k := n18) (encP_n _) Try.prog; clear hSw;try simp only [List.getElem_toArray, List.getElem_cons_zero, List.getElem_cons_succ]; go_simp; try (with_reducible rfl))
          try simp only [List.setIfInBounds_toArray, List.set_cons_zero, List.set_cons_succ]
          refine held_take 13 67 (v := ?_) rfl rfl (by kernel_rfl) (by kernel_rfl) (by kernel_rfl) (fun _ _ _ h => h) (by rfl) ?_ ⟨HX.out, HY.out⟩ ?_
          rotate_left
          · (intro w hSw; (try dsimp only at hSw); have a0 : Sem.run Try.prog (loadCellsFrom ⟨b1, o1 + i * n20, none⟩ 0 n18 #[]) w = .ok (encP x.to).toArray w := hSw.1.to.all.load (k := n18) (encP_n _) Try.prog; have a1 : Sem.run Try.prog (loadCellsFrom ⟨b2, o2 + j * n20, none⟩ 0 n18 #[]) w = .ok (encP y.to).toArray w := hSw.2.to.all.load (k := n18) (encP_n _) Try.prog; clear hSw;try simp only [List.getElem_toArray, List.getElem_cons_zero, List.getElem_cons_succ]; go_simp; try (with_reducible rfl))
          try simp only [List.setIfInBounds_toArray, List.set_cons_zero, List.set_cons_succ]
          refine held_take 14 68 (v := ?_) rfl rfl (by kernel_rfl) (by kernel_rfl) (by kernel_rfl) (fun _ _ _ h => h) (by rfl) ?_ ⟨HX.out, HY.out⟩ ?_
          rotate_left
          · (intro w hSw; (try dsimp only at hSw); have a0 : Sem.run Try.prog (loadCellsFrom ⟨b1, o1 + i * n20, none⟩ 0 n18 #[]) w = .ok (encP x.to).toArray w := hSw.1.to.all.load (k := n18) (encP_n _) Try.prog; have a1 : Sem.run Try.prog (loadCellsFrom ⟨b2, o2 + j * n20, none⟩ 0 n18 #[]) w = .ok (encP y.to).toArray w := hSw.2.to.all.load (k := n18) (encP_n _) Try.prog; clear hSw;try simp only [List.getElem_toArray, List.getElem_cons_zero, List.getElem_cons_succ]; go_simp; try (with_reducible rfl))
          try simp only [List.setIfInBounds_toArray, List.set_cons_zero, List.set_cons_succ]
          refine held_call 15 69 rfl rfl (by kernel_rfl) (by rfl) (fun K hK => ?_)
          try simp only [List.getElem_toArray, List.getElem_cons_zero, List.getElem_cons_succ]
          go_simp
          (go_at_call 33; (with_reducible refine (refCompare_any _ _ _).mono ?_); rintro e w4 ⟨rfl, hb3⟩; rw [HCN.out]; have HX := Lib.hid (HX.out.below hb3); have HY := Lib.hid (HY.out.below hb3); have HG := Lib.hid (HG.out.below hb3); clear hb3)
          try go_wp2_with fail
          try simp only [Act.put, List.setIfInBounds_toArray, List.set_cons_zero, List.set_cons_succ]
          refine hK.out _ _ _ ⟨HX.out, HY.out⟩ ?_
          clear hK K
          refine held_take 16 70 (v := ?_) rfl rfl (by kernel_rfl) (by kernel_rfl) (by kernel_rfl) (fun _ _ _ h => h) (by rfl) ?_ ⟨HX.out, HY.out⟩ ?_
          rotate_left
          · (intro w hSw; (try dsimp only at hSw); have a0 : Sem.run Try.prog (loadCellsFrom ⟨b1, o1 + i * n20, none⟩ 0 n18 #[]) w = .ok (encP x.to).toArray w := hSw.1.to.all.load (k := n18) (encP_n _) Try.prog; have a1 : Sem.run Try.prog (loadCellsFrom ⟨b2, o2 + j * n20, none⟩ 0 n18 #[]) w = .ok (encP y.to).toArray w := hSw.2.to.all.load (k := n18) (encP_n _) Try.prog; clear hSw;try simp only [List.getElem_toArray, List.getElem_cons_zero, List.getElem_cons_succ]; go_simp; try (with_reducible rfl))
          try simp only [List.setIfInBounds_toArray, List.set_cons_zero, List.set_cons_succ]
          refine held_take 17 71 (v := ?_) rfl rfl (by kernel_rfl) (by kernel_rfl) (by kernel_rfl) (fun _ _ _ h => h) (by rfl) ?_ ⟨HX.out, HY.out⟩ ?_
          rotate_left
          · (intro w hSw; (try dsimp only at hSw); have a0 : Sem.run Try.prog (loadCellsFrom ⟨b1, o1 + i * n20, none⟩ 0 n18 #[]) w = .ok (encP x.to).toArray w := hSw.1.to.all.load (k := n18) (encP_n _) Try.prog; have a1 : Sem.run Try.prog (loadCellsFrom ⟨b2, o2 + j * n20, none⟩ 0 n18 #[]) w = .ok (encP y.to).toArray w := hSw.2.to.all.load (k := n18) (encP_n _) Try.prog; clear hSw;try simp only [List.getElem_toArray, List.getElem_cons_zero, List.getElem_cons_succ]; go_simp; try (with_reducible rfl))
          try simp only [List.setIfInBounds_toArray, List.set_cons_zero, List.set_cons_succ]
          refine wpAnyH_done (by kernel_rfl) ?_ _
          by_cases hc2 : 0 < c
          · have HCD := Lib.hid (show D ++ ([⟨1, y⟩] ++ chg (T.drop i) (T'.drop (j + 1))) = CT by have := HCD.out; rw [if_neg (show ¬ c < 0 by omega), if_pos hc2, ← HTI.out] at this; exact this)
            have hc4 : c' < 0 := by have := HCC.out; omega
            have hc3 : decide (c' < 0) = true := decide_eq_true hc4
            have c0 : Sem.run Try.prog (loadCellsFrom ⟨b2, o2 + j * n20, none⟩ 0 n20 #[]) w4 = .ok (encR y).toArray w4 := HY.out.all.load (k := n20) (encR_n _) Try.prog
            go_wp2_with (first
              | (refine wpList_build_run (o := ⟨some 77, .build 43 #[(0, .const (.int .i64 1)), (1, .tmp 76)], _, _, _, _⟩) rfl 43 #[(0, .const (.int .i64 1)), (1, .tmp 76)] rfl #[(0, .int .i64 1), (1, .agg (encR y).toArray)] (by simp [Act.eval, Act.put]) (build_I _ _ _) ?_)
              | (refine wpList_row_run (o := ⟨some 78, .buildSlice 58 1 #[(0, .tmp 77)], _, _, _, _⟩) rfl 58 1 #[(0, .tmp 77)] rfl #[(0, .agg (encI ⟨1, y⟩).toArray)] (by simp [Act.eval, Act.put]) (row_I1 _ _) ?_)
              | (refine wpList_appI rfl (.tmp 72) (.tmp 78) rfl _ ⟨1, y⟩ D rfl rfl HG.out (by have := HDL.out; omega) ?_; rintro v7 w7 h7 ⟨x7, y7, z7, rfl⟩; have H7 := Lib.hid h7; clear h7))
            go_roundw
            case rel => exact ⟨i, j + 1, D ++ [⟨1, y⟩], by omega, by omega, rfl, by go_num, H7.out, by rw [List.append_assoc]; exact HCD.out, by have := HDL.out; simp; omega, _, _, _, rfl⟩
            case measure => simp [intOf]; omega
          · obtain rfl : c' = 0 := by have := HCC.out; omega
            have hc3 : decide ((0 : Int) < 0) = false := by decide
            by_cases hxy : x = y
            · subst hxy
              have HCE := Lib.hid (show D ++ chg (T.drop (i + 1)) (T'.drop (j + 1)) = CT by have := HCD.out; rw [if_neg (show ¬ c < 0 by omega), if_neg (show ¬ 0 < c by omega), if_pos rfl] at this; exact this)
              clear HCD
              have hl1 : ∀ m, Sem.run Try.prog (loadCellsFrom ⟨b1, o1 + i * n20, none⟩ 0 n20 #[]) (w4.drewN m) = .ok (encR x).toArray (w4.drewN m) := fun m => (HX.out.drewN m).all.load (k := n20) (encR_n _) Try.prog
              have hl2 : ∀ m, Sem.run Try.prog (loadCellsFrom ⟨b2, o2 + j * n20, none⟩ 0 n20 #[]) (w4.drewN m) = .ok (encR x).toArray (w4.drewN m) := fun m => (HY.out.drewN m).all.load (k := n20) (encR_n _) Try.prog
              go_wp2
              go_quiet (fail)
              generalize hW : w4.drewN _ = W5
              have HG5 := Lib.hid (show Gat w W5 (.slice x5 y5 z5) D from hW ▸ HG.out.drewN _)
              clear hl1 hl2 hW
              go_wp2
              go_roundw
              case rel => exact ⟨i + 1, j + 1, D, by omega, by omega, by go_num, by go_num, HG5.out, HCE.out, by have := HDL.out; omega, _, _, _, rfl⟩
              case measure => simp [intOf]; omega
            · have HCD := Lib.hid (show D ++ ([⟨2, y⟩] ++ chg (T.drop (i + 1)) (T'.drop (j + 1))) = CT by have := HCD.out; rw [if_neg (show ¬ c < 0 by omega), if_neg (show ¬ 0 < c by omega), if_neg hxy] at this; exact this)
              have hl1 : ∀ m, Sem.run Try.prog (loadCellsFrom ⟨b1, o1 + i * n20, none⟩ 0 n20 #[]) (w4.drewN m) = .ok (encR x).toArray (w4.drewN m) := fun m => (HX.out.drewN m).all.load (k := n20) (encR_n _) Try.prog
              have hl2 : ∀ m, Sem.run Try.prog (loadCellsFrom ⟨b2, o2 + j * n20, none⟩ 0 n20 #[]) (w4.drewN m) = .ok (encR y).toArray (w4.drewN m) := fun m => (HY.out.drewN m).all.load (k := n20) (encR_n _) Try.prog
              have hd : decide (x = y) = false := decide_eq_false hxy
              go_wp2
              go_quiet (fail)
              generalize hW : w4.drewN _ = W5
              have HG := Lib.hid (show Gat w W5 (.slice x5 y5 z5) D from hW ▸ HG.out.drewN _)
              have c0 : Sem.run Try.prog (loadCellsFrom ⟨b2, o2 + j * n20, none⟩ 0 n20 #[]) W5 = .ok (encR y).toArray W5 := hW ▸ hl2 _
              clear hl1 hl2 hW
              go_wp2_with (first
                | (refine wpList_build_run (o := ⟨some 94, .build 43 #[(0, .const (.int .i64 2)), (1, .tmp 93)], _, _, _, _⟩) rfl 43 #[(0, .const (.int .i64 2)), (1, .tmp 93)] rfl #[(0, .int .i64 2), (1, .agg (encR y).toArray)] (by simp [Act.eval, Act.put]) (build_I _ _ _) ?_)
                | (refine wpList_row_run (o := ⟨some 95, .buildSlice 58 1 #[(0, .tmp 94)], _, _, _, _⟩) rfl 58 1 #[(0, .tmp 94)] rfl #[(0, .agg (encI ⟨2, y⟩).toArray)] (by simp [Act.eval, Act.put]) (row_I1 _ _) ?_)
                | (refine wpList_appI rfl (.tmp 89) (.tmp 95) rfl _ ⟨2, y⟩ D rfl rfl HG.out (by have := HDL.out; omega) ?_; rintro v7 w7 h7 ⟨x7, y7, z7, rfl⟩; have H7 := Lib.hid h7; clear h7))
              go_roundw
              case rel => exact ⟨i + 1, j + 1, D ++ [⟨2, y⟩], by omega, by omega, by go_num, by go_num, H7.out, by rw [List.append_assoc]; exact HCD.out, by have := HDL.out; simp; omega, _, _, _, rfl⟩
              case measure => simp [intOf]; omega
      · obtain rfl : j = m := by omega
        have hjm' : ¬ (j : Int) < (j : Int) := by omega
        have hil : i < T.length := by rw [HN.out]; exact hin
        obtain ⟨b1, o1, rfl, hx⟩ := HR.out i hil
        have HX0 := Lib.hid hx
        have HCD := Lib.hid (show D ++ ([gone T[i]] ++ chg (T.drop (i + 1)) (T'.drop j)) = CT by
          have := HD.out
          rw [dropC1 hil, List.drop_of_length_le (show T'.length ≤ j by rw [HM.out]; exact Nat.le_refl _), chg_c] at this
          rw [List.drop_of_length_le (show T'.length ≤ j by rw [HM.out]; exact Nat.le_refl _)]
          exact this)
        clear hx
        generalize T[i] = x at HX0 HCD
        go_upto_region 4 with fail
        refine wp_region_held_drew (S := (fun _ => True)) (by kernel_rfl) trivial (fun _ => ?_)
        refine held_take 0 18 (v := ?_) rfl rfl (by kernel_rfl) (by kernel_rfl) (by kernel_rfl) (fun _ _ _ h => h) (by rfl) ?_ trivial ?_
        rotate_left
        · (intro w hSw; (try dsimp only at hSw); try simp only [List.getElem_toArray, List.getElem_cons_zero, List.getElem_cons_succ]; go_simp; try (with_reducible rfl))
        try simp only [List.setIfInBounds_toArray, List.set_cons_zero, List.set_cons_succ]
        refine held_take 1 19 (v := ?_) rfl rfl (by kernel_rfl) (by kernel_rfl) (by kernel_rfl) (fun _ _ _ h => h) (by rfl) ?_ trivial ?_
        rotate_left
        · (intro w hSw; (try dsimp only at hSw); try simp only [List.getElem_toArray, List.getElem_cons_zero, List.getElem_cons_succ]; go_simp; try (with_reducible rfl))
        try simp only [List.setIfInBounds_toArray, List.set_cons_zero, List.set_cons_succ]
        refine held_call 2 20 rfl rfl (by kernel_rfl) (by rfl) (fun K hK => ?_)
        try simp only [List.getElem_toArray, List.getElem_cons_zero, List.getElem_cons_succ]
        (go_simp)
        try simp only [Act.put, List.setIfInBounds_toArray, List.set_cons_zero, List.set_cons_succ]
        refine hK.out _ _ _ trivial ?_
        clear hK K
        refine held_take 3 21 (v := ?_) rfl rfl (by kernel_rfl) (by kernel_rfl) (by kernel_rfl) (fun _ _ _ h => h) (by rfl) ?_ trivial ?_
        rotate_left
        · (intro w hSw; (try dsimp only at hSw); try simp only [List.getElem_toArray, List.getElem_cons_zero, List.getElem_cons_succ]; go_simp; try (with_reducible rfl))
        try simp only [List.setIfInBounds_toArray, List.set_cons_zero, List.set_cons_succ]
        refine held_take 4 22 (v := ?_) rfl rfl (by kernel_rfl) (by kernel_rfl) (by kernel_rfl) (fun _ _ _ h => h) (by rfl) ?_ trivial ?_
        rotate_left
        · (intro w hSw; (try dsimp only at hSw); try simp only [List.getElem_toArray, List.getElem_cons_zero, List.getElem_cons_succ]; go_simp; try (with_reducible rfl))
        try simp only [List.setIfInBounds_toArray, List.set_cons_zero, List.set_cons_succ]
        refine held_skip 5 23 rfl rfl (by kernel_rfl) (by kernel_rfl) (by kernel_rfl) (fun _ _ _ h => h) (by rfl) trivial ?_
        try simp only [List.setIfInBounds_toArray, List.set_cons_zero, List.set_cons_succ]
        refine held_skip 6 24 rfl rfl (by kernel_rfl) (by kernel_rfl) (by kernel_rfl) (fun _ _ _ h => h) (by rfl) trivial ?_
        try simp only [List.setIfInBounds_toArray, List.set_cons_zero, List.set_cons_succ]
        refine held_skip 7 25 rfl rfl (by kernel_rfl) (by kernel_rfl) (by kernel_rfl) (fun _ _ _ h => h) (by rfl) trivial ?_
        try simp only [List.setIfInBounds_toArray, List.set_cons_zero, List.set_cons_succ]
        refine held_skip 8 26 rfl rfl (by kernel_rfl) (by kernel_rfl) (by kernel_rfl) (fun _ _ _ h => h) (by rfl) trivial ?_
        try simp only [List.setIfInBounds_toArray, List.set_cons_zero, List.set_cons_succ]
        refine held_skip 9 27 rfl rfl (by kernel_rfl) (by kernel_rfl) (by kernel_rfl) (fun _ _ _ h => h) (by rfl) trivial ?_
        try simp only [List.setIfInBounds_toArray, List.set_cons_zero, List.set_cons_succ]
        refine held_skip 10 28 rfl rfl (by kernel_rfl) (by kernel_rfl) (by kernel_rfl) (fun _ _ _ h => h) (by rfl) trivial ?_
        try simp only [List.setIfInBounds_toArray, List.set_cons_zero, List.set_cons_succ]
        refine held_skip 11 29 rfl rfl (by kernel_rfl) (by kernel_rfl) (by kernel_rfl) (fun _ _ _ h => h) (by rfl) trivial ?_
        try simp only [List.setIfInBounds_toArray, List.set_cons_zero, List.set_cons_succ]
        refine held_skip 12 30 rfl rfl (by kernel_rfl) (by kernel_rfl) (by kernel_rfl) (fun _ _ _ h => h) (by rfl) trivial ?_
        try simp only [List.setIfInBounds_toArray, List.set_cons_zero, List.set_cons_succ]
        refine held_skip 13 31 rfl rfl (by kernel_rfl) (by kernel_rfl) (by kernel_rfl) (fun _ _ _ h => h) (by rfl) trivial ?_
        try simp only [List.setIfInBounds_toArray, List.set_cons_zero, List.set_cons_succ]
        refine held_skip 14 32 rfl rfl (by kernel_rfl) (by kernel_rfl) (by kernel_rfl) (fun _ _ _ h => h) (by rfl) trivial ?_
        try simp only [List.setIfInBounds_toArray, List.set_cons_zero, List.set_cons_succ]
        refine held_skip 15 33 rfl rfl (by kernel_rfl) (by kernel_rfl) (by kernel_rfl) (fun _ _ _ h => h) (by rfl) trivial ?_
        try simp only [List.setIfInBounds_toArray, List.set_cons_zero, List.set_cons_succ]
        refine held_skip 16 34 rfl rfl (by kernel_rfl) (by kernel_rfl) (by kernel_rfl) (fun _ _ _ h => h) (by rfl) trivial ?_
        try simp only [List.setIfInBounds_toArray, List.set_cons_zero, List.set_cons_succ]
        refine held_skip 17 35 rfl rfl (by kernel_rfl) (by kernel_rfl) (by kernel_rfl) (fun _ _ _ h => h) (by rfl) trivial ?_
        try simp only [List.setIfInBounds_toArray, List.set_cons_zero, List.set_cons_succ]
        refine held_skip 18 36 rfl rfl (by kernel_rfl) (by kernel_rfl) (by kernel_rfl) (fun _ _ _ h => h) (by rfl) trivial ?_
        try simp only [List.setIfInBounds_toArray, List.set_cons_zero, List.set_cons_succ]
        refine held_skip 19 37 rfl rfl (by kernel_rfl) (by kernel_rfl) (by kernel_rfl) (fun _ _ _ h => h) (by rfl) trivial ?_
        try simp only [List.setIfInBounds_toArray, List.set_cons_zero, List.set_cons_succ]
        refine held_skip 20 38 rfl rfl (by kernel_rfl) (by kernel_rfl) (by kernel_rfl) (fun _ _ _ h => h) (by rfl) trivial ?_
        try simp only [List.setIfInBounds_toArray, List.set_cons_zero, List.set_cons_succ]
        refine held_skip 21 39 rfl rfl (by kernel_rfl) (by kernel_rfl) (by kernel_rfl) (fun _ _ _ h => h) (by rfl) trivial ?_
        try simp only [List.setIfInBounds_toArray, List.set_cons_zero, List.set_cons_succ]
        refine held_skip 22 40 rfl rfl (by kernel_rfl) (by kernel_rfl) (by kernel_rfl) (fun _ _ _ h => h) (by rfl) trivial ?_
        try simp only [List.setIfInBounds_toArray, List.set_cons_zero, List.set_cons_succ]
        refine held_take 23 41 (v := ?_) rfl rfl (by kernel_rfl) (by kernel_rfl) (by kernel_rfl) (fun _ _ _ h => h) (by rfl) ?_ trivial ?_
        rotate_left
        · (intro w hSw; (try dsimp only at hSw); try simp only [List.getElem_toArray, List.getElem_cons_zero, List.getElem_cons_succ]; go_simp; try (with_reducible rfl))
        try simp only [List.setIfInBounds_toArray, List.set_cons_zero, List.set_cons_succ]
        refine wpAnyH_done (by kernel_rfl) ?_ _
        have HG := Lib.hid (HG.out.below (Below.refl _ _).drew)
        have HX := Lib.hid (HX0.out.below HG.out.bel)
        have c0 : Sem.run Try.prog (loadCellsFrom ⟨b1, o1 + i * n20, none⟩ 0 n18 #[]) wr.drew = .ok (encP x.to).toArray wr.drew := HX.out.to.all.load (k := n18) (encP_n _) Try.prog
        go_wp2_with (first
          | (refine wpList_build_run (o := ⟨some 48, .build 34 #[(0, .tmp 47)], _, _, _, _⟩) rfl 34 #[(0, .tmp 47)] rfl #[(0, .agg (encP x.to).toArray)] (by simp [Act.eval, Act.put]) (build_R1 _ _) ?_)
          | (refine wpList_build_run (o := ⟨some 49, .build 43 #[(0, .const (.int .i64 3)), (1, .tmp 48)], _, _, _, _⟩) rfl 43 #[(0, .const (.int .i64 3)), (1, .tmp 48)] rfl #[(0, .int .i64 3), (1, .agg (encR ⟨x.to, 0, 0⟩).toArray)] (by simp [Act.eval, Act.put]) (build_I _ _ _) ?_)
          | (refine wpList_row_run (o := ⟨some 50, .buildSlice 58 1 #[(0, .tmp 49)], _, _, _, _⟩) rfl 58 1 #[(0, .tmp 49)] rfl #[(0, .agg (encI ⟨3, ⟨x.to, 0, 0⟩⟩).toArray)] (by simp [Act.eval, Act.put]) (row_I1 _ _) ?_)
          | (refine wpList_appI rfl (.tmp 42) (.tmp 50) rfl _ ⟨3, ⟨x.to, 0, 0⟩⟩ D rfl rfl HG.out (by have := HDL.out; omega) ?_; rintro v7 w7 h7 ⟨x7, y7, z7, rfl⟩; have H7 := Lib.hid h7; clear h7))
        go_roundw
        case rel => exact ⟨i + 1, j, D ++ [gone x], by omega, by omega, by go_num, rfl, H7.out, by rw [List.append_assoc]; exact HCD.out, by have := HDL.out; simp; omega, _, _, _, rfl⟩
        case measure => simp [intOf]; omega
    · obtain rfl : i = n := by omega
      have hin' : ¬ (i : Int) < (i : Int) := by omega
      by_cases hjm : j < m
      · have hjm' : (j : Int) < (m : Int) := by omega
        have hjm2 : ¬ ((j : Int) = (m : Int)) := by omega
        have hjm3 : ((j : Int) == (m : Int)) = false := by simpa using hjm2
        have hjm4 : decide ((j : Int) = (m : Int)) = false := decide_eq_false hjm2
        have hii : decide ((i : Int) < (i : Int)) = false := decide_eq_false (by omega)
        have hjl : j < T'.length := by rw [HM.out]; exact hjm
        obtain ⟨b2, o2, rfl, hy⟩ := HS.out j hjl
        have HY0 := Lib.hid hy
        have HCD := Lib.hid (show D ++ ([⟨1, T'[j]⟩] ++ chg (T.drop i) (T'.drop (j + 1))) = CT by
          have := HD.out
          rw [dropC1 hjl, List.drop_of_length_le (show T.length ≤ i by rw [HN.out]; exact Nat.le_refl _), chg_n] at this
          rw [List.drop_of_length_le (show T.length ≤ i by rw [HN.out]; exact Nat.le_refl _)]
          exact this)
        clear hy
        generalize T'[j] = y at HY0 HCD
        go_upto_region 4 with fail
        refine wp_region_held_drew (S := (fun _ => True)) (by kernel_rfl) trivial (fun _ => ?_)
        refine held_take 0 18 (v := ?_) rfl rfl (by kernel_rfl) (by kernel_rfl) (by kernel_rfl) (fun _ _ _ h => h) (by rfl) ?_ trivial ?_
        rotate_left
        · (intro w hSw; (try dsimp only at hSw); try simp only [List.getElem_toArray, List.getElem_cons_zero, List.getElem_cons_succ]; go_simp; try (with_reducible rfl))
        try simp only [List.setIfInBounds_toArray, List.set_cons_zero, List.set_cons_succ]
        refine held_take 1 19 (v := ?_) rfl rfl (by kernel_rfl) (by kernel_rfl) (by kernel_rfl) (fun _ _ _ h => h) (by rfl) ?_ trivial ?_
        rotate_left
        · (intro w hSw; (try dsimp only at hSw); try simp only [List.getElem_toArray, List.getElem_cons_zero, List.getElem_cons_succ]; go_simp; try (with_reducible rfl))
        try simp only [List.setIfInBounds_toArray, List.set_cons_zero, List.set_cons_succ]
        refine held_call 2 20 rfl rfl (by kernel_rfl) (by rfl) (fun K hK => ?_)
        try simp only [List.getElem_toArray, List.getElem_cons_zero, List.getElem_cons_succ]
        (go_simp)
        try simp only [Act.put, List.setIfInBounds_toArray, List.set_cons_zero, List.set_cons_succ]
        refine hK.out _ _ _ trivial ?_
        clear hK K
        refine held_take 3 21 (v := ?_) rfl rfl (by kernel_rfl) (by kernel_rfl) (by kernel_rfl) (fun _ _ _ h => h) (by rfl) ?_ trivial ?_
        rotate_left
        · (intro w hSw; (try dsimp only at hSw); try simp only [List.getElem_toArray, List.getElem_cons_zero, List.getElem_cons_succ]; go_simp; try (with_reducible rfl))
        try simp only [List.setIfInBounds_toArray, List.set_cons_zero, List.set_cons_succ]
        refine held_take 4 22 (v := ?_) rfl rfl (by kernel_rfl) (by kernel_rfl) (by kernel_rfl) (fun _ _ _ h => h) (by rfl) ?_ trivial ?_
        rotate_left
        · (intro w hSw; (try dsimp only at hSw); try simp only [List.getElem_toArray, List.getElem_cons_zero, List.getElem_cons_succ]; go_simp; try (with_reducible rfl))
        try simp only [List.setIfInBounds_toArray, List.set_cons_zero, List.set_cons_succ]
        refine held_take 5 23 (v := ?_) rfl rfl (by kernel_rfl) (by kernel_rfl) (by kernel_rfl) (fun _ _ _ h => h) (by rfl) ?_ trivial ?_
        rotate_left
        · (intro w hSw; (try dsimp only at hSw); try simp only [List.getElem_toArray, List.getElem_cons_zero, List.getElem_cons_succ]; go_simp; try (with_reducible rfl))
        try simp only [List.setIfInBounds_toArray, List.set_cons_zero, List.set_cons_succ]
        refine held_take 6 24 (v := ?_) rfl rfl (by kernel_rfl) (by kernel_rfl) (by kernel_rfl) (fun _ _ _ h => h) (by rfl) ?_ trivial ?_
        rotate_left
        · (intro w hSw; (try dsimp only at hSw); try simp only [List.getElem_toArray, List.getElem_cons_zero, List.getElem_cons_succ]; go_simp; try (with_reducible rfl))
        try simp only [List.setIfInBounds_toArray, List.set_cons_zero, List.set_cons_succ]
        refine held_call 7 25 rfl rfl (by kernel_rfl) (by rfl) (fun K hK => ?_)
        try simp only [List.getElem_toArray, List.getElem_cons_zero, List.getElem_cons_succ]
        (go_simp)
        try simp only [Act.put, List.setIfInBounds_toArray, List.set_cons_zero, List.set_cons_succ]
        refine hK.out _ _ _ trivial ?_
        clear hK K
        refine held_take 8 26 (v := ?_) rfl rfl (by kernel_rfl) (by kernel_rfl) (by kernel_rfl) (fun _ _ _ h => h) (by rfl) ?_ trivial ?_
        rotate_left
        · (intro w hSw; (try dsimp only at hSw); try simp only [List.getElem_toArray, List.getElem_cons_zero, List.getElem_cons_succ]; go_simp; try (with_reducible rfl))
        try simp only [List.setIfInBounds_toArray, List.set_cons_zero, List.set_cons_succ]
        refine held_take 9 27 (v := ?_) rfl rfl (by kernel_rfl) (by kernel_rfl) (by kernel_rfl) (fun _ _ _ h => h) (by rfl) ?_ trivial ?_
        rotate_left
        · (intro w hSw; (try dsimp only at hSw); try simp only [List.getElem_toArray, List.getElem_cons_zero, List.getElem_cons_succ]; go_simp; try (with_reducible rfl))
        try simp only [List.setIfInBounds_toArray, List.set_cons_zero, List.set_cons_succ]
        refine held_skip 10 28 rfl rfl (by kernel_rfl) (by kernel_rfl) (by kernel_rfl) (fun _ _ _ h => h) (by rfl) trivial ?_
        try simp only [List.setIfInBounds_toArray, List.set_cons_zero, List.set_cons_succ]
        refine held_skip 11 29 rfl rfl (by kernel_rfl) (by kernel_rfl) (by kernel_rfl) (fun _ _ _ h => h) (by rfl) trivial ?_
        try simp only [List.setIfInBounds_toArray, List.set_cons_zero, List.set_cons_succ]
        refine held_skip 12 30 rfl rfl (by kernel_rfl) (by kernel_rfl) (by kernel_rfl) (fun _ _ _ h => h) (by rfl) trivial ?_
        try simp only [List.setIfInBounds_toArray, List.set_cons_zero, List.set_cons_succ]
        refine held_skip 13 31 rfl rfl (by kernel_rfl) (by kernel_rfl) (by kernel_rfl) (fun _ _ _ h => h) (by rfl) trivial ?_
        try simp only [List.setIfInBounds_toArray, List.set_cons_zero, List.set_cons_succ]
        refine held_skip 14 32 rfl rfl (by kernel_rfl) (by kernel_rfl) (by kernel_rfl) (fun _ _ _ h => h) (by rfl) trivial ?_
        try simp only [List.setIfInBounds_toArray, List.set_cons_zero, List.set_cons_succ]
        refine held_skip 15 33 rfl rfl (by kernel_rfl) (by kernel_rfl) (by kernel_rfl) (fun _ _ _ h => h) (by rfl) trivial ?_
        try simp only [List.setIfInBounds_toArray, List.set_cons_zero, List.set_cons_succ]
        refine held_skip 16 34 rfl rfl (by kernel_rfl) (by kernel_rfl) (by kernel_rfl) (fun _ _ _ h => h) (by rfl) trivial ?_
        try simp only [List.setIfInBounds_toArray, List.set_cons_zero, List.set_cons_succ]
        refine held_skip 17 35 rfl rfl (by kernel_rfl) (by kernel_rfl) (by kernel_rfl) (fun _ _ _ h => h) (by rfl) trivial ?_
        try simp only [List.setIfInBounds_toArray, List.set_cons_zero, List.set_cons_succ]
        refine held_skip 18 36 rfl rfl (by kernel_rfl) (by kernel_rfl) (by kernel_rfl) (fun _ _ _ h => h) (by rfl) trivial ?_
        try simp only [List.setIfInBounds_toArray, List.set_cons_zero, List.set_cons_succ]
        refine held_skip 19 37 rfl rfl (by kernel_rfl) (by kernel_rfl) (by kernel_rfl) (fun _ _ _ h => h) (by rfl) trivial ?_
        try simp only [List.setIfInBounds_toArray, List.set_cons_zero, List.set_cons_succ]
        refine held_skip 20 38 rfl rfl (by kernel_rfl) (by kernel_rfl) (by kernel_rfl) (fun _ _ _ h => h) (by rfl) trivial ?_
        try simp only [List.setIfInBounds_toArray, List.set_cons_zero, List.set_cons_succ]
        refine held_skip 21 39 rfl rfl (by kernel_rfl) (by kernel_rfl) (by kernel_rfl) (fun _ _ _ h => h) (by rfl) trivial ?_
        try simp only [List.setIfInBounds_toArray, List.set_cons_zero, List.set_cons_succ]
        refine held_take 22 40 (v := ?_) rfl rfl (by kernel_rfl) (by kernel_rfl) (by kernel_rfl) (fun _ _ _ h => h) (by rfl) ?_ trivial ?_
        rotate_left
        · (intro w hSw; (try dsimp only at hSw); try simp only [List.getElem_toArray, List.getElem_cons_zero, List.getElem_cons_succ]; go_simp; try (with_reducible rfl))
        try simp only [List.setIfInBounds_toArray, List.set_cons_zero, List.set_cons_succ]
        refine held_take 23 41 (v := ?_) rfl rfl (by kernel_rfl) (by kernel_rfl) (by kernel_rfl) (fun _ _ _ h => h) (by rfl) ?_ trivial ?_
        rotate_left
        · (intro w hSw; (try dsimp only at hSw); try simp only [List.getElem_toArray, List.getElem_cons_zero, List.getElem_cons_succ]; go_simp; try (with_reducible rfl))
        try simp only [List.setIfInBounds_toArray, List.set_cons_zero, List.set_cons_succ]
        refine wpAnyH_done (by kernel_rfl) ?_ _
        go_upto_region 7 with fail
        refine wp_region_held_drew (S := (fun _ => True)) (by kernel_rfl) trivial (fun _ => ?_)
        refine held_take 0 54 (v := ?_) rfl rfl (by kernel_rfl) (by kernel_rfl) (by kernel_rfl) (fun _ _ _ h => h) (by rfl) ?_ trivial ?_
        rotate_left
        · (intro w hSw; (try dsimp only at hSw); try simp only [List.getElem_toArray, List.getElem_cons_zero, List.getElem_cons_succ]; go_simp; try (with_reducible rfl))
        try simp only [List.setIfInBounds_toArray, List.set_cons_zero, List.set_cons_succ]
        refine held_take 1 55 (v := ?_) rfl rfl (by kernel_rfl) (by kernel_rfl) (by kernel_rfl) (fun _ _ _ h => h) (by rfl) ?_ trivial ?_
        rotate_left
        · (intro w hSw; (try dsimp only at hSw); try simp only [List.getElem_toArray, List.getElem_cons_zero, List.getElem_cons_succ]; go_simp; try (with_reducible rfl))
        try simp only [List.setIfInBounds_toArray, List.set_cons_zero, List.set_cons_succ]
        refine held_call 2 56 rfl rfl (by kernel_rfl) (by rfl) (fun K hK => ?_)
        try simp only [List.getElem_toArray, List.getElem_cons_zero, List.getElem_cons_succ]
        (go_simp)
        try simp only [Act.put, List.setIfInBounds_toArray, List.set_cons_zero, List.set_cons_succ]
        refine hK.out _ _ _ trivial ?_
        clear hK K
        refine held_take 3 57 (v := ?_) rfl rfl (by kernel_rfl) (by kernel_rfl) (by kernel_rfl) (fun _ _ _ h => h) (by rfl) ?_ trivial ?_
        rotate_left
        · (intro w hSw; (try dsimp only at hSw); try simp only [List.getElem_toArray, List.getElem_cons_zero, List.getElem_cons_succ]; go_simp; try (with_reducible rfl))
        try simp only [List.setIfInBounds_toArray, List.set_cons_zero, List.set_cons_succ]
        refine held_take 4 58 (v := ?_) rfl rfl (by kernel_rfl) (by kernel_rfl) (by kernel_rfl) (fun _ _ _ h => h) (by rfl) ?_ trivial ?_
        rotate_left
        · (intro w hSw; (try dsimp only at hSw); try simp only [List.getElem_toArray, List.getElem_cons_zero, List.getElem_cons_succ]; go_simp; try (with_reducible rfl))
        try simp only [List.setIfInBounds_toArray, List.set_cons_zero, List.set_cons_succ]
        refine held_skip 5 59 rfl rfl (by kernel_rfl) (by kernel_rfl) (by kernel_rfl) (fun _ _ _ h => h) (by rfl) trivial ?_
        try simp only [List.setIfInBounds_toArray, List.set_cons_zero, List.set_cons_succ]
        refine held_skip 6 60 rfl rfl (by kernel_rfl) (by kernel_rfl) (by kernel_rfl) (fun _ _ _ h => h) (by rfl) trivial ?_
        try simp only [List.setIfInBounds_toArray, List.set_cons_zero, List.set_cons_succ]
        refine held_skip 7 61 rfl rfl (by kernel_rfl) (by kernel_rfl) (by kernel_rfl) (fun _ _ _ h => h) (by rfl) trivial ?_
        try simp only [List.setIfInBounds_toArray, List.set_cons_zero, List.set_cons_succ]
        refine held_skip 8 62 rfl rfl (by kernel_rfl) (by kernel_rfl) (by kernel_rfl) (fun _ _ _ h => h) (by rfl) trivial ?_
        try simp only [List.setIfInBounds_toArray, List.set_cons_zero, List.set_cons_succ]
        refine held_skip 9 63 rfl rfl (by kernel_rfl) (by kernel_rfl) (by kernel_rfl) (fun _ _ _ h => h) (by rfl) trivial ?_
        try simp only [List.setIfInBounds_toArray, List.set_cons_zero, List.set_cons_succ]
        refine held_skip 10 64 rfl rfl (by kernel_rfl) (by kernel_rfl) (by kernel_rfl) (fun _ _ _ h => h) (by rfl) trivial ?_
        try simp only [List.setIfInBounds_toArray, List.set_cons_zero, List.set_cons_succ]
        refine held_skip 11 65 rfl rfl (by kernel_rfl) (by kernel_rfl) (by kernel_rfl) (fun _ _ _ h => h) (by rfl) trivial ?_
        try simp only [List.setIfInBounds_toArray, List.set_cons_zero, List.set_cons_succ]
        refine held_skip 12 66 rfl rfl (by kernel_rfl) (by kernel_rfl) (by kernel_rfl) (fun _ _ _ h => h) (by rfl) trivial ?_
        try simp only [List.setIfInBounds_toArray, List.set_cons_zero, List.set_cons_succ]
        refine held_skip 13 67 rfl rfl (by kernel_rfl) (by kernel_rfl) (by kernel_rfl) (fun _ _ _ h => h) (by rfl) trivial ?_
        try simp only [List.setIfInBounds_toArray, List.set_cons_zero, List.set_cons_succ]
        refine held_skip 14 68 rfl rfl (by kernel_rfl) (by kernel_rfl) (by kernel_rfl) (fun _ _ _ h => h) (by rfl) trivial ?_
        try simp only [List.setIfInBounds_toArray, List.set_cons_zero, List.set_cons_succ]
        refine held_skip 15 69 rfl rfl (by kernel_rfl) (by kernel_rfl) (by kernel_rfl) (fun _ _ _ h => h) (by rfl) trivial ?_
        try simp only [List.setIfInBounds_toArray, List.set_cons_zero, List.set_cons_succ]
        refine held_skip 16 70 rfl rfl (by kernel_rfl) (by kernel_rfl) (by kernel_rfl) (fun _ _ _ h => h) (by rfl) trivial ?_
        try simp only [List.setIfInBounds_toArray, List.set_cons_zero, List.set_cons_succ]
        refine held_take 17 71 (v := ?_) rfl rfl (by kernel_rfl) (by kernel_rfl) (by kernel_rfl) (fun _ _ _ h => h) (by rfl) ?_ trivial ?_
        rotate_left
        · (intro w hSw; (try dsimp only at hSw); try simp only [List.getElem_toArray, List.getElem_cons_zero, List.getElem_cons_succ]; go_simp; try (with_reducible rfl))
        try simp only [List.setIfInBounds_toArray, List.set_cons_zero, List.set_cons_succ]
        refine wpAnyH_done (by kernel_rfl) ?_ _
        have HG := Lib.hid (HG.out.below ((Below.refl _ _).drew.drew))
        have HY := Lib.hid (HY0.out.below HG.out.bel)
        have c0 : Sem.run Try.prog (loadCellsFrom ⟨b2, o2 + j * n20, none⟩ 0 n20 #[]) wr.drew.drew = .ok (encR y).toArray wr.drew.drew := HY.out.all.load (k := n20) (encR_n _) Try.prog
        go_wp2_with (first
          | (refine wpList_build_run (o := ⟨some 77, .build 43 #[(0, .const (.int .i64 1)), (1, .tmp 76)], _, _, _, _⟩) rfl 43 #[(0, .const (.int .i64 1)), (1, .tmp 76)] rfl #[(0, .int .i64 1), (1, .agg (encR y).toArray)] (by simp [Act.eval, Act.put]) (build_I _ _ _) ?_)
          | (refine wpList_row_run (o := ⟨some 78, .buildSlice 58 1 #[(0, .tmp 77)], _, _, _, _⟩) rfl 58 1 #[(0, .tmp 77)] rfl #[(0, .agg (encI ⟨1, y⟩).toArray)] (by simp [Act.eval, Act.put]) (row_I1 _ _) ?_)
          | (refine wpList_appI rfl (.tmp 72) (.tmp 78) rfl _ ⟨1, y⟩ D rfl rfl HG.out (by have := HDL.out; omega) ?_; rintro v7 w7 h7 ⟨x7, y7, z7, rfl⟩; have H7 := Lib.hid h7; clear h7))
        go_roundw
        case rel => exact ⟨i, j + 1, D ++ [⟨1, y⟩], by omega, by omega, rfl, by go_num, H7.out, by rw [List.append_assoc]; exact HCD.out, by have := HDL.out; simp; omega, _, _, _, rfl⟩
        case measure => simp [intOf]; omega
      · obtain rfl : j = m := by omega
        have hjm' : ¬ (j : Int) < (j : Int) := by omega
        have HE := Lib.hid (show D = CT by have := HD.out; rw [List.drop_of_length_le (by rw [HN.out]; exact Nat.le_refl _), List.drop_of_length_le (by rw [HM.out]; exact Nat.le_refl _), chg_nn, List.append_nil] at this; exact this)
        go_wp2
        go_ret
        rw [← HE.out]
        exact ⟨_, rfl, HG.out.own, HG.out.bel⟩
end Tab
end Go.Proofs.Ytbeoclcnajfjcaa
