/-
  Table.Do. Conditions: those that each theorem names.
-/
import Derived.Test.YtdcbbjlbfghpbaaGreatPutB
import Derived.Test.YtdcbbjlbfghpbaaGreatDi
namespace Go.Proofs.YtdcbbjlbfghpbaaGreat
open Go Go.RowKit H2
set_option linter.unusedVariables false
set_option linter.unusedSimpArgs false
namespace Tab
set_option maxRecDepth 100000 in
set_option maxHeartbeats 8000000 in
theorem do_anyK {base : Nat} {b : Nat} {v : Value} {T : List Rt} (x : In) (w : World) (h : Tb base w b v T) :
    Calls Tryz.prog 8 #[.pointer (some ⟨b, 0, none⟩), .agg (encI x).toArray] w fun e w' => ∃ v', e = .returned (.int .i64 (doC T x)) ∧ Tb base w' b v' (doT T x) ∧ Only (fun k => k = b ∨ v.ownBlock = some k) w w' ∧ Kin w v v' := by
  obtain ⟨k, p, m, q⟩ := x
  have HT := Lib.hid h
  have HF := Lib.hid (fun (W : World) (hb : Below w.heap.size w W) => find_any p W (HT.out.below hb))
  have HD := Lib.hid (fun (W : World) (hb : Below w.heap.size w W) => drop_anyK p W (HT.out.below hb))
  have HP := Lib.hid (fun (W : World) (hb : Below w.heap.size w W) => put_anyK ⟨p, m, q⟩ W (HT.out.below hb))
  have HTB := Lib.hid (fun (W : World) (hb : Below w.heap.size w W) => HT.out.below hb)
  have HO0 := Lib.hid (fun (W : World) (hb : Below w.heap.size w W) => (Only.refl (fun k => k = b ∨ v.ownBlock = some k) w).of_below hb)
  have HO1 := Lib.hid (fun (W W' : World) (hb : Below w.heap.size w W) (h2 : Only (fun k => k = b ∨ v.ownBlock = some k) W W') => (HO0.out W hb).trans h2 (fun _ _ e => e))
  clear h HT
  obtain ⟨hv, hhv⟩ : ∃ y, has T p = y := ⟨_, rfl⟩
  rw [hhv] at HF
  by_cases hk3 : k = 3
  · subst hk3
    by_cases hm : m = 0
    · subst hm
      by_cases hq : q = 0
      · subst hq
        by_cases hr : rightP p = true
        · have HR := Lib.hid hr
          have HC := Lib.hid (show doC T ⟨3, ⟨p, 0, 0⟩⟩ = dropC T p ∧ doT T ⟨3, ⟨p, 0, 0⟩⟩ = del T p by unfold doC doT; rw [if_pos rfl, if_pos rfl, if_pos ⟨rfl, rfl, hr⟩, if_pos ⟨rfl, rfl, hr⟩]; exact ⟨rfl, rfl⟩)
          clear hr HP hhv
          go_enter Tryz.func8, Tryz.ntmps8
          go_upto_region 1 with fail
          have H := Lib.hid (iAt_new w ⟨3, ⟨p, 0, 0⟩⟩ 38 (0, 0))
          have hb := Lib.hid (show Below w.heap.size w (w.alloc (.cells (encI ⟨3, ⟨p, 0, 0⟩⟩).toArray 38 (0, 0))) from (Below.refl _ _).alloc (Nat.le_refl _) _)
          generalize w.alloc _ = W at H hb ⊢
          generalize w.heap.size = B at H ⊢
          have c0 : Sem.run Tryz.prog (loadCellsFrom ⟨B, 1, none⟩ 0 n18 #[]) W = .ok (encP p).toArray W := H.out.rt.to.all.load (k := n18) (encP_n _) Tryz.prog
          go_upto_region 2 with (go_at_call 32; (with_reducible refine (HF.out _ hb.out).mono ?_); rintro e w2 ⟨rfl, hb2⟩; have H := Lib.hid (H.out.below hb2); have hb := Lib.hid (hb.out.trans (hb2.mono hb.out.size)); clear hb2 c0)
          have c0 : Sem.run Tryz.prog (loadCellsFrom ⟨B, 1, none⟩ 0 n18 #[]) w2 = .ok (encP p).toArray w2 := H.out.rt.to.all.load (k := n18) (encP_n _) Tryz.prog
          have c1 : Sem.run Tryz.prog (loadCellsFrom ⟨B, 1, none⟩ 0 n20 #[]) w2 = .ok (encR ⟨p, 0, 0⟩).toArray w2 := H.out.rt.all.load (k := n20) (encR_n _) Tryz.prog
          have ck : w2.cell? ⟨B, 0, none⟩ = some (.int .i64 3) := H.out.kind
          go_wp2_with (first
            | (refine wpList_build_run (o := ⟨some 27, .build 36 #[(0, .tmp 26)], _, _, _, _⟩) rfl 36 #[(0, .tmp 26)] rfl #[(0, .agg (encP p).toArray)] (by simp [Act.eval]) (build_R1 _ _) ?_)
            | (go_at_call 33; (with_reducible refine (rightP_any _ _).mono ?_); rintro e w3 ⟨rfl, hb3⟩; rw [HR.out]; (clear c0 c1 ck; have H := Lib.hid (H.out.below hb3); have hb := Lib.hid (hb.out.trans (hb3.mono hb.out.size)); clear hb3; have c0 : Sem.run Tryz.prog (loadCellsFrom ⟨B, 1, none⟩ 0 n18 #[]) w3 = .ok (encP p).toArray w3 := H.out.rt.to.all.load (k := n18) (encP_n _) Tryz.prog))
            | (go_at_call 34; (with_reducible refine (HD.out _ hb.out).mono ?_); rintro e w4 ⟨v', rfl, h1, h2, h3⟩; have H1 := Lib.hid h1; have H2 := Lib.hid (HO1.out _ _ hb.out h2); have H3 := Lib.hid (h3.up hb.out.size); clear h3; clear h1 h2 c0))
          go_ret
          rw [HC.out.1, HC.out.2]
          exact ⟨_, rfl, H1.out, H2.out, H3.out⟩
        · have HR := Lib.hid (show rightP p = false by simpa using hr)
          have HC := Lib.hid (show doC T ⟨3, ⟨p, 0, 0⟩⟩ = 1 ∧ doT T ⟨3, ⟨p, 0, 0⟩⟩ = T by unfold doC doT; rw [if_pos rfl, if_pos rfl, if_neg (fun e => hr e.2.2), if_neg (fun e => hr e.2.2)]; exact ⟨rfl, rfl⟩)
          clear hr HP HD hhv
          go_enter Tryz.func8, Tryz.ntmps8
          go_upto_region 1 with fail
          have H := Lib.hid (iAt_new w ⟨3, ⟨p, 0, 0⟩⟩ 38 (0, 0))
          have hb := Lib.hid (show Below w.heap.size w (w.alloc (.cells (encI ⟨3, ⟨p, 0, 0⟩⟩).toArray 38 (0, 0))) from (Below.refl _ _).alloc (Nat.le_refl _) _)
          generalize w.alloc _ = W at H hb ⊢
          generalize w.heap.size = B at H ⊢
          have c0 : Sem.run Tryz.prog (loadCellsFrom ⟨B, 1, none⟩ 0 n18 #[]) W = .ok (encP p).toArray W := H.out.rt.to.all.load (k := n18) (encP_n _) Tryz.prog
          go_upto_region 2 with (go_at_call 32; (with_reducible refine (HF.out _ hb.out).mono ?_); rintro e w2 ⟨rfl, hb2⟩; have H := Lib.hid (H.out.below hb2); have hb := Lib.hid (hb.out.trans (hb2.mono hb.out.size)); clear hb2 c0)
          have c0 : Sem.run Tryz.prog (loadCellsFrom ⟨B, 1, none⟩ 0 n18 #[]) w2 = .ok (encP p).toArray w2 := H.out.rt.to.all.load (k := n18) (encP_n _) Tryz.prog
          have c1 : Sem.run Tryz.prog (loadCellsFrom ⟨B, 1, none⟩ 0 n20 #[]) w2 = .ok (encR ⟨p, 0, 0⟩).toArray w2 := H.out.rt.all.load (k := n20) (encR_n _) Tryz.prog
          have ck : w2.cell? ⟨B, 0, none⟩ = some (.int .i64 3) := H.out.kind
          go_wp2_with (first
            | (refine wpList_build_run (o := ⟨some 27, .build 36 #[(0, .tmp 26)], _, _, _, _⟩) rfl 36 #[(0, .tmp 26)] rfl #[(0, .agg (encP p).toArray)] (by simp [Act.eval]) (build_R1 _ _) ?_)
            | (go_at_call 33; (with_reducible refine (rightP_any _ _).mono ?_); rintro e w3 ⟨rfl, hb3⟩; rw [HR.out]; (clear c0 c1 ck; have H := Lib.hid (H.out.below hb3); have hb := Lib.hid (hb.out.trans (hb3.mono hb.out.size)); clear hb3)))
          go_ret
          rw [HC.out.1, HC.out.2]
          exact ⟨_, rfl, HTB.out _ hb.out, HO0.out _ hb.out, Kin.same _ _⟩
      · have HC := Lib.hid (show doC T ⟨3, ⟨p, 0, q⟩⟩ = 1 ∧ doT T ⟨3, ⟨p, 0, q⟩⟩ = T by unfold doC doT; rw [if_pos rfl, if_pos rfl, if_neg (fun e => hq e.2.1), if_neg (fun e => hq e.2.1)]; exact ⟨rfl, rfl⟩)
        clear HP HD hhv
        go_enter Tryz.func8, Tryz.ntmps8
        go_upto_region 1 with fail
        have H := Lib.hid (iAt_new w ⟨3, ⟨p, 0, q⟩⟩ 38 (0, 0))
        have hb := Lib.hid (show Below w.heap.size w (w.alloc (.cells (encI ⟨3, ⟨p, 0, q⟩⟩).toArray 38 (0, 0))) from (Below.refl _ _).alloc (Nat.le_refl _) _)
        generalize w.alloc _ = W at H hb ⊢
        generalize w.heap.size = B at H ⊢
        have c0 : Sem.run Tryz.prog (loadCellsFrom ⟨B, 1, none⟩ 0 n18 #[]) W = .ok (encP p).toArray W := H.out.rt.to.all.load (k := n18) (encP_n _) Tryz.prog
        go_upto_region 2 with (go_at_call 32; (with_reducible refine (HF.out _ hb.out).mono ?_); rintro e w2 ⟨rfl, hb2⟩; have H := Lib.hid (H.out.below hb2); have hb := Lib.hid (hb.out.trans (hb2.mono hb.out.size)); clear hb2 c0)
        have c0 : Sem.run Tryz.prog (loadCellsFrom ⟨B, 1, none⟩ 0 n18 #[]) w2 = .ok (encP p).toArray w2 := H.out.rt.to.all.load (k := n18) (encP_n _) Tryz.prog
        have c1 : Sem.run Tryz.prog (loadCellsFrom ⟨B, 1, none⟩ 0 n20 #[]) w2 = .ok (encR ⟨p, 0, q⟩).toArray w2 := H.out.rt.all.load (k := n20) (encR_n _) Tryz.prog
        have ck : w2.cell? ⟨B, 0, none⟩ = some (.int .i64 3) := H.out.kind
        go_wp2_with (refine wpList_build_run (o := ⟨some 27, .build 36 #[(0, .tmp 26)], _, _, _, _⟩) rfl 36 #[(0, .tmp 26)] rfl #[(0, .agg (encP p).toArray)] (by simp [Act.eval]) (build_R1 _ _) ?_)
        go_ret
        rw [HC.out.1, HC.out.2]
        exact ⟨_, rfl, HTB.out _ hb.out, HO0.out _ hb.out, Kin.same _ _⟩
    · have HC := Lib.hid (show doC T ⟨3, ⟨p, m, q⟩⟩ = 1 ∧ doT T ⟨3, ⟨p, m, q⟩⟩ = T by unfold doC doT; rw [if_pos rfl, if_pos rfl, if_neg (fun e => hm e.1), if_neg (fun e => hm e.1)]; exact ⟨rfl, rfl⟩)
      clear HP HD hhv
      go_enter Tryz.func8, Tryz.ntmps8
      go_upto_region 1 with fail
      have H := Lib.hid (iAt_new w ⟨3, ⟨p, m, q⟩⟩ 38 (0, 0))
      have hb := Lib.hid (show Below w.heap.size w (w.alloc (.cells (encI ⟨3, ⟨p, m, q⟩⟩).toArray 38 (0, 0))) from (Below.refl _ _).alloc (Nat.le_refl _) _)
      generalize w.alloc _ = W at H hb ⊢
      generalize w.heap.size = B at H ⊢
      have c0 : Sem.run Tryz.prog (loadCellsFrom ⟨B, 1, none⟩ 0 n18 #[]) W = .ok (encP p).toArray W := H.out.rt.to.all.load (k := n18) (encP_n _) Tryz.prog
      go_upto_region 2 with (go_at_call 32; (with_reducible refine (HF.out _ hb.out).mono ?_); rintro e w2 ⟨rfl, hb2⟩; have H := Lib.hid (H.out.below hb2); have hb := Lib.hid (hb.out.trans (hb2.mono hb.out.size)); clear hb2 c0)
      have c0 : Sem.run Tryz.prog (loadCellsFrom ⟨B, 1, none⟩ 0 n18 #[]) w2 = .ok (encP p).toArray w2 := H.out.rt.to.all.load (k := n18) (encP_n _) Tryz.prog
      have c1 : Sem.run Tryz.prog (loadCellsFrom ⟨B, 1, none⟩ 0 n20 #[]) w2 = .ok (encR ⟨p, m, q⟩).toArray w2 := H.out.rt.all.load (k := n20) (encR_n _) Tryz.prog
      have ck : w2.cell? ⟨B, 0, none⟩ = some (.int .i64 3) := H.out.kind
      go_wp2_with (refine wpList_build_run (o := ⟨some 27, .build 36 #[(0, .tmp 26)], _, _, _, _⟩) rfl 36 #[(0, .tmp 26)] rfl #[(0, .agg (encP p).toArray)] (by simp [Act.eval]) (build_R1 _ _) ?_)
      go_ret
      rw [HC.out.1, HC.out.2]
      exact ⟨_, rfl, HTB.out _ hb.out, HO0.out _ hb.out, Kin.same _ _⟩
  · by_cases hk : k = 1 ∨ k = 2
    · by_cases hr : right ⟨p, m, q⟩ = true
      · have HR := Lib.hid hr
        rcases hk with rfl | rfl
        · cases hv with
          | false =>
            have HC := Lib.hid (do_put1 hr hhv)
            clear hr hhv HD
            go_enter Tryz.func8, Tryz.ntmps8
            go_upto_region 1 with fail
            have H := Lib.hid (iAt_new w ⟨1, ⟨p, m, q⟩⟩ 38 (0, 0))
            have hb := Lib.hid (show Below w.heap.size w (w.alloc (.cells (encI ⟨1, ⟨p, m, q⟩⟩).toArray 38 (0, 0))) from (Below.refl _ _).alloc (Nat.le_refl _) _)
            generalize w.alloc _ = W at H hb ⊢
            generalize w.heap.size = B at H ⊢
            have c0 : Sem.run Tryz.prog (loadCellsFrom ⟨B, 1, none⟩ 0 n18 #[]) W = .ok (encP p).toArray W := H.out.rt.to.all.load (k := n18) (encP_n _) Tryz.prog
            go_upto_region 2 with (go_at_call 32; (with_reducible refine (HF.out _ hb.out).mono ?_); rintro e w2 ⟨rfl, hb2⟩; have H := Lib.hid (H.out.below hb2); have hb := Lib.hid (hb.out.trans (hb2.mono hb.out.size)); clear hb2 c0)
            have c0 : Sem.run Tryz.prog (loadCellsFrom ⟨B, 1, none⟩ 0 n18 #[]) w2 = .ok (encP p).toArray w2 := H.out.rt.to.all.load (k := n18) (encP_n _) Tryz.prog
            have c1 : Sem.run Tryz.prog (loadCellsFrom ⟨B, 1, none⟩ 0 n20 #[]) w2 = .ok (encR ⟨p, m, q⟩).toArray w2 := H.out.rt.all.load (k := n20) (encR_n _) Tryz.prog
            have ck : w2.cell? ⟨B, 0, none⟩ = some (.int .i64 1) := H.out.kind
            go_wp2_with (first
              | (go_at_call 26; (with_reducible refine (right_any _ _).mono ?_); rintro e w3 ⟨rfl, hb3⟩; rw [HR.out]; (clear c0 c1 ck; have H := Lib.hid (H.out.below hb3); have hb := Lib.hid (hb.out.trans (hb3.mono hb.out.size)); clear hb3; have c1 : Sem.run Tryz.prog (loadCellsFrom ⟨B, 1, none⟩ 0 n20 #[]) w3 = .ok (encR ⟨p, m, q⟩).toArray w3 := H.out.rt.all.load (k := n20) (encR_n _) Tryz.prog; have ck : w3.cell? ⟨B, 0, none⟩ = some (.int .i64 1) := H.out.kind))
              | (go_at_call 35; (with_reducible refine (HP.out _ hb.out).mono ?_); rintro e w4 ⟨v', rfl, h1, h2, h3⟩; have H1 := Lib.hid h1; have H2 := Lib.hid (HO1.out _ _ hb.out h2); have H3 := Lib.hid (h3.up hb.out.size); clear h3; clear h1 h2 c1 ck))
            go_ret
            rw [HC.out.1, HC.out.2]
            exact ⟨_, rfl, H1.out, H2.out, H3.out⟩
          | true =>
            have HC := Lib.hid (do_there hr hhv)
            clear hr hhv HD HP
            go_enter Tryz.func8, Tryz.ntmps8
            go_upto_region 1 with fail
            have H := Lib.hid (iAt_new w ⟨1, ⟨p, m, q⟩⟩ 38 (0, 0))
            have hb := Lib.hid (show Below w.heap.size w (w.alloc (.cells (encI ⟨1, ⟨p, m, q⟩⟩).toArray 38 (0, 0))) from (Below.refl _ _).alloc (Nat.le_refl _) _)
            generalize w.alloc _ = W at H hb ⊢
            generalize w.heap.size = B at H ⊢
            have c0 : Sem.run Tryz.prog (loadCellsFrom ⟨B, 1, none⟩ 0 n18 #[]) W = .ok (encP p).toArray W := H.out.rt.to.all.load (k := n18) (encP_n _) Tryz.prog
            go_upto_region 2 with (go_at_call 32; (with_reducible refine (HF.out _ hb.out).mono ?_); rintro e w2 ⟨rfl, hb2⟩; have H := Lib.hid (H.out.below hb2); have hb := Lib.hid (hb.out.trans (hb2.mono hb.out.size)); clear hb2 c0)
            have c0 : Sem.run Tryz.prog (loadCellsFrom ⟨B, 1, none⟩ 0 n18 #[]) w2 = .ok (encP p).toArray w2 := H.out.rt.to.all.load (k := n18) (encP_n _) Tryz.prog
            have c1 : Sem.run Tryz.prog (loadCellsFrom ⟨B, 1, none⟩ 0 n20 #[]) w2 = .ok (encR ⟨p, m, q⟩).toArray w2 := H.out.rt.all.load (k := n20) (encR_n _) Tryz.prog
            have ck : w2.cell? ⟨B, 0, none⟩ = some (.int .i64 1) := H.out.kind
            go_wp2_with (go_at_call 26; (with_reducible refine (right_any _ _).mono ?_); rintro e w3 ⟨rfl, hb3⟩; rw [HR.out]; (clear c0 c1 ck; have H := Lib.hid (H.out.below hb3); have hb := Lib.hid (hb.out.trans (hb3.mono hb.out.size)); clear hb3; have ck : w3.cell? ⟨B, 0, none⟩ = some (.int .i64 1) := H.out.kind))
            go_ret
            rw [HC.out.1, HC.out.2]
            exact ⟨_, rfl, HTB.out _ hb.out, HO0.out _ hb.out, Kin.same _ _⟩
        · cases hv with
          | false =>
            have HC := Lib.hid (do_away hr hhv)
            clear hr hhv HD HP
            go_enter Tryz.func8, Tryz.ntmps8
            go_upto_region 1 with fail
            have H := Lib.hid (iAt_new w ⟨2, ⟨p, m, q⟩⟩ 38 (0, 0))
            have hb := Lib.hid (show Below w.heap.size w (w.alloc (.cells (encI ⟨2, ⟨p, m, q⟩⟩).toArray 38 (0, 0))) from (Below.refl _ _).alloc (Nat.le_refl _) _)
            generalize w.alloc _ = W at H hb ⊢
            generalize w.heap.size = B at H ⊢
            have c0 : Sem.run Tryz.prog (loadCellsFrom ⟨B, 1, none⟩ 0 n18 #[]) W = .ok (encP p).toArray W := H.out.rt.to.all.load (k := n18) (encP_n _) Tryz.prog
            go_upto_region 2 with (go_at_call 32; (with_reducible refine (HF.out _ hb.out).mono ?_); rintro e w2 ⟨rfl, hb2⟩; have H := Lib.hid (H.out.below hb2); have hb := Lib.hid (hb.out.trans (hb2.mono hb.out.size)); clear hb2 c0)
            have c0 : Sem.run Tryz.prog (loadCellsFrom ⟨B, 1, none⟩ 0 n18 #[]) w2 = .ok (encP p).toArray w2 := H.out.rt.to.all.load (k := n18) (encP_n _) Tryz.prog
            have c1 : Sem.run Tryz.prog (loadCellsFrom ⟨B, 1, none⟩ 0 n20 #[]) w2 = .ok (encR ⟨p, m, q⟩).toArray w2 := H.out.rt.all.load (k := n20) (encR_n _) Tryz.prog
            have ck : w2.cell? ⟨B, 0, none⟩ = some (.int .i64 2) := H.out.kind
            go_wp2_with (go_at_call 26; (with_reducible refine (right_any _ _).mono ?_); rintro e w3 ⟨rfl, hb3⟩; rw [HR.out]; (clear c0 c1 ck; have H := Lib.hid (H.out.below hb3); have hb := Lib.hid (hb.out.trans (hb3.mono hb.out.size)); clear hb3; have ck : w3.cell? ⟨B, 0, none⟩ = some (.int .i64 2) := H.out.kind))
            go_ret
            rw [HC.out.1, HC.out.2]
            exact ⟨_, rfl, HTB.out _ hb.out, HO0.out _ hb.out, Kin.same _ _⟩
          | true =>
            have HC := Lib.hid (do_put2 hr hhv)
            clear hr hhv HD
            go_enter Tryz.func8, Tryz.ntmps8
            go_upto_region 1 with fail
            have H := Lib.hid (iAt_new w ⟨2, ⟨p, m, q⟩⟩ 38 (0, 0))
            have hb := Lib.hid (show Below w.heap.size w (w.alloc (.cells (encI ⟨2, ⟨p, m, q⟩⟩).toArray 38 (0, 0))) from (Below.refl _ _).alloc (Nat.le_refl _) _)
            generalize w.alloc _ = W at H hb ⊢
            generalize w.heap.size = B at H ⊢
            have c0 : Sem.run Tryz.prog (loadCellsFrom ⟨B, 1, none⟩ 0 n18 #[]) W = .ok (encP p).toArray W := H.out.rt.to.all.load (k := n18) (encP_n _) Tryz.prog
            go_upto_region 2 with (go_at_call 32; (with_reducible refine (HF.out _ hb.out).mono ?_); rintro e w2 ⟨rfl, hb2⟩; have H := Lib.hid (H.out.below hb2); have hb := Lib.hid (hb.out.trans (hb2.mono hb.out.size)); clear hb2 c0)
            have c0 : Sem.run Tryz.prog (loadCellsFrom ⟨B, 1, none⟩ 0 n18 #[]) w2 = .ok (encP p).toArray w2 := H.out.rt.to.all.load (k := n18) (encP_n _) Tryz.prog
            have c1 : Sem.run Tryz.prog (loadCellsFrom ⟨B, 1, none⟩ 0 n20 #[]) w2 = .ok (encR ⟨p, m, q⟩).toArray w2 := H.out.rt.all.load (k := n20) (encR_n _) Tryz.prog
            have ck : w2.cell? ⟨B, 0, none⟩ = some (.int .i64 2) := H.out.kind
            go_wp2_with (first
              | (go_at_call 26; (with_reducible refine (right_any _ _).mono ?_); rintro e w3 ⟨rfl, hb3⟩; rw [HR.out]; (clear c0 c1 ck; have H := Lib.hid (H.out.below hb3); have hb := Lib.hid (hb.out.trans (hb3.mono hb.out.size)); clear hb3; have c1 : Sem.run Tryz.prog (loadCellsFrom ⟨B, 1, none⟩ 0 n20 #[]) w3 = .ok (encR ⟨p, m, q⟩).toArray w3 := H.out.rt.all.load (k := n20) (encR_n _) Tryz.prog; have ck : w3.cell? ⟨B, 0, none⟩ = some (.int .i64 2) := H.out.kind))
              | (go_at_call 35; (with_reducible refine (HP.out _ hb.out).mono ?_); rintro e w4 ⟨v', rfl, h1, h2, h3⟩; have H1 := Lib.hid h1; have H2 := Lib.hid (HO1.out _ _ hb.out h2); have H3 := Lib.hid (h3.up hb.out.size); clear h3; clear h1 h2 c1 ck))
            go_ret
            rw [HC.out.1, HC.out.2]
            exact ⟨_, rfl, H1.out, H2.out, H3.out⟩
      · have HR := Lib.hid (show right ⟨p, m, q⟩ = false by simpa using hr)
        have HC := Lib.hid (do_bad (T := T) hk3 (fun e => hr e.2))
        rcases hk with rfl | rfl
        · clear hk3
          clear hr hhv HD HP
          go_enter Tryz.func8, Tryz.ntmps8
          go_upto_region 1 with fail
          have H := Lib.hid (iAt_new w ⟨1, ⟨p, m, q⟩⟩ 38 (0, 0))
          have hb := Lib.hid (show Below w.heap.size w (w.alloc (.cells (encI ⟨1, ⟨p, m, q⟩⟩).toArray 38 (0, 0))) from (Below.refl _ _).alloc (Nat.le_refl _) _)
          generalize w.alloc _ = W at H hb ⊢
          generalize w.heap.size = B at H ⊢
          have c0 : Sem.run Tryz.prog (loadCellsFrom ⟨B, 1, none⟩ 0 n18 #[]) W = .ok (encP p).toArray W := H.out.rt.to.all.load (k := n18) (encP_n _) Tryz.prog
          go_upto_region 2 with (go_at_call 32; (with_reducible refine (HF.out _ hb.out).mono ?_); rintro e w2 ⟨rfl, hb2⟩; have H := Lib.hid (H.out.below hb2); have hb := Lib.hid (hb.out.trans (hb2.mono hb.out.size)); clear hb2 c0)
          have c0 : Sem.run Tryz.prog (loadCellsFrom ⟨B, 1, none⟩ 0 n18 #[]) w2 = .ok (encP p).toArray w2 := H.out.rt.to.all.load (k := n18) (encP_n _) Tryz.prog
          have c1 : Sem.run Tryz.prog (loadCellsFrom ⟨B, 1, none⟩ 0 n20 #[]) w2 = .ok (encR ⟨p, m, q⟩).toArray w2 := H.out.rt.all.load (k := n20) (encR_n _) Tryz.prog
          have ck : w2.cell? ⟨B, 0, none⟩ = some (.int .i64 1) := H.out.kind
          go_wp2_with (go_at_call 26; (with_reducible refine (right_any _ _).mono ?_); rintro e w3 ⟨rfl, hb3⟩; rw [HR.out]; (clear c0 c1 ck; have H := Lib.hid (H.out.below hb3); have hb := Lib.hid (hb.out.trans (hb3.mono hb.out.size)); clear hb3))
          go_ret
          rw [HC.out.1, HC.out.2]
          exact ⟨_, rfl, HTB.out _ hb.out, HO0.out _ hb.out, Kin.same _ _⟩
        · clear hk3
          clear hr hhv HD HP
          go_enter Tryz.func8, Tryz.ntmps8
          go_upto_region 1 with fail
          have H := Lib.hid (iAt_new w ⟨2, ⟨p, m, q⟩⟩ 38 (0, 0))
          have hb := Lib.hid (show Below w.heap.size w (w.alloc (.cells (encI ⟨2, ⟨p, m, q⟩⟩).toArray 38 (0, 0))) from (Below.refl _ _).alloc (Nat.le_refl _) _)
          generalize w.alloc _ = W at H hb ⊢
          generalize w.heap.size = B at H ⊢
          have c0 : Sem.run Tryz.prog (loadCellsFrom ⟨B, 1, none⟩ 0 n18 #[]) W = .ok (encP p).toArray W := H.out.rt.to.all.load (k := n18) (encP_n _) Tryz.prog
          go_upto_region 2 with (go_at_call 32; (with_reducible refine (HF.out _ hb.out).mono ?_); rintro e w2 ⟨rfl, hb2⟩; have H := Lib.hid (H.out.below hb2); have hb := Lib.hid (hb.out.trans (hb2.mono hb.out.size)); clear hb2 c0)
          have c0 : Sem.run Tryz.prog (loadCellsFrom ⟨B, 1, none⟩ 0 n18 #[]) w2 = .ok (encP p).toArray w2 := H.out.rt.to.all.load (k := n18) (encP_n _) Tryz.prog
          have c1 : Sem.run Tryz.prog (loadCellsFrom ⟨B, 1, none⟩ 0 n20 #[]) w2 = .ok (encR ⟨p, m, q⟩).toArray w2 := H.out.rt.all.load (k := n20) (encR_n _) Tryz.prog
          have ck : w2.cell? ⟨B, 0, none⟩ = some (.int .i64 2) := H.out.kind
          go_wp2_with (go_at_call 26; (with_reducible refine (right_any _ _).mono ?_); rintro e w3 ⟨rfl, hb3⟩; rw [HR.out]; (clear c0 c1 ck; have H := Lib.hid (H.out.below hb3); have hb := Lib.hid (hb.out.trans (hb3.mono hb.out.size)); clear hb3))
          go_ret
          rw [HC.out.1, HC.out.2]
          exact ⟨_, rfl, HTB.out _ hb.out, HO0.out _ hb.out, Kin.same _ _⟩
    · have hk1 : ¬ k = 1 := fun e => hk (.inl e)
      have hk2 : ¬ k = 2 := fun e => hk (.inr e)
      have HC := Lib.hid (do_bad (T := T) (p := p) (m := m) (q := q) hk3 (fun e => hk e.1))
      clear hhv HD HP hk
      go_enter Tryz.func8, Tryz.ntmps8
      go_upto_region 1 with fail
      have H := Lib.hid (iAt_new w ⟨k, ⟨p, m, q⟩⟩ 38 (0, 0))
      have hb := Lib.hid (show Below w.heap.size w (w.alloc (.cells (encI ⟨k, ⟨p, m, q⟩⟩).toArray 38 (0, 0))) from (Below.refl _ _).alloc (Nat.le_refl _) _)
      generalize w.alloc _ = W at H hb ⊢
      generalize w.heap.size = B at H ⊢
      have c0 : Sem.run Tryz.prog (loadCellsFrom ⟨B, 1, none⟩ 0 n18 #[]) W = .ok (encP p).toArray W := H.out.rt.to.all.load (k := n18) (encP_n _) Tryz.prog
      go_upto_region 2 with (go_at_call 32; (with_reducible refine (HF.out _ hb.out).mono ?_); rintro e w2 ⟨rfl, hb2⟩; have H := Lib.hid (H.out.below hb2); have hb := Lib.hid (hb.out.trans (hb2.mono hb.out.size)); clear hb2 c0)
      have c0 : Sem.run Tryz.prog (loadCellsFrom ⟨B, 1, none⟩ 0 n18 #[]) w2 = .ok (encP p).toArray w2 := H.out.rt.to.all.load (k := n18) (encP_n _) Tryz.prog
      have c1 : Sem.run Tryz.prog (loadCellsFrom ⟨B, 1, none⟩ 0 n20 #[]) w2 = .ok (encR ⟨p, m, q⟩).toArray w2 := H.out.rt.all.load (k := n20) (encR_n _) Tryz.prog
      have ck : w2.cell? ⟨B, 0, none⟩ = some (.int .i64 k) := H.out.kind
      go_wp2
      go_ret
      rw [HC.out.1, HC.out.2]
      exact ⟨_, rfl, HTB.out _ hb.out, HO0.out _ hb.out, Kin.same _ _⟩
theorem do_any {base : Nat} {b : Nat} {v : Value} {T : List Rt} (x : In) (w : World) (h : Tb base w b v T) :
    Calls Tryz.prog 8 #[.pointer (some ⟨b, 0, none⟩), .agg (encI x).toArray] w fun e w' => ∃ v', e = .returned (.int .i64 (doC T x)) ∧ Tb base w' b v' (doT T x) ∧ Only (fun k => k = b ∨ v.ownBlock = some k) w w' :=
  (do_anyK x w h).mono fun e w' ⟨v', he, h1, h2, _⟩ => ⟨v', he, h1, h2⟩
end Tab
end Go.Proofs.YtdcbbjlbfghpbaaGreat
