/-
  The document's Do. Conditions: those that each theorem names.
-/
import Derived.Test.YtbeoclcnajfjcaaRefC
import Derived.Test.YtbeoclcnajfjcaaRefD
namespace Go.Proofs.Ytbeoclcnajfjcaa
open Go Go.RowKit H2
set_option linter.unusedVariables false
set_option linter.unusedSimpArgs false
namespace Tab
theorem do_drop {T : List Rt} {p : Pf} (hr : rightP p = true) : doC T ⟨3, ⟨p, 0, 0⟩⟩ = dropC T p ∧ doT T ⟨3, ⟨p, 0, 0⟩⟩ = del T p := by
  unfold doC doT
  rw [if_pos rfl, if_pos rfl, if_pos ⟨rfl, rfl, hr⟩, if_pos ⟨rfl, rfl, hr⟩]
  exact ⟨rfl, rfl⟩
theorem do_not {T : List Rt} {p : Pf} {m q : Int} (h : ¬ (m = 0 ∧ q = 0 ∧ rightP p = true)) : doC T ⟨3, ⟨p, m, q⟩⟩ = 1 ∧ doT T ⟨3, ⟨p, m, q⟩⟩ = T := by
  unfold doC doT
  rw [if_pos rfl, if_pos rfl, if_neg h, if_neg h]
  exact ⟨rfl, rfl⟩
set_option maxRecDepth 100000 in
set_option maxHeartbeats 16000000 in
theorem refDo_anyK (A : Option Addr) (cap : Nat) (T : List Rt) (hT : TOk T) (x : In) (w : World) (hv : Rv w (.slice A T.length cap) A cap T) :
    Calls Try.prog 17 #[.slice A T.length cap, .agg (encI x).toArray] w fun e w' => LstK w w' A (doT T x) (doC T x) e ∧ Below w.heap.size w w' := by
  obtain ⟨k, p, m, q⟩ := x
  have HV := Lib.hid (fun (W : World) (hb : Below w.heap.size w W) => hv.below hb)
  have HF := Lib.hid (fun (W : World) (hb : Below w.heap.size w W) => refFind_any A cap T (Nat.le_trans hT.len (by decide)) p W (hv.rd.below hb))
  have HD := Lib.hid (fun (W : World) (hb : Below w.heap.size w W) => refDrop_anyK A cap T hT p W (hv.below hb))
  have HP := Lib.hid (fun (W : World) (hb : Below w.heap.size w W) => refPut_anyK A cap T hT ⟨p, m, q⟩ W (hv.below hb))
  clear hv
  obtain ⟨n, hn⟩ : ∃ n, T.length = n := ⟨_, rfl⟩
  rw [hn] at HV HF HD HP ⊢
  clear hn
  obtain ⟨y, hy⟩ : ∃ y, has T p = y := ⟨_, rfl⟩
  by_cases hk3 : k = 3
  · subst hk3
    clear HP HF hy
    by_cases hr : rightP p = true
    · have HR := Lib.hid hr
      by_cases hm : m = 0
      · subst hm
        by_cases hq : q = 0
        · subst hq
          have HC := Lib.hid (do_drop (T := T) hr)
          clear hr
          go_enter Try.func17, Try.ntmps17
          go_upto_region 1 with fail
          have H := Lib.hid (iAt_new w ⟨3, ⟨p, 0, 0⟩⟩ 43 (0, 0))
          have hb := Lib.hid (show Below w.heap.size w (w.alloc (.cells (encI ⟨3, ⟨p, 0, 0⟩⟩).toArray 43 (0, 0))) from (Below.refl _ _).alloc (Nat.le_refl _) _)
          generalize w.alloc _ = W at H hb ⊢
          generalize w.heap.size = B at H ⊢
          have c0 : Sem.run Try.prog (loadCellsFrom ⟨B, 1, none⟩ 0 n18 #[]) W = .ok (encP p).toArray W := H.out.rt.to.all.load (k := n18) (encP_n _) Try.prog
          have c1 : Sem.run Try.prog (loadCellsFrom ⟨B, 1, none⟩ 0 n20 #[]) W = .ok (encR ⟨p, 0, 0⟩).toArray W := H.out.rt.all.load (k := n20) (encR_n _) Try.prog
          have ck : W.cell? ⟨B, 0, none⟩ = some (.int .i64 3) := H.out.kind
          go_wp2_with (first
            | (go_at_call 45; (with_reducible refine (refRightP_any _ _).mono ?_); rintro e w3 ⟨rfl, hb3⟩; rw [HR.out]; clear c0 c1 ck; have H := Lib.hid (H.out.below hb3); have hb := Lib.hid (hb.out.trans (hb3.mono hb.out.size)); clear hb3; have c0 : Sem.run Try.prog (loadCellsFrom ⟨B, 1, none⟩ 0 n18 #[]) w3 = .ok (encP p).toArray w3 := H.out.rt.to.all.load (k := n18) (encP_n _) Try.prog; have c1 : w3.cell? ⟨B, 19, none⟩ = some (.int .i64 0) := H.out.rt.met; have c2 : w3.cell? ⟨B, 20, none⟩ = some (.int .u32 0) := H.out.rt.seq)
            | (go_at_call 15; (with_reducible refine (HD.out _ hb.out).mono ?_); rintro e w4 ⟨⟨v4, A4, q4, rfl, h1, hf⟩, h2⟩; have HFR := Lib.hid (hf.up hb.out.size); have H1 := Lib.hid h1; have hb := Lib.hid (hb.out.trans (h2.mono hb.out.size)); clear hf h1 h2 c0 c1 c2))
          go_ret2
          rw [HC.out.1, HC.out.2]
          exact ⟨⟨_, A4, q4, rfl, H1.out, HFR.out⟩, hb.out⟩
        · have HC := Lib.hid (do_not (T := T) (p := p) (m := 0) (q := q) (fun e => hq e.2.1))
          clear hr HD
          go_enter Try.func17, Try.ntmps17
          go_upto_region 1 with fail
          have H := Lib.hid (iAt_new w ⟨3, ⟨p, 0, q⟩⟩ 43 (0, 0))
          have hb := Lib.hid (show Below w.heap.size w (w.alloc (.cells (encI ⟨3, ⟨p, 0, q⟩⟩).toArray 43 (0, 0))) from (Below.refl _ _).alloc (Nat.le_refl _) _)
          generalize w.alloc _ = W at H hb ⊢
          generalize w.heap.size = B at H ⊢
          have c0 : Sem.run Try.prog (loadCellsFrom ⟨B, 1, none⟩ 0 n18 #[]) W = .ok (encP p).toArray W := H.out.rt.to.all.load (k := n18) (encP_n _) Try.prog
          have c1 : Sem.run Try.prog (loadCellsFrom ⟨B, 1, none⟩ 0 n20 #[]) W = .ok (encR ⟨p, 0, q⟩).toArray W := H.out.rt.all.load (k := n20) (encR_n _) Try.prog
          have ck : W.cell? ⟨B, 0, none⟩ = some (.int .i64 3) := H.out.kind
          go_wp2_with (go_at_call 45; (with_reducible refine (refRightP_any _ _).mono ?_); rintro e w3 ⟨rfl, hb3⟩; rw [HR.out]; clear c0 c1 ck; have H := Lib.hid (H.out.below hb3); have hb := Lib.hid (hb.out.trans (hb3.mono hb.out.size)); clear hb3; have c1 : w3.cell? ⟨B, 19, none⟩ = some (.int .i64 0) := H.out.rt.met; have c2 : w3.cell? ⟨B, 20, none⟩ = some (.int .u32 q) := H.out.rt.seq)
          go_ret2
          rw [HC.out.1, HC.out.2]
          exact ⟨⟨_, A, cap, rfl, HV.out _ hb.out, .inl rfl⟩, hb.out⟩
      · have HC := Lib.hid (do_not (T := T) (p := p) (m := m) (q := q) (fun e => hm e.1))
        clear hr HD
        go_enter Try.func17, Try.ntmps17
        go_upto_region 1 with fail
        have H := Lib.hid (iAt_new w ⟨3, ⟨p, m, q⟩⟩ 43 (0, 0))
        have hb := Lib.hid (show Below w.heap.size w (w.alloc (.cells (encI ⟨3, ⟨p, m, q⟩⟩).toArray 43 (0, 0))) from (Below.refl _ _).alloc (Nat.le_refl _) _)
        generalize w.alloc _ = W at H hb ⊢
        generalize w.heap.size = B at H ⊢
        have c0 : Sem.run Try.prog (loadCellsFrom ⟨B, 1, none⟩ 0 n18 #[]) W = .ok (encP p).toArray W := H.out.rt.to.all.load (k := n18) (encP_n _) Try.prog
        have c1 : Sem.run Try.prog (loadCellsFrom ⟨B, 1, none⟩ 0 n20 #[]) W = .ok (encR ⟨p, m, q⟩).toArray W := H.out.rt.all.load (k := n20) (encR_n _) Try.prog
        have ck : W.cell? ⟨B, 0, none⟩ = some (.int .i64 3) := H.out.kind
        go_wp2_with (go_at_call 45; (with_reducible refine (refRightP_any _ _).mono ?_); rintro e w3 ⟨rfl, hb3⟩; rw [HR.out]; clear c0 c1 ck; have H := Lib.hid (H.out.below hb3); have hb := Lib.hid (hb.out.trans (hb3.mono hb.out.size)); clear hb3; have c1 : w3.cell? ⟨B, 19, none⟩ = some (.int .i64 m) := H.out.rt.met)
        go_ret2
        rw [HC.out.1, HC.out.2]
        exact ⟨⟨_, A, cap, rfl, HV.out _ hb.out, .inl rfl⟩, hb.out⟩
    · have HR := Lib.hid (show rightP p = false by simpa using hr)
      have HC := Lib.hid (do_not (T := T) (p := p) (m := m) (q := q) (fun e => hr e.2.2))
      clear hr HD
      go_enter Try.func17, Try.ntmps17
      go_upto_region 1 with fail
      have H := Lib.hid (iAt_new w ⟨3, ⟨p, m, q⟩⟩ 43 (0, 0))
      have hb := Lib.hid (show Below w.heap.size w (w.alloc (.cells (encI ⟨3, ⟨p, m, q⟩⟩).toArray 43 (0, 0))) from (Below.refl _ _).alloc (Nat.le_refl _) _)
      generalize w.alloc _ = W at H hb ⊢
      generalize w.heap.size = B at H ⊢
      have c0 : Sem.run Try.prog (loadCellsFrom ⟨B, 1, none⟩ 0 n18 #[]) W = .ok (encP p).toArray W := H.out.rt.to.all.load (k := n18) (encP_n _) Try.prog
      have c1 : Sem.run Try.prog (loadCellsFrom ⟨B, 1, none⟩ 0 n20 #[]) W = .ok (encR ⟨p, m, q⟩).toArray W := H.out.rt.all.load (k := n20) (encR_n _) Try.prog
      have ck : W.cell? ⟨B, 0, none⟩ = some (.int .i64 3) := H.out.kind
      go_wp2_with (go_at_call 45; (with_reducible refine (refRightP_any _ _).mono ?_); rintro e w3 ⟨rfl, hb3⟩; rw [HR.out]; clear c0 c1 ck; have hb := Lib.hid (hb.out.trans (hb3.mono hb.out.size)); clear hb3)
      go_ret2
      rw [HC.out.1, HC.out.2]
      exact ⟨⟨_, A, cap, rfl, HV.out _ hb.out, .inl rfl⟩, hb.out⟩
  · clear HD
    by_cases hk : k = 1 ∨ k = 2
    · by_cases hr : right ⟨p, m, q⟩ = true
      · have HR := Lib.hid hr
        have HY := Lib.hid (show (0 ≤ fnd T p) ↔ y = true by rw [fnd_has, hy])
        generalize fnd T p = fp at HF HY
        rcases hk with rfl | rfl
        · cases y with
          | false =>
            have hfp : ¬ (0 : Int) ≤ fp := by simpa using HY.out
            have hfp2 : decide (0 ≤ fp) = false := decide_eq_false hfp
            have HC := Lib.hid (do_put1 hr hy)
            clear hr hy hk3
            go_enter Try.func17, Try.ntmps17
            go_upto_region 1 with fail
            have H := Lib.hid (iAt_new w ⟨1, ⟨p, m, q⟩⟩ 43 (0, 0))
            have hb := Lib.hid (show Below w.heap.size w (w.alloc (.cells (encI ⟨1, ⟨p, m, q⟩⟩).toArray 43 (0, 0))) from (Below.refl _ _).alloc (Nat.le_refl _) _)
            generalize w.alloc _ = W at H hb ⊢
            generalize w.heap.size = B at H ⊢
            have c0 : Sem.run Try.prog (loadCellsFrom ⟨B, 1, none⟩ 0 n18 #[]) W = .ok (encP p).toArray W := H.out.rt.to.all.load (k := n18) (encP_n _) Try.prog
            have c1 : Sem.run Try.prog (loadCellsFrom ⟨B, 1, none⟩ 0 n20 #[]) W = .ok (encR ⟨p, m, q⟩).toArray W := H.out.rt.all.load (k := n20) (encR_n _) Try.prog
            have ck : W.cell? ⟨B, 0, none⟩ = some (.int .i64 1) := H.out.kind
            go_wp2_with (first
              | (go_at_call 27; (with_reducible refine (refR_any _ _).mono ?_); rintro e w3 ⟨rfl, hb3⟩; rw [HR.out]; clear c0 c1 ck; have H := Lib.hid (H.out.below hb3); have hb := Lib.hid (hb.out.trans (hb3.mono hb.out.size)); clear hb3; have c0 : Sem.run Try.prog (loadCellsFrom ⟨B, 1, none⟩ 0 n18 #[]) w3 = .ok (encP p).toArray w3 := H.out.rt.to.all.load (k := n18) (encP_n _) Try.prog)
              | (go_at_call 19; (with_reducible refine (HF.out _ hb.out).mono ?_); rintro e w4 ⟨rfl, hb3⟩; clear c0; have H := Lib.hid (H.out.below hb3); have hb := Lib.hid (hb.out.trans (hb3.mono hb.out.size)); clear hb3; have c1 : Sem.run Try.prog (loadCellsFrom ⟨B, 1, none⟩ 0 n20 #[]) w4 = .ok (encR ⟨p, m, q⟩).toArray w4 := H.out.rt.all.load (k := n20) (encR_n _) Try.prog; have ck : w4.cell? ⟨B, 0, none⟩ = some (.int .i64 1) := H.out.kind)
              | (go_at_call 13; (with_reducible refine (HP.out _ hb.out).mono ?_); rintro e w5 ⟨⟨v4, A4, q4, rfl, h1, hf⟩, h2⟩; have HFR := Lib.hid (hf.up hb.out.size); have H1 := Lib.hid h1; have hb := Lib.hid (hb.out.trans (h2.mono hb.out.size)); clear hf h1 h2 c1 ck))
            go_ret2
            rw [HC.out.1, HC.out.2]
            exact ⟨⟨_, A4, q4, rfl, H1.out, HFR.out⟩, hb.out⟩
          | true =>
            have hfp : (0 : Int) ≤ fp := by simpa using HY.out
            have hfp2 : decide (0 ≤ fp) = true := decide_eq_true hfp
            have HC := Lib.hid (do_there hr hy)
            clear hr hy hk3 HP
            go_enter Try.func17, Try.ntmps17
            go_upto_region 1 with fail
            have H := Lib.hid (iAt_new w ⟨1, ⟨p, m, q⟩⟩ 43 (0, 0))
            have hb := Lib.hid (show Below w.heap.size w (w.alloc (.cells (encI ⟨1, ⟨p, m, q⟩⟩).toArray 43 (0, 0))) from (Below.refl _ _).alloc (Nat.le_refl _) _)
            generalize w.alloc _ = W at H hb ⊢
            generalize w.heap.size = B at H ⊢
            have c0 : Sem.run Try.prog (loadCellsFrom ⟨B, 1, none⟩ 0 n18 #[]) W = .ok (encP p).toArray W := H.out.rt.to.all.load (k := n18) (encP_n _) Try.prog
            have c1 : Sem.run Try.prog (loadCellsFrom ⟨B, 1, none⟩ 0 n20 #[]) W = .ok (encR ⟨p, m, q⟩).toArray W := H.out.rt.all.load (k := n20) (encR_n _) Try.prog
            have ck : W.cell? ⟨B, 0, none⟩ = some (.int .i64 1) := H.out.kind
            go_wp2_with (first
              | (go_at_call 27; (with_reducible refine (refR_any _ _).mono ?_); rintro e w3 ⟨rfl, hb3⟩; rw [HR.out]; clear c0 c1 ck; have H := Lib.hid (H.out.below hb3); have hb := Lib.hid (hb.out.trans (hb3.mono hb.out.size)); clear hb3; have c0 : Sem.run Try.prog (loadCellsFrom ⟨B, 1, none⟩ 0 n18 #[]) w3 = .ok (encP p).toArray w3 := H.out.rt.to.all.load (k := n18) (encP_n _) Try.prog)
              | (go_at_call 19; (with_reducible refine (HF.out _ hb.out).mono ?_); rintro e w4 ⟨rfl, hb3⟩; clear c0; have H := Lib.hid (H.out.below hb3); have hb := Lib.hid (hb.out.trans (hb3.mono hb.out.size)); clear hb3; have ck : w4.cell? ⟨B, 0, none⟩ = some (.int .i64 1) := H.out.kind))
            go_ret2
            rw [HC.out.1, HC.out.2]
            exact ⟨⟨_, A, cap, rfl, HV.out _ hb.out, .inl rfl⟩, hb.out⟩
        · cases y with
          | false =>
            have hfp : ¬ (0 : Int) ≤ fp := by simpa using HY.out
            have hfp2 : decide (0 ≤ fp) = false := decide_eq_false hfp
            have HC := Lib.hid (do_away hr hy)
            clear hr hy hk3 HP
            go_enter Try.func17, Try.ntmps17
            go_upto_region 1 with fail
            have H := Lib.hid (iAt_new w ⟨2, ⟨p, m, q⟩⟩ 43 (0, 0))
            have hb := Lib.hid (show Below w.heap.size w (w.alloc (.cells (encI ⟨2, ⟨p, m, q⟩⟩).toArray 43 (0, 0))) from (Below.refl _ _).alloc (Nat.le_refl _) _)
            generalize w.alloc _ = W at H hb ⊢
            generalize w.heap.size = B at H ⊢
            have c0 : Sem.run Try.prog (loadCellsFrom ⟨B, 1, none⟩ 0 n18 #[]) W = .ok (encP p).toArray W := H.out.rt.to.all.load (k := n18) (encP_n _) Try.prog
            have c1 : Sem.run Try.prog (loadCellsFrom ⟨B, 1, none⟩ 0 n20 #[]) W = .ok (encR ⟨p, m, q⟩).toArray W := H.out.rt.all.load (k := n20) (encR_n _) Try.prog
            have ck : W.cell? ⟨B, 0, none⟩ = some (.int .i64 2) := H.out.kind
            go_wp2_with (first
              | (go_at_call 27; (with_reducible refine (refR_any _ _).mono ?_); rintro e w3 ⟨rfl, hb3⟩; rw [HR.out]; clear c0 c1 ck; have H := Lib.hid (H.out.below hb3); have hb := Lib.hid (hb.out.trans (hb3.mono hb.out.size)); clear hb3; have c0 : Sem.run Try.prog (loadCellsFrom ⟨B, 1, none⟩ 0 n18 #[]) w3 = .ok (encP p).toArray w3 := H.out.rt.to.all.load (k := n18) (encP_n _) Try.prog)
              | (go_at_call 19; (with_reducible refine (HF.out _ hb.out).mono ?_); rintro e w4 ⟨rfl, hb3⟩; clear c0; have H := Lib.hid (H.out.below hb3); have hb := Lib.hid (hb.out.trans (hb3.mono hb.out.size)); clear hb3; have ck : w4.cell? ⟨B, 0, none⟩ = some (.int .i64 2) := H.out.kind))
            go_ret2
            rw [HC.out.1, HC.out.2]
            exact ⟨⟨_, A, cap, rfl, HV.out _ hb.out, .inl rfl⟩, hb.out⟩
          | true =>
            have hfp : (0 : Int) ≤ fp := by simpa using HY.out
            have hfp2 : decide (0 ≤ fp) = true := decide_eq_true hfp
            have HC := Lib.hid (do_put2 hr hy)
            clear hr hy hk3
            go_enter Try.func17, Try.ntmps17
            go_upto_region 1 with fail
            have H := Lib.hid (iAt_new w ⟨2, ⟨p, m, q⟩⟩ 43 (0, 0))
            have hb := Lib.hid (show Below w.heap.size w (w.alloc (.cells (encI ⟨2, ⟨p, m, q⟩⟩).toArray 43 (0, 0))) from (Below.refl _ _).alloc (Nat.le_refl _) _)
            generalize w.alloc _ = W at H hb ⊢
            generalize w.heap.size = B at H ⊢
            have c0 : Sem.run Try.prog (loadCellsFrom ⟨B, 1, none⟩ 0 n18 #[]) W = .ok (encP p).toArray W := H.out.rt.to.all.load (k := n18) (encP_n _) Try.prog
            have c1 : Sem.run Try.prog (loadCellsFrom ⟨B, 1, none⟩ 0 n20 #[]) W = .ok (encR ⟨p, m, q⟩).toArray W := H.out.rt.all.load (k := n20) (encR_n _) Try.prog
            have ck : W.cell? ⟨B, 0, none⟩ = some (.int .i64 2) := H.out.kind
            go_wp2_with (first
              | (go_at_call 27; (with_reducible refine (refR_any _ _).mono ?_); rintro e w3 ⟨rfl, hb3⟩; rw [HR.out]; clear c0 c1 ck; have H := Lib.hid (H.out.below hb3); have hb := Lib.hid (hb.out.trans (hb3.mono hb.out.size)); clear hb3; have c0 : Sem.run Try.prog (loadCellsFrom ⟨B, 1, none⟩ 0 n18 #[]) w3 = .ok (encP p).toArray w3 := H.out.rt.to.all.load (k := n18) (encP_n _) Try.prog)
              | (go_at_call 19; (with_reducible refine (HF.out _ hb.out).mono ?_); rintro e w4 ⟨rfl, hb3⟩; clear c0; have H := Lib.hid (H.out.below hb3); have hb := Lib.hid (hb.out.trans (hb3.mono hb.out.size)); clear hb3; have c1 : Sem.run Try.prog (loadCellsFrom ⟨B, 1, none⟩ 0 n20 #[]) w4 = .ok (encR ⟨p, m, q⟩).toArray w4 := H.out.rt.all.load (k := n20) (encR_n _) Try.prog; have ck : w4.cell? ⟨B, 0, none⟩ = some (.int .i64 2) := H.out.kind)
              | (go_at_call 13; (with_reducible refine (HP.out _ hb.out).mono ?_); rintro e w5 ⟨⟨v4, A4, q4, rfl, h1, hf⟩, h2⟩; have HFR := Lib.hid (hf.up hb.out.size); have H1 := Lib.hid h1; have hb := Lib.hid (hb.out.trans (h2.mono hb.out.size)); clear hf h1 h2 c1 ck))
            go_ret2
            rw [HC.out.1, HC.out.2]
            exact ⟨⟨_, A4, q4, rfl, H1.out, HFR.out⟩, hb.out⟩
      · have HR := Lib.hid (show right ⟨p, m, q⟩ = false by simpa using hr)
        have HC := Lib.hid (do_bad (T := T) hk3 (fun e => hr e.2))
        clear hr hy hk3 HP HF
        rcases hk with rfl | rfl
        · skip
          go_enter Try.func17, Try.ntmps17
          go_upto_region 1 with fail
          have H := Lib.hid (iAt_new w ⟨1, ⟨p, m, q⟩⟩ 43 (0, 0))
          have hb := Lib.hid (show Below w.heap.size w (w.alloc (.cells (encI ⟨1, ⟨p, m, q⟩⟩).toArray 43 (0, 0))) from (Below.refl _ _).alloc (Nat.le_refl _) _)
          generalize w.alloc _ = W at H hb ⊢
          generalize w.heap.size = B at H ⊢
          have c0 : Sem.run Try.prog (loadCellsFrom ⟨B, 1, none⟩ 0 n18 #[]) W = .ok (encP p).toArray W := H.out.rt.to.all.load (k := n18) (encP_n _) Try.prog
          have c1 : Sem.run Try.prog (loadCellsFrom ⟨B, 1, none⟩ 0 n20 #[]) W = .ok (encR ⟨p, m, q⟩).toArray W := H.out.rt.all.load (k := n20) (encR_n _) Try.prog
          have ck : W.cell? ⟨B, 0, none⟩ = some (.int .i64 1) := H.out.kind
          go_wp2_with (go_at_call 27; (with_reducible refine (refR_any _ _).mono ?_); rintro e w3 ⟨rfl, hb3⟩; rw [HR.out]; clear c0 c1 ck; have hb := Lib.hid (hb.out.trans (hb3.mono hb.out.size)); clear hb3)
          go_ret2
          rw [HC.out.1, HC.out.2]
          exact ⟨⟨_, A, cap, rfl, HV.out _ hb.out, .inl rfl⟩, hb.out⟩
        · skip
          go_enter Try.func17, Try.ntmps17
          go_upto_region 1 with fail
          have H := Lib.hid (iAt_new w ⟨2, ⟨p, m, q⟩⟩ 43 (0, 0))
          have hb := Lib.hid (show Below w.heap.size w (w.alloc (.cells (encI ⟨2, ⟨p, m, q⟩⟩).toArray 43 (0, 0))) from (Below.refl _ _).alloc (Nat.le_refl _) _)
          generalize w.alloc _ = W at H hb ⊢
          generalize w.heap.size = B at H ⊢
          have c0 : Sem.run Try.prog (loadCellsFrom ⟨B, 1, none⟩ 0 n18 #[]) W = .ok (encP p).toArray W := H.out.rt.to.all.load (k := n18) (encP_n _) Try.prog
          have c1 : Sem.run Try.prog (loadCellsFrom ⟨B, 1, none⟩ 0 n20 #[]) W = .ok (encR ⟨p, m, q⟩).toArray W := H.out.rt.all.load (k := n20) (encR_n _) Try.prog
          have ck : W.cell? ⟨B, 0, none⟩ = some (.int .i64 2) := H.out.kind
          go_wp2_with (go_at_call 27; (with_reducible refine (refR_any _ _).mono ?_); rintro e w3 ⟨rfl, hb3⟩; rw [HR.out]; clear c0 c1 ck; have hb := Lib.hid (hb.out.trans (hb3.mono hb.out.size)); clear hb3)
          go_ret2
          rw [HC.out.1, HC.out.2]
          exact ⟨⟨_, A, cap, rfl, HV.out _ hb.out, .inl rfl⟩, hb.out⟩
    · have hk1 : ¬ k = 1 := fun e => hk (.inl e)
      have hk2 : ¬ k = 2 := fun e => hk (.inr e)
      have HC := Lib.hid (do_bad (T := T) (p := p) (m := m) (q := q) hk3 (fun e => hk e.1))
      clear hy HF HP hk
      go_enter Try.func17, Try.ntmps17
      go_upto_region 1 with fail
      have H := Lib.hid (iAt_new w ⟨k, ⟨p, m, q⟩⟩ 43 (0, 0))
      have hb := Lib.hid (show Below w.heap.size w (w.alloc (.cells (encI ⟨k, ⟨p, m, q⟩⟩).toArray 43 (0, 0))) from (Below.refl _ _).alloc (Nat.le_refl _) _)
      generalize w.alloc _ = W at H hb ⊢
      generalize w.heap.size = B at H ⊢
      have c0 : Sem.run Try.prog (loadCellsFrom ⟨B, 1, none⟩ 0 n18 #[]) W = .ok (encP p).toArray W := H.out.rt.to.all.load (k := n18) (encP_n _) Try.prog
      have c1 : Sem.run Try.prog (loadCellsFrom ⟨B, 1, none⟩ 0 n20 #[]) W = .ok (encR ⟨p, m, q⟩).toArray W := H.out.rt.all.load (k := n20) (encR_n _) Try.prog
      have ck : W.cell? ⟨B, 0, none⟩ = some (.int .i64 k) := H.out.kind
      go_wp2
      go_ret2
      rw [HC.out.1, HC.out.2]
      exact ⟨⟨_, A, cap, rfl, HV.out _ hb.out, .inl rfl⟩, hb.out⟩
theorem refDo_any (A : Option Addr) (cap : Nat) (T : List Rt) (hT : TOk T) (x : In) (w : World) (hv : Rv w (.slice A T.length cap) A cap T) :
    Calls Try.prog 17 #[.slice A T.length cap, .agg (encI x).toArray] w fun e w' => Lst w w' (doT T x) (doC T x) e ∧ Below w.heap.size w w' :=
  (refDo_anyK A cap T hT x w hv).mono fun e w' ⟨h1, h2⟩ => ⟨h1.lst, h2⟩
end Tab
end Go.Proofs.Ytbeoclcnajfjcaa
