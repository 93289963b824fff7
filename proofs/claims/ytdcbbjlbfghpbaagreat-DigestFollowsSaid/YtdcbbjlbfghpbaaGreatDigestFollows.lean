/-
  DigestFollows: the walk. Conditions: none.
-/
import Derived.Test.YtdcbbjlbfghpbaaGreatDk
import Derived.Test.YtdcbbjlbfghpbaaGreatDl
import Derived.Test.YtdcbbjlbfghpbaaGreatDn
import Derived.Test.YtdcbbjlbfghpbaaGreatFolP
import Derived.Test.YtdcbbjlbfghpbaaGreatDoA
import Derived.Test.YtdcbbjlbfghpbaaGreatDm
namespace Go.Proofs.YtdcbbjlbfghpbaaGreat.DigestFollows
open Go Go.RowKit H2 Tab Dig
set_option linter.unusedVariables false
set_option linter.unusedSimpArgs false
theorem zvI (w : World) : Sem.run Tryz.prog (zeroValue 38) w = .ok (.agg (Tab.encI zI).toArray) w := Tryz.zeroValue38 w
attribute [local simp 10000] zvI
theorem tb_bel {base : Nat} {w w' : World} {b : Nat} {v : Value} {T : List Rt} (h : Tb base w b v T) (ho : Only (fun k => k = b ∨ v.ownBlock = some k) w w') : Below base w w' := by
  refine ho.below (Nat.le_trans h.lo (Nat.le_of_lt (blk_lt h.blk))) (fun i hi e => ?_)
  have h1 := h.lo
  rcases e with rfl | e
  · omega
  · rcases h.own.2 with ⟨h0, _⟩ | ⟨g, cap, cur, h0, hg, _⟩
    · rw [h0] at e; cases e
    · rw [h0] at e
      simp only [Value.ownBlock, Option.some.injEq] at e
      omega
theorem drw_tb {base : Nat} {w w' : World} {b g : Nat} {v : Value} {T : List Rt} {D : Dg} (h : Tb base w b v T) (hd : DRw w g D) (ho : Only (fun k => k = b ∨ v.ownBlock = some k) w w') : DRw w' g D := by
  obtain ⟨cur, h1, h2⟩ := hd.ex
  refine ⟨cur, ho.obj h1 (fun e => ?_), h2⟩
  rcases e with rfl | e
  · rw [h.blk] at h1
    injection h1 with h1
    injection h1 with _ h1 _
    revert h1
    decide
  · exact own_ne_blk h.own h1 (by decide) e
theorem row_tb {base : Nat} {w w' : World} {b B : Nat} {v : Value} {T : List Rt} {cs : Array Value} {t : TypeId} {fr : Nat × Nat} (h : Tb base w b v T) (hB : w.heap[B]? = some (.cells cs t fr)) (h1 : 73 ≠ t) (h2 : 36 ≠ t) (ho : Only (fun k => k = b ∨ v.ownBlock = some k) w w') : w'.heap[B]? = some (.cells cs t fr) := by
  refine ho.obj hB (fun e => ?_)
  rcases e with rfl | e
  · rw [h.blk] at hB
    injection hB with hB
    injection hB with _ hB _
    exact h1 hB
  · exact own_ne_blk h.own hB h2 e
theorem dat_drw {w : World} {g : Nat} {D : Dg} (h : DAt w g D) : DRw w g D := by
  obtain ⟨cur, h1, h2, h3⟩ := h.ex
  exact ⟨cur, h1, by omega, h3⟩
theorem smd_of {F G : Dg} (h : ∀ k, k < 17 → F k = G k) : smD 17 17 F G = true := decide_eq_true ⟨rfl, h⟩
/-- incs that came in -/
def IsIs (W : World) (v : Value) : Prop := ∃ (A : Option Addr) (cap : Nat) (L : List In), v = .slice A L.length cap ∧ (L.length ≤ cap ∧ cap ≤ maxLen) ∧ RdI W A L
instance : Inhabited In := ⟨zI⟩
open Go.Deep Go.Joins Go.ChangeShapes Go.WideShapes in
set_option maxRecDepth 100000 in
theorem open_incs {H : Type} {enc : TypeId × Value → H} {W : World} {base : Nat} {v : Value} {d : DataW H} {p : List MemPlace} (hv : Value.okWide Tryz.prog W .any base 23 v)
    (h : DataW.Trod enc Tryz.prog W 0 (fun _ => true) true 23 v d p) : IsIs W v := by
  obtain ⟨a1, len, cap, rfl⟩ := okWide_slice Tryz.underlying23 hv
  obtain ⟨fuel, hf⟩ := h
  obtain ⟨A, cap', L, e, hl, hr⟩ := open_rows Tab.encI Tryz.underlying23 co_In (by decide) encI_len open_In (fuel := fuel) (v := .slice a1 len cap) (by simpa [Value.cells] using hf)
  exact ⟨A, cap', L, e, hl, fun i hi => by obtain ⟨b, o, e, h⟩ := hr i hi; exact ⟨b, o, e, ⟨h⟩⟩⟩
set_option maxRecDepth 100000 in
set_option maxHeartbeats 40000000 in
theorem walk (v0 v1 : Value) (W : World) (w0 : Tab.IsRs W v0) (w1 : IsIs W v1) : Calls Tryz.prog 3 #[v0, v1] W fun e w' => e = .returned (.bool true) ∧ Below W.heap.size W w' := by
  obtain ⟨A, cap, L, rfl, hl, hr⟩ := w0
  obtain ⟨A', cap', M, rfl, hl', hr'⟩ := w1
  have HR := Lib.hid hr
  have HR' := Lib.hid hr'
  obtain ⟨n, hn⟩ : ∃ n, L.length = n := ⟨_, rfl⟩
  obtain ⟨m, hm⟩ : ∃ n, M.length = n := ⟨_, rfl⟩
  have HN := Lib.hid hn
  have HM := Lib.hid hm
  rw [hn] at hl ⊢
  rw [hm] at hl' ⊢
  unfold maxLen at hl hl'
  have hl := Nat.le_trans hl.1 hl.2
  have hl' := Nat.le_trans hl'.1 hl'.2
  clear hr hr' hn hm
  have n0 : (0 : Int) ≤ (n : Int) := by omega
  have m0 : (0 : Int) ≤ (m : Int) := by omega
  have hb := Lib.hid (Below.refl W.heap.size W)
  by_cases hbig : (300 : Int) < (n : Int)
  · have hbd : decide ((300 : Int) < (n : Int)) = true := decide_eq_true hbig
    go_enter Tryz.func3, Tryz.ntmps3
    go_wp2_with (first
      | (go_at_call 4; (with_reducible refine (Dig.awake_any _).mono ?_); rintro e w1 ⟨rfl, h1⟩; have hb := Lib.hid (hb.out.trans (h1.mono hb.out.size)); clear h1))
    go_ret
    exact ⟨rfl, hb.out⟩
  have hbd : decide ((300 : Int) < (n : Int)) = false := decide_eq_false hbig
  by_cases hbig' : (100 : Int) < (m : Int)
  · have hbd' : decide ((100 : Int) < (m : Int)) = true := decide_eq_true hbig'
    go_enter Tryz.func3, Tryz.ntmps3
    go_wp2_with (first
      | (go_at_call 4; (with_reducible refine (Dig.awake_any _).mono ?_); rintro e w1 ⟨rfl, h1⟩; have hb := Lib.hid (hb.out.trans (h1.mono hb.out.size)); clear h1))
    go_ret
    exact ⟨rfl, hb.out⟩
  have hbd' : decide ((100 : Int) < (m : Int)) = false := decide_eq_false hbig'
  have hn3 : n ≤ 300 := by omega
  have hm3 : m ≤ 100 := by omega
  have HNI := Lib.hid (Dig.rd_nil HR.out)
  obtain ⟨ca, hca⟩ : ∃ c, newC L = c := ⟨_, rfl⟩
  have HCA := Lib.hid hca
  clear hca
  by_cases hca : ca = 0
  · subst hca
    obtain ⟨T, hT⟩ : ∃ T, fold L = T := ⟨_, rfl⟩
    have HTF := Lib.hid hT
    clear hT
    go_enter Tryz.func3, Tryz.ntmps3
    go_upto_region 6 with (first
      | (go_at_call 4; (with_reducible refine (Dig.awake_any _).mono ?_); rintro e w1 ⟨rfl, h1⟩; have hb := Lib.hid (hb.out.trans (h1.mono hb.out.size)); clear h1)
      | (refine wpList_row_run (o := ⟨some 26, .buildSlice 22 0 #[], _, _, _, _⟩) rfl 22 0 #[] rfl #[] (by simp) (row_R0 _) ?_)
      | (refine wpList_appR rfl (.tmp 26) (.tmp 27) rfl _ [] L A n cap HN.out rfl rfl (gr_zero w1) ((HR.out.below hb.out).below ((Below.refl _ _).alloc (Nat.le_refl _) _)) HNI.out (by have := HN.out; simp; omega) ?_; rintro v7 w7 h7 _; rw [List.nil_append] at h7; have hb := Lib.hid (hb.out.trans (h7.bel.mono hb.out.size)); obtain ⟨A7, c7, hv7⟩ := h7.rv; obtain rfl := hv7.eq; have HNW := Lib.hid (new_any A7 c7 L (by have := HN.out; omega) w7 hv7); clear h7 hv7)
      | (go_at_call 5; (with_reducible refine (HNW.out).mono ?_); rintro e w8 ⟨h8, h9⟩; obtain ⟨b8, v8, h10, h11⟩ := made_ok h8 HCA.out HTF.out; subst h10; have HT8 := Lib.hid (tb_lower h11 hb.out.size); clear h11; have hb := Lib.hid (hb.out.trans (h9.mono hb.out.size)); clear h8 h9))
    clear HNW
    go_upto_region 7 with (go_at_call 6; (with_reducible refine (digAll_any _ HT8.out).mono ?_); rintro e w9 ⟨⟨g9, rfl, hg9, h1⟩, h2⟩; have HD9 := Lib.hid (dat_drw h1); have HT9 := Lib.hid (HT8.out.below h2); have hb := Lib.hid (hb.out.trans (h2.mono hb.out.size)); clear h1 h2 hg9)
    clear HT8
    go_wp2
    go_loopw [7, 38] (fun s7 s38 wr => ∃ (i g c : Nat) (v : Value) (T : List Rt) (D : Dg), i ≤ m ∧ s38 = .int .i64 i ∧ s7 = .slice (some ⟨g, 0, none⟩) 17 c ∧ Tb W.heap.size wr b8 v T ∧ DRw wr g D ∧ (∀ k, k < 17 → D k = dgs T k) ∧ Below W.heap.size W wr) (fun _ s38 _ => m - (intOf s38).toNat)
    case atStart => exact ⟨0, g9, 17, v8, T, dgs T, by omega, rfl, rfl, HT9.out, HD9.out, fun _ _ => rfl, hb.out⟩
    case round =>
      clear HT9 HD9 hb HTF
      clear T
      obtain ⟨i, g, c, v, T, D, hi, rfl, rfl, htb, hd, heq, hbb⟩ := hrel
      have HT := Lib.hid htb
      have HD := Lib.hid hd
      have HEQ := Lib.hid heq
      have hb := Lib.hid hbb
      clear htb hd heq hbb
      by_cases hil : i < m
      · have hil' : (i : Int) < (m : Int) := by omega
        have i0 : (0 : Int) ≤ (i : Int) := by omega
        have hip : i < M.length := by rw [HM.out]; exact hil
        obtain ⟨bI, oI, rfl, hx⟩ := HR'.out i hip
        have hl1 : Sem.run Tryz.prog (loadCellsFrom ⟨bI, oI + i * n21, none⟩ 0 n21 #[]) wr = .ok (Tab.encI M[i]).toArray wr := (hx.below hb.out).all.load (k := n21) (encI_n _) Tryz.prog
        clear hx
        generalize M[i] = x at hl1
        have hst := store_row (o := 0) (vs := Tab.encI x) (heap_alloc_new wr (.cells (Tab.encI zI).toArray 38 (0, 0))) (by simp [encI_len]) (encI_one _) Tryz.prog
        rw [splice_whole (by simp [encI_len])] at hst
        go_upto_region 10 with fail
        have HBX := Lib.hid (setRow_heap (wr.alloc (.cells (Tab.encI zI).toArray 38 (0, 0))) wr.heap.size _ (Tab.encI x).toArray 38 (0, 0) (heap_alloc_new wr _))
        have hbx := Lib.hid (below_setRow ((Below.refl wr.heap.size wr).alloc (Nat.le_refl _) (.cells (Tab.encI zI).toArray 38 (0, 0))) (Nat.le_refl _) (Tab.encI x).toArray)
        clear hst hl1
        have HT := Lib.hid (HT.out.below hbx.out)
        have HD := Lib.hid (HD.out.below hbx.out)
        have hb := Lib.hid (hb.out.trans (hbx.out.mono hb.out.size))
        clear hbx
        generalize (World.alloc _ _).setRow _ _ = W5 at HBX HT HD hb ⊢
        generalize wr.heap.size = B9 at HBX ⊢
        have HX := Lib.hid (show IAt W5 B9 0 x from ⟨at_row HBX.out⟩)
        have c0 : Sem.run Tryz.prog (loadCellsFrom ⟨B9, 1, none⟩ 0 n18 #[]) W5 = .ok (encP x.rt.to).toArray W5 := HX.out.rt.to.all.load (k := n18) (encP_n _) Tryz.prog
        have HGE := Lib.hid (get_any x.rt.to W5 HT.out)
        obtain ⟨was, hwas⟩ : ∃ r, (get T x.rt.to).getD zR = r := ⟨_, rfl⟩
        have HWAS := Lib.hid hwas
        rw [hwas] at HGE
        clear hwas
        go_upto_region 11 with (go_at_call 7; (with_reducible refine (HGE.out).mono ?_); rintro e w6 ⟨rfl, h1⟩; clear c0; have HBX := Lib.hid ((h1.block B9 (blk_lt HBX.out)).trans HBX.out); have HT := Lib.hid (HT.out.below h1); have HD := Lib.hid (HD.out.below h1); have hb := Lib.hid (hb.out.trans (h1.mono hb.out.size)); clear h1; have hst := store_row (o := 0) (vs := encR was) (heap_alloc_new w6 (.cells (encR zR).toArray 36 (0, 0))) (by simp [encR_len]) (encR_one _) Tryz.prog; rw [splice_whole (by simp [encR_len])] at hst)
        have HTL6 := Lib.hid (show b8 < w6.heap.size ∧ ∀ k, v.ownBlock = some k → k < w6.heap.size from ⟨blk_lt HT.out.blk, fun k e => (HT.out.own.lt k e).2⟩)
        clear hst HGE HX
        have HBW := Lib.hid (setRow_heap (w6.alloc (.cells (encR zR).toArray 36 (0, 0))) w6.heap.size _ (encR was).toArray 36 (0, 0) (heap_alloc_new w6 _))
        have hbx := Lib.hid (below_setRow ((Below.refl w6.heap.size w6).alloc (Nat.le_refl _) (.cells (encR zR).toArray 36 (0, 0))) (Nat.le_refl _) (encR was).toArray)
        have HBX := Lib.hid ((hbx.out.block B9 (blk_lt HBX.out)).trans HBX.out)
        have HT := Lib.hid (HT.out.below hbx.out)
        have HD := Lib.hid (HD.out.below hbx.out)
        have hb := Lib.hid (hb.out.trans (hbx.out.mono hb.out.size))
        clear hbx
        have HNB := Lib.hid (show ∀ k, (k = b8 ∨ v.ownBlock = some k) → k < w6.heap.size from fun k e => by
          rcases e with rfl | e
          · exact HTL6.out.1
          · exact HTL6.out.2 k e)
        generalize (World.alloc _ _).setRow _ _ = W7 at HBW HBX HT HD hb ⊢
        generalize w6.heap.size = B10 at HBW HNB ⊢
        have c1 : Sem.run Tryz.prog (loadCellsFrom ⟨B9, 0, none⟩ 0 n21 #[]) W7 = .ok (Tab.encI x).toArray W7 := (at_row HBX.out).load (k := n21) (encI_n _) Tryz.prog
        have HDO := Lib.hid (do_any x W7 HT.out)
        have HTK := Lib.hid HT.out.tok
        obtain ⟨dc, hdc⟩ : ∃ c, doC T x = c := ⟨_, rfl⟩
        have HDC := Lib.hid hdc
        rw [hdc] at HDO
        clear hdc
        by_cases hdc : dc = 0
        · subst hdc
          have HMO := Lib.hid (do_more HTK.out HDC.out)
          rw [HWAS.out] at HMO
          go_upto_region 12 with (go_at_call 8; (with_reducible refine (HDO.out).mono ?_); rintro e w9 ⟨v9, rfl, h1, h2⟩; clear c1; have HBX := Lib.hid (row_tb HT.out HBX.out (by decide) (by decide) h2); have HBW := Lib.hid (h2.obj HBW.out (fun e => by have := HNB.out _ e; omega)); have HD := Lib.hid (drw_tb HT.out HD.out h2); have hb := Lib.hid (hb.out.trans (tb_bel HT.out h2)); have HT := Lib.hid h1; clear h1 h2)
          have c1 : Sem.run Tryz.prog (loadCellsFrom ⟨B9, 0, none⟩ 0 n21 #[]) w9 = .ok (Tab.encI x).toArray w9 := (at_row HBX.out).load (k := n21) (encI_n _) Tryz.prog
          have c2 : Sem.run Tryz.prog (loadCellsFrom ⟨B10, 0, none⟩ 0 n20 #[]) w9 = .ok (encR was).toArray w9 := (at_row HBW.out).load (k := n20) (encR_n _) Tryz.prog
          have HMG := Lib.hid (more_go (some ⟨g, 0, none⟩) c D x was w9 HD.out.rd HMO.out.1)
          go_upto_region 13 with (go_at_call 9; (with_reducible refine (HMG.out).mono ?_); rintro e w10 ⟨g10, c10, rfl, _, h2, hb2⟩; clear c1 c2; have HD := Lib.hid h2; have HT := Lib.hid (HT.out.below hb2); have hb := Lib.hid (hb.out.trans (hb2.mono hb.out.size)); clear h2 hb2)
          have HNX := Lib.hid (HMO.out.2 D HEQ.out)
          generalize moreD D x was = D2 at HD HNX
          generalize doT T x = T2 at HT HNX
          have HTL := Lib.hid HT.out.tok.len
          have HAL := Lib.hid (all_any w10 HT.out)
          have HSM := Lib.hid (smd_of HNX.out)
          clear HMO HMG HBX HBW
          go_wp2_with (first
            | (go_at_call 12; (with_reducible refine (HAL.out).mono ?_); rintro e w11 ⟨v11, rfl, h1, h2⟩; obtain ⟨A11, c11, hv11, _⟩ := own_rv h1; obtain rfl := hv11.eq; have HR11 := Lib.hid hv11.rd; have HD := Lib.hid (HD.out.below h2); have HT := Lib.hid (HT.out.below h2); have hb := Lib.hid (hb.out.trans (h2.mono hb.out.size)); have HRA := Lib.hid (refAll_any A11 c11 T2 (by have := HTL.out; omega) w11 HR11.out); clear h1 h2 hv11)
            | (go_at_call 11; (with_reducible refine (HRA.out).mono ?_); rintro e w12 ⟨⟨g12, rfl, _, h1⟩, h2⟩; have HD := Lib.hid (HD.out.below h2); have HT := Lib.hid (HT.out.below h2); have hb := Lib.hid (hb.out.trans (h2.mono hb.out.size)); have HSD := Lib.hid (same_dig (some ⟨g10, 0, none⟩) (some ⟨g12, 0, none⟩) 17 17 c10 17 D2 (dgs T2) (by decide) w12 HD.out.rd h1); rw [HSM.out] at HSD; clear h1 h2)
            | (go_at_call 10; (with_reducible refine (HSD.out).mono ?_); rintro e w13 ⟨rfl, h2⟩; have HD := Lib.hid (HD.out.below h2); have HT := Lib.hid (HT.out.below h2); have hb := Lib.hid (hb.out.trans (h2.mono hb.out.size)); clear h2))
          go_roundw
          case rel => exact ⟨i + 1, g10, c10, v9, T2, D2, by omega, by go_num, rfl, HT.out, HD.out, HNX.out, hb.out⟩
          case measure => simp [intOf]; omega
        · have hdc1 : (dc == 0) = false := by simpa using hdc
          have hdc2 : decide (dc = 0) = false := decide_eq_false hdc
          have hdc3 : (dc != 0) = true := by simpa using hdc
          have HTE := Lib.hid (show doT T x = T from do_no (by rw [HDC.out]; exact hdc))
          rw [HTE.out] at HDO
          go_wp2_with (go_at_call 8; (with_reducible refine (HDO.out).mono ?_); rintro e w9 ⟨v9, rfl, h1, h2⟩; clear c1; have HD := Lib.hid (drw_tb HT.out HD.out h2); have hb := Lib.hid (hb.out.trans (tb_bel HT.out h2)); have HT := Lib.hid h1; clear h1 h2)
          go_roundw
          case rel => exact ⟨i + 1, g, c, v9, T, D, by omega, by go_num, rfl, HT.out, HD.out, HEQ.out, hb.out⟩
          case measure => simp [intOf]; omega
      · have hin : ¬ (i : Int) < (m : Int) := by omega
        go_wp2
        go_ret
        exact ⟨rfl, hb.out⟩
  · have hca' : (ca == 0) = false := by simpa using hca
    have hca2 : decide (¬ ca = 0) = true := decide_eq_true hca
    have hca3 : (ca != 0) = true := by simpa using hca
    go_enter Tryz.func3, Tryz.ntmps3
    go_wp2_with (first
      | (go_at_call 4; (with_reducible refine (Dig.awake_any _).mono ?_); rintro e w1 ⟨rfl, h1⟩; have hb := Lib.hid (hb.out.trans (h1.mono hb.out.size)); clear h1)
      | (refine wpList_row_run (o := ⟨some 26, .buildSlice 22 0 #[], _, _, _, _⟩) rfl 22 0 #[] rfl #[] (by simp) (row_R0 _) ?_)
      | (refine wpList_appR rfl (.tmp 26) (.tmp 27) rfl _ [] L A n cap HN.out rfl rfl (gr_zero w1) ((HR.out.below hb.out).below ((Below.refl _ _).alloc (Nat.le_refl _) _)) HNI.out (by have := HN.out; simp; omega) ?_; rintro v7 w7 h7 _; rw [List.nil_append] at h7; have hb := Lib.hid (hb.out.trans (h7.bel.mono hb.out.size)); obtain ⟨A7, c7, hv7⟩ := h7.rv; obtain rfl := hv7.eq; have HNW := Lib.hid (new_any A7 c7 L (by have := HN.out; omega) w7 hv7); clear h7 hv7)
      | (go_at_call 5; (with_reducible refine (HNW.out).mono ?_); rintro e w8 ⟨h8, h9⟩; have h10 := made_no h8 HCA.out hca; subst h10; have hb := Lib.hid (hb.out.trans (h9.mono hb.out.size)); clear h8 h9))
    go_ret
    exact ⟨rfl, hb.out⟩
end Go.Proofs.YtdcbbjlbfghpbaaGreat.DigestFollows
