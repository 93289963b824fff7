/-
  DigestTells: the walk. Conditions: none.
-/
import Derived.Test.YtdcbbjlbfghpbaaDk
import Derived.Test.YtdcbbjlbfghpbaaDn
import Derived.Test.YtdcbbjlbfghpbaaDi
namespace Go.Proofs.Ytdcbbjlbfghpbaa.DigestTells
open Go Go.RowKit H2 Tab Dig
set_option linter.unusedVariables false
set_option linter.unusedSimpArgs false
theorem same_true (A B : Option Addr) (n c c' : Nat) (L : List Rt) (hn : L.length = n) (hl : n ≤ 1000) (w : World) (ha : Rd w A L) (hb : Rd w B L) : Calls Try.prog 20 #[.slice A n c, .slice B n c'] w fun e w' => e = .returned (.bool true) ∧ Below w.heap.size w w' := by
  subst hn
  exact (refSame_any A B c c' L L (by omega) (by omega) w ha hb).mono fun e w' ⟨h1, h2⟩ => ⟨by rw [h1]; simp, h2⟩
theorem repd_rp {w w' : World} {T M : List Rt} {c : Int} {e : Ending} (h : Repd w w' T c M e) : (rpC T c M ≠ 0 ∧ e = .returned (.tuple #[.pointer none, .int .i64 (rpC T c M)])) ∨ (rpC T c M = 0 ∧ ∃ b v, e = .returned (.tuple #[.pointer (some ⟨b, 0, none⟩), .int .i64 0]) ∧ Tb w.heap.size w' b v (rpT T c M)) := by
  rcases h with ⟨h1, h2⟩ | ⟨h1, h2, h3⟩ | ⟨h1, h2, h3⟩
  · have e1 : rpC T c M = 2 := if_neg h1
    exact .inl ⟨by rw [e1]; decide, by rw [e1]; exact h2⟩
  · have e1 : rpC T c M = 1 := (if_pos h1).trans (if_pos h2)
    exact .inl ⟨by rw [e1]; decide, by rw [e1]; exact h3⟩
  · have h2' : ¬ M.any (fun r => !inK c r) = true := by rw [h2]; decide
    have e1 : rpC T c M = newC (rpL T c M) := (if_pos h1).trans (if_neg h2')
    have e2 : rpT T c M = newT (rpL T c M) := (if_pos h1).trans (if_neg h2')
    rcases h3 with ⟨h4, h5⟩ | ⟨h4, b, v, h5, h6⟩
    · exact .inl ⟨by rw [e1]; exact h4, by rw [e1]; exact h5⟩
    · exact .inr ⟨by rw [e1]; exact h4, b, v, h5, by rw [e2, newT_zero (L := rpL T c M) h4]; exact h6⟩
set_option maxRecDepth 100000 in
set_option maxHeartbeats 40000000 in
theorem walk (v0 : Value) (c : Int) (v2 : Value) (W : World) (w0 : Tab.IsRs W v0) (w1 : (Lit.int .i64 c).wf = true) (w2 : Tab.IsRs W v2) : Calls Try.prog 3 #[v0, .int .i64 c, v2] W fun e w' => e = .returned (.bool true) ∧ Below W.heap.size W w' := by
  clear w1
  obtain ⟨A, cap, L, rfl, hl, hr⟩ := w0
  obtain ⟨A', cap', M, rfl, hl', hr'⟩ := w2
  have HR := Lib.hid hr
  have HR' := Lib.hid hr'
  obtain ⟨n, hn⟩ : ∃ n, L.length = n := ⟨_, rfl⟩
  obtain ⟨m, hm⟩ : ∃ n, M.length = n := ⟨_, rfl⟩
  have HN := Lib.hid hn
  have HM := Lib.hid hm
  rw [hn] at hl ⊢
  rw [hm] at hl' ⊢
  unfold maxLen at hl hl'
  have hl := Nat.le_trans hl.1 hl.2
  have hl' := Nat.le_trans hl'.1 hl'.2
  clear hr hr' hn hm
  have n0 : (0 : Int) ≤ (n : Int) := by omega
  have m0 : (0 : Int) ≤ (m : Int) := by omega
  have hb := Lib.hid (Below.refl W.heap.size W)
  by_cases hbig : (300 : Int) < (n : Int)
  · have hbd : decide ((300 : Int) < (n : Int)) = true := decide_eq_true hbig
    go_enter Try.func3, Try.ntmps3
    go_wp2_with (first
      | (go_at_call 8; (with_reducible refine (Dig.awake_any _).mono ?_); rintro e w1 ⟨rfl, h1⟩; have hb := Lib.hid (hb.out.trans (h1.mono hb.out.size)); clear h1))
    go_ret
    exact ⟨rfl, hb.out⟩
  have hbd : decide ((300 : Int) < (n : Int)) = false := decide_eq_false hbig
  by_cases hbig' : (300 : Int) < (m : Int)
  · have hbd' : decide ((300 : Int) < (m : Int)) = true := decide_eq_true hbig'
    go_enter Try.func3, Try.ntmps3
    go_wp2_with (first
      | (go_at_call 8; (with_reducible refine (Dig.awake_any _).mono ?_); rintro e w1 ⟨rfl, h1⟩; have hb := Lib.hid (hb.out.trans (h1.mono hb.out.size)); clear h1))
    go_ret
    exact ⟨rfl, hb.out⟩
  have hbd' : decide ((300 : Int) < (m : Int)) = false := decide_eq_false hbig'
  have hn3 : n ≤ 300 := by omega
  have hm3 : m ≤ 300 := by omega
  have HNI := Lib.hid (Dig.rd_nil HR.out)
  have HNI' := Lib.hid (Dig.rd_nil HR'.out)
  obtain ⟨ca, hca⟩ : ∃ c, newC L = c := ⟨_, rfl⟩
  have HCA := Lib.hid hca
  clear hca
  by_cases hca : ca = 0
  · subst hca
    obtain ⟨T, hT⟩ : ∃ T, fold L = T := ⟨_, rfl⟩
    have HTF := Lib.hid hT
    clear hT
    go_enter Try.func3, Try.ntmps3
    go_upto_region 6 with (first
      | (go_at_call 8; (with_reducible refine (Dig.awake_any _).mono ?_); rintro e w1 ⟨rfl, h1⟩; have hb := Lib.hid (hb.out.trans (h1.mono hb.out.size)); clear h1)
      | (refine wpList_row_run (o := ⟨some 30, .buildSlice 22 0 #[], _, _, _, _⟩) rfl 22 0 #[] rfl #[] (by simp) (row_R0 _) ?_)
      | (refine wpList_appR rfl (.tmp 30) (.tmp 31) rfl _ [] L A n cap HN.out rfl rfl (gr_zero w1) ((HR.out.below hb.out).below ((Below.refl _ _).alloc (Nat.le_refl _) _)) HNI.out (by have := HN.out; simp; omega) ?_; rintro v7 w7 h7 _; rw [List.nil_append] at h7; have hb := Lib.hid (hb.out.trans (h7.bel.mono hb.out.size)); obtain ⟨A7, c7, hv7⟩ := h7.rv; obtain rfl := hv7.eq; have HNW := Lib.hid (new_any A7 c7 L (by have := HN.out; omega) w7 hv7); clear h7 hv7)
      | (go_at_call 9; (with_reducible refine (HNW.out).mono ?_); rintro e w8 ⟨h8, h9⟩; obtain ⟨b8, v8, h10, h11⟩ := made_ok h8 HCA.out HTF.out; subst h10; have HT8 := Lib.hid h11; clear h11; have hb := Lib.hid (hb.out.trans (h9.mono hb.out.size)); clear h8 h9))
    clear HNW
    have HTL := Lib.hid HT8.out.tok.len
    go_upto_region 7 with (go_at_call 10; (with_reducible refine (all_any _ HT8.out).mono ?_); rintro e w9 ⟨v9, rfl, h1, h2⟩; obtain ⟨A9, c9, hv9, _⟩ := own_rv h1; obtain rfl := hv9.eq; have HR9 := Lib.hid hv9.rd; have HT9 := Lib.hid (HT8.out.below h2); have hb := Lib.hid (hb.out.trans (h2.mono hb.out.size)); clear h1 h2 hv9)
    clear HT8
    obtain ⟨t, ht⟩ : ∃ t, T.length = t := ⟨_, rfl⟩
    have HTN := Lib.hid ht
    rw [ht] at HTL ⊢
    clear ht
    obtain ⟨K, hK⟩ : ∃ K, rpC T c M = K := ⟨_, rfl⟩
    have HK := Lib.hid hK
    clear hK
    by_cases hK0 : K = 0
    · subst hK0
      go_upto_region 8 with (first
        | (refine wpList_row_run (o := ⟨some 43, .buildSlice 22 0 #[], _, _, _, _⟩) rfl 22 0 #[] rfl #[] (by simp) (row_R0 _) ?_)
        | (refine wpList_appR rfl (.tmp 43) (.tmp 44) rfl _ [] M A' m cap' HM.out rfl rfl (gr_zero w9) ((HR'.out.below hb.out).below ((Below.refl _ _).alloc (Nat.le_refl _) _)) HNI'.out (by have := HM.out; simp; omega) ?_; rintro v10 w10 h7 _; rw [List.nil_append] at h7; have HB10 := Lib.hid h7.bel; obtain ⟨A10, c10, hv10⟩ := h7.rv; obtain rfl := hv10.eq; have HRP := Lib.hid (repl_any c A10 c10 M (by have := HM.out; omega) w10 (HT9.out.below HB10.out) hv10.rd (Dig.rd_nil hv10.rd)); clear h7 hv10)
        | (go_at_call 11; (with_reducible refine (HRP.out).mono ?_); rintro e w11 ⟨h8, h9⟩; have HB11 := Lib.hid (HB10.out.trans (h9.mono HB10.out.size)); have HS10 := Lib.hid HB10.out.size; obtain ⟨_, b11, v11, h10, h11⟩ := (repd_rp h8).resolve_left (fun h => h.1 HK.out); subst h10; have HU := Lib.hid h11; clear h11; clear h8 h9))
      clear HRP HB10
      have hb := Lib.hid (hb.out.trans (HB11.out.mono hb.out.size))
      have HT := Lib.hid (HT9.out.below HB11.out)
      have HRL := Lib.hid (HR9.out.below HB11.out)
      have HRR := Lib.hid (refRepl_any A9 A' c9 cap' T M (by have := HTN.out; have := HTL.out; omega) (by have := HM.out; omega) c w11 HRL.out (HR'.out.below hb.out) HNI'.out)
      rw [HTN.out, HM.out, HK.out] at HRR
      go_upto_region 9 with (go_at_call 12; (with_reducible refine (HRR.out).mono ?_); rintro e w12 ⟨⟨v12, A12, c12, rfl, h1⟩, h2⟩; obtain rfl := h1.eq; have HR12 := Lib.hid h1.rd; have HU := Lib.hid (HU.out.below h2); have HT := Lib.hid (HT.out.below h2); have HRL := Lib.hid (HRL.out.below h2); have hb := Lib.hid (hb.out.trans (h2.mono hb.out.size)); clear h1 h2)
      clear HRR
      have HAU := Lib.hid (fun (V : World) (hb : Below w12.heap.size w12 V) => all_any V (HU.out.below hb))
      have HUL := Lib.hid HU.out.tok.len
      clear HU
      have HPT := Lib.hid (fun (V : World) (hb : Below w12.heap.size w12 V) => digPart_any c V (HT.out.below hb))
      have HPR := Lib.hid (fun (V : World) (hb : Below w12.heap.size w12 V) => refPart_any A9 c9 T (by have := HTN.out; have := HTL.out; omega) c V (HRL.out.below hb))
      have HDA := Lib.hid (fun (V : World) (hb : Below w12.heap.size w12 V) => digAll_any V (HT.out.below hb))
      have HRA := Lib.hid (fun (V : World) (hb : Below w12.heap.size w12 V) => refAll_any A9 c9 T (by have := HTN.out; have := HTL.out; omega) V (HRL.out.below hb))
      have HAT := Lib.hid (fun (V : World) (hb : Below w12.heap.size w12 V) => all_any V (HT.out.below hb))
      have HSD := Lib.hid (fun (V : World) (g g' : Nat) (h : RdG V (some ⟨g, 0, none⟩) 17 (dgs T)) (h' : RdG V (some ⟨g', 0, none⟩) 17 (dgs T)) => same_dig (some ⟨g, 0, none⟩) (some ⟨g', 0, none⟩) 17 17 17 17 (dgs T) (dgs T) (by decide) V h h')
      rw [sS] at HSD
      rw [HTN.out] at HPR HRA
      have HSL := Lib.hid (fun (V : World) (hb : Below w12.heap.size w12 V) => HRL.out.below hb)
      have HS12 := Lib.hid (fun (V : World) (hb : Below w12.heap.size w12 V) => HR12.out.below hb)
      skip
      go_wp2
      go_loopw [58] (fun s58 wr => ∃ i : Nat, i ≤ n ∧ s58 = .int .i64 i ∧ Below w12.heap.size w12 wr) (fun s58 _ => n - (intOf s58).toNat)
      case atStart => exact ⟨0, by omega, rfl, Below.refl _ _⟩
      case round =>
        obtain ⟨i, hi, rfl, hbb⟩ := hrel
        have HB := Lib.hid hbb
        clear hbb
        rename World => wq
        by_cases hil : i < n
        · have hil' : (i : Int) < (n : Int) := by omega
          have i0 : (0 : Int) ≤ (i : Int) := by omega
          have hip : i < L.length := by rw [HN.out]; exact hil
          obtain ⟨g2, o, rfl, hx⟩ := HR.out i hip
          have HX := Lib.hid ((hx.below hb.out).below HB.out)
          clear hx
          generalize L[i] = x at HX
          have hl1 : Sem.run Try.prog (loadCellsFrom ⟨g2, o + i * n20, none⟩ 0 n20 #[]) wq = .ok (encR x).toArray wq := HX.out.all.load (k := n20) (encR_n _) Try.prog
          have hst := store_row (o := 0) (vs := encR x) (heap_alloc_new wq (.cells (encR zR).toArray 37 (0, 0))) (by simp [encR_len]) (encR_one _) Try.prog
          rw [splice_whole (by simp [encR_len])] at hst
          go_upto_region 12 with fail
          have HBX := Lib.hid (setRow_heap (wq.alloc (.cells (encR zR).toArray 37 (0, 0))) wq.heap.size _ (encR x).toArray 37 (0, 0) (heap_alloc_new wq _))
          have hbx := Lib.hid (below_setRow ((Below.refl wq.heap.size wq).alloc (Nat.le_refl _) (.cells (encR zR).toArray 37 (0, 0))) (Nat.le_refl _) (encR x).toArray)
          clear hst hl1 HX
          have HB := Lib.hid (HB.out.trans (hbx.out.mono HB.out.size))
          clear hbx
          generalize (World.alloc _ _).setRow _ _ = W5 at HBX HB ⊢
          generalize wq.heap.size = B5 at HBX ⊢
          have HX := Lib.hid (show RAt W5.drew B5 0 x from ⟨at_row HBX.out⟩)
          have HB := Lib.hid HB.out.drew
          clear HBX
          obtain ⟨m1, hm1⟩ : ∃ m, mk x = m := ⟨_, rfl⟩
          obtain ⟨q, hq⟩ : ∃ m, bk x.to = m := ⟨_, rfl⟩
          have HM1 := Lib.hid (fun V => mark_any x V)
          have HM2 := Lib.hid (fun V => refMark_any x V)
          have HQ1 := Lib.hid (fun V => bucket_any x.to V)
          have HQ2 := Lib.hid (fun V => refBucket_any x.to V)
          rw [hm1] at HM1 HM2
          rw [hq] at HQ1 HQ2
          clear hm1 hq
          refine wp_region_held_drew (S := (fun w' => RAt w' B5 0 x)) (by kernel_rfl) HX.out (fun _ => ?_)
          refine held_take 0 62 (v := ?_) rfl rfl (by kernel_rfl) (by kernel_rfl) (by kernel_rfl) (fun _ _ _ h => h) (by rfl) ?_ HX.out ?_
          rotate_left
          · (intro w hSw; (try dsimp only at hSw); have a0 := hSw.all.load (k := n20) (encR_n _) Try.prog; have a1 := hSw.to.all.load (k := n18) (encP_n _) Try.prog; clear hSw;try simp only [List.getElem_toArray, List.getElem_cons_zero, List.getElem_cons_succ]; go_simp; try (with_reducible rfl))
          try simp only [List.setIfInBounds_toArray, List.set_cons_zero, List.set_cons_succ]
          refine held_take 2 64 (v := ?_) rfl rfl (by kernel_rfl) (by kernel_rfl) (by kernel_rfl) (fun _ _ _ h => h) (by rfl) ?_ HX.out ?_
          rotate_left
          · (intro w hSw; (try dsimp only at hSw); have a0 := hSw.all.load (k := n20) (encR_n _) Try.prog; have a1 := hSw.to.all.load (k := n18) (encP_n _) Try.prog; clear hSw;try simp only [List.getElem_toArray, List.getElem_cons_zero, List.getElem_cons_succ]; go_simp; try (with_reducible rfl))
          try simp only [List.setIfInBounds_toArray, List.set_cons_zero, List.set_cons_succ]
          refine held_call 1 63 rfl rfl (by kernel_rfl) (by rfl) (fun K hK => ?_)
          try simp only [List.getElem_toArray, List.getElem_cons_zero, List.getElem_cons_succ]
          go_simp
          (go_at_call 13; (with_reducible refine (HM1.out _).mono ?_); rintro e w17 ⟨rfl, h1⟩; have HX := Lib.hid (HX.out.below h1); have HB := Lib.hid (HB.out.trans (h1.mono HB.out.size)); clear h1)
          try go_wp2_with fail
          try simp only [Act.put, List.setIfInBounds_toArray, List.set_cons_zero, List.set_cons_succ]
          refine hK.out _ _ _ HX.out ?_
          clear hK K
          refine held_call 3 65 rfl rfl (by kernel_rfl) (by rfl) (fun K hK => ?_)
          try simp only [List.getElem_toArray, List.getElem_cons_zero, List.getElem_cons_succ]
          go_simp
          (go_at_call 14; (with_reducible refine (HM2.out _).mono ?_); rintro e w18 ⟨rfl, h1⟩; have HX := Lib.hid (HX.out.below h1); have HB := Lib.hid (HB.out.trans (h1.mono HB.out.size)); clear h1)
          try go_wp2_with fail
          try simp only [Act.put, List.setIfInBounds_toArray, List.set_cons_zero, List.set_cons_succ]
          refine hK.out _ _ _ HX.out ?_
          clear hK K
          refine held_take 4 66 (v := ?_) rfl rfl (by kernel_rfl) (by kernel_rfl) (by kernel_rfl) (fun _ _ _ h => h) (by rfl) ?_ HX.out ?_
          rotate_left
          · (intro w hSw; (try dsimp only at hSw); have a0 := hSw.all.load (k := n20) (encR_n _) Try.prog; have a1 := hSw.to.all.load (k := n18) (encP_n _) Try.prog; clear hSw;try simp only [List.getElem_toArray, List.getElem_cons_zero, List.getElem_cons_succ]; go_simp; try (with_reducible rfl))
          try simp only [List.setIfInBounds_toArray, List.set_cons_zero, List.set_cons_succ]
          refine held_take 5 67 (v := ?_) rfl rfl (by kernel_rfl) (by kernel_rfl) (by kernel_rfl) (fun _ _ _ h => h) (by rfl) ?_ HX.out ?_
          rotate_left
          · (intro w hSw; (try dsimp only at hSw); have a0 := hSw.all.load (k := n20) (encR_n _) Try.prog; have a1 := hSw.to.all.load (k := n18) (encP_n _) Try.prog; clear hSw;try simp only [List.getElem_toArray, List.getElem_cons_zero, List.getElem_cons_succ]; go_simp; try (with_reducible rfl))
          try simp only [List.setIfInBounds_toArray, List.set_cons_zero, List.set_cons_succ]
          refine held_take 6 68 (v := ?_) rfl rfl (by kernel_rfl) (by kernel_rfl) (by kernel_rfl) (fun _ _ _ h => h) (by rfl) ?_ HX.out ?_
          rotate_left
          · (intro w hSw; (try dsimp only at hSw); have a0 := hSw.all.load (k := n20) (encR_n _) Try.prog; have a1 := hSw.to.all.load (k := n18) (encP_n _) Try.prog; clear hSw;try simp only [List.getElem_toArray, List.getElem_cons_zero, List.getElem_cons_succ]; go_simp; try (with_reducible rfl))
          try simp only [List.setIfInBounds_toArray, List.set_cons_zero, List.set_cons_succ]
          refine held_take 7 69 (v := ?_) rfl rfl (by kernel_rfl) (by kernel_rfl) (by kernel_rfl) (fun _ _ _ h => h) (by rfl) ?_ HX.out ?_
          rotate_left
          · (intro w hSw; (try dsimp only at hSw); have a0 := hSw.all.load (k := n20) (encR_n _) Try.prog; have a1 := hSw.to.all.load (k := n18) (encP_n _) Try.prog; clear hSw;try simp only [List.getElem_toArray, List.getElem_cons_zero, List.getElem_cons_succ]; go_simp; try (with_reducible rfl))
          try simp only [List.setIfInBounds_toArray, List.set_cons_zero, List.set_cons_succ]
          refine held_take 9 71 (v := ?_) rfl rfl (by kernel_rfl) (by kernel_rfl) (by kernel_rfl) (fun _ _ _ h => h) (by rfl) ?_ HX.out ?_
          rotate_left
          · (intro w hSw; (try dsimp only at hSw); have a0 := hSw.all.load (k := n20) (encR_n _) Try.prog; have a1 := hSw.to.all.load (k := n18) (encP_n _) Try.prog; clear hSw;try simp only [List.getElem_toArray, List.getElem_cons_zero, List.getElem_cons_succ]; go_simp; try (with_reducible rfl))
          try simp only [List.setIfInBounds_toArray, List.set_cons_zero, List.set_cons_succ]
          refine held_take 10 72 (v := ?_) rfl rfl (by kernel_rfl) (by kernel_rfl) (by kernel_rfl) (fun _ _ _ h => h) (by rfl) ?_ HX.out ?_
          rotate_left
          · (intro w hSw; (try dsimp only at hSw); have a0 := hSw.all.load (k := n20) (encR_n _) Try.prog; have a1 := hSw.to.all.load (k := n18) (encP_n _) Try.prog; clear hSw;try simp only [List.getElem_toArray, List.getElem_cons_zero, List.getElem_cons_succ]; go_simp; try (with_reducible rfl))
          try simp only [List.setIfInBounds_toArray, List.set_cons_zero, List.set_cons_succ]
          refine held_call 8 70 rfl rfl (by kernel_rfl) (by rfl) (fun K hK => ?_)
          try simp only [List.getElem_toArray, List.getElem_cons_zero, List.getElem_cons_succ]
          go_simp
          (go_at_call 15; (with_reducible refine (HQ1.out _).mono ?_); rintro e w19 ⟨rfl, h1⟩; have HX := Lib.hid (HX.out.below h1); have HB := Lib.hid (HB.out.trans (h1.mono HB.out.size)); clear h1)
          try go_wp2_with fail
          try simp only [Act.put, List.setIfInBounds_toArray, List.set_cons_zero, List.set_cons_succ]
          refine hK.out _ _ _ HX.out ?_
          clear hK K
          refine held_call 11 73 rfl rfl (by kernel_rfl) (by rfl) (fun K hK => ?_)
          try simp only [List.getElem_toArray, List.getElem_cons_zero, List.getElem_cons_succ]
          go_simp
          (go_at_call 16; (with_reducible refine (HQ2.out _).mono ?_); rintro e w20 ⟨rfl, h1⟩; have HX := Lib.hid (HX.out.below h1); have HB := Lib.hid (HB.out.trans (h1.mono HB.out.size)); clear h1)
          try go_wp2_with fail
          try simp only [Act.put, List.setIfInBounds_toArray, List.set_cons_zero, List.set_cons_succ]
          refine hK.out _ _ _ HX.out ?_
          clear hK K
          refine held_take 12 74 (v := ?_) rfl rfl (by kernel_rfl) (by kernel_rfl) (by kernel_rfl) (fun _ _ _ h => h) (by rfl) ?_ HX.out ?_
          rotate_left
          · (intro w hSw; (try dsimp only at hSw); have a0 := hSw.all.load (k := n20) (encR_n _) Try.prog; have a1 := hSw.to.all.load (k := n18) (encP_n _) Try.prog; clear hSw;try simp only [List.getElem_toArray, List.getElem_cons_zero, List.getElem_cons_succ]; go_simp; try (with_reducible rfl))
          try simp only [List.setIfInBounds_toArray, List.set_cons_zero, List.set_cons_succ]
          refine held_take 13 75 (v := ?_) rfl rfl (by kernel_rfl) (by kernel_rfl) (by kernel_rfl) (fun _ _ _ h => h) (by rfl) ?_ HX.out ?_
          rotate_left
          · (intro w hSw; (try dsimp only at hSw); have a0 := hSw.all.load (k := n20) (encR_n _) Try.prog; have a1 := hSw.to.all.load (k := n18) (encP_n _) Try.prog; clear hSw;try simp only [List.getElem_toArray, List.getElem_cons_zero, List.getElem_cons_succ]; go_simp; try (with_reducible rfl))
          try simp only [List.setIfInBounds_toArray, List.set_cons_zero, List.set_cons_succ]
          refine wpAnyH_done (by kernel_rfl) ?_ _
          go_wp2
          go_roundw
          case rel => exact ⟨i + 1, by omega, by go_num, HB.out⟩
          case measure => simp [intOf]; omega
        · have hin : ¬ (i : Int) < (n : Int) := by omega
          clear HN HM HR HR' HT HRL HR12
          go_wp2_with (first
            | (go_at_call 18; (with_reducible refine (HDA.out _ HB.out).mono ?_); rintro e w21 ⟨⟨g21, rfl, _, h1⟩, h2⟩; have HD21 := Lib.hid h1; have HB := Lib.hid (HB.out.trans (h2.mono HB.out.size)); clear h1 h2)
            | (go_at_call 19; (with_reducible refine (HRA.out _ HB.out).mono ?_); rintro e w22 ⟨⟨g22, rfl, _, h1⟩, h2⟩; have HD22 := Lib.hid h1; have HD21 := Lib.hid (HD21.out.below h2).rd; have HB := Lib.hid (HB.out.trans (h2.mono HB.out.size)); clear h1 h2)
            | (go_at_call 17; (with_reducible refine (HSD.out _ _ _ HD21.out HD22.out).mono ?_); rintro e w23 ⟨rfl, h2⟩; have HB := Lib.hid (HB.out.trans (h2.mono HB.out.size)); clear h2)
            | (go_at_call 21; (with_reducible refine (HPT.out _ HB.out).mono ?_); rintro e w24 ⟨v24, rfl, h1, h2⟩; obtain ⟨A24, c24, hv24, _⟩ := own_rv h1; obtain rfl := hv24.eq; have HR24 := Lib.hid hv24.rd; have HB := Lib.hid (HB.out.trans (h2.mono HB.out.size)); clear h1 h2 hv24)
            | (go_at_call 22; (with_reducible refine (HPR.out _ HB.out).mono ?_); rintro e w25 ⟨⟨v25, A25, c25, rfl, h1⟩, h2⟩; obtain rfl := h1.eq; have HSP := Lib.hid (same_true A24 A25 _ c24 c25 _ rfl (Nat.le_trans (List.length_filter_le _ _) (by have := HTN.out; have := HTL.out; omega)) w25 (HR24.out.below h2) h1.rd); have HB := Lib.hid (HB.out.trans (h2.mono HB.out.size)); clear h1 h2)
            | (go_at_call 20; (with_reducible refine (HSP.out).mono ?_); rintro e w26 ⟨rfl, h2⟩; clear HSP; have HB := Lib.hid (HB.out.trans (h2.mono HB.out.size)); clear h2)
            | (go_at_call 10; (with_reducible refine (HAU.out _ HB.out).mono ?_); rintro e w27 ⟨v27, rfl, h1, h2⟩; obtain ⟨A27, c27, hv27, _⟩ := own_rv h1; obtain rfl := hv27.eq; have HB := Lib.hid (HB.out.trans (h2.mono HB.out.size)); have HSU := Lib.hid (same_true A27 A12 _ c27 c12 _ rfl (by have := HUL.out; omega) w27 hv27.rd (HS12.out _ HB.out)); clear h1 h2 hv27) | (go_at_call 20; (with_reducible refine (HSU.out).mono ?_); rintro e w30 ⟨rfl, h2⟩; clear HSU; have HB := Lib.hid (HB.out.trans (h2.mono HB.out.size)); clear h2)
            | (go_at_call 10; (with_reducible refine (HAT.out _ HB.out).mono ?_); rintro e w28 ⟨v28, rfl, h1, h2⟩; obtain ⟨A28, c28, hv28, _⟩ := own_rv h1; obtain rfl := hv28.eq; have HB := Lib.hid (HB.out.trans (h2.mono HB.out.size)); have HSQ := Lib.hid (same_true A28 A9 t c28 c9 T HTN.out (by have := HTL.out; omega) w28 hv28.rd (HSL.out _ HB.out)); rw [HTN.out]; clear h1 h2 hv28)
            | (go_at_call 20; (with_reducible refine (HSQ.out).mono ?_); rintro e w29 ⟨rfl, h2⟩; have HB := Lib.hid (HB.out.trans (h2.mono HB.out.size)); clear h2))
          go_ret
          exact ⟨rfl, hb.out.trans (HB.out.mono hb.out.size)⟩
    · have hK1 : ¬ (K : Int) = 0 := hK0
      have hK2 : (K == 0) = false := by simpa using hK0
      have hK3 : decide (K = 0) = false := decide_eq_false hK0
      go_upto_region 8 with (first
        | (refine wpList_row_run (o := ⟨some 43, .buildSlice 22 0 #[], _, _, _, _⟩) rfl 22 0 #[] rfl #[] (by simp) (row_R0 _) ?_)
        | (refine wpList_appR rfl (.tmp 43) (.tmp 44) rfl _ [] M A' m cap' HM.out rfl rfl (gr_zero w9) ((HR'.out.below hb.out).below ((Below.refl _ _).alloc (Nat.le_refl _) _)) HNI'.out (by have := HM.out; simp; omega) ?_; rintro v10 w10 h7 _; rw [List.nil_append] at h7; have HB10 := Lib.hid h7.bel; obtain ⟨A10, c10, hv10⟩ := h7.rv; obtain rfl := hv10.eq; have HRP := Lib.hid (repl_any c A10 c10 M (by have := HM.out; omega) w10 (HT9.out.below HB10.out) hv10.rd (Dig.rd_nil hv10.rd)); clear h7 hv10)
        | (go_at_call 11; (with_reducible refine (HRP.out).mono ?_); rintro e w11 ⟨h8, h9⟩; have HB11 := Lib.hid (HB10.out.trans (h9.mono HB10.out.size)); have HS10 := Lib.hid HB10.out.size; have h10 : e = .returned (.tuple #[.pointer none, .int .i64 K]) := (by rcases repd_rp h8 with ⟨_, h⟩ | ⟨h, _⟩; (rw [HK.out] at h; exact h); exact absurd (HK.out.symm.trans h) hK0); subst h10; clear h8 h9))
      clear HRP HB10
      have hb := Lib.hid (hb.out.trans (HB11.out.mono hb.out.size))
      have HT := Lib.hid (HT9.out.below HB11.out)
      have HRL := Lib.hid (HR9.out.below HB11.out)
      have HRR := Lib.hid (refRepl_any A9 A' c9 cap' T M (by have := HTN.out; have := HTL.out; omega) (by have := HM.out; omega) c w11 HRL.out (HR'.out.below hb.out) HNI'.out)
      rw [HTN.out, HM.out, HK.out] at HRR
      go_upto_region 9 with (go_at_call 12; (with_reducible refine (HRR.out).mono ?_); rintro e w12 ⟨⟨v12, A12, c12, rfl, h1⟩, h2⟩; obtain rfl := h1.eq; have HR12 := Lib.hid h1.rd;  have HT := Lib.hid (HT.out.below h2); have HRL := Lib.hid (HRL.out.below h2); have hb := Lib.hid (hb.out.trans (h2.mono hb.out.size)); clear h1 h2)
      clear HRR
      have HPT := Lib.hid (fun (V : World) (hb : Below w12.heap.size w12 V) => digPart_any c V (HT.out.below hb))
      have HPR := Lib.hid (fun (V : World) (hb : Below w12.heap.size w12 V) => refPart_any A9 c9 T (by have := HTN.out; have := HTL.out; omega) c V (HRL.out.below hb))
      have HDA := Lib.hid (fun (V : World) (hb : Below w12.heap.size w12 V) => digAll_any V (HT.out.below hb))
      have HRA := Lib.hid (fun (V : World) (hb : Below w12.heap.size w12 V) => refAll_any A9 c9 T (by have := HTN.out; have := HTL.out; omega) V (HRL.out.below hb))
      have HAT := Lib.hid (fun (V : World) (hb : Below w12.heap.size w12 V) => all_any V (HT.out.below hb))
      have HSD := Lib.hid (fun (V : World) (g g' : Nat) (h : RdG V (some ⟨g, 0, none⟩) 17 (dgs T)) (h' : RdG V (some ⟨g', 0, none⟩) 17 (dgs T)) => same_dig (some ⟨g, 0, none⟩) (some ⟨g', 0, none⟩) 17 17 17 17 (dgs T) (dgs T) (by decide) V h h')
      rw [sS] at HSD
      rw [HTN.out] at HPR HRA
      have HSL := Lib.hid (fun (V : World) (hb : Below w12.heap.size w12 V) => HRL.out.below hb)
      have HS12 := Lib.hid (fun (V : World) (hb : Below w12.heap.size w12 V) => HR12.out.below hb)
      skip
      go_wp2
      go_loopw [58] (fun s58 wr => ∃ i : Nat, i ≤ n ∧ s58 = .int .i64 i ∧ Below w12.heap.size w12 wr) (fun s58 _ => n - (intOf s58).toNat)
      case atStart => exact ⟨0, by omega, rfl, Below.refl _ _⟩
      case round =>
        obtain ⟨i, hi, rfl, hbb⟩ := hrel
        have HB := Lib.hid hbb
        clear hbb
        rename World => wq
        by_cases hil : i < n
        · have hil' : (i : Int) < (n : Int) := by omega
          have i0 : (0 : Int) ≤ (i : Int) := by omega
          have hip : i < L.length := by rw [HN.out]; exact hil
          obtain ⟨g2, o, rfl, hx⟩ := HR.out i hip
          have HX := Lib.hid ((hx.below hb.out).below HB.out)
          clear hx
          generalize L[i] = x at HX
          have hl1 : Sem.run Try.prog (loadCellsFrom ⟨g2, o + i * n20, none⟩ 0 n20 #[]) wq = .ok (encR x).toArray wq := HX.out.all.load (k := n20) (encR_n _) Try.prog
          have hst := store_row (o := 0) (vs := encR x) (heap_alloc_new wq (.cells (encR zR).toArray 37 (0, 0))) (by simp [encR_len]) (encR_one _) Try.prog
          rw [splice_whole (by simp [encR_len])] at hst
          go_upto_region 12 with fail
          have HBX := Lib.hid (setRow_heap (wq.alloc (.cells (encR zR).toArray 37 (0, 0))) wq.heap.size _ (encR x).toArray 37 (0, 0) (heap_alloc_new wq _))
          have hbx := Lib.hid (below_setRow ((Below.refl wq.heap.size wq).alloc (Nat.le_refl _) (.cells (encR zR).toArray 37 (0, 0))) (Nat.le_refl _) (encR x).toArray)
          clear hst hl1 HX
          have HB := Lib.hid (HB.out.trans (hbx.out.mono HB.out.size))
          clear hbx
          generalize (World.alloc _ _).setRow _ _ = W5 at HBX HB ⊢
          generalize wq.heap.size = B5 at HBX ⊢
          have HX := Lib.hid (show RAt W5.drew B5 0 x from ⟨at_row HBX.out⟩)
          have HB := Lib.hid HB.out.drew
          clear HBX
          obtain ⟨m1, hm1⟩ : ∃ m, mk x = m := ⟨_, rfl⟩
          obtain ⟨q, hq⟩ : ∃ m, bk x.to = m := ⟨_, rfl⟩
          have HM1 := Lib.hid (fun V => mark_any x V)
          have HM2 := Lib.hid (fun V => refMark_any x V)
          have HQ1 := Lib.hid (fun V => bucket_any x.to V)
          have HQ2 := Lib.hid (fun V => refBucket_any x.to V)
          rw [hm1] at HM1 HM2
          rw [hq] at HQ1 HQ2
          clear hm1 hq
          refine wp_region_held_drew (S := (fun w' => RAt w' B5 0 x)) (by kernel_rfl) HX.out (fun _ => ?_)
          refine held_take 0 62 (v := ?_) rfl rfl (by kernel_rfl) (by kernel_rfl) (by kernel_rfl) (fun _ _ _ h => h) (by rfl) ?_ HX.out ?_
          rotate_left
          · (intro w hSw; (try dsimp only at hSw); have a0 := hSw.all.load (k := n20) (encR_n _) Try.prog; have a1 := hSw.to.all.load (k := n18) (encP_n _) Try.prog; clear hSw;try simp only [List.getElem_toArray, List.getElem_cons_zero, List.getElem_cons_succ]; go_simp; try (with_reducible rfl))
          try simp only [List.setIfInBounds_toArray, List.set_cons_zero, List.set_cons_succ]
          refine held_take 2 64 (v := ?_) rfl rfl (by kernel_rfl) (by kernel_rfl) (by kernel_rfl) (fun _ _ _ h => h) (by rfl) ?_ HX.out ?_
          rotate_left
          · (intro w hSw; (try dsimp only at hSw); have a0 := hSw.all.load (k := n20) (encR_n _) Try.prog; have a1 := hSw.to.all.load (k := n18) (encP_n _) Try.prog; clear hSw;try simp only [List.getElem_toArray, List.getElem_cons_zero, List.getElem_cons_succ]; go_simp; try (with_reducible rfl))
          try simp only [List.setIfInBounds_toArray, List.set_cons_zero, List.set_cons_succ]
          refine held_call 1 63 rfl rfl (by kernel_rfl) (by rfl) (fun K hK => ?_)
          try simp only [List.getElem_toArray, List.getElem_cons_zero, List.getElem_cons_succ]
          go_simp
          (go_at_call 13; (with_reducible refine (HM1.out _).mono ?_); rintro e w17 ⟨rfl, h1⟩; have HX := Lib.hid (HX.out.below h1); have HB := Lib.hid (HB.out.trans (h1.mono HB.out.size)); clear h1)
          try go_wp2_with fail
          try simp only [Act.put, List.setIfInBounds_toArray, List.set_cons_zero, List.set_cons_succ]
          refine hK.out _ _ _ HX.out ?_
          clear hK K
          refine held_call 3 65 rfl rfl (by kernel_rfl) (by rfl) (fun K hK => ?_)
          try simp only [List.getElem_toArray, List.getElem_cons_zero, List.getElem_cons_succ]
          go_simp
          (go_at_call 14; (with_reducible refine (HM2.out _).mono ?_); rintro e w18 ⟨rfl, h1⟩; have HX := Lib.hid (HX.out.below h1); have HB := Lib.hid (HB.out.trans (h1.mono HB.out.size)); clear h1)
          try go_wp2_with fail
          try simp only [Act.put, List.setIfInBounds_toArray, List.set_cons_zero, List.set_cons_succ]
          refine hK.out _ _ _ HX.out ?_
          clear hK K
          refine held_take 4 66 (v := ?_) rfl rfl (by kernel_rfl) (by kernel_rfl) (by kernel_rfl) (fun _ _ _ h => h) (by rfl) ?_ HX.out ?_
          rotate_left
          · (intro w hSw; (try dsimp only at hSw); have a0 := hSw.all.load (k := n20) (encR_n _) Try.prog; have a1 := hSw.to.all.load (k := n18) (encP_n _) Try.prog; clear hSw;try simp only [List.getElem_toArray, List.getElem_cons_zero, List.getElem_cons_succ]; go_simp; try (with_reducible rfl))
          try simp only [List.setIfInBounds_toArray, List.set_cons_zero, List.set_cons_succ]
          refine held_take 5 67 (v := ?_) rfl rfl (by kernel_rfl) (by kernel_rfl) (by kernel_rfl) (fun _ _ _ h => h) (by rfl) ?_ HX.out ?_
          rotate_left
          · (intro w hSw; (try dsimp only at hSw); have a0 := hSw.all.load (k := n20) (encR_n _) Try.prog; have a1 := hSw.to.all.load (k := n18) (encP_n _) Try.prog; clear hSw;try simp only [List.getElem_toArray, List.getElem_cons_zero, List.getElem_cons_succ]; go_simp; try (with_reducible rfl))
          try simp only [List.setIfInBounds_toArray, List.set_cons_zero, List.set_cons_succ]
          refine held_take 6 68 (v := ?_) rfl rfl (by kernel_rfl) (by kernel_rfl) (by kernel_rfl) (fun _ _ _ h => h) (by rfl) ?_ HX.out ?_
          rotate_left
          · (intro w hSw; (try dsimp only at hSw); have a0 := hSw.all.load (k := n20) (encR_n _) Try.prog; have a1 := hSw.to.all.load (k := n18) (encP_n _) Try.prog; clear hSw;try simp only [List.getElem_toArray, List.getElem_cons_zero, List.getElem_cons_succ]; go_simp; try (with_reducible rfl))
          try simp only [List.setIfInBounds_toArray, List.set_cons_zero, List.set_cons_succ]
          refine held_take 7 69 (v := ?_) rfl rfl (by kernel_rfl) (by kernel_rfl) (by kernel_rfl) (fun _ _ _ h => h) (by rfl) ?_ HX.out ?_
          rotate_left
          · (intro w hSw; (try dsimp only at hSw); have a0 := hSw.all.load (k := n20) (encR_n _) Try.prog; have a1 := hSw.to.all.load (k := n18) (encP_n _) Try.prog; clear hSw;try simp only [List.getElem_toArray, List.getElem_cons_zero, List.getElem_cons_succ]; go_simp; try (with_reducible rfl))
          try simp only [List.setIfInBounds_toArray, List.set_cons_zero, List.set_cons_succ]
          refine held_take 9 71 (v := ?_) rfl rfl (by kernel_rfl) (by kernel_rfl) (by kernel_rfl) (fun _ _ _ h => h) (by rfl) ?_ HX.out ?_
          rotate_left
          · (intro w hSw; (try dsimp only at hSw); have a0 := hSw.all.load (k := n20) (encR_n _) Try.prog; have a1 := hSw.to.all.load (k := n18) (encP_n _) Try.prog; clear hSw;try simp only [List.getElem_toArray, List.getElem_cons_zero, List.getElem_cons_succ]; go_simp; try (with_reducible rfl))
          try simp only [List.setIfInBounds_toArray, List.set_cons_zero, List.set_cons_succ]
          refine held_take 10 72 (v := ?_) rfl rfl (by kernel_rfl) (by kernel_rfl) (by kernel_rfl) (fun _ _ _ h => h) (by rfl) ?_ HX.out ?_
          rotate_left
          · (intro w hSw; (try dsimp only at hSw); have a0 := hSw.all.load (k := n20) (encR_n _) Try.prog; have a1 := hSw.to.all.load (k := n18) (encP_n _) Try.prog; clear hSw;try simp only [List.getElem_toArray, List.getElem_cons_zero, List.getElem_cons_succ]; go_simp; try (with_reducible rfl))
          try simp only [List.setIfInBounds_toArray, List.set_cons_zero, List.set_cons_succ]
          refine held_call 8 70 rfl rfl (by kernel_rfl) (by rfl) (fun K hK => ?_)
          try simp only [List.getElem_toArray, List.getElem_cons_zero, List.getElem_cons_succ]
          go_simp
          (go_at_call 15; (with_reducible refine (HQ1.out _).mono ?_); rintro e w19 ⟨rfl, h1⟩; have HX := Lib.hid (HX.out.below h1); have HB := Lib.hid (HB.out.trans (h1.mono HB.out.size)); clear h1)
          try go_wp2_with fail
          try simp only [Act.put, List.setIfInBounds_toArray, List.set_cons_zero, List.set_cons_succ]
          refine hK.out _ _ _ HX.out ?_
          clear hK K
          refine held_call 11 73 rfl rfl (by kernel_rfl) (by rfl) (fun K hK => ?_)
          try simp only [List.getElem_toArray, List.getElem_cons_zero, List.getElem_cons_succ]
          go_simp
          (go_at_call 16; (with_reducible refine (HQ2.out _).mono ?_); rintro e w20 ⟨rfl, h1⟩; have HX := Lib.hid (HX.out.below h1); have HB := Lib.hid (HB.out.trans (h1.mono HB.out.size)); clear h1)
          try go_wp2_with fail
          try simp only [Act.put, List.setIfInBounds_toArray, List.set_cons_zero, List.set_cons_succ]
          refine hK.out _ _ _ HX.out ?_
          clear hK K
          refine held_take 12 74 (v := ?_) rfl rfl (by kernel_rfl) (by kernel_rfl) (by kernel_rfl) (fun _ _ _ h => h) (by rfl) ?_ HX.out ?_
          rotate_left
          · (intro w hSw; (try dsimp only at hSw); have a0 := hSw.all.load (k := n20) (encR_n _) Try.prog; have a1 := hSw.to.all.load (k := n18) (encP_n _) Try.prog; clear hSw;try simp only [List.getElem_toArray, List.getElem_cons_zero, List.getElem_cons_succ]; go_simp; try (with_reducible rfl))
          try simp only [List.setIfInBounds_toArray, List.set_cons_zero, List.set_cons_succ]
          refine held_take 13 75 (v := ?_) rfl rfl (by kernel_rfl) (by kernel_rfl) (by kernel_rfl) (fun _ _ _ h => h) (by rfl) ?_ HX.out ?_
          rotate_left
          · (intro w hSw; (try dsimp only at hSw); have a0 := hSw.all.load (k := n20) (encR_n _) Try.prog; have a1 := hSw.to.all.load (k := n18) (encP_n _) Try.prog; clear hSw;try simp only [List.getElem_toArray, List.getElem_cons_zero, List.getElem_cons_succ]; go_simp; try (with_reducible rfl))
          try simp only [List.setIfInBounds_toArray, List.set_cons_zero, List.set_cons_succ]
          refine wpAnyH_done (by kernel_rfl) ?_ _
          go_wp2
          go_roundw
          case rel => exact ⟨i + 1, by omega, by go_num, HB.out⟩
          case measure => simp [intOf]; omega
        · have hin : ¬ (i : Int) < (n : Int) := by omega
          clear HN HM HR HR' HT HRL HR12
          go_wp2_with (first
            | (go_at_call 18; (with_reducible refine (HDA.out _ HB.out).mono ?_); rintro e w21 ⟨⟨g21, rfl, _, h1⟩, h2⟩; have HD21 := Lib.hid h1; have HB := Lib.hid (HB.out.trans (h2.mono HB.out.size)); clear h1 h2)
            | (go_at_call 19; (with_reducible refine (HRA.out _ HB.out).mono ?_); rintro e w22 ⟨⟨g22, rfl, _, h1⟩, h2⟩; have HD22 := Lib.hid h1; have HD21 := Lib.hid (HD21.out.below h2).rd; have HB := Lib.hid (HB.out.trans (h2.mono HB.out.size)); clear h1 h2)
            | (go_at_call 17; (with_reducible refine (HSD.out _ _ _ HD21.out HD22.out).mono ?_); rintro e w23 ⟨rfl, h2⟩; have HB := Lib.hid (HB.out.trans (h2.mono HB.out.size)); clear h2)
            | (go_at_call 21; (with_reducible refine (HPT.out _ HB.out).mono ?_); rintro e w24 ⟨v24, rfl, h1, h2⟩; obtain ⟨A24, c24, hv24, _⟩ := own_rv h1; obtain rfl := hv24.eq; have HR24 := Lib.hid hv24.rd; have HB := Lib.hid (HB.out.trans (h2.mono HB.out.size)); clear h1 h2 hv24)
            | (go_at_call 22; (with_reducible refine (HPR.out _ HB.out).mono ?_); rintro e w25 ⟨⟨v25, A25, c25, rfl, h1⟩, h2⟩; obtain rfl := h1.eq; have HSP := Lib.hid (same_true A24 A25 _ c24 c25 _ rfl (Nat.le_trans (List.length_filter_le _ _) (by have := HTN.out; have := HTL.out; omega)) w25 (HR24.out.below h2) h1.rd); have HB := Lib.hid (HB.out.trans (h2.mono HB.out.size)); clear h1 h2)
            | (go_at_call 20; (with_reducible refine (HSP.out).mono ?_); rintro e w26 ⟨rfl, h2⟩; clear HSP; have HB := Lib.hid (HB.out.trans (h2.mono HB.out.size)); clear h2)
            
            | (go_at_call 10; (with_reducible refine (HAT.out _ HB.out).mono ?_); rintro e w28 ⟨v28, rfl, h1, h2⟩; obtain ⟨A28, c28, hv28, _⟩ := own_rv h1; obtain rfl := hv28.eq; have HB := Lib.hid (HB.out.trans (h2.mono HB.out.size)); have HSQ := Lib.hid (same_true A28 A9 t c28 c9 T HTN.out (by have := HTL.out; omega) w28 hv28.rd (HSL.out _ HB.out)); rw [HTN.out]; clear h1 h2 hv28)
            | (go_at_call 20; (with_reducible refine (HSQ.out).mono ?_); rintro e w29 ⟨rfl, h2⟩; have HB := Lib.hid (HB.out.trans (h2.mono HB.out.size)); clear h2))
          go_ret
          exact ⟨rfl, hb.out.trans (HB.out.mono hb.out.size)⟩
  · have hca' : (ca == 0) = false := by simpa using hca
    have hca2 : decide (¬ ca = 0) = true := decide_eq_true hca
    have hca3 : (ca != 0) = true := by simpa using hca
    go_enter Try.func3, Try.ntmps3
    go_wp2_with (first
      | (go_at_call 8; (with_reducible refine (Dig.awake_any _).mono ?_); rintro e w1 ⟨rfl, h1⟩; have hb := Lib.hid (hb.out.trans (h1.mono hb.out.size)); clear h1)
      | (refine wpList_row_run (o := ⟨some 30, .buildSlice 22 0 #[], _, _, _, _⟩) rfl 22 0 #[] rfl #[] (by simp) (row_R0 _) ?_)
      | (refine wpList_appR rfl (.tmp 30) (.tmp 31) rfl _ [] L A n cap HN.out rfl rfl (gr_zero w1) ((HR.out.below hb.out).below ((Below.refl _ _).alloc (Nat.le_refl _) _)) HNI.out (by have := HN.out; simp; omega) ?_; rintro v7 w7 h7 _; rw [List.nil_append] at h7; have hb := Lib.hid (hb.out.trans (h7.bel.mono hb.out.size)); obtain ⟨A7, c7, hv7⟩ := h7.rv; obtain rfl := hv7.eq; have HNW := Lib.hid (new_any A7 c7 L (by have := HN.out; omega) w7 hv7); clear h7 hv7)
      | (go_at_call 9; (with_reducible refine (HNW.out).mono ?_); rintro e w8 ⟨h8, h9⟩; have h10 := made_no h8 HCA.out hca; subst h10; have hb := Lib.hid (hb.out.trans (h9.mono hb.out.size)); clear h8 h9))
    go_ret
    exact ⟨rfl, hb.out⟩
end Go.Proofs.Ytdcbbjlbfghpbaa.DigestTells
