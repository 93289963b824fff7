/-
  A table in memory: Between, Copy, Same; a table that is none. Conditions: those that each theorem names.
-/
import Derived.Test.YtbeoclcnajfjcaaTabE
namespace Go.Proofs.Ytbeoclcnajfjcaa
open Go Go.RowKit H2
set_option linter.unusedVariables false
set_option linter.unusedSimpArgs false
namespace Tab
set_option maxRecDepth 100000 in
set_option maxHeartbeats 4000000 in
theorem get_none_any (p : Pf) (w : World) : Calls Try.prog 18 #[.pointer none, .agg (encP p).toArray] w fun e w' => e = .returned (.tuple #[.agg (encR zR).toArray, .bool false]) ∧ Below w.heap.size w w' := by
  go_enter Try.func18, Try.ntmps18
  go_upto_region 1 with fail
  have H := Lib.hid ((PAt.mk (at_new w (encP p) 25 (0, 0))).below ((Below.refl _ _).alloc (Nat.le_refl _) (.cells (encR zR).toArray 34 (0, 0))))
  have HB2 := Lib.hid (heap_alloc_new (w.alloc (.cells (encP p).toArray 25 (0, 0))) (.cells (encR zR).toArray 34 (0, 0)))
  rw [show (w.alloc (.cells (encP p).toArray 25 (0, 0))).heap.size = w.heap.size + 1 by simp] at HB2
  have hb := Lib.hid (show Below w.heap.size w ((w.alloc (.cells (encP p).toArray 25 (0, 0))).alloc (.cells (encR zR).toArray 34 (0, 0))) from (((Below.refl _ _).alloc (Nat.le_refl _) _).alloc (by simp) _))
  generalize (w.alloc _).alloc _ = W at H HB2 hb ⊢
  obtain ⟨B2, hB2⟩ : ∃ b, w.heap.size + 1 = b := ⟨_, rfl⟩
  rw [hB2] at HB2 ⊢
  have HBL := Lib.hid (show w.heap.size ≤ B2 from by omega)
  clear hB2
  generalize w.heap.size = B at H ⊢
  have c0 := H.out.all.load (k := n18) (encP_n _) Try.prog
  go_upto_region 2 with (go_at_call 41; (with_reducible refine (find_nil p _).mono ?_); rintro e w2 ⟨rfl, hb2⟩; have HB3 := Lib.hid ((hb2.block B2 (blk_lt HB2.out)).trans HB2.out); have hb := Lib.hid (hb.out.trans (hb2.mono hb.out.size)); clear hb2 c0)
  have hst := store_row (o := 0) (vs := encR zR) HB3.out (by simp [encR_len]) (encR_one zR) Try.prog
  rw [splice_whole (by simp [encR_len])] at hst
  have hl2 := (at_row (setRow_heap w2 B2 _ (encR zR).toArray _ _ HB3.out)).load (k := n20) (encR_n _) Try.prog
  go_wp2_with (refine wpList_build_run (o := ⟨some 16, .build 34 #[], _, _, _, _⟩) rfl 34 #[] rfl #[] (by simp) (build_R0 _) ?_)
  exact bodyPost_ret (v := .tuple #[.agg (encR zR).toArray, .bool false]) (by simp [results, Try.results18, go_sem, hl2]) rfl ⟨rfl, below_setRow hb.out HBL.out _⟩
theorem own_le {w : World} {base base' size n : Nat} {e : TypeId} {v : Value} {xs : List Value} (h : w.ownsRow base e size v n xs) (hb : base' ≤ base) : w.ownsRow base' e size v n xs := by
  refine ⟨h.1, ?_⟩
  rcases h.2 with h2 | ⟨g, cap, cur, hv, hg, r⟩
  · exact .inl h2
  · exact .inr ⟨g, cap, cur, hv, Nat.le_trans hb hg, r⟩
/-- what stands from one prefix up to another one -/
def btw (T : List Rt) (a b : Pf) : List Rt := (T.take (pos T b)).drop (pos T a)
theorem clone_n (A : Option Addr) (n cap : Nat) (L : List Rt) (hn : L.length = n) (hL : L.length ≤ 1000000) (w : World) (hr : Rd w A L) (hA : A = none → L = [] ∧ cap = 0) :
    Calls Try.prog 46 #[.slice A n cap] w fun e w' => ∃ v, e = .returned v ∧ w'.ownsRow w.heap.size 34 20 v L.length (flat L) ∧ Below w.heap.size w w' := by
  subst hn
  exact clone_any A cap L hL w hr hA
theorem Rd.part {w : World} {b o : Nat} {T : List Rt} (h : Rd w (some ⟨b, o, none⟩) T) (i k : Nat) (hk : k ≤ T.length) : Rd w (some ⟨b, o + i * n20, none⟩) ((T.take k).drop i) := fun j hj => by
  have hj' : i + j < k := by rw [List.length_drop, List.length_take] at hj; omega
  obtain ⟨b', o', e, hr⟩ := h (i + j) (by omega)
  cases e
  refine ⟨b, o + i * n20, rfl, ?_⟩
  rw [show o + i * n20 + j * 20 = o + (i + j) * 20 from by show o + i * 20 + j * 20 = _; omega]
  have e2 : ((T.take k).drop i)[j] = T[i + j] := by rw [List.getElem_drop, List.getElem_take]
  rw [e2]
  exact hr
set_option maxHeartbeats 4000000 in
theorem between_any {base : Nat} {b : Nat} {v : Value} {T : List Rt} (p q : Pf) (w : World) (h : Tb base w b v T) :
    Calls Try.prog 23 #[.pointer (some ⟨b, 0, none⟩), .agg (encP p).toArray, .agg (encP q).toArray] w fun e w' => ∃ v', e = .returned v' ∧ w'.ownsRow w.heap.size 34 20 v' (btw T p q).length (flat (btw T p q)) ∧ Below w.heap.size w w' := by
  have hv0 := own_rv h.own
  obtain ⟨A, cap, hv, _⟩ := hv0
  obtain rfl := hv.eq
  have HT := Lib.hid h
  have HV := Lib.hid hv
  have HF := Lib.hid (fun (W : World) (hb : Below w.heap.size w W) (p : Pf) => find_any p W (HT.out.below hb))
  have HTC := Lib.hid (fun (W : World) (hb : Below w.heap.size w W) => (HT.out.below hb).cell)
  have HP := Lib.hid (And.intro (pos_le T p) (pos_le T q))
  have HBT := Lib.hid (show btw T p q = (T.take (pos T q)).drop (pos T p) from rfl)
  have HTL := Lib.hid HT.out.tok.len
  clear hv h
  obtain ⟨n, hn⟩ : ∃ n, T.length = n := ⟨_, rfl⟩
  have HN := Lib.hid hn
  rw [hn] at HTC HTL HP
  obtain ⟨x, hx⟩ : ∃ x, pos T p = x := ⟨_, rfl⟩
  obtain ⟨y, hy⟩ : ∃ y, pos T q = y := ⟨_, rfl⟩
  have HF1 := Lib.hid (fun (W : World) (hb : Below w.heap.size w W) => HF.out W hb p)
  have HF2 := Lib.hid (fun (W : World) (hb : Below w.heap.size w W) => HF.out W hb q)
  rw [hx] at HP HBT HF1
  rw [hy] at HP HBT HF2
  clear hn hx hy HF
  generalize btw T p q = M at HBT ⊢
  go_enter Try.func23, Try.ntmps23
  go_upto_region 1 with fail
  have H1 := Lib.hid ((PAt.mk (at_new w (encP p) 25 (0, 0))).below ((Below.refl _ _).alloc (Nat.le_refl _) (.cells (encP q).toArray 25 (0, 0))))
  have H2 := Lib.hid (PAt.mk (at_new (w.alloc (.cells (encP p).toArray 25 (0, 0))) (encP q) 25 (0, 0)))
  rw [show (w.alloc (.cells (encP p).toArray 25 (0, 0))).heap.size = w.heap.size + 1 by simp] at H2
  have hb := Lib.hid (show Below w.heap.size w ((w.alloc (.cells (encP p).toArray 25 (0, 0))).alloc (.cells (encP q).toArray 25 (0, 0))) from (((Below.refl _ _).alloc (Nat.le_refl _) _).alloc (by simp) _))
  generalize (w.alloc _).alloc _ = W at H1 H2 hb ⊢
  obtain ⟨B2, hB2⟩ : ∃ b, w.heap.size + 1 = b := ⟨_, rfl⟩
  rw [hB2] at H2 ⊢
  obtain ⟨B, hB⟩ : ∃ b, w.heap.size = b := ⟨_, rfl⟩
  rw [hB] at H1 ⊢
  clear hB2
  have c0 := H1.out.all.load (k := n18) (encP_n _) Try.prog
  go_upto_region 2 with (go_at_call 41; (with_reducible refine (HF1.out _ hb.out).mono ?_); rintro e w2 ⟨rfl, hb2⟩; have H3 := Lib.hid (H2.out.below hb2); have hbx := Lib.hid (hb.out.trans (hb2.mono hb.out.size)); clear hb2 c0)
  have d0 := H3.out.all.load (k := n18) (encP_n _) Try.prog
  go_upto_region 3 with (go_at_call 41; (with_reducible refine (HF2.out _ hbx.out).mono ?_); rintro e w3 ⟨rfl, hb3⟩; have hby := Lib.hid (hbx.out.trans (hb3.mono hbx.out.size)); clear hb3 d0)
  by_cases hxy : x < y
  · have hxy' : ¬ (y : Int) ≤ (x : Int) := by omega
    have hc := HTC.out _ hby.out
    have x0 : (0 : Int) ≤ (x : Int) := by omega
    have y0 : (0 : Int) ≤ (y : Int) := by omega
    have hxy2 : (x : Int) ≤ (y : Int) := by omega
    have hyn : y ≤ n := HP.out.2
    have hnc : n ≤ cap := by rw [← HN.out]; exact HV.out.len
    have hyc : (y : Int) ≤ (cap : Int) := by omega
    obtain ⟨g, o, rfl⟩ : ∃ g o, A = some ⟨g, o, none⟩ := by
      obtain ⟨b', o', e, _⟩ := HV.out.rd 0 (by rw [HN.out]; omega)
      exact ⟨b', o', e⟩
    have HCL := Lib.hid (clone_n (some ⟨g, o + x * n20, none⟩) (y - x) (cap - x) M (by rw [HBT.out, List.length_drop, List.length_take, HN.out]; have := HP.out; omega) (by rw [HBT.out, List.length_drop, List.length_take, HN.out]; have := HTL.out; omega) w3 (by rw [HBT.out]; exact (HV.out.rd.below hby.out).part x y (by rw [HN.out]; exact HP.out.2)) (fun e => by cases e))
    clear hyc
    go_wp2_with (go_at_call 46; (with_reducible refine (HCL.out).mono ?_); rintro e w4 ⟨v', rfl, h1, h2⟩; have HO := Lib.hid h1; have HB4 := Lib.hid (hby.out.trans (h2.mono hby.out.size)); clear h1 h2)
    go_ret
    exact ⟨v', rfl, own_le HO.out hby.out.size, HB4.out⟩
  · have hxy' : (y : Int) ≤ (x : Int) := by omega
    have HM := Lib.hid (show M = [] by rw [HBT.out]; exact List.drop_of_length_le (by rw [List.length_take]; omega))
    go_wp2
    go_ret
    rw [HM.out]
    exact ⟨_, rfl, World.ownsRow_nil _ _ _ _, hby.out⟩
set_option maxHeartbeats 4000000 in
theorem between_none (p q : Pf) (w : World) : Calls Try.prog 23 #[.pointer none, .agg (encP p).toArray, .agg (encP q).toArray] w fun e w' => e = .returned (.slice none 0 0) ∧ Below w.heap.size w w' := by
  go_enter Try.func23, Try.ntmps23
  go_upto_region 1 with fail
  have H1 := Lib.hid ((PAt.mk (at_new w (encP p) 25 (0, 0))).below ((Below.refl _ _).alloc (Nat.le_refl _) (.cells (encP q).toArray 25 (0, 0))))
  have H2 := Lib.hid (PAt.mk (at_new (w.alloc (.cells (encP p).toArray 25 (0, 0))) (encP q) 25 (0, 0)))
  rw [show (w.alloc (.cells (encP p).toArray 25 (0, 0))).heap.size = w.heap.size + 1 by simp] at H2
  have hb := Lib.hid (show Below w.heap.size w ((w.alloc (.cells (encP p).toArray 25 (0, 0))).alloc (.cells (encP q).toArray 25 (0, 0))) from (((Below.refl _ _).alloc (Nat.le_refl _) _).alloc (by simp) _))
  generalize (w.alloc _).alloc _ = W at H1 H2 hb ⊢
  obtain ⟨B2, hB2⟩ : ∃ b, w.heap.size + 1 = b := ⟨_, rfl⟩
  rw [hB2] at H2 ⊢
  obtain ⟨B, hB⟩ : ∃ b, w.heap.size = b := ⟨_, rfl⟩
  rw [hB] at H1 ⊢
  clear hB2
  have c0 := H1.out.all.load (k := n18) (encP_n _) Try.prog
  go_upto_region 2 with (go_at_call 41; (with_reducible refine (find_nil p _).mono ?_); rintro e w2 ⟨rfl, hb2⟩; have H3 := Lib.hid (H2.out.below hb2); have hbx := Lib.hid (hb.out.trans (hb2.mono hb.out.size)); clear hb2 c0)
  have d0 := H3.out.all.load (k := n18) (encP_n _) Try.prog
  go_upto_region 3 with (go_at_call 41; (with_reducible refine (find_nil q _).mono ?_); rintro e w3 ⟨rfl, hb3⟩; have hby := Lib.hid (hbx.out.trans (hb3.mono hbx.out.size)); clear hb3 d0)
  go_wp2
  go_ret
  exact ⟨rfl, hby.out⟩
theorem copy_none (w : World) : Calls Try.prog 29 #[.pointer none] w fun e w' => e = .returned (.pointer none) ∧ w = w' := by
  go_enter Try.func29, Try.ntmps29
  go_wp2
  go_ret
  exact ⟨rfl, rfl⟩
/-- a table made of an owned row -/
theorem tb_new {base : Nat} {w : World} {v : Value} {T : List Rt} (h : w.ownsRow base 34 20 v T.length (flat T)) (ht : TOk T) (hb : base ≤ w.heap.size) : Tb base (w.alloc (.cells #[v] 78 (0, 0))) w.heap.size v T :=
  ⟨heap_alloc_new w _, h.alloc _, hb, ht⟩
set_option maxHeartbeats 4000000 in
theorem copy_any {base : Nat} {b : Nat} {v : Value} {T : List Rt} (w : World) (h : Tb base w b v T) :
    Calls Try.prog 29 #[.pointer (some ⟨b, 0, none⟩)] w fun e w' => ∃ b' v', e = .returned (.pointer (some ⟨b', 0, none⟩)) ∧ Tb w.heap.size w' b' v' T ∧ Below w.heap.size w w' := by
  have HT := Lib.hid h.tok
  have HA := Lib.hid (all_any w h)
  clear h
  go_enter Try.func29, Try.ntmps29
  go_wp2_with (go_at_call 22; (with_reducible refine (HA.out).mono ?_); rintro e w2 ⟨v', rfl, h1, h2⟩; obtain ⟨A', cap', hv', _⟩ := own_rv h1; obtain rfl := hv'.eq; have HO := Lib.hid h1; have HB := Lib.hid h2; clear h1 h2 hv')
  go_ret
  exact ⟨_, _, rfl, tb_new HO.out HT.out HB.out.size, HB.out.alloc HB.out.size _⟩
set_option maxHeartbeats 4000000 in
theorem same_any {base base' : Nat} {b b' : Nat} {v v' : Value} {T T' : List Rt} (w : World) (h : Tb base w b v T) (h' : Tb base' w b' v' T') :
    Calls Try.prog 32 #[.pointer (some ⟨b, 0, none⟩), .pointer (some ⟨b', 0, none⟩)] w fun e w' => e = .returned (.bool (decide (T = T'))) ∧ Below w.heap.size w w' := by
  have HA := Lib.hid (all_any w h)
  have HA2 := Lib.hid (fun (W : World) (hb : Below w.heap.size w W) => all_any W (h'.below hb))
  have HL := Lib.hid (And.intro h.tok.len h'.tok.len)
  clear h h'
  go_enter Try.func32, Try.ntmps32
  go_upto_region 1 with fail
  go_wp2_with (first
    | (go_at_call 22; (with_reducible refine (HA.out).mono ?_); rintro e w2 ⟨v1, rfl, h1, h2⟩; have HO := Lib.hid h1; have HB := Lib.hid h2; clear h1 h2)
    | (go_at_call 22; (with_reducible refine (HA2.out w2 HB.out).mono ?_); rintro e w3 ⟨v2, rfl, h1, h2⟩; obtain ⟨A2, c2, hv2, _⟩ := own_rv h1; obtain rfl := hv2.eq; obtain ⟨A1, c1, hv1, _⟩ := own_rv (own_below HO.out h2); obtain rfl := hv1.eq; have HE := Lib.hid (equal_any A1 A2 c1 c2 T T' (Nat.le_trans HL.out.1 (by decide)) (Nat.le_trans HL.out.2 (by decide)) w3 hv1.rd hv2.rd); have HB2 := Lib.hid (HB.out.trans (h2.mono HB.out.size)); clear h1 h2 hv1 hv2)
    | (go_at_call 47; (with_reducible refine (HE.out).mono ?_); rintro e w4 ⟨rfl, h1⟩; have HB3 := Lib.hid (HB2.out.trans (h1.mono HB2.out.size)); clear h1))
  go_ret
  exact ⟨rfl, HB3.out⟩
end Tab
end Go.Proofs.Ytbeoclcnajfjcaa
