/-
  Joined texts: DigM DigN OpenG. Conditions: those that each theorem names.
-/
import Derived.Test.YtdcbbjlbfghpbaaGreatDg
import Derived.Test.YtdcbbjlbfghpbaaGreatDi
import Derived.Test.YtdcbbjlbfghpbaaGreatDk
/-
  Digest: rows of digests copied; More. Conditions: those that each theorem names.
-/
namespace Go.Proofs.YtdcbbjlbfghpbaaGreat
open Go Go.RowKit H2
set_option linter.unusedVariables false
set_option linter.unusedSimpArgs false
namespace Dig
open Tab Byt
theorem encGs_app (D E : List (Int × Int)) : encGs (D ++ E) = encGs D ++ encGs E := by simp [encGs]
theorem encGs_one (D : List (Int × Int)) : ∀ v ∈ encGs D, v.oneCell' = true := fun v hv => by
  obtain ⟨x, _, h⟩ := List.mem_flatMap.1 hv
  exact encG_one x v h
theorem RdG.cells {w : World} {b o n : Nat} {F : Dg} (h : RdG w (some ⟨b, o, none⟩) n F) : At w b o (encGs (dl F n)) := fun j u hj => by
  have hj' : j < n * 2 := by
    have := (List.getElem?_eq_some_iff.1 hj).1
    rwa [encGs_len, dl_len] at this
  have hi : j / 2 < n := by omega
  obtain ⟨b', o', e', h1, h2⟩ := h (j / 2) hi
  cases e'
  obtain ⟨e1, e2⟩ := encGs_get (dl F n) (j / 2) (by rw [dl_len]; exact hi)
  have hg : (dl F n)[j / 2]'(by rw [dl_len]; exact hi) = F (j / 2) := by simp [dl]
  rw [hg] at e1 e2
  rcases Nat.mod_two_eq_zero_or_one j with h0 | h0
  · rw [show j / 2 * 2 = j by omega] at e1 h1
    rw [e1] at hj
    rw [h1]
    exact hj
  · rw [show j / 2 * 2 + 1 = j by omega] at e2
    rw [show o + j / 2 * 2 + 1 = o + j by omega] at h2
    rw [e2] at hj
    rw [h2]
    exact hj
/-- append of digests that are read -/
theorem app_rows {TS T : TypeId} (hT : Ty2 TS T) (w : World) (base : Nat) (v : Value) (D : List (Int × Int)) (ty : TypeId) (ho : w.ownsRow base T 2 v D.length (encGs D)) (A : Option Addr) (n c : Nat) (F : Dg) (hr : RdG w A n F) (hA : A = none → n = 0)
    (hl : D.length + n ≤ 1000000) (hb : base ≤ w.heap.size) :
    ∃ v' w', (Builtin.append_ #[TS, TS] ty #[v, .slice A n c]).run Tryz.prog w = .ok v' w' ∧ w'.ownsRow base T 2 v' (D ++ dl F n).length (encGs (D ++ dl F n)) ∧ w.grownBy w' v.ownBlock := by
  obtain ⟨i0, hi, hz0, hz1, hz2⟩ := hT.info
  cases A with
  | none =>
    obtain rfl := hA rfl
    exact ⟨v, w, run_app_none w hT.und hi ho c, by simpa [dl] using ho, World.grownBy.refl w _⟩
  | some ad =>
    have hnews : ∀ j u, (encGs (dl F n))[j]? = some u → w.cell? (ad.add j) = some u := fun j u hj => by
      have hj' : j < n * 2 := by
        have := (List.getElem?_eq_some_iff.1 hj).1
        rwa [encGs_len, dl_len] at this
      obtain ⟨b, o, e, _⟩ := hr (j / 2) (by omega)
      cases e
      rw [Addr.add_lit]
      exact hr.cells j u hj
    obtain ⟨v', w', hrun, h2, h3, _⟩ := run_append_own (P := Tryz.prog) w base TS ty T i0 _ 2 16 hT.und hi hz0 hz1 hz2 (by simp [Value.cells]) (by omega) v D.length (encGs D) ho ad n c (encGs (dl F n)) (by rw [encGs_len, dl_len]) hnews (encGs_one _) (by unfold maxLen; omega) (by omega) hb
    exact ⟨v', w', hrun, by rw [encGs_app, List.length_append, dl_len]; exact h2, h3⟩
theorem own_zeroG (T : TypeId) (w : World) : (w.alloc (.cells #[] T (0, 0))).ownsRow w.heap.size T 2 (.slice (some ⟨w.heap.size, 0, none⟩) 0 0) 0 [] :=
  ⟨rfl, .inr ⟨w.heap.size, 0, #[], rfl, Nat.le_refl _, heap_alloc_new w _, Nat.le_refl _, by decide, rfl, rfl⟩⟩
/-- 17 digests in a block with room -/
structure DRw (w : World) (g : Nat) (D : Dg) : Prop where
  ex : ∃ cur : Array Value, w.heap[g]? = some (.cells cur 58 (0, 0)) ∧ 34 ≤ cur.size ∧ ∀ k, k < 17 → cur[k * 2]? = some (.int .i64 (D k).1) ∧ cur[k * 2 + 1]? = some (.int .u64 (D k).2)
theorem DRw.lt {w : World} {g : Nat} {D : Dg} (h : DRw w g D) : g < w.heap.size := by
  obtain ⟨cur, h1, _⟩ := h.ex
  exact blk_lt h1
theorem DRw.below {w w' : World} {g : Nat} {D : Dg} (h : DRw w g D) (hb : Below w.heap.size w w') : DRw w' g D := by
  obtain ⟨cur, h1, h2⟩ := h.ex
  exact ⟨cur, (hb.block g (blk_lt h1)).trans h1, h2⟩
theorem DRw.n {w : World} {g : Nat} {D : Dg} (h : DRw w g D) {k : Nat} (hk : k < 17) : w.cell? ⟨g, k * 2, none⟩ = some (.int .i64 (D k).1) ∧ w.frozen? ⟨g, k * 2, none⟩ = false := by
  obtain ⟨cur, h1, h2, h3⟩ := h.ex
  exact ⟨(blk_cell h1 _).trans (h3 k hk).1, blk_free h1 _⟩
theorem DRw.s {w : World} {g : Nat} {D : Dg} (h : DRw w g D) {k : Nat} (hk : k < 17) : w.cell? ⟨g, k * 2 + 1, none⟩ = some (.int .u64 (D k).2) ∧ w.frozen? ⟨g, k * 2 + 1, none⟩ = false := by
  obtain ⟨cur, h1, h2, h3⟩ := h.ex
  exact ⟨(blk_cell h1 _).trans (h3 k hk).2, blk_free h1 _⟩
theorem DRw.setN {w : World} {g : Nat} {D : Dg} (h : DRw w g D) {k : Nat} (hk : k < 17) (x : Int) : DRw (w.setCell ⟨g, k * 2, none⟩ (.int .i64 x)) g (fun j => if j = k then (x, (D j).2) else D j) := by
  obtain ⟨cur, h1, h2, h3⟩ := h.ex
  refine ⟨_, blk_set h1 _ _, by simpa using h2, fun j hj => ?_⟩
  obtain ⟨e1, e2⟩ := h3 j hj
  constructor
  · rw [Array.getElem?_setIfInBounds]
    by_cases e : k * 2 = j * 2
    · have : j = k := by omega
      subst this
      rw [if_pos rfl, if_pos (by omega), if_pos rfl]
    · rw [if_neg e, if_neg (by omega)]; exact e1
  · rw [Array.getElem?_setIfInBounds, if_neg (by omega)]
    rw [e2]
    split <;> rfl
theorem DRw.setS {w : World} {g : Nat} {D : Dg} (h : DRw w g D) {k : Nat} (hk : k < 17) (x : Int) : DRw (w.setCell ⟨g, k * 2 + 1, none⟩ (.int .u64 x)) g (fun j => if j = k then ((D j).1, x) else D j) := by
  obtain ⟨cur, h1, h2, h3⟩ := h.ex
  refine ⟨_, blk_set h1 _ _, by simpa using h2, fun j hj => ?_⟩
  obtain ⟨e1, e2⟩ := h3 j hj
  constructor
  · rw [Array.getElem?_setIfInBounds, if_neg (by omega), e1]
    split <;> rfl
  · rw [Array.getElem?_setIfInBounds]
    by_cases e : k * 2 + 1 = j * 2 + 1
    · have : j = k := by omega
      subst this
      rw [if_pos rfl, if_pos (by omega), if_pos rfl]
    · rw [if_neg e, if_neg (by omega)]; exact e2
theorem DRw.rd {w : World} {g : Nat} {D : Dg} (h : DRw w g D) : RdG w (some ⟨g, 0, none⟩) 17 D := fun i hi => ⟨g, 0, rfl, by rw [Nat.zero_add]; exact (h.n hi).1, by rw [Nat.zero_add]; exact (h.s hi).1⟩
theorem own_drw {w : World} {base : Nat} {v : Value} {D : Dg} (h : w.ownsRow base 58 2 v (dl D 17).length (encGs (dl D 17))) : ∃ g c, v = .slice (some ⟨g, 0, none⟩) 17 c ∧ base ≤ g ∧ DRw w g D := by
  rcases h.2 with ⟨_, h0⟩ | ⟨g, cap, cur, rfl, hg, hh, hc, hm, hs, ht⟩
  · rw [dl_len] at h0; omega
  · rw [dl_len] at hc ht
    refine ⟨g, cap, by rw [dl_len], hg, cur, hh, by omega, fun k hk => ?_⟩
    have hg : (dl D 17)[k]'(by rw [dl_len]; exact hk) = D k := by simp [dl]
    obtain ⟨e1, e2⟩ := encGs_get (dl D 17) k (by rw [dl_len]; exact hk)
    rw [hg] at e1 e2
    have k1 : ∀ (j : Nat) (u : Value), (encGs (dl D 17))[j]? = some u → cur[j]? = some u := fun j u hj => by
      rw [← ht, List.getElem?_take] at hj
      split at hj
      · simpa using hj
      · cases hj
    exact ⟨k1 _ _ e1, k1 _ _ e2⟩
theorem slG_some (w : World) (ad : Addr) (n c : Nat) : (binOp .eql 29 (.slice (some ad) n c) (.slice none 0 0)).run Tryz.prog w = .ok (.bool false) w := by kernel_rfl
attribute [local go_sem 10000] slG_some
set_option maxRecDepth 1000000 in
set_option maxHeartbeats 4000000 in
theorem cloneG_any (A : Option Addr) (cap : Nat) (F : Dg) (w : World) (hr : RdG w A 17 F) :
    Calls Tryz.prog 36 #[.slice A 17 cap] w fun e w' => ∃ g c, e = .returned (.slice (some ⟨g, 0, none⟩) 17 c) ∧ w.heap.size ≤ g ∧ DRw w' g F ∧ Below w.heap.size w w' := by
  obtain ⟨b, o, rfl, _⟩ := hr 0 (by decide)
  have HW := Lib.hid (own_zeroG 58 w)
  have HB := Lib.hid ((Below.refl _ w).alloc (Nat.le_refl _) (.cells #[] 58 (0, 0)))
  have HR := Lib.hid (hr.below ((Below.refl _ w).alloc (Nat.le_refl _) (.cells #[] 58 (0, 0))))
  clear hr
  go_enter Tryz.func36, Tryz.ntmps36
  go_wp2_with (at_builtin; generalize w.alloc (.cells #[] 58) = W at HW HB HR ⊢; obtain ⟨v', w', hrun, h1, h2⟩ := app_rows tyD W w.heap.size _ [] 29 HW.out (some ⟨b, o, none⟩) 17 cap F HR.out (fun e => by cases e) (by simp) HB.out.size; have H1 := Lib.hid h1; have H2 := Lib.hid h2; clear h1 h2; refine wpList_append_run rfl (.tmp 5) (.tmp 6) 29 rfl _ _ rfl rfl hrun ?_)
  go_ret
  rw [List.nil_append] at H1
  obtain ⟨g, c, rfl, h3, h4⟩ := own_drw H1.out
  exact ⟨g, c, rfl, h3, h4, HB.out.trans (((Only.refl (fun k => w.heap.size ≤ k) W).grown H2.out (fun k hk _ => by simp [Value.ownBlock] at hk; omega)).below HB.out.size (fun i h1 h2 => by omega))⟩
def subN (D : Dg) (k : Nat) : Dg := fun j => if j = k then (wrap64 ((D k).1 - 1), (D j).2) else D j
def addN (D : Dg) (k : Nat) : Dg := fun j => if j = k then (wrap64 ((D k).1 + 1), (D j).2) else D j
def setS (D : Dg) (k : Nat) (s : Int) : Dg := fun j => if j = k then ((D j).1, s) else D j
/-- a route gone, a route come -/
def subF (D : Dg) (k : Nat) (m : Int) : Dg := setS (subN D k) k (IntKind.u64.wrap ((D k).2 - m))
def addF (D : Dg) (k : Nat) (m : Int) : Dg := setS (addN D k) k (IntKind.u64.wrap ((D k).2 + m))
/-- digests behind a change -/
def moreD (D : Dg) (x : In) (was : Rt) : Dg :=
  if x.kind = 1 then addF D (bk x.rt.to) (mk x.rt) else if x.kind = 2 then addF (subF D (bk x.rt.to) (mk was)) (bk x.rt.to) (mk x.rt) else subF D (bk x.rt.to) (mk was)
set_option maxRecDepth 100000 in
set_option maxHeartbeats 8000000 in
theorem more_kept (A : Option Addr) (n cap : Nat) (x : In) (was : Rt) (w : World) (h : ¬ (n = 17 ∧ 1 ≤ x.kind ∧ x.kind ≤ 3)) :
    Calls Tryz.prog 9 #[.slice A n cap, .agg (Tab.encI x).toArray, .agg (encR was).toArray] w fun e w' => e = .returned (.slice A n cap) ∧ Below w.heap.size w w' := by
  obtain ⟨k, y⟩ := x
  have h' : ¬ (n = 17 ∧ 1 ≤ k ∧ k ≤ 3) := h
  clear h
  go_enter Tryz.func9, Tryz.ntmps9
  go_upto_region 1 with fail
  have H := Lib.hid ((iAt_new w ⟨k, y⟩ 38 (0, 0)).below ((Below.refl _ _).alloc (Nat.le_refl _) (.cells (encR was).toArray 36 (0, 0))))
  have hb := Lib.hid (show Below w.heap.size w ((w.alloc (.cells (Tab.encI ⟨k, y⟩).toArray 38 (0, 0))).alloc (.cells (encR was).toArray 36 (0, 0))) from ((Below.refl _ _).alloc (Nat.le_refl _) _).alloc (by simp) _)
  generalize (w.alloc _).alloc _ = W1 at H hb ⊢
  generalize w.heap.size = B at H ⊢
  have ck : W1.cell? ⟨B, 0, none⟩ = some (.int .i64 k) := H.out.kind
  by_cases h1 : n = 17
  · have h2 : (n : Int) = 17 := by omega
    by_cases h3 : k < 1
    · go_wp2
      go_ret
      exact ⟨rfl, hb.out⟩
    · have h4 : 3 < k := by omega
      go_wp2
      go_ret
      exact ⟨rfl, hb.out⟩
  · have g2 : ¬ (n : Int) = 17 := by omega
    have g3 : decide ((n : Int) = 17) = false := decide_eq_false g2
    have g4 : ((n : Int) == 17) = false := by simpa using g2
    have g5 : ((n : Int) != 17) = true := by simpa using g2
    go_wp2
    go_ret
    exact ⟨rfl, hb.out⟩
end Dig
end Go.Proofs.YtdcbbjlbfghpbaaGreat

/-
  Digest: More, where there is a change. Conditions: those that each theorem names.
-/
namespace Go.Proofs.YtdcbbjlbfghpbaaGreat
open Go Go.RowKit H2
set_option linter.unusedVariables false
set_option linter.unusedSimpArgs false
namespace Dig
open Tab Byt
theorem subN_s (D : Dg) (q : Nat) : (subN D q q).2 = (D q).2 := by unfold subN; rw [if_pos rfl]
theorem addN_s (D : Dg) (q : Nat) : (addN D q q).2 = (D q).2 := by unfold addN; rw [if_pos rfl]
/-- what More answers -/
def MoreP (w w' : World) (D : Dg) (e : Ending) : Prop := ∃ g c, e = .returned (.slice (some ⟨g, 0, none⟩) 17 c) ∧ w.heap.size ≤ g ∧ DRw w' g D ∧ Below w.heap.size w w'
theorem iat_only {S : Nat → Prop} {w w' : World} {B o : Nat} {x : In} (h : IAt w B o x) (ho : Only S w w') (hn : ¬ S B) : IAt w' B o x := ⟨fun j u hj => ho.cell (h.all j u hj) hn⟩
set_option maxRecDepth 100000 in
set_option maxHeartbeats 16000000 in
theorem more_go (A : Option Addr) (cap : Nat) (F : Dg) (x : In) (was : Rt) (w : World) (hr : RdG w A 17 F) (h : 1 ≤ x.kind ∧ x.kind ≤ 3) :
    Calls Tryz.prog 9 #[.slice A 17 cap, .agg (Tab.encI x).toArray, .agg (encR was).toArray] w fun e w' => MoreP w w' (moreD F x was) e := by
  obtain ⟨k, y⟩ := x
  have h' : 1 ≤ k ∧ k ≤ 3 := h
  have HMD := Lib.hid (show moreD F ⟨k, y⟩ was = if k = 1 then addF F (bk y.to) (mk y) else if k = 2 then addF (subF F (bk y.to) (mk was)) (bk y.to) (mk y) else subF F (bk y.to) (mk was) from rfl)
  obtain ⟨q, hq⟩ : ∃ q, bk y.to = q := ⟨_, rfl⟩
  have HQ := Lib.hid hq
  have hq17 : q < 17 := by rw [← hq]; exact bk_lt _
  have hq18 : (q : Int) < 17 := by omega
  have hq0 : (0 : Int) ≤ (q : Int) := by omega
  rw [hq] at HMD
  clear h hq
  obtain rfl | rfl | rfl : k = 1 ∨ k = 2 ∨ k = 3 := by omega
  · have HMD := Lib.hid (HMD.out.trans (if_pos rfl))
    go_enter Tryz.func9, Tryz.ntmps9
    go_upto_region 1 with fail
    have H := Lib.hid ((iAt_new w ⟨1, y⟩ 38 (0, 0)).below ((Below.refl _ _).alloc (Nat.le_refl _) (.cells (encR was).toArray 36 (0, 0))))
    have HV := Lib.hid (rAt_new (w.alloc (.cells (Tab.encI ⟨1, y⟩).toArray 38 (0, 0))) was 36 (0, 0))
    rw [show (w.alloc (.cells (Tab.encI ⟨1, y⟩).toArray 38 (0, 0))).heap.size = w.heap.size + 1 by simp] at HV
    have hb := Lib.hid (show Below w.heap.size w ((w.alloc (.cells (Tab.encI ⟨1, y⟩).toArray 38 (0, 0))).alloc (.cells (encR was).toArray 36 (0, 0))) from ((Below.refl _ _).alloc (Nat.le_refl _) _).alloc (by simp) _)
    have HB1 := Lib.hid (show w.heap.size + 1 < ((w.alloc (.cells (Tab.encI ⟨1, y⟩).toArray 38 (0, 0))).alloc (.cells (encR was).toArray 36 (0, 0))).heap.size by simp)
    have HV1 := HB1
    generalize (w.alloc _).alloc _ = W1 at H HV hb HB1 HV1 ⊢
    have HB1 := Lib.hid (show w.heap.size < W1.heap.size by have := HB1.out; omega)
    generalize w.heap.size + 1 = B5 at HV HV1 ⊢
    obtain ⟨B, hB⟩ : ∃ B, w.heap.size = B := ⟨_, rfl⟩
    have HBW := Lib.hid hB
    rw [hB] at H HB1 ⊢
    clear hB
    have ck : W1.cell? ⟨B, 0, none⟩ = some (.int .i64 1) := H.out.kind
    have HCL := Lib.hid (cloneG_any A cap F W1 (hr.below hb.out))
    go_upto_region 4 with (go_at_call 36; (with_reducible refine (HCL.out).mono ?_); rintro e w2 ⟨g, c, rfl, h1, h2, hb2⟩; have HGL := Lib.hid (Nat.le_trans hb.out.size h1); have HG1 := Lib.hid h1; have HD := Lib.hid h2; have H := Lib.hid (H.out.below hb2); have HV := Lib.hid (HV.out.below hb2); have hb := Lib.hid (hb.out.trans (hb2.mono hb.out.size)); clear h1 h2 hb2 ck)
    have HNB := Lib.hid (show B ≠ g ∧ B5 ≠ g from ⟨fun e => by have h1 := HG1.out; have h2 := HB1.out; omega, fun e => by have h1 := HG1.out; have h2 := HV1.out; omega⟩)
    clear HCL
    have ck : w2.cell? ⟨B, 0, none⟩ = some (.int .i64 1) := H.out.kind
    have c0 : Sem.run Tryz.prog (loadCellsFrom ⟨B, 1, none⟩ 0 n18 #[]) w2 = .ok (encP y.to).toArray w2 := H.out.rt.to.all.load (k := n18) (encP_n _) Tryz.prog
    go_upto_region 5 with (go_at_call 31; (with_reducible refine (bucket_any _ _).mono ?_); rintro e w3 ⟨rfl, hb2⟩; rw [HQ.out]; have HD := Lib.hid (HD.out.below hb2); have H := Lib.hid (H.out.below hb2); have HV := Lib.hid (HV.out.below hb2); have hb := Lib.hid (hb.out.trans (hb2.mono hb.out.size)); clear hb2 ck c0)
    have ck : w3.cell? ⟨B, 0, none⟩ = some (.int .i64 1) := H.out.kind
    obtain ⟨N, hN⟩ : ∃ N, (F q).1 = N := ⟨_, rfl⟩
    obtain ⟨S, hS⟩ : ∃ S, (F q).2 = S := ⟨_, rfl⟩
    have HNN := Lib.hid hN
    have HSS := Lib.hid hS
    clear hN hS
    obtain ⟨y1, y2⟩ := HD.out.n hq17
    rw [HNN.out] at y1
    go_upto_region 10 with fail
    clear y1 y2 ck
    have ho := Lib.hid ((Only.refl (fun i => i = g) w3).setCell (p := ⟨g, q * 2, none⟩) (fun _ => rfl) (.int .i64 (wrap64 (N + 1))))
    have HD := Lib.hid (show DRw (w3.setCell ⟨g, q * 2, none⟩ (.int .i64 (wrap64 (N + 1)))) g (addN (F) q) by
      have := HD.out.setN hq17 (wrap64 (N + 1))
      rw [← HNN.out] at this ⊢
      exact this)
    have HD := Lib.hid (HD.out.below (Below.refl _ _).drew)
    have H := Lib.hid (iat_only H.out ho.out HNB.out.1).drew
    have HV := Lib.hid (HV.out.only' ho.out HNB.out.2).drew
    have hb := Lib.hid (hb.out.setCell HGL.out (p := ⟨g, q * 2, none⟩) (.int .i64 (wrap64 (N + 1)))).drew
    generalize (World.setCell _ _ _) = W7 at H HV hb HD ⊢
    have HS2 := Lib.hid (show (addN (F) q q).2 = S by rw [addN_s]; exact HSS.out)
    have HX7 := Lib.hid (show RAt W7.drew B 1 y from H.out.rt)
    refine wp_region_held_drew (S := (fun w' => RAt w' B 1 y)) (by kernel_rfl) HX7.out (fun _ => ?_)
    refine held_take 0 59 (v := ?_) rfl rfl (by kernel_rfl) (by kernel_rfl) (by kernel_rfl) (fun _ _ _ h => h) (by rfl) ?_ HX7.out ?_
    rotate_left
    · (intro w hSw; (try dsimp only at hSw); have a0 := hSw.all.load (k := n20) (encR_n _) Tryz.prog; clear hSw;try simp only [List.getElem_toArray, List.getElem_cons_zero, List.getElem_cons_succ]; go_simp; try (with_reducible rfl))
    try simp only [List.setIfInBounds_toArray, List.set_cons_zero, List.set_cons_succ]
    refine held_take 1 60 (v := ?_) rfl rfl (by kernel_rfl) (by kernel_rfl) (by kernel_rfl) (fun _ _ _ h => h) (by rfl) ?_ HX7.out ?_
    rotate_left
    · (intro w hSw; (try dsimp only at hSw); have a0 := hSw.all.load (k := n20) (encR_n _) Tryz.prog; clear hSw;try simp only [List.getElem_toArray, List.getElem_cons_zero, List.getElem_cons_succ]; go_simp; try (with_reducible rfl))
    try simp only [List.setIfInBounds_toArray, List.set_cons_zero, List.set_cons_succ]
    refine held_take 2 61 (v := ?_) rfl rfl (by kernel_rfl) (by kernel_rfl) (by kernel_rfl) (fun _ _ _ h => h) (by rfl) ?_ HX7.out ?_
    rotate_left
    · (intro w hSw; (try dsimp only at hSw); have a0 := hSw.all.load (k := n20) (encR_n _) Tryz.prog; clear hSw;try simp only [List.getElem_toArray, List.getElem_cons_zero, List.getElem_cons_succ]; go_simp; try (with_reducible rfl))
    try simp only [List.setIfInBounds_toArray, List.set_cons_zero, List.set_cons_succ]
    refine held_take 4 63 (v := ?_) rfl rfl (by kernel_rfl) (by kernel_rfl) (by kernel_rfl) (fun _ _ _ h => h) (by rfl) ?_ HX7.out ?_
    rotate_left
    · (intro w hSw; (try dsimp only at hSw); have a0 := hSw.all.load (k := n20) (encR_n _) Tryz.prog; clear hSw;try simp only [List.getElem_toArray, List.getElem_cons_zero, List.getElem_cons_succ]; go_simp; try (with_reducible rfl))
    try simp only [List.setIfInBounds_toArray, List.set_cons_zero, List.set_cons_succ]
    refine held_take 5 64 (v := ?_) rfl rfl (by kernel_rfl) (by kernel_rfl) (by kernel_rfl) (fun _ _ _ h => h) (by rfl) ?_ HX7.out ?_
    rotate_left
    · (intro w hSw; (try dsimp only at hSw); have a0 := hSw.all.load (k := n20) (encR_n _) Tryz.prog; clear hSw;try simp only [List.getElem_toArray, List.getElem_cons_zero, List.getElem_cons_succ]; go_simp; try (with_reducible rfl))
    try simp only [List.setIfInBounds_toArray, List.set_cons_zero, List.set_cons_succ]
    refine H2.held_two 3 6 rfl rfl (by kernel_rfl) (by rfl) (by rfl) (fun K hK => ?_) (fun K hK => ?_)
    · try simp only [List.getElem_toArray, List.getElem_cons_zero, List.getElem_cons_succ]
      have e1 := (HD.out.s hq17).1
      rw [HS2.out] at e1
      go_simp
      clear e1
      try simp only [Act.put, List.setIfInBounds_toArray, List.set_cons_zero, List.set_cons_succ]
      refine hK.out _ _ _ HX7.out ?_
      clear hK K
      refine held_call 6 65 rfl rfl (by kernel_rfl) (by rfl) (fun K hK => ?_)
      try simp only [List.getElem_toArray, List.getElem_cons_zero, List.getElem_cons_succ]
      go_simp
      (go_at_call 23; (with_reducible refine (mark_any _ _).mono ?_); rintro e w8 ⟨rfl, h1⟩; have H := Lib.hid (H.out.below h1); have HV := Lib.hid (HV.out.below h1); have HX7 := Lib.hid (HX7.out.below h1); have HD := Lib.hid (HD.out.below h1); have hb := Lib.hid (hb.out.trans (h1.mono hb.out.size)); clear h1)
      try go_wp2_with fail
      try simp only [Act.put, List.setIfInBounds_toArray, List.set_cons_zero, List.set_cons_succ]
      refine hK.out _ _ _ HX7.out ?_
      clear hK K
      refine held_take 7 66 (v := ?_) rfl rfl (by kernel_rfl) (by kernel_rfl) (by kernel_rfl) (fun _ _ _ h => h) (by rfl) ?_ HX7.out ?_
      rotate_left
      · (intro w hSw; (try dsimp only at hSw); have a0 := hSw.all.load (k := n20) (encR_n _) Tryz.prog; clear hSw;try simp only [List.getElem_toArray, List.getElem_cons_zero, List.getElem_cons_succ]; go_simp; try (with_reducible rfl))
      try simp only [List.setIfInBounds_toArray, List.set_cons_zero, List.set_cons_succ]
      refine held_take 8 67 (v := ?_) rfl rfl (by kernel_rfl) (by kernel_rfl) (by kernel_rfl) (fun _ _ _ h => h) (by rfl) ?_ HX7.out ?_
      rotate_left
      · (intro w hSw; (try dsimp only at hSw); have a0 := hSw.all.load (k := n20) (encR_n _) Tryz.prog; clear hSw;try simp only [List.getElem_toArray, List.getElem_cons_zero, List.getElem_cons_succ]; go_simp; try (with_reducible rfl))
      try simp only [List.setIfInBounds_toArray, List.set_cons_zero, List.set_cons_succ]
      refine held_take 9 68 (v := ?_) rfl rfl (by kernel_rfl) (by kernel_rfl) (by kernel_rfl) (fun _ _ _ h => h) (by rfl) ?_ HX7.out ?_
      rotate_left
      · (intro w hSw; (try dsimp only at hSw); have a0 := hSw.all.load (k := n20) (encR_n _) Tryz.prog; clear hSw;try simp only [List.getElem_toArray, List.getElem_cons_zero, List.getElem_cons_succ]; go_simp; try (with_reducible rfl))
      try simp only [List.setIfInBounds_toArray, List.set_cons_zero, List.set_cons_succ]
      refine held_do 10 rfl (by kernel_rfl) (by rfl) (fun K hK => ?_)
      try simp only [List.getElem_toArray, List.getElem_cons_zero, List.getElem_cons_succ]
      (have e1 := (HD.out.s hq17).1; have e2 := (HD.out.s hq17).2; go_simp; have ho := Lib.hid ((Only.refl (fun i => i = g) w8).setCell (p := ⟨g, q * 2 + 1, none⟩) (fun _ => rfl) (.int .u64 (IntKind.u64.wrap (S + mk y)))); have HX7 := Lib.hid (HX7.out.only' ho.out HNB.out.1); clear e1 e2)
      try simp only [Act.put, List.setIfInBounds_toArray, List.set_cons_zero, List.set_cons_succ]
      refine hK.out _ _ _ HX7.out ?_
      clear hK K
      refine wpAnyH_done (by kernel_rfl) ?_ _
      have HD := Lib.hid (show DRw (w8.setCell ⟨g, q * 2 + 1, none⟩ (.int .u64 (IntKind.u64.wrap (S + mk y)))) g (addF (F) q (mk y)) by
        have := HD.out.setS hq17 (IntKind.u64.wrap (S + mk y))
        rw [← HSS.out] at this ⊢
        exact this)
      have H := Lib.hid (iat_only H.out ho.out HNB.out.1)
      have HV := Lib.hid (HV.out.only' ho.out HNB.out.2)
      have hb := Lib.hid (hb.out.setCell HGL.out (p := ⟨g, q * 2 + 1, none⟩) (.int .u64 (IntKind.u64.wrap (S + mk y))))
      go_wp2
      go_ret
      exact ⟨g, c, rfl, HGL.out, by rw [HMD.out]; exact HD.out, hb.out⟩
    · try simp only [List.getElem_toArray, List.getElem_cons_zero, List.getElem_cons_succ]
      go_simp
      (go_at_call 23; (with_reducible refine (mark_any _ _).mono ?_); rintro e w8 ⟨rfl, h1⟩; have H := Lib.hid (H.out.below h1); have HV := Lib.hid (HV.out.below h1); have HX7 := Lib.hid (HX7.out.below h1); have HD := Lib.hid (HD.out.below h1); have hb := Lib.hid (hb.out.trans (h1.mono hb.out.size)); clear h1)
      try go_wp2_with fail
      try simp only [Act.put, List.setIfInBounds_toArray, List.set_cons_zero, List.set_cons_succ]
      refine hK.out _ _ _ HX7.out ?_
      clear hK K
      refine held_call 3 62 rfl rfl (by kernel_rfl) (by rfl) (fun K hK => ?_)
      try simp only [List.getElem_toArray, List.getElem_cons_zero, List.getElem_cons_succ]
      have e1 := (HD.out.s hq17).1
      rw [HS2.out] at e1
      go_simp
      clear e1
      try simp only [Act.put, List.setIfInBounds_toArray, List.set_cons_zero, List.set_cons_succ]
      refine hK.out _ _ _ HX7.out ?_
      clear hK K
      refine held_take 7 66 (v := ?_) rfl rfl (by kernel_rfl) (by kernel_rfl) (by kernel_rfl) (fun _ _ _ h => h) (by rfl) ?_ HX7.out ?_
      rotate_left
      · (intro w hSw; (try dsimp only at hSw); have a0 := hSw.all.load (k := n20) (encR_n _) Tryz.prog; clear hSw;try simp only [List.getElem_toArray, List.getElem_cons_zero, List.getElem_cons_succ]; go_simp; try (with_reducible rfl))
      try simp only [List.setIfInBounds_toArray, List.set_cons_zero, List.set_cons_succ]
      refine held_take 8 67 (v := ?_) rfl rfl (by kernel_rfl) (by kernel_rfl) (by kernel_rfl) (fun _ _ _ h => h) (by rfl) ?_ HX7.out ?_
      rotate_left
      · (intro w hSw; (try dsimp only at hSw); have a0 := hSw.all.load (k := n20) (encR_n _) Tryz.prog; clear hSw;try simp only [List.getElem_toArray, List.getElem_cons_zero, List.getElem_cons_succ]; go_simp; try (with_reducible rfl))
      try simp only [List.setIfInBounds_toArray, List.set_cons_zero, List.set_cons_succ]
      refine held_take 9 68 (v := ?_) rfl rfl (by kernel_rfl) (by kernel_rfl) (by kernel_rfl) (fun _ _ _ h => h) (by rfl) ?_ HX7.out ?_
      rotate_left
      · (intro w hSw; (try dsimp only at hSw); have a0 := hSw.all.load (k := n20) (encR_n _) Tryz.prog; clear hSw;try simp only [List.getElem_toArray, List.getElem_cons_zero, List.getElem_cons_succ]; go_simp; try (with_reducible rfl))
      try simp only [List.setIfInBounds_toArray, List.set_cons_zero, List.set_cons_succ]
      refine held_do 10 rfl (by kernel_rfl) (by rfl) (fun K hK => ?_)
      try simp only [List.getElem_toArray, List.getElem_cons_zero, List.getElem_cons_succ]
      (have e1 := (HD.out.s hq17).1; have e2 := (HD.out.s hq17).2; go_simp; have ho := Lib.hid ((Only.refl (fun i => i = g) w8).setCell (p := ⟨g, q * 2 + 1, none⟩) (fun _ => rfl) (.int .u64 (IntKind.u64.wrap (S + mk y)))); have HX7 := Lib.hid (HX7.out.only' ho.out HNB.out.1); clear e1 e2)
      try simp only [Act.put, List.setIfInBounds_toArray, List.set_cons_zero, List.set_cons_succ]
      refine hK.out _ _ _ HX7.out ?_
      clear hK K
      refine wpAnyH_done (by kernel_rfl) ?_ _
      have HD := Lib.hid (show DRw (w8.setCell ⟨g, q * 2 + 1, none⟩ (.int .u64 (IntKind.u64.wrap (S + mk y)))) g (addF (F) q (mk y)) by
        have := HD.out.setS hq17 (IntKind.u64.wrap (S + mk y))
        rw [← HSS.out] at this ⊢
        exact this)
      have H := Lib.hid (iat_only H.out ho.out HNB.out.1)
      have HV := Lib.hid (HV.out.only' ho.out HNB.out.2)
      have hb := Lib.hid (hb.out.setCell HGL.out (p := ⟨g, q * 2 + 1, none⟩) (.int .u64 (IntKind.u64.wrap (S + mk y))))
      go_wp2
      go_ret
      exact ⟨g, c, rfl, HGL.out, by rw [HMD.out]; exact HD.out, hb.out⟩
  · have HMD := Lib.hid (HMD.out.trans ((if_neg (by decide)).trans (if_pos rfl)))
    go_enter Tryz.func9, Tryz.ntmps9
    go_upto_region 1 with fail
    have H := Lib.hid ((iAt_new w ⟨2, y⟩ 38 (0, 0)).below ((Below.refl _ _).alloc (Nat.le_refl _) (.cells (encR was).toArray 36 (0, 0))))
    have HV := Lib.hid (rAt_new (w.alloc (.cells (Tab.encI ⟨2, y⟩).toArray 38 (0, 0))) was 36 (0, 0))
    rw [show (w.alloc (.cells (Tab.encI ⟨2, y⟩).toArray 38 (0, 0))).heap.size = w.heap.size + 1 by simp] at HV
    have hb := Lib.hid (show Below w.heap.size w ((w.alloc (.cells (Tab.encI ⟨2, y⟩).toArray 38 (0, 0))).alloc (.cells (encR was).toArray 36 (0, 0))) from ((Below.refl _ _).alloc (Nat.le_refl _) _).alloc (by simp) _)
    have HB1 := Lib.hid (show w.heap.size + 1 < ((w.alloc (.cells (Tab.encI ⟨2, y⟩).toArray 38 (0, 0))).alloc (.cells (encR was).toArray 36 (0, 0))).heap.size by simp)
    have HV1 := HB1
    generalize (w.alloc _).alloc _ = W1 at H HV hb HB1 HV1 ⊢
    have HB1 := Lib.hid (show w.heap.size < W1.heap.size by have := HB1.out; omega)
    generalize w.heap.size + 1 = B5 at HV HV1 ⊢
    obtain ⟨B, hB⟩ : ∃ B, w.heap.size = B := ⟨_, rfl⟩
    have HBW := Lib.hid hB
    rw [hB] at H HB1 ⊢
    clear hB
    have ck : W1.cell? ⟨B, 0, none⟩ = some (.int .i64 2) := H.out.kind
    have HCL := Lib.hid (cloneG_any A cap F W1 (hr.below hb.out))
    go_upto_region 4 with (go_at_call 36; (with_reducible refine (HCL.out).mono ?_); rintro e w2 ⟨g, c, rfl, h1, h2, hb2⟩; have HGL := Lib.hid (Nat.le_trans hb.out.size h1); have HG1 := Lib.hid h1; have HD := Lib.hid h2; have H := Lib.hid (H.out.below hb2); have HV := Lib.hid (HV.out.below hb2); have hb := Lib.hid (hb.out.trans (hb2.mono hb.out.size)); clear h1 h2 hb2 ck)
    have HNB := Lib.hid (show B ≠ g ∧ B5 ≠ g from ⟨fun e => by have h1 := HG1.out; have h2 := HB1.out; omega, fun e => by have h1 := HG1.out; have h2 := HV1.out; omega⟩)
    clear HCL
    have ck : w2.cell? ⟨B, 0, none⟩ = some (.int .i64 2) := H.out.kind
    have c0 : Sem.run Tryz.prog (loadCellsFrom ⟨B, 1, none⟩ 0 n18 #[]) w2 = .ok (encP y.to).toArray w2 := H.out.rt.to.all.load (k := n18) (encP_n _) Tryz.prog
    go_upto_region 5 with (go_at_call 31; (with_reducible refine (bucket_any _ _).mono ?_); rintro e w3 ⟨rfl, hb2⟩; rw [HQ.out]; have HD := Lib.hid (HD.out.below hb2); have H := Lib.hid (H.out.below hb2); have HV := Lib.hid (HV.out.below hb2); have hb := Lib.hid (hb.out.trans (hb2.mono hb.out.size)); clear hb2 ck c0)
    have ck : w3.cell? ⟨B, 0, none⟩ = some (.int .i64 2) := H.out.kind
    obtain ⟨N, hN⟩ : ∃ N, (F q).1 = N := ⟨_, rfl⟩
    obtain ⟨S, hS⟩ : ∃ S, (F q).2 = S := ⟨_, rfl⟩
    have HNN := Lib.hid hN
    have HSS := Lib.hid hS
    clear hN hS
    obtain ⟨y1, y2⟩ := HD.out.n hq17
    rw [HNN.out] at y1
    go_upto_region 7 with fail
    clear y1 y2 ck
    have ho := Lib.hid ((Only.refl (fun i => i = g) w3).setCell (p := ⟨g, q * 2, none⟩) (fun _ => rfl) (.int .i64 (wrap64 (N - 1))))
    have HD := Lib.hid (show DRw (w3.setCell ⟨g, q * 2, none⟩ (.int .i64 (wrap64 (N - 1)))) g (subN (F) q) by
      have := HD.out.setN hq17 (wrap64 (N - 1))
      rw [← HNN.out] at this ⊢
      exact this)
    have HD := Lib.hid (HD.out.below (Below.refl _ _).drew)
    have H := Lib.hid (iat_only H.out ho.out HNB.out.1).drew
    have HV := Lib.hid (HV.out.only' ho.out HNB.out.2).drew
    have hb := Lib.hid (hb.out.setCell HGL.out (p := ⟨g, q * 2, none⟩) (.int .i64 (wrap64 (N - 1)))).drew
    generalize (World.setCell _ _ _) = W7 at H HV hb HD ⊢
    have HS2 := Lib.hid (show (subN (F) q q).2 = S by rw [subN_s]; exact HSS.out)
    have HX7 := Lib.hid (show RAt W7.drew B5 0 was from HV.out)
    refine wp_region_held_drew (S := (fun w' => RAt w' B5 0 was)) (by kernel_rfl) HX7.out (fun _ => ?_)
    refine held_take 0 40 (v := ?_) rfl rfl (by kernel_rfl) (by kernel_rfl) (by kernel_rfl) (fun _ _ _ h => h) (by rfl) ?_ HX7.out ?_
    rotate_left
    · (intro w hSw; (try dsimp only at hSw); have a0 := hSw.all.load (k := n20) (encR_n _) Tryz.prog; clear hSw;try simp only [List.getElem_toArray, List.getElem_cons_zero, List.getElem_cons_succ]; go_simp; try (with_reducible rfl))
    try simp only [List.setIfInBounds_toArray, List.set_cons_zero, List.set_cons_succ]
    refine held_take 1 41 (v := ?_) rfl rfl (by kernel_rfl) (by kernel_rfl) (by kernel_rfl) (fun _ _ _ h => h) (by rfl) ?_ HX7.out ?_
    rotate_left
    · (intro w hSw; (try dsimp only at hSw); have a0 := hSw.all.load (k := n20) (encR_n _) Tryz.prog; clear hSw;try simp only [List.getElem_toArray, List.getElem_cons_zero, List.getElem_cons_succ]; go_simp; try (with_reducible rfl))
    try simp only [List.setIfInBounds_toArray, List.set_cons_zero, List.set_cons_succ]
    refine held_take 2 42 (v := ?_) rfl rfl (by kernel_rfl) (by kernel_rfl) (by kernel_rfl) (fun _ _ _ h => h) (by rfl) ?_ HX7.out ?_
    rotate_left
    · (intro w hSw; (try dsimp only at hSw); have a0 := hSw.all.load (k := n20) (encR_n _) Tryz.prog; clear hSw;try simp only [List.getElem_toArray, List.getElem_cons_zero, List.getElem_cons_succ]; go_simp; try (with_reducible rfl))
    try simp only [List.setIfInBounds_toArray, List.set_cons_zero, List.set_cons_succ]
    refine held_take 4 44 (v := ?_) rfl rfl (by kernel_rfl) (by kernel_rfl) (by kernel_rfl) (fun _ _ _ h => h) (by rfl) ?_ HX7.out ?_
    rotate_left
    · (intro w hSw; (try dsimp only at hSw); have a0 := hSw.all.load (k := n20) (encR_n _) Tryz.prog; clear hSw;try simp only [List.getElem_toArray, List.getElem_cons_zero, List.getElem_cons_succ]; go_simp; try (with_reducible rfl))
    try simp only [List.setIfInBounds_toArray, List.set_cons_zero, List.set_cons_succ]
    refine H2.held_two 3 5 rfl rfl (by kernel_rfl) (by rfl) (by rfl) (fun K hK => ?_) (fun K hK => ?_)
    · try simp only [List.getElem_toArray, List.getElem_cons_zero, List.getElem_cons_succ]
      have e1 := (HD.out.s hq17).1
      rw [HS2.out] at e1
      go_simp
      clear e1
      try simp only [Act.put, List.setIfInBounds_toArray, List.set_cons_zero, List.set_cons_succ]
      refine hK.out _ _ _ HX7.out ?_
      clear hK K
      refine held_call 5 45 rfl rfl (by kernel_rfl) (by rfl) (fun K hK => ?_)
      try simp only [List.getElem_toArray, List.getElem_cons_zero, List.getElem_cons_succ]
      go_simp
      (go_at_call 23; (with_reducible refine (mark_any _ _).mono ?_); rintro e w8 ⟨rfl, h1⟩; have H := Lib.hid (H.out.below h1); have HV := Lib.hid (HV.out.below h1); have HX7 := Lib.hid (HX7.out.below h1); have HD := Lib.hid (HD.out.below h1); have hb := Lib.hid (hb.out.trans (h1.mono hb.out.size)); clear h1)
      try go_wp2_with fail
      try simp only [Act.put, List.setIfInBounds_toArray, List.set_cons_zero, List.set_cons_succ]
      refine hK.out _ _ _ HX7.out ?_
      clear hK K
      refine held_take 6 46 (v := ?_) rfl rfl (by kernel_rfl) (by kernel_rfl) (by kernel_rfl) (fun _ _ _ h => h) (by rfl) ?_ HX7.out ?_
      rotate_left
      · (intro w hSw; (try dsimp only at hSw); have a0 := hSw.all.load (k := n20) (encR_n _) Tryz.prog; clear hSw;try simp only [List.getElem_toArray, List.getElem_cons_zero, List.getElem_cons_succ]; go_simp; try (with_reducible rfl))
      try simp only [List.setIfInBounds_toArray, List.set_cons_zero, List.set_cons_succ]
      refine held_take 7 47 (v := ?_) rfl rfl (by kernel_rfl) (by kernel_rfl) (by kernel_rfl) (fun _ _ _ h => h) (by rfl) ?_ HX7.out ?_
      rotate_left
      · (intro w hSw; (try dsimp only at hSw); have a0 := hSw.all.load (k := n20) (encR_n _) Tryz.prog; clear hSw;try simp only [List.getElem_toArray, List.getElem_cons_zero, List.getElem_cons_succ]; go_simp; try (with_reducible rfl))
      try simp only [List.setIfInBounds_toArray, List.set_cons_zero, List.set_cons_succ]
      refine held_take 8 48 (v := ?_) rfl rfl (by kernel_rfl) (by kernel_rfl) (by kernel_rfl) (fun _ _ _ h => h) (by rfl) ?_ HX7.out ?_
      rotate_left
      · (intro w hSw; (try dsimp only at hSw); have a0 := hSw.all.load (k := n20) (encR_n _) Tryz.prog; clear hSw;try simp only [List.getElem_toArray, List.getElem_cons_zero, List.getElem_cons_succ]; go_simp; try (with_reducible rfl))
      try simp only [List.setIfInBounds_toArray, List.set_cons_zero, List.set_cons_succ]
      refine held_do 9 rfl (by kernel_rfl) (by rfl) (fun K hK => ?_)
      try simp only [List.getElem_toArray, List.getElem_cons_zero, List.getElem_cons_succ]
      (have e1 := (HD.out.s hq17).1; have e2 := (HD.out.s hq17).2; go_simp; have ho := Lib.hid ((Only.refl (fun i => i = g) w8).setCell (p := ⟨g, q * 2 + 1, none⟩) (fun _ => rfl) (.int .u64 (IntKind.u64.wrap (S - mk was)))); have HX7 := Lib.hid (HX7.out.only' ho.out HNB.out.2); clear e1 e2)
      try simp only [Act.put, List.setIfInBounds_toArray, List.set_cons_zero, List.set_cons_succ]
      refine hK.out _ _ _ HX7.out ?_
      clear hK K
      refine wpAnyH_done (by kernel_rfl) ?_ _
      have HD := Lib.hid (show DRw (w8.setCell ⟨g, q * 2 + 1, none⟩ (.int .u64 (IntKind.u64.wrap (S - mk was)))) g (subF (F) q (mk was)) by
        have := HD.out.setS hq17 (IntKind.u64.wrap (S - mk was))
        rw [← HSS.out] at this ⊢
        exact this)
      have H := Lib.hid (iat_only H.out ho.out HNB.out.1)
      have HV := Lib.hid (HV.out.only' ho.out HNB.out.2)
      have hb := Lib.hid (hb.out.setCell HGL.out (p := ⟨g, q * 2 + 1, none⟩) (.int .u64 (IntKind.u64.wrap (S - mk was))))
      have ck := H.out.kind
      generalize (World.setCell _ _ _) = W9 at H HV hb HD ck ⊢
      clear ho
      obtain ⟨N, hN⟩ : ∃ N, ((subF F q (mk was)) q).1 = N := ⟨_, rfl⟩
      obtain ⟨S, hS⟩ : ∃ S, ((subF F q (mk was)) q).2 = S := ⟨_, rfl⟩
      have HNN := Lib.hid hN
      have HSS := Lib.hid hS
      clear hN hS
      obtain ⟨y1, y2⟩ := HD.out.n hq17
      rw [HNN.out] at y1
      go_upto_region 10 with fail
      clear y1 y2 ck
      have ho := Lib.hid ((Only.refl (fun i => i = g) W9).setCell (p := ⟨g, q * 2, none⟩) (fun _ => rfl) (.int .i64 (wrap64 (N + 1))))
      have HD := Lib.hid (show DRw (W9.setCell ⟨g, q * 2, none⟩ (.int .i64 (wrap64 (N + 1)))) g (addN ((subF F q (mk was))) q) by
        have := HD.out.setN hq17 (wrap64 (N + 1))
        rw [← HNN.out] at this ⊢
        exact this)
      have HD := Lib.hid (HD.out.below (Below.refl _ _).drew)
      have H := Lib.hid (iat_only H.out ho.out HNB.out.1).drew
      have HV := Lib.hid (HV.out.only' ho.out HNB.out.2).drew
      have hb := Lib.hid (hb.out.setCell HGL.out (p := ⟨g, q * 2, none⟩) (.int .i64 (wrap64 (N + 1)))).drew
      generalize (World.setCell _ _ _) = W11 at H HV hb HD ⊢
      have HS2 := Lib.hid (show (addN ((subF F q (mk was))) q q).2 = S by rw [addN_s]; exact HSS.out)
      have HX7 := Lib.hid (show RAt W11.drew B 1 y from H.out.rt)
      refine wp_region_held_drew (S := (fun w' => RAt w' B 1 y)) (by kernel_rfl) HX7.out (fun _ => ?_)
      refine held_take 0 59 (v := ?_) rfl rfl (by kernel_rfl) (by kernel_rfl) (by kernel_rfl) (fun _ _ _ h => h) (by rfl) ?_ HX7.out ?_
      rotate_left
      · (intro w hSw; (try dsimp only at hSw); have a0 := hSw.all.load (k := n20) (encR_n _) Tryz.prog; clear hSw;try simp only [List.getElem_toArray, List.getElem_cons_zero, List.getElem_cons_succ]; go_simp; try (with_reducible rfl))
      try simp only [List.setIfInBounds_toArray, List.set_cons_zero, List.set_cons_succ]
      refine held_take 1 60 (v := ?_) rfl rfl (by kernel_rfl) (by kernel_rfl) (by kernel_rfl) (fun _ _ _ h => h) (by rfl) ?_ HX7.out ?_
      rotate_left
      · (intro w hSw; (try dsimp only at hSw); have a0 := hSw.all.load (k := n20) (encR_n _) Tryz.prog; clear hSw;try simp only [List.getElem_toArray, List.getElem_cons_zero, List.getElem_cons_succ]; go_simp; try (with_reducible rfl))
      try simp only [List.setIfInBounds_toArray, List.set_cons_zero, List.set_cons_succ]
      refine held_take 2 61 (v := ?_) rfl rfl (by kernel_rfl) (by kernel_rfl) (by kernel_rfl) (fun _ _ _ h => h) (by rfl) ?_ HX7.out ?_
      rotate_left
      · (intro w hSw; (try dsimp only at hSw); have a0 := hSw.all.load (k := n20) (encR_n _) Tryz.prog; clear hSw;try simp only [List.getElem_toArray, List.getElem_cons_zero, List.getElem_cons_succ]; go_simp; try (with_reducible rfl))
      try simp only [List.setIfInBounds_toArray, List.set_cons_zero, List.set_cons_succ]
      refine held_take 4 63 (v := ?_) rfl rfl (by kernel_rfl) (by kernel_rfl) (by kernel_rfl) (fun _ _ _ h => h) (by rfl) ?_ HX7.out ?_
      rotate_left
      · (intro w hSw; (try dsimp only at hSw); have a0 := hSw.all.load (k := n20) (encR_n _) Tryz.prog; clear hSw;try simp only [List.getElem_toArray, List.getElem_cons_zero, List.getElem_cons_succ]; go_simp; try (with_reducible rfl))
      try simp only [List.setIfInBounds_toArray, List.set_cons_zero, List.set_cons_succ]
      refine held_take 5 64 (v := ?_) rfl rfl (by kernel_rfl) (by kernel_rfl) (by kernel_rfl) (fun _ _ _ h => h) (by rfl) ?_ HX7.out ?_
      rotate_left
      · (intro w hSw; (try dsimp only at hSw); have a0 := hSw.all.load (k := n20) (encR_n _) Tryz.prog; clear hSw;try simp only [List.getElem_toArray, List.getElem_cons_zero, List.getElem_cons_succ]; go_simp; try (with_reducible rfl))
      try simp only [List.setIfInBounds_toArray, List.set_cons_zero, List.set_cons_succ]
      refine H2.held_two 3 6 rfl rfl (by kernel_rfl) (by rfl) (by rfl) (fun K hK => ?_) (fun K hK => ?_)
      · try simp only [List.getElem_toArray, List.getElem_cons_zero, List.getElem_cons_succ]
        have e1 := (HD.out.s hq17).1
        rw [HS2.out] at e1
        go_simp
        clear e1
        try simp only [Act.put, List.setIfInBounds_toArray, List.set_cons_zero, List.set_cons_succ]
        refine hK.out _ _ _ HX7.out ?_
        clear hK K
        refine held_call 6 65 rfl rfl (by kernel_rfl) (by rfl) (fun K hK => ?_)
        try simp only [List.getElem_toArray, List.getElem_cons_zero, List.getElem_cons_succ]
        go_simp
        (go_at_call 23; (with_reducible refine (mark_any _ _).mono ?_); rintro e w8 ⟨rfl, h1⟩; have H := Lib.hid (H.out.below h1); have HV := Lib.hid (HV.out.below h1); have HX7 := Lib.hid (HX7.out.below h1); have HD := Lib.hid (HD.out.below h1); have hb := Lib.hid (hb.out.trans (h1.mono hb.out.size)); clear h1)
        try go_wp2_with fail
        try simp only [Act.put, List.setIfInBounds_toArray, List.set_cons_zero, List.set_cons_succ]
        refine hK.out _ _ _ HX7.out ?_
        clear hK K
        refine held_take 7 66 (v := ?_) rfl rfl (by kernel_rfl) (by kernel_rfl) (by kernel_rfl) (fun _ _ _ h => h) (by rfl) ?_ HX7.out ?_
        rotate_left
        · (intro w hSw; (try dsimp only at hSw); have a0 := hSw.all.load (k := n20) (encR_n _) Tryz.prog; clear hSw;try simp only [List.getElem_toArray, List.getElem_cons_zero, List.getElem_cons_succ]; go_simp; try (with_reducible rfl))
        try simp only [List.setIfInBounds_toArray, List.set_cons_zero, List.set_cons_succ]
        refine held_take 8 67 (v := ?_) rfl rfl (by kernel_rfl) (by kernel_rfl) (by kernel_rfl) (fun _ _ _ h => h) (by rfl) ?_ HX7.out ?_
        rotate_left
        · (intro w hSw; (try dsimp only at hSw); have a0 := hSw.all.load (k := n20) (encR_n _) Tryz.prog; clear hSw;try simp only [List.getElem_toArray, List.getElem_cons_zero, List.getElem_cons_succ]; go_simp; try (with_reducible rfl))
        try simp only [List.setIfInBounds_toArray, List.set_cons_zero, List.set_cons_succ]
        refine held_take 9 68 (v := ?_) rfl rfl (by kernel_rfl) (by kernel_rfl) (by kernel_rfl) (fun _ _ _ h => h) (by rfl) ?_ HX7.out ?_
        rotate_left
        · (intro w hSw; (try dsimp only at hSw); have a0 := hSw.all.load (k := n20) (encR_n _) Tryz.prog; clear hSw;try simp only [List.getElem_toArray, List.getElem_cons_zero, List.getElem_cons_succ]; go_simp; try (with_reducible rfl))
        try simp only [List.setIfInBounds_toArray, List.set_cons_zero, List.set_cons_succ]
        refine held_do 10 rfl (by kernel_rfl) (by rfl) (fun K hK => ?_)
        try simp only [List.getElem_toArray, List.getElem_cons_zero, List.getElem_cons_succ]
        (have e1 := (HD.out.s hq17).1; have e2 := (HD.out.s hq17).2; go_simp; have ho := Lib.hid ((Only.refl (fun i => i = g) w8).setCell (p := ⟨g, q * 2 + 1, none⟩) (fun _ => rfl) (.int .u64 (IntKind.u64.wrap (S + mk y)))); have HX7 := Lib.hid (HX7.out.only' ho.out HNB.out.1); clear e1 e2)
        try simp only [Act.put, List.setIfInBounds_toArray, List.set_cons_zero, List.set_cons_succ]
        refine hK.out _ _ _ HX7.out ?_
        clear hK K
        refine wpAnyH_done (by kernel_rfl) ?_ _
        have HD := Lib.hid (show DRw (w8.setCell ⟨g, q * 2 + 1, none⟩ (.int .u64 (IntKind.u64.wrap (S + mk y)))) g (addF ((subF F q (mk was))) q (mk y)) by
          have := HD.out.setS hq17 (IntKind.u64.wrap (S + mk y))
          rw [← HSS.out] at this ⊢
          exact this)
        have H := Lib.hid (iat_only H.out ho.out HNB.out.1)
        have HV := Lib.hid (HV.out.only' ho.out HNB.out.2)
        have hb := Lib.hid (hb.out.setCell HGL.out (p := ⟨g, q * 2 + 1, none⟩) (.int .u64 (IntKind.u64.wrap (S + mk y))))
        go_wp2
        go_ret
        exact ⟨g, c, rfl, HGL.out, by rw [HMD.out]; exact HD.out, hb.out⟩
      · try simp only [List.getElem_toArray, List.getElem_cons_zero, List.getElem_cons_succ]
        go_simp
        (go_at_call 23; (with_reducible refine (mark_any _ _).mono ?_); rintro e w8 ⟨rfl, h1⟩; have H := Lib.hid (H.out.below h1); have HV := Lib.hid (HV.out.below h1); have HX7 := Lib.hid (HX7.out.below h1); have HD := Lib.hid (HD.out.below h1); have hb := Lib.hid (hb.out.trans (h1.mono hb.out.size)); clear h1)
        try go_wp2_with fail
        try simp only [Act.put, List.setIfInBounds_toArray, List.set_cons_zero, List.set_cons_succ]
        refine hK.out _ _ _ HX7.out ?_
        clear hK K
        refine held_call 3 62 rfl rfl (by kernel_rfl) (by rfl) (fun K hK => ?_)
        try simp only [List.getElem_toArray, List.getElem_cons_zero, List.getElem_cons_succ]
        have e1 := (HD.out.s hq17).1
        rw [HS2.out] at e1
        go_simp
        clear e1
        try simp only [Act.put, List.setIfInBounds_toArray, List.set_cons_zero, List.set_cons_succ]
        refine hK.out _ _ _ HX7.out ?_
        clear hK K
        refine held_take 7 66 (v := ?_) rfl rfl (by kernel_rfl) (by kernel_rfl) (by kernel_rfl) (fun _ _ _ h => h) (by rfl) ?_ HX7.out ?_
        rotate_left
        · (intro w hSw; (try dsimp only at hSw); have a0 := hSw.all.load (k := n20) (encR_n _) Tryz.prog; clear hSw;try simp only [List.getElem_toArray, List.getElem_cons_zero, List.getElem_cons_succ]; go_simp; try (with_reducible rfl))
        try simp only [List.setIfInBounds_toArray, List.set_cons_zero, List.set_cons_succ]
        refine held_take 8 67 (v := ?_) rfl rfl (by kernel_rfl) (by kernel_rfl) (by kernel_rfl) (fun _ _ _ h => h) (by rfl) ?_ HX7.out ?_
        rotate_left
        · (intro w hSw; (try dsimp only at hSw); have a0 := hSw.all.load (k := n20) (encR_n _) Tryz.prog; clear hSw;try simp only [List.getElem_toArray, List.getElem_cons_zero, List.getElem_cons_succ]; go_simp; try (with_reducible rfl))
        try simp only [List.setIfInBounds_toArray, List.set_cons_zero, List.set_cons_succ]
        refine held_take 9 68 (v := ?_) rfl rfl (by kernel_rfl) (by kernel_rfl) (by kernel_rfl) (fun _ _ _ h => h) (by rfl) ?_ HX7.out ?_
        rotate_left
        · (intro w hSw; (try dsimp only at hSw); have a0 := hSw.all.load (k := n20) (encR_n _) Tryz.prog; clear hSw;try simp only [List.getElem_toArray, List.getElem_cons_zero, List.getElem_cons_succ]; go_simp; try (with_reducible rfl))
        try simp only [List.setIfInBounds_toArray, List.set_cons_zero, List.set_cons_succ]
        refine held_do 10 rfl (by kernel_rfl) (by rfl) (fun K hK => ?_)
        try simp only [List.getElem_toArray, List.getElem_cons_zero, List.getElem_cons_succ]
        (have e1 := (HD.out.s hq17).1; have e2 := (HD.out.s hq17).2; go_simp; have ho := Lib.hid ((Only.refl (fun i => i = g) w8).setCell (p := ⟨g, q * 2 + 1, none⟩) (fun _ => rfl) (.int .u64 (IntKind.u64.wrap (S + mk y)))); have HX7 := Lib.hid (HX7.out.only' ho.out HNB.out.1); clear e1 e2)
        try simp only [Act.put, List.setIfInBounds_toArray, List.set_cons_zero, List.set_cons_succ]
        refine hK.out _ _ _ HX7.out ?_
        clear hK K
        refine wpAnyH_done (by kernel_rfl) ?_ _
        have HD := Lib.hid (show DRw (w8.setCell ⟨g, q * 2 + 1, none⟩ (.int .u64 (IntKind.u64.wrap (S + mk y)))) g (addF ((subF F q (mk was))) q (mk y)) by
          have := HD.out.setS hq17 (IntKind.u64.wrap (S + mk y))
          rw [← HSS.out] at this ⊢
          exact this)
        have H := Lib.hid (iat_only H.out ho.out HNB.out.1)
        have HV := Lib.hid (HV.out.only' ho.out HNB.out.2)
        have hb := Lib.hid (hb.out.setCell HGL.out (p := ⟨g, q * 2 + 1, none⟩) (.int .u64 (IntKind.u64.wrap (S + mk y))))
        go_wp2
        go_ret
        exact ⟨g, c, rfl, HGL.out, by rw [HMD.out]; exact HD.out, hb.out⟩
    · try simp only [List.getElem_toArray, List.getElem_cons_zero, List.getElem_cons_succ]
      go_simp
      (go_at_call 23; (with_reducible refine (mark_any _ _).mono ?_); rintro e w8 ⟨rfl, h1⟩; have H := Lib.hid (H.out.below h1); have HV := Lib.hid (HV.out.below h1); have HX7 := Lib.hid (HX7.out.below h1); have HD := Lib.hid (HD.out.below h1); have hb := Lib.hid (hb.out.trans (h1.mono hb.out.size)); clear h1)
      try go_wp2_with fail
      try simp only [Act.put, List.setIfInBounds_toArray, List.set_cons_zero, List.set_cons_succ]
      refine hK.out _ _ _ HX7.out ?_
      clear hK K
      refine held_call 3 43 rfl rfl (by kernel_rfl) (by rfl) (fun K hK => ?_)
      try simp only [List.getElem_toArray, List.getElem_cons_zero, List.getElem_cons_succ]
      have e1 := (HD.out.s hq17).1
      rw [HS2.out] at e1
      go_simp
      clear e1
      try simp only [Act.put, List.setIfInBounds_toArray, List.set_cons_zero, List.set_cons_succ]
      refine hK.out _ _ _ HX7.out ?_
      clear hK K
      refine held_take 6 46 (v := ?_) rfl rfl (by kernel_rfl) (by kernel_rfl) (by kernel_rfl) (fun _ _ _ h => h) (by rfl) ?_ HX7.out ?_
      rotate_left
      · (intro w hSw; (try dsimp only at hSw); have a0 := hSw.all.load (k := n20) (encR_n _) Tryz.prog; clear hSw;try simp only [List.getElem_toArray, List.getElem_cons_zero, List.getElem_cons_succ]; go_simp; try (with_reducible rfl))
      try simp only [List.setIfInBounds_toArray, List.set_cons_zero, List.set_cons_succ]
      refine held_take 7 47 (v := ?_) rfl rfl (by kernel_rfl) (by kernel_rfl) (by kernel_rfl) (fun _ _ _ h => h) (by rfl) ?_ HX7.out ?_
      rotate_left
      · (intro w hSw; (try dsimp only at hSw); have a0 := hSw.all.load (k := n20) (encR_n _) Tryz.prog; clear hSw;try simp only [List.getElem_toArray, List.getElem_cons_zero, List.getElem_cons_succ]; go_simp; try (with_reducible rfl))
      try simp only [List.setIfInBounds_toArray, List.set_cons_zero, List.set_cons_succ]
      refine held_take 8 48 (v := ?_) rfl rfl (by kernel_rfl) (by kernel_rfl) (by kernel_rfl) (fun _ _ _ h => h) (by rfl) ?_ HX7.out ?_
      rotate_left
      · (intro w hSw; (try dsimp only at hSw); have a0 := hSw.all.load (k := n20) (encR_n _) Tryz.prog; clear hSw;try simp only [List.getElem_toArray, List.getElem_cons_zero, List.getElem_cons_succ]; go_simp; try (with_reducible rfl))
      try simp only [List.setIfInBounds_toArray, List.set_cons_zero, List.set_cons_succ]
      refine held_do 9 rfl (by kernel_rfl) (by rfl) (fun K hK => ?_)
      try simp only [List.getElem_toArray, List.getElem_cons_zero, List.getElem_cons_succ]
      (have e1 := (HD.out.s hq17).1; have e2 := (HD.out.s hq17).2; go_simp; have ho := Lib.hid ((Only.refl (fun i => i = g) w8).setCell (p := ⟨g, q * 2 + 1, none⟩) (fun _ => rfl) (.int .u64 (IntKind.u64.wrap (S - mk was)))); have HX7 := Lib.hid (HX7.out.only' ho.out HNB.out.2); clear e1 e2)
      try simp only [Act.put, List.setIfInBounds_toArray, List.set_cons_zero, List.set_cons_succ]
      refine hK.out _ _ _ HX7.out ?_
      clear hK K
      refine wpAnyH_done (by kernel_rfl) ?_ _
      have HD := Lib.hid (show DRw (w8.setCell ⟨g, q * 2 + 1, none⟩ (.int .u64 (IntKind.u64.wrap (S - mk was)))) g (subF (F) q (mk was)) by
        have := HD.out.setS hq17 (IntKind.u64.wrap (S - mk was))
        rw [← HSS.out] at this ⊢
        exact this)
      have H := Lib.hid (iat_only H.out ho.out HNB.out.1)
      have HV := Lib.hid (HV.out.only' ho.out HNB.out.2)
      have hb := Lib.hid (hb.out.setCell HGL.out (p := ⟨g, q * 2 + 1, none⟩) (.int .u64 (IntKind.u64.wrap (S - mk was))))
      have ck := H.out.kind
      generalize (World.setCell _ _ _) = W9 at H HV hb HD ck ⊢
      clear ho
      obtain ⟨N, hN⟩ : ∃ N, ((subF F q (mk was)) q).1 = N := ⟨_, rfl⟩
      obtain ⟨S, hS⟩ : ∃ S, ((subF F q (mk was)) q).2 = S := ⟨_, rfl⟩
      have HNN := Lib.hid hN
      have HSS := Lib.hid hS
      clear hN hS
      obtain ⟨y1, y2⟩ := HD.out.n hq17
      rw [HNN.out] at y1
      go_upto_region 10 with fail
      clear y1 y2 ck
      have ho := Lib.hid ((Only.refl (fun i => i = g) W9).setCell (p := ⟨g, q * 2, none⟩) (fun _ => rfl) (.int .i64 (wrap64 (N + 1))))
      have HD := Lib.hid (show DRw (W9.setCell ⟨g, q * 2, none⟩ (.int .i64 (wrap64 (N + 1)))) g (addN ((subF F q (mk was))) q) by
        have := HD.out.setN hq17 (wrap64 (N + 1))
        rw [← HNN.out] at this ⊢
        exact this)
      have HD := Lib.hid (HD.out.below (Below.refl _ _).drew)
      have H := Lib.hid (iat_only H.out ho.out HNB.out.1).drew
      have HV := Lib.hid (HV.out.only' ho.out HNB.out.2).drew
      have hb := Lib.hid (hb.out.setCell HGL.out (p := ⟨g, q * 2, none⟩) (.int .i64 (wrap64 (N + 1)))).drew
      generalize (World.setCell _ _ _) = W11 at H HV hb HD ⊢
      have HS2 := Lib.hid (show (addN ((subF F q (mk was))) q q).2 = S by rw [addN_s]; exact HSS.out)
      have HX7 := Lib.hid (show RAt W11.drew B 1 y from H.out.rt)
      refine wp_region_held_drew (S := (fun w' => RAt w' B 1 y)) (by kernel_rfl) HX7.out (fun _ => ?_)
      refine held_take 0 59 (v := ?_) rfl rfl (by kernel_rfl) (by kernel_rfl) (by kernel_rfl) (fun _ _ _ h => h) (by rfl) ?_ HX7.out ?_
      rotate_left
      · (intro w hSw; (try dsimp only at hSw); have a0 := hSw.all.load (k := n20) (encR_n _) Tryz.prog; clear hSw;try simp only [List.getElem_toArray, List.getElem_cons_zero, List.getElem_cons_succ]; go_simp; try (with_reducible rfl))
      try simp only [List.setIfInBounds_toArray, List.set_cons_zero, List.set_cons_succ]
      refine held_take 1 60 (v := ?_) rfl rfl (by kernel_rfl) (by kernel_rfl) (by kernel_rfl) (fun _ _ _ h => h) (by rfl) ?_ HX7.out ?_
      rotate_left
      · (intro w hSw; (try dsimp only at hSw); have a0 := hSw.all.load (k := n20) (encR_n _) Tryz.prog; clear hSw;try simp only [List.getElem_toArray, List.getElem_cons_zero, List.getElem_cons_succ]; go_simp; try (with_reducible rfl))
      try simp only [List.setIfInBounds_toArray, List.set_cons_zero, List.set_cons_succ]
      refine held_take 2 61 (v := ?_) rfl rfl (by kernel_rfl) (by kernel_rfl) (by kernel_rfl) (fun _ _ _ h => h) (by rfl) ?_ HX7.out ?_
      rotate_left
      · (intro w hSw; (try dsimp only at hSw); have a0 := hSw.all.load (k := n20) (encR_n _) Tryz.prog; clear hSw;try simp only [List.getElem_toArray, List.getElem_cons_zero, List.getElem_cons_succ]; go_simp; try (with_reducible rfl))
      try simp only [List.setIfInBounds_toArray, List.set_cons_zero, List.set_cons_succ]
      refine held_take 4 63 (v := ?_) rfl rfl (by kernel_rfl) (by kernel_rfl) (by kernel_rfl) (fun _ _ _ h => h) (by rfl) ?_ HX7.out ?_
      rotate_left
      · (intro w hSw; (try dsimp only at hSw); have a0 := hSw.all.load (k := n20) (encR_n _) Tryz.prog; clear hSw;try simp only [List.getElem_toArray, List.getElem_cons_zero, List.getElem_cons_succ]; go_simp; try (with_reducible rfl))
      try simp only [List.setIfInBounds_toArray, List.set_cons_zero, List.set_cons_succ]
      refine held_take 5 64 (v := ?_) rfl rfl (by kernel_rfl) (by kernel_rfl) (by kernel_rfl) (fun _ _ _ h => h) (by rfl) ?_ HX7.out ?_
      rotate_left
      · (intro w hSw; (try dsimp only at hSw); have a0 := hSw.all.load (k := n20) (encR_n _) Tryz.prog; clear hSw;try simp only [List.getElem_toArray, List.getElem_cons_zero, List.getElem_cons_succ]; go_simp; try (with_reducible rfl))
      try simp only [List.setIfInBounds_toArray, List.set_cons_zero, List.set_cons_succ]
      refine H2.held_two 3 6 rfl rfl (by kernel_rfl) (by rfl) (by rfl) (fun K hK => ?_) (fun K hK => ?_)
      · try simp only [List.getElem_toArray, List.getElem_cons_zero, List.getElem_cons_succ]
        have e1 := (HD.out.s hq17).1
        rw [HS2.out] at e1
        go_simp
        clear e1
        try simp only [Act.put, List.setIfInBounds_toArray, List.set_cons_zero, List.set_cons_succ]
        refine hK.out _ _ _ HX7.out ?_
        clear hK K
        refine held_call 6 65 rfl rfl (by kernel_rfl) (by rfl) (fun K hK => ?_)
        try simp only [List.getElem_toArray, List.getElem_cons_zero, List.getElem_cons_succ]
        go_simp
        (go_at_call 23; (with_reducible refine (mark_any _ _).mono ?_); rintro e w8 ⟨rfl, h1⟩; have H := Lib.hid (H.out.below h1); have HV := Lib.hid (HV.out.below h1); have HX7 := Lib.hid (HX7.out.below h1); have HD := Lib.hid (HD.out.below h1); have hb := Lib.hid (hb.out.trans (h1.mono hb.out.size)); clear h1)
        try go_wp2_with fail
        try simp only [Act.put, List.setIfInBounds_toArray, List.set_cons_zero, List.set_cons_succ]
        refine hK.out _ _ _ HX7.out ?_
        clear hK K
        refine held_take 7 66 (v := ?_) rfl rfl (by kernel_rfl) (by kernel_rfl) (by kernel_rfl) (fun _ _ _ h => h) (by rfl) ?_ HX7.out ?_
        rotate_left
        · (intro w hSw; (try dsimp only at hSw); have a0 := hSw.all.load (k := n20) (encR_n _) Tryz.prog; clear hSw;try simp only [List.getElem_toArray, List.getElem_cons_zero, List.getElem_cons_succ]; go_simp; try (with_reducible rfl))
        try simp only [List.setIfInBounds_toArray, List.set_cons_zero, List.set_cons_succ]
        refine held_take 8 67 (v := ?_) rfl rfl (by kernel_rfl) (by kernel_rfl) (by kernel_rfl) (fun _ _ _ h => h) (by rfl) ?_ HX7.out ?_
        rotate_left
        · (intro w hSw; (try dsimp only at hSw); have a0 := hSw.all.load (k := n20) (encR_n _) Tryz.prog; clear hSw;try simp only [List.getElem_toArray, List.getElem_cons_zero, List.getElem_cons_succ]; go_simp; try (with_reducible rfl))
        try simp only [List.setIfInBounds_toArray, List.set_cons_zero, List.set_cons_succ]
        refine held_take 9 68 (v := ?_) rfl rfl (by kernel_rfl) (by kernel_rfl) (by kernel_rfl) (fun _ _ _ h => h) (by rfl) ?_ HX7.out ?_
        rotate_left
        · (intro w hSw; (try dsimp only at hSw); have a0 := hSw.all.load (k := n20) (encR_n _) Tryz.prog; clear hSw;try simp only [List.getElem_toArray, List.getElem_cons_zero, List.getElem_cons_succ]; go_simp; try (with_reducible rfl))
        try simp only [List.setIfInBounds_toArray, List.set_cons_zero, List.set_cons_succ]
        refine held_do 10 rfl (by kernel_rfl) (by rfl) (fun K hK => ?_)
        try simp only [List.getElem_toArray, List.getElem_cons_zero, List.getElem_cons_succ]
        (have e1 := (HD.out.s hq17).1; have e2 := (HD.out.s hq17).2; go_simp; have ho := Lib.hid ((Only.refl (fun i => i = g) w8).setCell (p := ⟨g, q * 2 + 1, none⟩) (fun _ => rfl) (.int .u64 (IntKind.u64.wrap (S + mk y)))); have HX7 := Lib.hid (HX7.out.only' ho.out HNB.out.1); clear e1 e2)
        try simp only [Act.put, List.setIfInBounds_toArray, List.set_cons_zero, List.set_cons_succ]
        refine hK.out _ _ _ HX7.out ?_
        clear hK K
        refine wpAnyH_done (by kernel_rfl) ?_ _
        have HD := Lib.hid (show DRw (w8.setCell ⟨g, q * 2 + 1, none⟩ (.int .u64 (IntKind.u64.wrap (S + mk y)))) g (addF ((subF F q (mk was))) q (mk y)) by
          have := HD.out.setS hq17 (IntKind.u64.wrap (S + mk y))
          rw [← HSS.out] at this ⊢
          exact this)
        have H := Lib.hid (iat_only H.out ho.out HNB.out.1)
        have HV := Lib.hid (HV.out.only' ho.out HNB.out.2)
        have hb := Lib.hid (hb.out.setCell HGL.out (p := ⟨g, q * 2 + 1, none⟩) (.int .u64 (IntKind.u64.wrap (S + mk y))))
        go_wp2
        go_ret
        exact ⟨g, c, rfl, HGL.out, by rw [HMD.out]; exact HD.out, hb.out⟩
      · try simp only [List.getElem_toArray, List.getElem_cons_zero, List.getElem_cons_succ]
        go_simp
        (go_at_call 23; (with_reducible refine (mark_any _ _).mono ?_); rintro e w8 ⟨rfl, h1⟩; have H := Lib.hid (H.out.below h1); have HV := Lib.hid (HV.out.below h1); have HX7 := Lib.hid (HX7.out.below h1); have HD := Lib.hid (HD.out.below h1); have hb := Lib.hid (hb.out.trans (h1.mono hb.out.size)); clear h1)
        try go_wp2_with fail
        try simp only [Act.put, List.setIfInBounds_toArray, List.set_cons_zero, List.set_cons_succ]
        refine hK.out _ _ _ HX7.out ?_
        clear hK K
        refine held_call 3 62 rfl rfl (by kernel_rfl) (by rfl) (fun K hK => ?_)
        try simp only [List.getElem_toArray, List.getElem_cons_zero, List.getElem_cons_succ]
        have e1 := (HD.out.s hq17).1
        rw [HS2.out] at e1
        go_simp
        clear e1
        try simp only [Act.put, List.setIfInBounds_toArray, List.set_cons_zero, List.set_cons_succ]
        refine hK.out _ _ _ HX7.out ?_
        clear hK K
        refine held_take 7 66 (v := ?_) rfl rfl (by kernel_rfl) (by kernel_rfl) (by kernel_rfl) (fun _ _ _ h => h) (by rfl) ?_ HX7.out ?_
        rotate_left
        · (intro w hSw; (try dsimp only at hSw); have a0 := hSw.all.load (k := n20) (encR_n _) Tryz.prog; clear hSw;try simp only [List.getElem_toArray, List.getElem_cons_zero, List.getElem_cons_succ]; go_simp; try (with_reducible rfl))
        try simp only [List.setIfInBounds_toArray, List.set_cons_zero, List.set_cons_succ]
        refine held_take 8 67 (v := ?_) rfl rfl (by kernel_rfl) (by kernel_rfl) (by kernel_rfl) (fun _ _ _ h => h) (by rfl) ?_ HX7.out ?_
        rotate_left
        · (intro w hSw; (try dsimp only at hSw); have a0 := hSw.all.load (k := n20) (encR_n _) Tryz.prog; clear hSw;try simp only [List.getElem_toArray, List.getElem_cons_zero, List.getElem_cons_succ]; go_simp; try (with_reducible rfl))
        try simp only [List.setIfInBounds_toArray, List.set_cons_zero, List.set_cons_succ]
        refine held_take 9 68 (v := ?_) rfl rfl (by kernel_rfl) (by kernel_rfl) (by kernel_rfl) (fun _ _ _ h => h) (by rfl) ?_ HX7.out ?_
        rotate_left
        · (intro w hSw; (try dsimp only at hSw); have a0 := hSw.all.load (k := n20) (encR_n _) Tryz.prog; clear hSw;try simp only [List.getElem_toArray, List.getElem_cons_zero, List.getElem_cons_succ]; go_simp; try (with_reducible rfl))
        try simp only [List.setIfInBounds_toArray, List.set_cons_zero, List.set_cons_succ]
        refine held_do 10 rfl (by kernel_rfl) (by rfl) (fun K hK => ?_)
        try simp only [List.getElem_toArray, List.getElem_cons_zero, List.getElem_cons_succ]
        (have e1 := (HD.out.s hq17).1; have e2 := (HD.out.s hq17).2; go_simp; have ho := Lib.hid ((Only.refl (fun i => i = g) w8).setCell (p := ⟨g, q * 2 + 1, none⟩) (fun _ => rfl) (.int .u64 (IntKind.u64.wrap (S + mk y)))); have HX7 := Lib.hid (HX7.out.only' ho.out HNB.out.1); clear e1 e2)
        try simp only [Act.put, List.setIfInBounds_toArray, List.set_cons_zero, List.set_cons_succ]
        refine hK.out _ _ _ HX7.out ?_
        clear hK K
        refine wpAnyH_done (by kernel_rfl) ?_ _
        have HD := Lib.hid (show DRw (w8.setCell ⟨g, q * 2 + 1, none⟩ (.int .u64 (IntKind.u64.wrap (S + mk y)))) g (addF ((subF F q (mk was))) q (mk y)) by
          have := HD.out.setS hq17 (IntKind.u64.wrap (S + mk y))
          rw [← HSS.out] at this ⊢
          exact this)
        have H := Lib.hid (iat_only H.out ho.out HNB.out.1)
        have HV := Lib.hid (HV.out.only' ho.out HNB.out.2)
        have hb := Lib.hid (hb.out.setCell HGL.out (p := ⟨g, q * 2 + 1, none⟩) (.int .u64 (IntKind.u64.wrap (S + mk y))))
        go_wp2
        go_ret
        exact ⟨g, c, rfl, HGL.out, by rw [HMD.out]; exact HD.out, hb.out⟩
  · have HMD := Lib.hid (HMD.out.trans ((if_neg (by decide)).trans (if_neg (by decide))))
    go_enter Tryz.func9, Tryz.ntmps9
    go_upto_region 1 with fail
    have H := Lib.hid ((iAt_new w ⟨3, y⟩ 38 (0, 0)).below ((Below.refl _ _).alloc (Nat.le_refl _) (.cells (encR was).toArray 36 (0, 0))))
    have HV := Lib.hid (rAt_new (w.alloc (.cells (Tab.encI ⟨3, y⟩).toArray 38 (0, 0))) was 36 (0, 0))
    rw [show (w.alloc (.cells (Tab.encI ⟨3, y⟩).toArray 38 (0, 0))).heap.size = w.heap.size + 1 by simp] at HV
    have hb := Lib.hid (show Below w.heap.size w ((w.alloc (.cells (Tab.encI ⟨3, y⟩).toArray 38 (0, 0))).alloc (.cells (encR was).toArray 36 (0, 0))) from ((Below.refl _ _).alloc (Nat.le_refl _) _).alloc (by simp) _)
    have HB1 := Lib.hid (show w.heap.size + 1 < ((w.alloc (.cells (Tab.encI ⟨3, y⟩).toArray 38 (0, 0))).alloc (.cells (encR was).toArray 36 (0, 0))).heap.size by simp)
    have HV1 := HB1
    generalize (w.alloc _).alloc _ = W1 at H HV hb HB1 HV1 ⊢
    have HB1 := Lib.hid (show w.heap.size < W1.heap.size by have := HB1.out; omega)
    generalize w.heap.size + 1 = B5 at HV HV1 ⊢
    obtain ⟨B, hB⟩ : ∃ B, w.heap.size = B := ⟨_, rfl⟩
    have HBW := Lib.hid hB
    rw [hB] at H HB1 ⊢
    clear hB
    have ck : W1.cell? ⟨B, 0, none⟩ = some (.int .i64 3) := H.out.kind
    have HCL := Lib.hid (cloneG_any A cap F W1 (hr.below hb.out))
    go_upto_region 4 with (go_at_call 36; (with_reducible refine (HCL.out).mono ?_); rintro e w2 ⟨g, c, rfl, h1, h2, hb2⟩; have HGL := Lib.hid (Nat.le_trans hb.out.size h1); have HG1 := Lib.hid h1; have HD := Lib.hid h2; have H := Lib.hid (H.out.below hb2); have HV := Lib.hid (HV.out.below hb2); have hb := Lib.hid (hb.out.trans (hb2.mono hb.out.size)); clear h1 h2 hb2 ck)
    have HNB := Lib.hid (show B ≠ g ∧ B5 ≠ g from ⟨fun e => by have h1 := HG1.out; have h2 := HB1.out; omega, fun e => by have h1 := HG1.out; have h2 := HV1.out; omega⟩)
    clear HCL
    have ck : w2.cell? ⟨B, 0, none⟩ = some (.int .i64 3) := H.out.kind
    have c0 : Sem.run Tryz.prog (loadCellsFrom ⟨B, 1, none⟩ 0 n18 #[]) w2 = .ok (encP y.to).toArray w2 := H.out.rt.to.all.load (k := n18) (encP_n _) Tryz.prog
    go_upto_region 5 with (go_at_call 31; (with_reducible refine (bucket_any _ _).mono ?_); rintro e w3 ⟨rfl, hb2⟩; rw [HQ.out]; have HD := Lib.hid (HD.out.below hb2); have H := Lib.hid (H.out.below hb2); have HV := Lib.hid (HV.out.below hb2); have hb := Lib.hid (hb.out.trans (hb2.mono hb.out.size)); clear hb2 ck c0)
    have ck : w3.cell? ⟨B, 0, none⟩ = some (.int .i64 3) := H.out.kind
    obtain ⟨N, hN⟩ : ∃ N, (F q).1 = N := ⟨_, rfl⟩
    obtain ⟨S, hS⟩ : ∃ S, (F q).2 = S := ⟨_, rfl⟩
    have HNN := Lib.hid hN
    have HSS := Lib.hid hS
    clear hN hS
    obtain ⟨y1, y2⟩ := HD.out.n hq17
    rw [HNN.out] at y1
    go_upto_region 7 with fail
    clear y1 y2 ck
    have ho := Lib.hid ((Only.refl (fun i => i = g) w3).setCell (p := ⟨g, q * 2, none⟩) (fun _ => rfl) (.int .i64 (wrap64 (N - 1))))
    have HD := Lib.hid (show DRw (w3.setCell ⟨g, q * 2, none⟩ (.int .i64 (wrap64 (N - 1)))) g (subN (F) q) by
      have := HD.out.setN hq17 (wrap64 (N - 1))
      rw [← HNN.out] at this ⊢
      exact this)
    have HD := Lib.hid (HD.out.below (Below.refl _ _).drew)
    have H := Lib.hid (iat_only H.out ho.out HNB.out.1).drew
    have HV := Lib.hid (HV.out.only' ho.out HNB.out.2).drew
    have hb := Lib.hid (hb.out.setCell HGL.out (p := ⟨g, q * 2, none⟩) (.int .i64 (wrap64 (N - 1)))).drew
    generalize (World.setCell _ _ _) = W7 at H HV hb HD ⊢
    have HS2 := Lib.hid (show (subN (F) q q).2 = S by rw [subN_s]; exact HSS.out)
    have HX7 := Lib.hid (show RAt W7.drew B5 0 was from HV.out)
    refine wp_region_held_drew (S := (fun w' => RAt w' B5 0 was)) (by kernel_rfl) HX7.out (fun _ => ?_)
    refine held_take 0 40 (v := ?_) rfl rfl (by kernel_rfl) (by kernel_rfl) (by kernel_rfl) (fun _ _ _ h => h) (by rfl) ?_ HX7.out ?_
    rotate_left
    · (intro w hSw; (try dsimp only at hSw); have a0 := hSw.all.load (k := n20) (encR_n _) Tryz.prog; clear hSw;try simp only [List.getElem_toArray, List.getElem_cons_zero, List.getElem_cons_succ]; go_simp; try (with_reducible rfl))
    try simp only [List.setIfInBounds_toArray, List.set_cons_zero, List.set_cons_succ]
    refine held_take 1 41 (v := ?_) rfl rfl (by kernel_rfl) (by kernel_rfl) (by kernel_rfl) (fun _ _ _ h => h) (by rfl) ?_ HX7.out ?_
    rotate_left
    · (intro w hSw; (try dsimp only at hSw); have a0 := hSw.all.load (k := n20) (encR_n _) Tryz.prog; clear hSw;try simp only [List.getElem_toArray, List.getElem_cons_zero, List.getElem_cons_succ]; go_simp; try (with_reducible rfl))
    try simp only [List.setIfInBounds_toArray, List.set_cons_zero, List.set_cons_succ]
    refine held_take 2 42 (v := ?_) rfl rfl (by kernel_rfl) (by kernel_rfl) (by kernel_rfl) (fun _ _ _ h => h) (by rfl) ?_ HX7.out ?_
    rotate_left
    · (intro w hSw; (try dsimp only at hSw); have a0 := hSw.all.load (k := n20) (encR_n _) Tryz.prog; clear hSw;try simp only [List.getElem_toArray, List.getElem_cons_zero, List.getElem_cons_succ]; go_simp; try (with_reducible rfl))
    try simp only [List.setIfInBounds_toArray, List.set_cons_zero, List.set_cons_succ]
    refine held_take 4 44 (v := ?_) rfl rfl (by kernel_rfl) (by kernel_rfl) (by kernel_rfl) (fun _ _ _ h => h) (by rfl) ?_ HX7.out ?_
    rotate_left
    · (intro w hSw; (try dsimp only at hSw); have a0 := hSw.all.load (k := n20) (encR_n _) Tryz.prog; clear hSw;try simp only [List.getElem_toArray, List.getElem_cons_zero, List.getElem_cons_succ]; go_simp; try (with_reducible rfl))
    try simp only [List.setIfInBounds_toArray, List.set_cons_zero, List.set_cons_succ]
    refine H2.held_two 3 5 rfl rfl (by kernel_rfl) (by rfl) (by rfl) (fun K hK => ?_) (fun K hK => ?_)
    · try simp only [List.getElem_toArray, List.getElem_cons_zero, List.getElem_cons_succ]
      have e1 := (HD.out.s hq17).1
      rw [HS2.out] at e1
      go_simp
      clear e1
      try simp only [Act.put, List.setIfInBounds_toArray, List.set_cons_zero, List.set_cons_succ]
      refine hK.out _ _ _ HX7.out ?_
      clear hK K
      refine held_call 5 45 rfl rfl (by kernel_rfl) (by rfl) (fun K hK => ?_)
      try simp only [List.getElem_toArray, List.getElem_cons_zero, List.getElem_cons_succ]
      go_simp
      (go_at_call 23; (with_reducible refine (mark_any _ _).mono ?_); rintro e w8 ⟨rfl, h1⟩; have H := Lib.hid (H.out.below h1); have HV := Lib.hid (HV.out.below h1); have HX7 := Lib.hid (HX7.out.below h1); have HD := Lib.hid (HD.out.below h1); have hb := Lib.hid (hb.out.trans (h1.mono hb.out.size)); clear h1)
      try go_wp2_with fail
      try simp only [Act.put, List.setIfInBounds_toArray, List.set_cons_zero, List.set_cons_succ]
      refine hK.out _ _ _ HX7.out ?_
      clear hK K
      refine held_take 6 46 (v := ?_) rfl rfl (by kernel_rfl) (by kernel_rfl) (by kernel_rfl) (fun _ _ _ h => h) (by rfl) ?_ HX7.out ?_
      rotate_left
      · (intro w hSw; (try dsimp only at hSw); have a0 := hSw.all.load (k := n20) (encR_n _) Tryz.prog; clear hSw;try simp only [List.getElem_toArray, List.getElem_cons_zero, List.getElem_cons_succ]; go_simp; try (with_reducible rfl))
      try simp only [List.setIfInBounds_toArray, List.set_cons_zero, List.set_cons_succ]
      refine held_take 7 47 (v := ?_) rfl rfl (by kernel_rfl) (by kernel_rfl) (by kernel_rfl) (fun _ _ _ h => h) (by rfl) ?_ HX7.out ?_
      rotate_left
      · (intro w hSw; (try dsimp only at hSw); have a0 := hSw.all.load (k := n20) (encR_n _) Tryz.prog; clear hSw;try simp only [List.getElem_toArray, List.getElem_cons_zero, List.getElem_cons_succ]; go_simp; try (with_reducible rfl))
      try simp only [List.setIfInBounds_toArray, List.set_cons_zero, List.set_cons_succ]
      refine held_take 8 48 (v := ?_) rfl rfl (by kernel_rfl) (by kernel_rfl) (by kernel_rfl) (fun _ _ _ h => h) (by rfl) ?_ HX7.out ?_
      rotate_left
      · (intro w hSw; (try dsimp only at hSw); have a0 := hSw.all.load (k := n20) (encR_n _) Tryz.prog; clear hSw;try simp only [List.getElem_toArray, List.getElem_cons_zero, List.getElem_cons_succ]; go_simp; try (with_reducible rfl))
      try simp only [List.setIfInBounds_toArray, List.set_cons_zero, List.set_cons_succ]
      refine held_do 9 rfl (by kernel_rfl) (by rfl) (fun K hK => ?_)
      try simp only [List.getElem_toArray, List.getElem_cons_zero, List.getElem_cons_succ]
      (have e1 := (HD.out.s hq17).1; have e2 := (HD.out.s hq17).2; go_simp; have ho := Lib.hid ((Only.refl (fun i => i = g) w8).setCell (p := ⟨g, q * 2 + 1, none⟩) (fun _ => rfl) (.int .u64 (IntKind.u64.wrap (S - mk was)))); have HX7 := Lib.hid (HX7.out.only' ho.out HNB.out.2); clear e1 e2)
      try simp only [Act.put, List.setIfInBounds_toArray, List.set_cons_zero, List.set_cons_succ]
      refine hK.out _ _ _ HX7.out ?_
      clear hK K
      refine wpAnyH_done (by kernel_rfl) ?_ _
      have HD := Lib.hid (show DRw (w8.setCell ⟨g, q * 2 + 1, none⟩ (.int .u64 (IntKind.u64.wrap (S - mk was)))) g (subF (F) q (mk was)) by
        have := HD.out.setS hq17 (IntKind.u64.wrap (S - mk was))
        rw [← HSS.out] at this ⊢
        exact this)
      have H := Lib.hid (iat_only H.out ho.out HNB.out.1)
      have HV := Lib.hid (HV.out.only' ho.out HNB.out.2)
      have hb := Lib.hid (hb.out.setCell HGL.out (p := ⟨g, q * 2 + 1, none⟩) (.int .u64 (IntKind.u64.wrap (S - mk was))))
      have ck := H.out.kind
      go_wp2
      go_ret
      exact ⟨g, c, rfl, HGL.out, by rw [HMD.out]; exact HD.out, hb.out⟩
    · try simp only [List.getElem_toArray, List.getElem_cons_zero, List.getElem_cons_succ]
      go_simp
      (go_at_call 23; (with_reducible refine (mark_any _ _).mono ?_); rintro e w8 ⟨rfl, h1⟩; have H := Lib.hid (H.out.below h1); have HV := Lib.hid (HV.out.below h1); have HX7 := Lib.hid (HX7.out.below h1); have HD := Lib.hid (HD.out.below h1); have hb := Lib.hid (hb.out.trans (h1.mono hb.out.size)); clear h1)
      try go_wp2_with fail
      try simp only [Act.put, List.setIfInBounds_toArray, List.set_cons_zero, List.set_cons_succ]
      refine hK.out _ _ _ HX7.out ?_
      clear hK K
      refine held_call 3 43 rfl rfl (by kernel_rfl) (by rfl) (fun K hK => ?_)
      try simp only [List.getElem_toArray, List.getElem_cons_zero, List.getElem_cons_succ]
      have e1 := (HD.out.s hq17).1
      rw [HS2.out] at e1
      go_simp
      clear e1
      try simp only [Act.put, List.setIfInBounds_toArray, List.set_cons_zero, List.set_cons_succ]
      refine hK.out _ _ _ HX7.out ?_
      clear hK K
      refine held_take 6 46 (v := ?_) rfl rfl (by kernel_rfl) (by kernel_rfl) (by kernel_rfl) (fun _ _ _ h => h) (by rfl) ?_ HX7.out ?_
      rotate_left
      · (intro w hSw; (try dsimp only at hSw); have a0 := hSw.all.load (k := n20) (encR_n _) Tryz.prog; clear hSw;try simp only [List.getElem_toArray, List.getElem_cons_zero, List.getElem_cons_succ]; go_simp; try (with_reducible rfl))
      try simp only [List.setIfInBounds_toArray, List.set_cons_zero, List.set_cons_succ]
      refine held_take 7 47 (v := ?_) rfl rfl (by kernel_rfl) (by kernel_rfl) (by kernel_rfl) (fun _ _ _ h => h) (by rfl) ?_ HX7.out ?_
      rotate_left
      · (intro w hSw; (try dsimp only at hSw); have a0 := hSw.all.load (k := n20) (encR_n _) Tryz.prog; clear hSw;try simp only [List.getElem_toArray, List.getElem_cons_zero, List.getElem_cons_succ]; go_simp; try (with_reducible rfl))
      try simp only [List.setIfInBounds_toArray, List.set_cons_zero, List.set_cons_succ]
      refine held_take 8 48 (v := ?_) rfl rfl (by kernel_rfl) (by kernel_rfl) (by kernel_rfl) (fun _ _ _ h => h) (by rfl) ?_ HX7.out ?_
      rotate_left
      · (intro w hSw; (try dsimp only at hSw); have a0 := hSw.all.load (k := n20) (encR_n _) Tryz.prog; clear hSw;try simp only [List.getElem_toArray, List.getElem_cons_zero, List.getElem_cons_succ]; go_simp; try (with_reducible rfl))
      try simp only [List.setIfInBounds_toArray, List.set_cons_zero, List.set_cons_succ]
      refine held_do 9 rfl (by kernel_rfl) (by rfl) (fun K hK => ?_)
      try simp only [List.getElem_toArray, List.getElem_cons_zero, List.getElem_cons_succ]
      (have e1 := (HD.out.s hq17).1; have e2 := (HD.out.s hq17).2; go_simp; have ho := Lib.hid ((Only.refl (fun i => i = g) w8).setCell (p := ⟨g, q * 2 + 1, none⟩) (fun _ => rfl) (.int .u64 (IntKind.u64.wrap (S - mk was)))); have HX7 := Lib.hid (HX7.out.only' ho.out HNB.out.2); clear e1 e2)
      try simp only [Act.put, List.setIfInBounds_toArray, List.set_cons_zero, List.set_cons_succ]
      refine hK.out _ _ _ HX7.out ?_
      clear hK K
      refine wpAnyH_done (by kernel_rfl) ?_ _
      have HD := Lib.hid (show DRw (w8.setCell ⟨g, q * 2 + 1, none⟩ (.int .u64 (IntKind.u64.wrap (S - mk was)))) g (subF (F) q (mk was)) by
        have := HD.out.setS hq17 (IntKind.u64.wrap (S - mk was))
        rw [← HSS.out] at this ⊢
        exact this)
      have H := Lib.hid (iat_only H.out ho.out HNB.out.1)
      have HV := Lib.hid (HV.out.only' ho.out HNB.out.2)
      have hb := Lib.hid (hb.out.setCell HGL.out (p := ⟨g, q * 2 + 1, none⟩) (.int .u64 (IntKind.u64.wrap (S - mk was))))
      have ck := H.out.kind
      go_wp2
      go_ret
      exact ⟨g, c, rfl, HGL.out, by rw [HMD.out]; exact HD.out, hb.out⟩
end Dig
end Go.Proofs.YtdcbbjlbfghpbaaGreat

/-
  Lists of digests, an Inc that came in, opened. Conditions: those that each theorem names.
-/
namespace Go.Proofs.YtdcbbjlbfghpbaaGreat
open Go Go.Deep Go.Joins Go.ChangeShapes Go.WideShapes Go.RowKit
set_option linter.unusedVariables false
set_option linter.unusedSimpArgs false
namespace Dig
open Tab
theorem co_u64 : Tryz.prog.cellsOf 56 = 1 := by kernel_rfl
theorem co_G : Tryz.prog.cellsOf 58 = 2 := by kernel_rfl
theorem co_In : Tryz.prog.cellsOf 38 = 21 := by kernel_rfl
theorem open_G {H : Type} {enc : TypeId × Value → H} {W : World} {fuel : Nat} {cs : List Value} {x : DataW H × List MemPlace} (h : DataW.trod enc Tryz.prog W 0 (fun _ => true) true fuel 58 cs = some x) : ∃ r : Int × Int, cs = encG r := by
  obtain ⟨xs, n, rfl, _, hl, hxl, hf⟩ := DataW.trod_struct Tryz.underlying58 h
  rw [co_G] at hl
  have hx3 : xs.length = 2 := hxl
  have g0 : DataW.trod enc Tryz.prog W 0 (fun _ => true) true n 3 ((cs.drop 0).take (Tryz.prog.cellsOf 3)) = xs[0]? := hf 0 _ rfl
  have g1 : DataW.trod enc Tryz.prog W 0 (fun _ => true) true n 56 ((cs.drop 1).take (Tryz.prog.cellsOf 56)) = xs[1]? := hf 1 _ rfl
  rw [co_i, List.getElem?_eq_getElem (show 0 < xs.length by omega)] at g0
  rw [co_u64, List.getElem?_eq_getElem (show 1 < xs.length by omega)] at g1
  obtain ⟨k, e0, _, _⟩ := DataW.trod_int Tryz.underlying3 g0
  obtain ⟨m, e1, _, _⟩ := DataW.trod_int Tryz.underlying56 g1
  refine ⟨(k, m), ?_⟩
  have d1 : cs = cs.take 1 ++ (cs.drop 1).take 1 := by
    rw [List.take_of_length_le (l := cs.drop 1) (by simp; omega), List.take_append_drop]
  rw [List.drop_zero] at e0
  rw [d1, e0, e1]
  rfl
/-- digests that came in -/
def IsGs (W : World) (v : Value) : Prop := ∃ (A : Option Addr) (n cap : Nat) (F : Dg), v = .slice A n cap ∧ (n ≤ cap ∧ cap ≤ maxLen) ∧ RdG W A n F
set_option maxRecDepth 100000 in
theorem open_digests {H : Type} {enc : TypeId × Value → H} {W : World} {base : Nat} {v : Value} {d : DataW H} {p : List MemPlace} (hv : Value.okWide Tryz.prog W .any base 29 v)
    (h : DataW.Trod enc Tryz.prog W 0 (fun _ => true) true 29 v d p) : IsGs W v := by
  obtain ⟨a1, len, cap, rfl⟩ := okWide_slice Tryz.underlying29 hv
  obtain ⟨fuel, hf⟩ := h
  obtain ⟨A, cap', L, e, hl, hr⟩ := open_rows encG Tryz.underlying29 co_G (by decide) (fun _ => rfl) open_G (fuel := fuel) (v := .slice a1 len cap) (by simpa [Value.cells] using hf)
  refine ⟨A, L.length, cap', fun i => L.getD i (0, 0), e, hl, fun i hi => ?_⟩
  obtain ⟨b, o, e, h⟩ := hr i hi
  have hg : L.getD i (0, 0) = L[i] := by simp [List.getD_eq_getElem?_getD, List.getElem?_eq_getElem hi]
  exact ⟨b, o, e, by dsimp only; rw [hg]; exact At.g0 h, by dsimp only; rw [hg]; exact At.g1 h⟩
theorem open_In {H : Type} {enc : TypeId × Value → H} {W : World} {fuel : Nat} {cs : List Value} {x : DataW H × List MemPlace} (h : DataW.trod enc Tryz.prog W 0 (fun _ => true) true fuel 38 cs = some x) : ∃ r : In, cs = Tab.encI r := by
  obtain ⟨xs, n, rfl, _, hl, hxl, hf⟩ := DataW.trod_struct Tryz.underlying38 h
  rw [co_In] at hl
  have hx3 : xs.length = 2 := hxl
  have g0 : DataW.trod enc Tryz.prog W 0 (fun _ => true) true n 3 ((cs.drop 0).take (Tryz.prog.cellsOf 3)) = xs[0]? := hf 0 _ rfl
  have g1 : DataW.trod enc Tryz.prog W 0 (fun _ => true) true n 36 ((cs.drop 1).take (Tryz.prog.cellsOf 36)) = xs[1]? := hf 1 _ rfl
  rw [co_i, List.getElem?_eq_getElem (show 0 < xs.length by omega)] at g0
  rw [co_R, List.getElem?_eq_getElem (show 1 < xs.length by omega)] at g1
  obtain ⟨k, e0, _, _⟩ := DataW.trod_int Tryz.underlying3 g0
  obtain ⟨r, e1⟩ := open_R g1
  refine ⟨⟨k, r⟩, ?_⟩
  have d1 : cs = cs.take 1 ++ (cs.drop 1).take 20 := by
    rw [List.take_of_length_le (l := cs.drop 1) (by simp; omega), List.take_append_drop]
  rw [List.drop_zero] at e0
  rw [d1, e0, e1]
  rfl
def IsIn (W : World) (v : Value) : Prop := ∃ r : In, v = .agg (Tab.encI r).toArray
set_option maxRecDepth 100000 in
theorem open_inc {H : Type} {enc : TypeId × Value → H} {W : World} {base : Nat} {v : Value} {d : DataW H} {p : List MemPlace} (hv : Value.okWide Tryz.prog W .any base 38 v)
    (h : DataW.Trod enc Tryz.prog W 0 (fun _ => true) true 38 v d p) : IsIn W v := by
  obtain ⟨cs, rfl, _⟩ := okWide_struct Tryz.underlying38 hv
  obtain ⟨fuel, hf⟩ := h
  obtain ⟨r, e⟩ := open_In (cs := cs.toList) (fuel := fuel) hf
  exact ⟨r, by rw [← e, Array.toArray_toList]⟩
end Dig
end Go.Proofs.YtdcbbjlbfghpbaaGreat
