/-
  Package network: with. Conditions: those that each theorem names.
-/
import Derived.Test.YtebkpjefdaieaaaNetA
namespace Go.Proofs.Ytebkpjefdaieaaa
open Go.RowKit FR FP H2 OW
set_option linter.unusedVariables false
set_option linter.unusedSimpArgs false
namespace Net
open Eng GG
/-- a box that holds a function -/
def FBox (w : World) (fb : Nat) (v : Value) : Prop := w.heap[fb]? = some (.cells #[v] 61 (0, 0))
theorem FBox.cell {w : World} {fb : Nat} {v : Value} (h : FBox w fb v) : w.cell? ⟨fb, 0, none⟩ = some v := by rw [blk_cell h]; rfl
theorem FBox.only {w w' : World} {fb : Nat} {v : Value} (h : FBox w fb v) (ho : OnlyT netT w w') : FBox w' fb v := ho.obj h (by unfold netT; decide)
theorem FBox.below {w w' : World} {fb : Nat} {v : Value} (h : FBox w fb v) (hb : Below w.heap.size w w') : FBox w' fb v := (hb.block fb (blk_lt h)).trans h
def fnHear (xb : Nat) : Value := .func (.func 28) #[] #[.pointer (some ⟨xb, 0, none⟩)]
def fnLose (xb : Nat) : Value := .func (.func 29) #[] #[.pointer (some ⟨xb, 0, none⟩)]
def fnBoth (lb hb : Nat) : Value := .func (.func 33) #[] #[.pointer (some ⟨lb, 0, none⟩), .pointer (some ⟨hb, 0, none⟩)]
theorem IsNet.msg_at {w : World} {base b : Nat} {ly : Lay} {S : NetV} (h : IsNet w base b ly S) {k : Nat} (hk : k < S.m.length) : ∃ g cap, w.heap[b]? = some (.cells #[.pointer (some ⟨ly.g, 0, none⟩), .slice (some ⟨ly.gn, 0, none⟩) S.n ly.cap, .slice (some ⟨g, 0, none⟩) S.m.length cap] 55 (0, 0)) ∧
    w.cell? ⟨g, k * 3, none⟩ = some (.int .i64 (S.m[k]).fr) ∧ w.cell? ⟨g, k * 3 + 1, none⟩ = some (.int .i64 (S.m[k]).to_) ∧ w.cell? ⟨g, k * 3 + 2, none⟩ = some (.slice (S.m[k]).A (S.m[k]).k (S.m[k]).cap) := by
  obtain ⟨wv, hb, hr⟩ := h.blk
  obtain ⟨g, cap, rfl, _, _, _⟩ := own_form hr (by omega)
  have hc := fun i (u : Value) hu => hr.cells (g := g) rfl i u hu
  have hadd : ∀ j, (⟨g, 0, none⟩ : Addr).add j = ⟨g, j, none⟩ := fun j => by unfold Addr.add; split <;> simp_all
  simp only [hadd] at hc
  exact ⟨g, cap, hb, hc (k * 3 + 0) _ (cellsM_get S.m k 0 hk (by omega)), hc (k * 3 + 1) _ (cellsM_get S.m k 1 hk (by omega)), hc (k * 3 + 2) _ (cellsM_get S.m k 2 hk (by omega))⟩
theorem IsNet.msg_ok {w : World} {base b : Nat} {ly : Lay} {S : NetV} (h : IsNet w base b ly S) {k : Nat} (hk : k < S.m.length) : (S.m[k]).fr < S.n ∧ (S.m[k]).to_ < S.n ∧ (S.m[k]).k ≤ 6 ∧ RdT w (S.m[k]).A (S.m[k]).k (S.m[k]).f ∧ SmO (S.m[k]).f (S.m[k]).k := h.msg _ (List.getElem_mem hk)
set_option maxRecDepth 100000 in
set_option maxHeartbeats 4000000 in
theorem both_cl {base b xb lb hb : Nat} {ly : Lay} {S : NetV} (k : Nat) (w : World) (h : IsNet w base b ly S) (hx : Box w xb b) (hl : FBox w lb (fnLose xb)) (hh : FBox w hb (fnHear xb)) (hk : k < S.m.length) (hm : S.m.length ≤ 300) : Calls Try.prog 33 #[.int .i64 k, (S.m[k]).val, .pointer (some ⟨lb, 0, none⟩), .pointer (some ⟨hb, 0, none⟩)] w fun e w' => e = .returned (.tuple #[]) ∧ IsNet w' base b ly (({ S with m := S.m.eraseIdx k } : NetV).hear (S.m[k])) ∧ After base w w' := by
  have hmk := h.msg_ok hk
  obtain ⟨g, cap, hbw, hg0, _, _⟩ := h.msg_at hk
  have hgl := World.block_lt_of_cell? _ _ hg0
  have hbl := h.lt
  generalize S.m[k] = v at hmk ⊢
  have hbel := (Below.refl w.heap.size w).alloc (Nat.le_refl _) (.cells #[.int .i64 v.fr, .int .i64 v.to_, .slice v.A v.k v.cap] 60)
  have H1 := Lib.hid (h.below hbel)
  have A1 := Lib.hid (h.after_below hbel)
  have hx1 := hx.below hbel
  have hl1 := hl.below hbel
  have hh1 := hh.below hbel
  have HL := Lib.hid (lose_cl k v _ H1.out hx1 hk hm ((hbel.block b (blk_lt hbw)).trans hbw))
  have x2 := hl1.cell
  unfold fnLose at x2
  have HB := Lib.hid (And.intro hx1 hh1)
  have hll := blk_lt hl
  have hlh := blk_lt hh
  have y0 : (w.alloc (.cells #[.int .i64 v.fr, .int .i64 v.to_, .slice v.A v.k v.cap] 60)).heap[w.heap.size]? = some (.cells #[.int .i64 v.fr, .int .i64 v.to_, .slice v.A v.k v.cap] 60 (0, 0)) := heap_alloc_new _ _
  have HHE := fun (w3 : World) (S' : NetV) (hn : S'.n = S.n) (h3 : IsNet w3 base b ly S') (hx3 : Box w3 xb b) (hr3 : RdT w3 v.A v.k v.f) => hear_cl (k : Int) v w3 h3 hx3 (by rw [hn]; exact ⟨hmk.1, hmk.2.1, hmk.2.2.1, hr3, hmk.2.2.2.2⟩)
  have HHE := Lib.hid HHE
  have HR1 := Lib.hid (hmk.2.2.2.1.below hbel)
  clear h hmk hbel hx hl hh hx1 hl1 hh1 hbw hg0
  obtain ⟨fr, to_, A, kk, cp, f⟩ := v
  dsimp only [MsgV.val] at *
  go_enter Try.func33, Try.ntmps33
  have z0 : (w.alloc (.cells #[.int .i64 fr, .int .i64 to_, .slice A kk cp] 60)).cell? ⟨w.heap.size, 0, none⟩ = some (.int .i64 fr) := by rw [blk_cell y0]; rfl
  go_upto_region 2 with (go_at_call 29; (with_reducible refine (HL.out).mono ?_); rintro e w4 ⟨rfl, hn, ha, ho⟩; have HN := Lib.hid hn; have HA := Lib.hid ha; have HB4 := Lib.hid (And.intro (HB.out.1.only ha.typ) (HB.out.2.only ha.typ)); have HR4 := Lib.hid (HR1.out.onlyT ha.typ (by unfold netT; decide)); have y4 := ho.obj y0 (by have h1 : w.heap.size ≠ b := (by omega); have h2 : w.heap.size ≠ g := (by omega); exact fun e => e.elim h1 h2); clear hn ha ho)
  have c0 := blk_cell y4 0
  have c1 := blk_cell y4 1
  have c2 := blk_cell y4 2
  have x3 := HB4.out.2.cell
  unfold fnHear at x3
  clear y4 y0 z0 x2
  have HE := Lib.hid (HHE.out w4 { S with m := S.m.eraseIdx k } rfl HN.out HB4.out.1 HR4.out)
  go_wp2_with (go_at_call 28; (with_reducible refine (HE.out).mono ?_); rintro e w5 ⟨rfl, hn, ha⟩; have HN5 := Lib.hid hn; have HA5 := Lib.hid ha; clear hn ha)
  refine bodyPost_end (results_none rfl _ _ _) rfl ?_
  exact ⟨rfl, HN5.out, (A1.out.trans HA.out).trans HA5.out⟩
end Net
end Go.Proofs.Ytebkpjefdaieaaa
