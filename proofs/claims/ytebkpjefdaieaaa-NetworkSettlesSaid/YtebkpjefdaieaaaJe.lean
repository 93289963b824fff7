/-
  Joined texts: NetA NetB NetC NetD NetE Aw20A Awake20 OpenS OpenF OpenA LostP AcyP. Conditions: those that each theorem names.
-/
import Derived.Test.YtebkpjefdaieaaaJd
import Derived.Deep.QuietTactic
import Derived.Laws.EntriesVeiled
import Derived.Deep.SlicePairs
import Derived.OpenShut
import Derived.ChangeSlices
import Derived.ProofKit
import Derived.Lib.SmallJoins
import Derived.Deep.Fields
import Derived.Test.YtebkpjefdaieaaaJb
import Derived.Test.YtebkpjefdaieaaaJc
/-
  Package network: what Do's functions do with a message. Conditions: those that each theorem names.
-/
namespace Go.Proofs.Ytebkpjefdaieaaa
open Go.RowKit FR FP H2 OW
set_option linter.unusedVariables false
set_option linter.unusedSimpArgs false
namespace Net
open Eng GG
/-- a message less -/
theorem IsNet.lose {w w1 : World} {base b g cap : Nat} {ly : Lay} {S : NetV} {k : Nat} (h : IsNet w base b ly S) (hb : w.heap[b]? = some (.cells #[.pointer (some ⟨ly.g, 0, none⟩), .slice (some ⟨ly.gn, 0, none⟩) S.n ly.cap, .slice (some ⟨g, 0, none⟩) S.m.length cap] 55 (0, 0))) (hr : w.ownsRow base 60 3 (.slice (some ⟨g, 0, none⟩) S.m.length cap) S.m.length (cellsM S.m)) (hk : k < S.m.length)
    (ho : w1.ownsRow base 60 3 (.slice (some ⟨g, 0, none⟩) (S.m.length - 1) cap) (S.m.length - 1) (cellsM (S.m.eraseIdx k))) (hg : Only (fun i => i = g) w w1) :
    IsNet (w1.setCell ⟨b, 2, none⟩ (.slice (some ⟨g, 0, none⟩) (S.m.length - 1) cap)) base b ly { S with m := S.m.eraseIdx k } ∧ After base w (w1.setCell ⟨b, 2, none⟩ (.slice (some ⟨g, 0, none⟩) (S.m.length - 1) cap)) := by
  have o1 : OnlyT (fun t => t = 60) w w1 := hg.mono (fun i _ e => by subst e; exact own_type hr (k := i) rfl rfl)
  have b1 := o1.obj hb (by decide)
  have hs : OnlyT (fun t => t = 55) w1 (w1.setCell ⟨b, 2, none⟩ (.slice (some ⟨g, 0, none⟩) (S.m.length - 1) cap)) := (OnlyT.refl (fun t => t = 55) w1).setCell (p := ⟨b, 2, none⟩) (fun _ => ⟨_, _, _, b1, rfl⟩) _
  have o2 : OnlyT (fun t => t = 60 ∨ t = 55) w (w1.setCell ⟨b, 2, none⟩ (.slice (some ⟨g, 0, none⟩) (S.m.length - 1) cap)) := (o1.mono (fun _ e => .inl e)).trans (hs.mono (fun _ e => .inr e))
  refine ⟨⟨h.n1, h.n6, isG_only h.gr o2 (by decide), h.good, ?_, fun i hi => isN_only (h.node i hi) o2 (by decide), h.inj, h.wf, ⟨_, blk_set b1 2 _, ?_⟩, fun u hu => ?_, ?_⟩, ?_, o2.mono (fun t e => e.elim (fun e => .inr (.inr (.inr e))) (fun e => .inl e))⟩
  · obtain ⟨cs, x, y⟩ := h.nodes
    exact ⟨cs, o2.obj x (by decide), y⟩
  · have e : (S.m.eraseIdx k).length = S.m.length - 1 := by rw [List.length_eraseIdx_of_lt hk]
    show (w1.setCell ⟨b, 2, none⟩ _).ownsRow base 60 3 _ (S.m.eraseIdx k).length (cellsM (S.m.eraseIdx k))
    rw [e]
    exact hs.own ho (by decide)
  · obtain ⟨p, q, r, s, t⟩ := h.msg u (List.mem_of_mem_eraseIdx hu)
    exact ⟨p, q, r, s.onlyT o2 (by decide), t⟩
  · obtain ⟨p, q, r, u, t⟩ := h.lo
    exact ⟨p, q, r, u, Nat.le_trans t o2.size⟩
  · have hgb := (OW.own_base hr (b := g) rfl).1
    exact (hg.below h.lo.2.2.2.2 (fun i hi e => by omega)).trans (((Only.refl (fun i => i = b) w1).setCell (p := ⟨b, 2, none⟩) (fun _ => rfl) _).below (Nat.le_trans h.lo.2.2.2.2 o1.size) (fun i hi e => by have := h.lo.1; omega))
/-- a message, as a value -/
def MsgV.val (v : MsgV) : Value := .agg #[.int .i64 v.fr, .int .i64 v.to_, .slice v.A v.k v.cap]
/-- what hearing a message makes of a network -/
def NetV.hear (S : NetV) (v : MsgV) : NetV := S.upd v.to_ ((S.x v.to_).hear v.fr v.f v.k)
/-- the box that holds the network's pointer -/
def Box (w : World) (xb b : Nat) : Prop := w.heap[xb]? = some (.cells #[.pointer (some ⟨b, 0, none⟩)] 26 (0, 0))
theorem Box.cell {w : World} {xb b : Nat} (h : Box w xb b) : w.cell? ⟨xb, 0, none⟩ = some (.pointer (some ⟨b, 0, none⟩)) := by rw [blk_cell h]; rfl
theorem Box.only {w w' : World} {xb b : Nat} (h : Box w xb b) (ho : OnlyT netT w w') : Box w' xb b := ho.obj h (by unfold netT; decide)
theorem Box.below {w w' : World} {xb b : Nat} (h : Box w xb b) (hb : Below w.heap.size w w') : Box w' xb b := (hb.block xb (blk_lt h)).trans h
set_option maxRecDepth 100000 in
set_option maxHeartbeats 4000000 in
theorem hear_cl {base b xb : Nat} {ly : Lay} {S : NetV} (q : Int) (v : MsgV) (w : World) (h : IsNet w base b ly S) (hx : Box w xb b) (hv : v.fr < S.n ∧ v.to_ < S.n ∧ v.k ≤ 6 ∧ RdT w v.A v.k v.f ∧ SmO v.f v.k) : Calls Try.prog 28 #[.int .i64 q, v.val, .pointer (some ⟨xb, 0, none⟩)] w fun e w' => e = .returned (.tuple #[]) ∧ IsNet w' base b ly (S.hear v) ∧ After base w w' := by
  have hb1 := (Below.refl w.heap.size w).alloc (Nat.le_refl _) (.cells #[.int .i64 v.fr, .int .i64 v.to_, .slice v.A v.k v.cap] 60)
  have H := Lib.hid h
  have H1 := Lib.hid (h.below hb1)
  have A1 := Lib.hid (h.after_below hb1)
  have HH := Lib.hid (hear_any _ H1.out v.to_ hv.2.1 v.fr v.A v.k v.cap v.f hv.2.2.1 (hv.2.2.2.1.below hb1) hv.2.2.2.2)
  have x0 := hx.cell
  have xl := blk_lt hx
  have to0 : (0 : Int) ≤ (v.to_ : Int) := by omega
  clear h hb1 hx hv
  obtain ⟨fr, to_, A, k, cap, f⟩ := v
  dsimp only [MsgV.val, NetV.hear] at *
  go_enter Try.func28, Try.ntmps28
  go_wp2_with (go_at_call 23; (with_reducible refine (HH.out).mono ?_); rintro e w4 ⟨rfl, hn, ha⟩; have HN := Lib.hid hn; have HA := Lib.hid ha; clear hn ha)
  refine bodyPost_end (results_none rfl _ _ _) rfl ?_
  exact ⟨rfl, HN.out, A1.out.trans HA.out⟩
set_option maxRecDepth 100000 in
set_option maxHeartbeats 8000000 in
theorem lose_cl {base b xb g cap : Nat} {ly : Lay} {S : NetV} (k : Nat) (v : MsgV) (w : World) (h : IsNet w base b ly S) (hx : Box w xb b) (hk : k < S.m.length) (hm : S.m.length ≤ 300) (hbw : w.heap[b]? = some (.cells #[.pointer (some ⟨ly.g, 0, none⟩), .slice (some ⟨ly.gn, 0, none⟩) S.n ly.cap, .slice (some ⟨g, 0, none⟩) S.m.length cap] 55 (0, 0))) : Calls Try.prog 29 #[.int .i64 k, v.val, .pointer (some ⟨xb, 0, none⟩)] w fun e w' => e = .returned (.tuple #[]) ∧ IsNet w' base b ly { S with m := S.m.eraseIdx k } ∧ After base w w' ∧ Only (fun i => i = b ∨ i = g) w w' := by
  have hb1 := (Below.refl w.heap.size w).alloc (Nat.le_refl _) (.cells #[.int .i64 v.fr, .int .i64 v.to_, .slice v.A v.k v.cap] 60)
  have hbs := h.lo.2.2.2.2
  have h1 := (h.below hb1).drew
  have A1 := Lib.hid (h.after_below hb1)
  have xl := blk_lt hx
  have hx1 : Box (w.alloc (.cells #[.int .i64 v.fr, .int .i64 v.to_, .slice v.A v.k v.cap] 60)).drew xb b := show Box (w.alloc _) xb b from hx.below hb1
  generalize hW : (w.alloc (.cells #[.int .i64 v.fr, .int .i64 v.to_, .slice v.A v.k v.cap] 60)).drew = W at h1 hx1
  have HW := Lib.hid hW
  obtain ⟨wv, hb, hr⟩ := h1.blk
  have hbW : W.heap[b]? = some (.cells #[.pointer (some ⟨ly.g, 0, none⟩), .slice (some ⟨ly.gn, 0, none⟩) S.n ly.cap, .slice (some ⟨g, 0, none⟩) S.m.length cap] 55 (0, 0)) := by
    rw [← hW]
    exact (hb1.block b (blk_lt hbw)).trans hbw
  have ewv : wv = .slice (some ⟨g, 0, none⟩) S.m.length cap := by
    rw [hb] at hbW
    simp only [Option.some.injEq, Obj.cells.injEq, List.toArray_inj, Array.mk.injEq, List.cons.injEq, and_true, true_and] at hbW
    exact hbW
  subst ewv
  have hd := delete_any base g S.m.length cap S.m k W rfl hk hm hr
  rw [show ((k + 1 : Nat) : Int) = (k : Int) + 1 by omega] at hd
  have HD := Lib.hid hd
  have H1 := Lib.hid h1
  have HB := Lib.hid hb
  have HR := Lib.hid hr
  have x0 := hx1.cell
  have y0 : W.cell? ⟨b, 2, none⟩ = some (.slice (some ⟨g, 0, none⟩) S.m.length cap) := by rw [blk_cell hb]; rfl
  have hxg : xb ≠ g := by
    rcases hr.2 with ⟨e, _⟩ | ⟨g', c', cur, e, _, hh, _⟩
    · cases e
    · cases e
      exact blk_ne hx1 hh (by decide)
  have hbg : b ≠ g := by
    rcases hr.2 with ⟨e, _⟩ | ⟨g', c', cur, e, _, hh, _⟩
    · cases e
    · cases e
      exact blk_ne hb hh (by decide)
  have X := Lib.hid (And.intro x0 y0)
  have HXB := Lib.hid (blk_ne hx1 hb (by decide))
  have k0 : (0 : Int) ≤ (k : Int) := by omega
  have km : (k : Int) < (S.m.length : Int) := by omega
  have hmi : (S.m.length : Int) ≤ 300 := by omega
  have hwr : IntKind.i64.wrap ((k : Int) + 1) = (k : Int) + 1 := IntWalk.i64_in _ (by omega)
  have HO3 := Lib.hid (show Only (fun i => i = b ∨ i = g) w W from hW ▸ (((Only.refl _ w).of_below hb1).drew))
  clear h hb1 hx hx1 hb hr h1 x0 y0 hW hd hbW hbw
  obtain ⟨fr, to_, A, kk, cp, f⟩ := v
  dsimp only [MsgV.val] at *
  go_enter Try.func29, Try.ntmps29
  go_upto_region 1 with fail
  refine wp_region_held_drew (S := (fun w' => w'.cell? ⟨xb, 0, none⟩ = some (.pointer (some ⟨b, 0, none⟩)))) (by kernel_rfl) (by first | (rw [HW.out]; exact X.out.1) | exact X.out.1 | exact X1.out | exact X2.out) (fun _ => ?_)
  refine held_take 0 5 (v := ?_) rfl rfl (by kernel_rfl) (by kernel_rfl) (by kernel_rfl) (fun _ _ _ h => h) (by rfl) ?_ (by first | (rw [HW.out]; exact X.out.1) | exact X.out.1 | exact X1.out | exact X2.out) ?_
  rotate_left
  · (intro w hSw; (try dsimp only at hSw); try simp only [List.getElem_toArray, List.getElem_cons_zero, List.getElem_cons_succ]; go_simp; try (with_reducible rfl))
  try simp only [List.setIfInBounds_toArray, List.set_cons_zero, List.set_cons_succ]
  refine held_take 1 6 (v := ?_) rfl rfl (by kernel_rfl) (by kernel_rfl) (by kernel_rfl) (fun _ _ _ h => h) (by rfl) ?_ (by first | (rw [HW.out]; exact X.out.1) | exact X.out.1 | exact X1.out | exact X2.out) ?_
  rotate_left
  · (intro w hSw; (try dsimp only at hSw); try simp only [List.getElem_toArray, List.getElem_cons_zero, List.getElem_cons_succ]; go_simp; try (with_reducible rfl))
  try simp only [List.setIfInBounds_toArray, List.set_cons_zero, List.set_cons_succ]
  refine held_take 2 7 (v := ?_) rfl rfl (by kernel_rfl) (by kernel_rfl) (by kernel_rfl) (fun _ _ _ h => h) (by rfl) ?_ (by first | (rw [HW.out]; exact X.out.1) | exact X.out.1 | exact X1.out | exact X2.out) ?_
  rotate_left
  · (intro w hSw; (try dsimp only at hSw); try simp only [List.getElem_toArray, List.getElem_cons_zero, List.getElem_cons_succ]; go_simp; try (with_reducible rfl))
  try simp only [List.setIfInBounds_toArray, List.set_cons_zero, List.set_cons_succ]
  refine held_take 3 8 (v := ?_) rfl rfl (by kernel_rfl) (by kernel_rfl) (by kernel_rfl) (fun _ _ _ h => h) (by rfl) ?_ (by first | (rw [HW.out]; exact X.out.1) | exact X.out.1 | exact X1.out | exact X2.out) ?_
  rotate_left
  · (intro w hSw; (try dsimp only at hSw); try simp only [List.getElem_toArray, List.getElem_cons_zero, List.getElem_cons_succ]; go_simp; try (with_reducible rfl))
  try simp only [List.setIfInBounds_toArray, List.set_cons_zero, List.set_cons_succ]
  refine held_take 5 10 (v := ?_) rfl rfl (by kernel_rfl) (by kernel_rfl) (by kernel_rfl) (fun _ _ _ h => h) (by rfl) ?_ (by first | (rw [HW.out]; exact X.out.1) | exact X.out.1 | exact X1.out | exact X2.out) ?_
  rotate_left
  · (intro w hSw; (try dsimp only at hSw); try simp only [List.getElem_toArray, List.getElem_cons_zero, List.getElem_cons_succ]; go_simp; try (with_reducible rfl))
  try simp only [List.setIfInBounds_toArray, List.set_cons_zero, List.set_cons_succ]
  refine held_take 6 11 (v := ?_) rfl rfl (by kernel_rfl) (by kernel_rfl) (by kernel_rfl) (fun _ _ _ h => h) (by rfl) ?_ (by first | (rw [HW.out]; exact X.out.1) | exact X.out.1 | exact X1.out | exact X2.out) ?_
  rotate_left
  · (intro w hSw; (try dsimp only at hSw); try simp only [List.getElem_toArray, List.getElem_cons_zero, List.getElem_cons_succ]; go_simp; try (with_reducible rfl))
  try simp only [List.setIfInBounds_toArray, List.set_cons_zero, List.set_cons_succ]
  refine held_take 7 12 (v := ?_) rfl rfl (by kernel_rfl) (by kernel_rfl) (by kernel_rfl) (fun _ _ _ h => h) (by rfl) ?_ (by first | (rw [HW.out]; exact X.out.1) | exact X.out.1 | exact X1.out | exact X2.out) ?_
  rotate_left
  · (intro w hSw; (try dsimp only at hSw); try simp only [List.getElem_toArray, List.getElem_cons_zero, List.getElem_cons_succ]; go_simp; try (with_reducible rfl))
  try simp only [List.setIfInBounds_toArray, List.set_cons_zero, List.set_cons_succ]
  refine held_call 4 9 rfl rfl (by kernel_rfl) (by rfl) (fun K hK => ?_)
  try simp only [List.getElem_toArray, List.getElem_cons_zero, List.getElem_cons_succ]
  (rw [HW.out]; have y4 := X.out.2; go_simp)
  try simp only [Act.put, List.setIfInBounds_toArray, List.set_cons_zero, List.set_cons_succ]
  refine hK.out _ _ _ (by first | (rw [HW.out]; exact X.out.1) | exact X.out.1 | exact X1.out | exact X2.out) ?_
  clear hK K
  refine held_call 8 13 rfl rfl (by kernel_rfl) (by rfl) (fun K hK => ?_)
  try simp only [List.getElem_toArray, List.getElem_cons_zero, List.getElem_cons_succ]
  go_simp
  (go_at_call 30; (with_reducible refine (HD.out).mono ?_); rintro e w4 ⟨rfl, ho, hg⟩; have HO := Lib.hid ho; have HG := Lib.hid hg; have X1 := Lib.hid (hg.cell X.out.1 hxg); have hb4 := hg.obj HB.out hbg; have z1 := blk_cell hb4 2; have z2 := blk_free hb4 2; clear ho hg hb4)
  try go_wp2_with fail
  try simp only [Act.put, List.setIfInBounds_toArray, List.set_cons_zero, List.set_cons_succ]
  refine hK.out _ _ _ (by first | (rw [HW.out]; exact X.out.1) | exact X.out.1 | exact X1.out | exact X2.out) ?_
  clear hK K
  refine held_take 9 14 (v := ?_) rfl rfl (by kernel_rfl) (by kernel_rfl) (by kernel_rfl) (fun _ _ _ h => h) (by rfl) ?_ (by first | (rw [HW.out]; exact X.out.1) | exact X.out.1 | exact X1.out | exact X2.out) ?_
  rotate_left
  · (intro w hSw; (try dsimp only at hSw); try simp only [List.getElem_toArray, List.getElem_cons_zero, List.getElem_cons_succ]; go_simp; try (with_reducible rfl))
  try simp only [List.setIfInBounds_toArray, List.set_cons_zero, List.set_cons_succ]
  refine held_take 10 15 (v := ?_) rfl rfl (by kernel_rfl) (by kernel_rfl) (by kernel_rfl) (fun _ _ _ h => h) (by rfl) ?_ (by first | (rw [HW.out]; exact X.out.1) | exact X.out.1 | exact X1.out | exact X2.out) ?_
  rotate_left
  · (intro w hSw; (try dsimp only at hSw); try simp only [List.getElem_toArray, List.getElem_cons_zero, List.getElem_cons_succ]; go_simp; try (with_reducible rfl))
  try simp only [List.setIfInBounds_toArray, List.set_cons_zero, List.set_cons_succ]
  refine held_do 11 rfl (by kernel_rfl) (by rfl) (fun K hK => ?_)
  try simp only [List.getElem_toArray, List.getElem_cons_zero, List.getElem_cons_succ]
  (go_simp; have X2 := Lib.hid (show (w4.setCell ⟨b, 2, none⟩ (.slice (some ⟨g, 0, none⟩) (S.m.length - 1) cap)).cell? ⟨xb, 0, none⟩ = some (.pointer (some ⟨b, 0, none⟩)) from cell_other X1.out (fun e => HXB.out e.symm)))
  try simp only [Act.put, List.setIfInBounds_toArray, List.set_cons_zero, List.set_cons_succ]
  refine hK.out _ _ _ (by first | (rw [HW.out]; exact X.out.1) | exact X.out.1 | exact X1.out | exact X2.out) ?_
  clear hK K
  refine wpAnyH_done (by kernel_rfl) ?_ _
  have hl := H1.out.lose HB.out HR.out hk HO.out HG.out
  have HL1 := Lib.hid hl.1
  have HL2 := Lib.hid ((A1.out.trans (After.of_below (base := base) (((Only.refl (fun _ => False) _).drew).below (Nat.le_refl _) (fun _ _ e => e)) (Nat.le_trans hbs A1.out.bel.size))).trans (by rw [HW.out]; exact hl.2))
  clear hl
  refine bodyPost_end (results_none rfl _ _ _) rfl ?_
  exact ⟨rfl, HL1.out, HL2.out, (HO3.out.trans (HG.out.mono (fun i _ e => .inr e)) (fun i hi e => e)).setCell (p := ⟨b, 2, none⟩) (fun _ => .inl rfl) _⟩
end Net
end Go.Proofs.Ytebkpjefdaieaaa

/-
  Package network: with. Conditions: those that each theorem names.
-/
namespace Go.Proofs.Ytebkpjefdaieaaa
open Go.RowKit FR FP H2 OW
set_option linter.unusedVariables false
set_option linter.unusedSimpArgs false
namespace Net
open Eng GG
/-- a box that holds a function -/
def FBox (w : World) (fb : Nat) (v : Value) : Prop := w.heap[fb]? = some (.cells #[v] 61 (0, 0))
theorem FBox.cell {w : World} {fb : Nat} {v : Value} (h : FBox w fb v) : w.cell? ⟨fb, 0, none⟩ = some v := by rw [blk_cell h]; rfl
theorem FBox.only {w w' : World} {fb : Nat} {v : Value} (h : FBox w fb v) (ho : OnlyT netT w w') : FBox w' fb v := ho.obj h (by unfold netT; decide)
theorem FBox.below {w w' : World} {fb : Nat} {v : Value} (h : FBox w fb v) (hb : Below w.heap.size w w') : FBox w' fb v := (hb.block fb (blk_lt h)).trans h
def fnHear (xb : Nat) : Value := .func (.func 28) #[] #[.pointer (some ⟨xb, 0, none⟩)]
def fnLose (xb : Nat) : Value := .func (.func 29) #[] #[.pointer (some ⟨xb, 0, none⟩)]
def fnBoth (lb hb : Nat) : Value := .func (.func 33) #[] #[.pointer (some ⟨lb, 0, none⟩), .pointer (some ⟨hb, 0, none⟩)]
theorem IsNet.msg_at {w : World} {base b : Nat} {ly : Lay} {S : NetV} (h : IsNet w base b ly S) {k : Nat} (hk : k < S.m.length) : ∃ g cap, w.heap[b]? = some (.cells #[.pointer (some ⟨ly.g, 0, none⟩), .slice (some ⟨ly.gn, 0, none⟩) S.n ly.cap, .slice (some ⟨g, 0, none⟩) S.m.length cap] 55 (0, 0)) ∧
    w.cell? ⟨g, k * 3, none⟩ = some (.int .i64 (S.m[k]).fr) ∧ w.cell? ⟨g, k * 3 + 1, none⟩ = some (.int .i64 (S.m[k]).to_) ∧ w.cell? ⟨g, k * 3 + 2, none⟩ = some (.slice (S.m[k]).A (S.m[k]).k (S.m[k]).cap) := by
  obtain ⟨wv, hb, hr⟩ := h.blk
  obtain ⟨g, cap, rfl, _, _, _⟩ := own_form hr (by omega)
  have hc := fun i (u : Value) hu => hr.cells (g := g) rfl i u hu
  have hadd : ∀ j, (⟨g, 0, none⟩ : Addr).add j = ⟨g, j, none⟩ := fun j => by unfold Addr.add; split <;> simp_all
  simp only [hadd] at hc
  exact ⟨g, cap, hb, hc (k * 3 + 0) _ (cellsM_get S.m k 0 hk (by omega)), hc (k * 3 + 1) _ (cellsM_get S.m k 1 hk (by omega)), hc (k * 3 + 2) _ (cellsM_get S.m k 2 hk (by omega))⟩
theorem IsNet.msg_ok {w : World} {base b : Nat} {ly : Lay} {S : NetV} (h : IsNet w base b ly S) {k : Nat} (hk : k < S.m.length) : (S.m[k]).fr < S.n ∧ (S.m[k]).to_ < S.n ∧ (S.m[k]).k ≤ 6 ∧ RdT w (S.m[k]).A (S.m[k]).k (S.m[k]).f ∧ SmO (S.m[k]).f (S.m[k]).k := h.msg _ (List.getElem_mem hk)
set_option maxRecDepth 100000 in
set_option maxHeartbeats 4000000 in
theorem both_cl {base b xb lb hb : Nat} {ly : Lay} {S : NetV} (k : Nat) (w : World) (h : IsNet w base b ly S) (hx : Box w xb b) (hl : FBox w lb (fnLose xb)) (hh : FBox w hb (fnHear xb)) (hk : k < S.m.length) (hm : S.m.length ≤ 300) : Calls Try.prog 33 #[.int .i64 k, (S.m[k]).val, .pointer (some ⟨lb, 0, none⟩), .pointer (some ⟨hb, 0, none⟩)] w fun e w' => e = .returned (.tuple #[]) ∧ IsNet w' base b ly (({ S with m := S.m.eraseIdx k } : NetV).hear (S.m[k])) ∧ After base w w' := by
  have hmk := h.msg_ok hk
  obtain ⟨g, cap, hbw, hg0, _, _⟩ := h.msg_at hk
  have hgl := World.block_lt_of_cell? _ _ hg0
  have hbl := h.lt
  generalize S.m[k] = v at hmk ⊢
  have hbel := (Below.refl w.heap.size w).alloc (Nat.le_refl _) (.cells #[.int .i64 v.fr, .int .i64 v.to_, .slice v.A v.k v.cap] 60)
  have H1 := Lib.hid (h.below hbel)
  have A1 := Lib.hid (h.after_below hbel)
  have hx1 := hx.below hbel
  have hl1 := hl.below hbel
  have hh1 := hh.below hbel
  have HL := Lib.hid (lose_cl k v _ H1.out hx1 hk hm ((hbel.block b (blk_lt hbw)).trans hbw))
  have x2 := hl1.cell
  unfold fnLose at x2
  have HB := Lib.hid (And.intro hx1 hh1)
  have hll := blk_lt hl
  have hlh := blk_lt hh
  have y0 : (w.alloc (.cells #[.int .i64 v.fr, .int .i64 v.to_, .slice v.A v.k v.cap] 60)).heap[w.heap.size]? = some (.cells #[.int .i64 v.fr, .int .i64 v.to_, .slice v.A v.k v.cap] 60 (0, 0)) := heap_alloc_new _ _
  have HHE := fun (w3 : World) (S' : NetV) (hn : S'.n = S.n) (h3 : IsNet w3 base b ly S') (hx3 : Box w3 xb b) (hr3 : RdT w3 v.A v.k v.f) => hear_cl (k : Int) v w3 h3 hx3 (by rw [hn]; exact ⟨hmk.1, hmk.2.1, hmk.2.2.1, hr3, hmk.2.2.2.2⟩)
  have HHE := Lib.hid HHE
  have HR1 := Lib.hid (hmk.2.2.2.1.below hbel)
  clear h hmk hbel hx hl hh hx1 hl1 hh1 hbw hg0
  obtain ⟨fr, to_, A, kk, cp, f⟩ := v
  dsimp only [MsgV.val] at *
  go_enter Try.func33, Try.ntmps33
  have z0 : (w.alloc (.cells #[.int .i64 fr, .int .i64 to_, .slice A kk cp] 60)).cell? ⟨w.heap.size, 0, none⟩ = some (.int .i64 fr) := by rw [blk_cell y0]; rfl
  go_upto_region 2 with (go_at_call 29; (with_reducible refine (HL.out).mono ?_); rintro e w4 ⟨rfl, hn, ha, ho⟩; have HN := Lib.hid hn; have HA := Lib.hid ha; have HB4 := Lib.hid (And.intro (HB.out.1.only ha.typ) (HB.out.2.only ha.typ)); have HR4 := Lib.hid (HR1.out.onlyT ha.typ (by unfold netT; decide)); have y4 := ho.obj y0 (by have h1 : w.heap.size ≠ b := (by omega); have h2 : w.heap.size ≠ g := (by omega); exact fun e => e.elim h1 h2); clear hn ha ho)
  have c0 := blk_cell y4 0
  have c1 := blk_cell y4 1
  have c2 := blk_cell y4 2
  have x3 := HB4.out.2.cell
  unfold fnHear at x3
  clear y4 y0 z0 x2
  have HE := Lib.hid (HHE.out w4 { S with m := S.m.eraseIdx k } rfl HN.out HB4.out.1 HR4.out)
  go_wp2_with (go_at_call 28; (with_reducible refine (HE.out).mono ?_); rintro e w5 ⟨rfl, hn, ha⟩; have HN5 := Lib.hid hn; have HA5 := Lib.hid ha; clear hn ha)
  refine bodyPost_end (results_none rfl _ _ _) rfl ?_
  exact ⟨rfl, HN5.out, (A1.out.trans HA.out).trans HA5.out⟩
end Net
end Go.Proofs.Ytebkpjefdaieaaa

/-
  Package network: with, Do. Conditions: those that each theorem names.
-/
namespace Go.Proofs.Ytebkpjefdaieaaa
open Go.RowKit FR FP H2 OW
set_option linter.unusedVariables false
set_option linter.unusedSimpArgs false
namespace Net
open Eng GG
set_option maxHeartbeats 1600000 in
theorem with_none {base b : Nat} {ly : Lay} {S : NetV} (n : Int) (fn : Value) (w : World) (h : IsNet w base b ly S) (hm : S.m.length = 0) : Calls Try.prog 32 #[.pointer (some ⟨b, 0, none⟩), .int .i64 n, fn] w fun e w' => e = .returned (.int .i64 8) ∧ w = w' := by
  obtain ⟨A, c, c2⟩ := h.c2
  rw [hm] at c2
  clear h hm
  go_enter Try.func32, Try.ntmps32
  go_wp2
  go_ret
  exact ⟨rfl, rfl⟩
/-- which message is meant -/
def whichM (n : Int) (len : Nat) : Nat := ((IntKind.u64.wrap n).tmod len).toNat
theorem whichM_lt (n : Int) {len : Nat} (h : 0 < len) : whichM n len < len ∧ (IntKind.u64.wrap n).tmod len = (whichM n len : Int) := by
  obtain ⟨k, hk, e⟩ := remk n len h
  unfold whichM
  rw [e]
  exact ⟨by omega, by omega⟩
set_option maxRecDepth 100000 in
set_option maxHeartbeats 4000000 in
theorem with_hear {base b xb  : Nat} {ly : Lay} {S : NetV} (n : Int) (w : World) (h : IsNet w base b ly S) (hx : Box w xb b)  (hm0 : 0 < S.m.length) (hm : S.m.length ≤ 300) (k : Nat) (hk : k < S.m.length) (hkk : whichM n S.m.length = k) : Calls Try.prog 32 #[.pointer (some ⟨b, 0, none⟩), .int .i64 n, fnHear xb] w fun e w' => e = .returned (.int .i64 0) ∧ IsNet w' base b ly (S.hear (S.m[k])) ∧ After base w w' := by
  have hw := (whichM_lt n hm0).2
  rw [hkk] at hw
  obtain ⟨g, cap, hb, y0, y1, y2⟩ := h.msg_at hk
  have c2 : w.cell? ⟨b, 2, none⟩ = some (.slice (some ⟨g, 0, none⟩) S.m.length cap) := by rw [blk_cell hb]; rfl
  have HC := Lib.hid (hear_cl (k : Int) (S.m[k]) w h hx (h.msg_ok hk))
  generalize S.m[k] = v at HC y0 y1 y2 ⊢
  obtain ⟨fr, to_, A, kk, cp, f⟩ := v
  dsimp only [MsgV.val] at HC y0 y1 y2 ⊢
  have k0 : (0 : Int) ≤ (k : Int) := by omega
  have km : (k : Int) < (S.m.length : Int) := by omega
  have w1 : IntKind.u64.wrap (S.m.length : Int) = (S.m.length : Int) := by simp [IntKind.wrap, IntKind.bits, IntKind.signed]; omega
  have w2 : IntKind.i64.wrap (k : Int) = (k : Int) := IntWalk.i64_in _ (by omega)
  have hz : ((S.m.length : Int) == 0) = false := beq_eq_false_iff_ne.2 (by omega)
  have hz' : ¬ (S.m.length : Int) = 0 := by omega
  clear h hx hb hkk hk 
  unfold fnHear
  go_enter Try.func32, Try.ntmps32
  go_wp2_with (go_at_call 28; (with_reducible refine (HC.out).mono ?_); rintro e w4 ⟨rfl, hrest⟩; have HN := Lib.hid hrest.1; have HA := Lib.hid hrest.2; clear hrest)
  go_ret
  exact ⟨rfl, HN.out, HA.out⟩
set_option maxRecDepth 100000 in
set_option maxHeartbeats 4000000 in
theorem with_lose {base b xb  : Nat} {ly : Lay} {S : NetV} (n : Int) (w : World) (h : IsNet w base b ly S) (hx : Box w xb b)  (hm0 : 0 < S.m.length) (hm : S.m.length ≤ 300) (k : Nat) (hk : k < S.m.length) (hkk : whichM n S.m.length = k) : Calls Try.prog 32 #[.pointer (some ⟨b, 0, none⟩), .int .i64 n, fnLose xb] w fun e w' => e = .returned (.int .i64 0) ∧ IsNet w' base b ly ({ S with m := S.m.eraseIdx k }) ∧ After base w w' := by
  have hw := (whichM_lt n hm0).2
  rw [hkk] at hw
  obtain ⟨g, cap, hb, y0, y1, y2⟩ := h.msg_at hk
  have c2 : w.cell? ⟨b, 2, none⟩ = some (.slice (some ⟨g, 0, none⟩) S.m.length cap) := by rw [blk_cell hb]; rfl
  have HC := Lib.hid (lose_cl k (S.m[k]) w h hx hk hm hb)
  generalize S.m[k] = v at HC y0 y1 y2 ⊢
  obtain ⟨fr, to_, A, kk, cp, f⟩ := v
  dsimp only [MsgV.val] at HC y0 y1 y2 ⊢
  have k0 : (0 : Int) ≤ (k : Int) := by omega
  have km : (k : Int) < (S.m.length : Int) := by omega
  have w1 : IntKind.u64.wrap (S.m.length : Int) = (S.m.length : Int) := by simp [IntKind.wrap, IntKind.bits, IntKind.signed]; omega
  have w2 : IntKind.i64.wrap (k : Int) = (k : Int) := IntWalk.i64_in _ (by omega)
  have hz : ((S.m.length : Int) == 0) = false := beq_eq_false_iff_ne.2 (by omega)
  have hz' : ¬ (S.m.length : Int) = 0 := by omega
  clear h hx hb hkk hk 
  unfold fnLose
  go_enter Try.func32, Try.ntmps32
  go_wp2_with (go_at_call 29; (with_reducible refine (HC.out).mono ?_); rintro e w4 ⟨rfl, hrest⟩; have HN := Lib.hid hrest.1; have HA := Lib.hid hrest.2.1; clear hrest)
  go_ret
  exact ⟨rfl, HN.out, HA.out⟩
set_option maxRecDepth 100000 in
set_option maxHeartbeats 4000000 in
theorem with_both {base b xb lb hb_ : Nat} {ly : Lay} {S : NetV} (n : Int) (w : World) (h : IsNet w base b ly S) (hx : Box w xb b) (hl : FBox w lb (fnLose xb)) (hh : FBox w hb_ (fnHear xb)) (hm0 : 0 < S.m.length) (hm : S.m.length ≤ 300) (k : Nat) (hk : k < S.m.length) (hkk : whichM n S.m.length = k) : Calls Try.prog 32 #[.pointer (some ⟨b, 0, none⟩), .int .i64 n, fnBoth lb hb_] w fun e w' => e = .returned (.int .i64 0) ∧ IsNet w' base b ly (({ S with m := S.m.eraseIdx k } : NetV).hear (S.m[k])) ∧ After base w w' := by
  have hw := (whichM_lt n hm0).2
  rw [hkk] at hw
  obtain ⟨g, cap, hb, y0, y1, y2⟩ := h.msg_at hk
  have c2 : w.cell? ⟨b, 2, none⟩ = some (.slice (some ⟨g, 0, none⟩) S.m.length cap) := by rw [blk_cell hb]; rfl
  have HC := Lib.hid (both_cl k w h hx hl hh hk hm)
  generalize S.m[k] = v at HC y0 y1 y2 ⊢
  obtain ⟨fr, to_, A, kk, cp, f⟩ := v
  dsimp only [MsgV.val] at HC y0 y1 y2 ⊢
  have k0 : (0 : Int) ≤ (k : Int) := by omega
  have km : (k : Int) < (S.m.length : Int) := by omega
  have w1 : IntKind.u64.wrap (S.m.length : Int) = (S.m.length : Int) := by simp [IntKind.wrap, IntKind.bits, IntKind.signed]; omega
  have w2 : IntKind.i64.wrap (k : Int) = (k : Int) := IntWalk.i64_in _ (by omega)
  have hz : ((S.m.length : Int) == 0) = false := beq_eq_false_iff_ne.2 (by omega)
  have hz' : ¬ (S.m.length : Int) = 0 := by omega
  clear h hx hb hkk hk hl hh
  unfold fnBoth
  go_enter Try.func32, Try.ntmps32
  go_wp2_with (go_at_call 33; (with_reducible refine (HC.out).mono ?_); rintro e w4 ⟨rfl, hrest⟩; have HN := Lib.hid hrest.1; have HA := Lib.hid hrest.2; clear hrest)
  go_ret
  exact ⟨rfl, HN.out, HA.out⟩
end Net
end Go.Proofs.Ytebkpjefdaieaaa

/-
  Package network: Do. Conditions: those that each theorem names.
-/
namespace Go.Proofs.Ytebkpjefdaieaaa
open Go.RowKit FR FP H2 OW
set_option linter.unusedVariables false
set_option linter.unusedSimpArgs false
namespace Net
open Eng GG
/-- what an act answers, and what it makes of a network -/
def DoR (S : NetV) (k a b n : Int) (e : Int) (S' : NetV) : Prop :=
  if k = 1 then e = GG.lnk S.n a b n ∧ S' = (if GG.lnk S.n a b n = 0 then S.link a.toNat b.toNat n else S) else
  if k = 3 ∨ k = 4 ∨ k = 5 then (if S.m.length = 0 then e = 8 ∧ S' = S else e = 0 ∧ ∃ v, S.m[whichM n S.m.length]? = some v ∧ S' = (if k = 3 then ({ S with m := S.m.eraseIdx (whichM n S.m.length) } : NetV).hear v else if k = 4 then { S with m := S.m.eraseIdx (whichM n S.m.length) } else S.hear v)) else
  if k = 2 ∨ k = 6 ∨ k = 7 then (if GG.ok S.n a = true then (if k = 2 then (if 300 < S.m.length + (nbl S.c a.toNat S.n).length then e = 7 ∧ S' = S else e = 0 ∧ ∃ ms, IsMsgs (S.x a.toNat) a.toNat (nbl S.c a.toNat S.n) ms ∧ S' = S.ticked a.toNat (nbl S.c a.toNat S.n) ms)
    else if k = 6 then e = freshv (S.x a.toNat) ∧ S' = S.upd a.toNat (Net.fresh (S.x a.toNat)) else e = 0 ∧ S' = S.upd a.toNat (S.x a.toNat).clear) else e = 2 ∧ S' = S) else
  e = 1 ∧ S' = S
/-- the world in which an act is looked at -/
def doW (w : World) (b : Nat) (k a c n : Int) : World :=
  (((w.alloc (.cells #[.pointer (some ⟨b, 0, none⟩)] 26)).alloc (.cells #[.int .i64 k, .int .i64 a, .int .i64 c, .int .i64 n] 33)).alloc (.cells #[fnHear w.heap.size] 61)).alloc (.cells #[fnLose w.heap.size] 61)
structure DoF (w W : World) (b : Nat) (k a c n : Int) : Prop where
  bel : Below w.heap.size w W
  box : Box W w.heap.size b
  a0 : W.cell? ⟨w.heap.size + 1, 0, none⟩ = some (.int .i64 k)
  a1 : W.cell? ⟨w.heap.size + 1, 1, none⟩ = some (.int .i64 a)
  a2 : W.cell? ⟨w.heap.size + 1, 2, none⟩ = some (.int .i64 c)
  a3 : W.cell? ⟨w.heap.size + 1, 3, none⟩ = some (.int .i64 n)
  fh : FBox W (w.heap.size + 1 + 1) (fnHear w.heap.size)
  fl : FBox W (w.heap.size + 1 + 1 + 1) (fnLose w.heap.size)
theorem doF (w : World) (b : Nat) (k a c n : Int) : DoF w (doW w b k a c n) b k a c n := by
  have h1 := heap_alloc_new w (.cells #[.pointer (some ⟨b, 0, none⟩)] 26)
  have h2 := heap_alloc_new (w.alloc (.cells #[.pointer (some ⟨b, 0, none⟩)] 26)) (.cells #[.int .i64 k, .int .i64 a, .int .i64 c, .int .i64 n] 33)
  have h3 := heap_alloc_new ((w.alloc (.cells #[.pointer (some ⟨b, 0, none⟩)] 26)).alloc (.cells #[.int .i64 k, .int .i64 a, .int .i64 c, .int .i64 n] 33)) (.cells #[fnHear w.heap.size] 61)
  have h4 := heap_alloc_new (((w.alloc (.cells #[.pointer (some ⟨b, 0, none⟩)] 26)).alloc (.cells #[.int .i64 k, .int .i64 a, .int .i64 c, .int .i64 n] 33)).alloc (.cells #[fnHear w.heap.size] 61)) (.cells #[fnLose w.heap.size] 61)
  have s1 : (w.alloc (.cells #[.pointer (some ⟨b, 0, none⟩)] 26)).heap.size = w.heap.size + 1 := by simp
  have s2 : ((w.alloc (.cells #[.pointer (some ⟨b, 0, none⟩)] 26)).alloc (.cells #[.int .i64 k, .int .i64 a, .int .i64 c, .int .i64 n] 33)).heap.size = w.heap.size + 1 + 1 := by simp
  have s3 : (((w.alloc (.cells #[.pointer (some ⟨b, 0, none⟩)] 26)).alloc (.cells #[.int .i64 k, .int .i64 a, .int .i64 c, .int .i64 n] 33)).alloc (.cells #[fnHear w.heap.size] 61)).heap.size = w.heap.size + 1 + 1 + 1 := by simp
  have hB := ((Below.refl w.heap.size w).alloc (Nat.le_refl _) (.cells #[.pointer (some ⟨b, 0, none⟩)] 26))
  have up : ∀ {w : World} {i : Nat} {o o' : Obj}, w.heap[i]? = some o' → (w.alloc o).heap[i]? = some o' := fun {w i o o'} h => (Below.heap_alloc w o i (blk_lt h)).trans h
  rw [s1] at h2
  rw [s2] at h3
  rw [s3] at h4
  have g2 : (doW w b k a c n).heap[w.heap.size + 1]? = some (.cells #[.int .i64 k, .int .i64 a, .int .i64 c, .int .i64 n] 33 (0, 0)) := up (up h2)
  exact ⟨(((hB.alloc (by simp) _).alloc (by simp; omega) _).alloc (by simp; omega) _), up (up (up h1)), by rw [blk_cell g2]; rfl, by rw [blk_cell g2]; rfl, by rw [blk_cell g2]; rfl, by rw [blk_cell g2]; rfl, up h3, h4⟩
set_option maxRecDepth 1000000 in
set_option maxHeartbeats 8000000 in
theorem do_link {base b : Nat} {ly : Lay} {S : NetV} (a c n : Int) (w : World) (h : IsNet w base b ly S) : Calls Try.prog 13 #[.pointer (some ⟨b, 0, none⟩), .agg #[.int .i64 1, .int .i64 a, .int .i64 c, .int .i64 n]] w fun e w' => ∃ x S', e = .returned (.int .i64 x) ∧ DoR S 1 a c n x S' ∧ IsNet w' base b ly S' ∧ After base w w' := by
  by_cases hl : GG.lnk S.n a c n = 0
  · have hk : (GG.ok S.n a = true ∧ GG.ok S.n c = true ∧ a ≠ c) ∧ ¬ (n < 0 ∨ 1000 < n) := by
      have hl := hl
      unfold GG.lnk at hl
      split at hl
      · rename_i h1
        split at hl
        · cases hl
        · rename_i h2; exact ⟨h1, h2⟩
      · cases hl
    obtain ⟨⟨h1, h2, h3⟩, h4⟩ := hk
    have hr := fun S' (e : S' = S.link a.toNat c.toNat n) => (show DoR S 1 a c n 0 S' by unfold DoR; rw [if_pos rfl, if_pos hl, hl]; exact ⟨rfl, e⟩)
    obtain ⟨i, rfl, hi⟩ := ok_nat h1
    obtain ⟨j, rfl, hj⟩ := ok_nat h2
    have HR := Lib.hid (hr (S.link i j n) rfl)
    have hij : i ≠ j := fun e => h3 (by rw [e])
    have HL := Lib.hid (fun (w1 : World) (hn : IsNet w1 base b ly S) => link_ok w1 hn i j hi hj hij n (by omega) (by omega))
    clear hl h1 h2 h3 h4 hr hij
    have D := doF w b 1 i j n
    have H := Lib.hid (h.below D.bel)
    have A0 := Lib.hid (h.after_below D.bel)
    have HX := Lib.hid D
    clear h D
    go_enter Try.func13, Try.ntmps13
    go_upto_region 8 with fail
    change Code.wp _ _ _ _ (doW w b 1 i j n)
    generalize doW w b 1 i j n = W at H A0 HX ⊢
    have x0 := HX.out.box.cell
    have a0 := HX.out.a0
    have a1 := HX.out.a1
    have a2 := HX.out.a2
    have a3 := HX.out.a3
    go_wp2_with (go_at_call 31; (with_reducible refine (HL.out W H.out).mono ?_); rintro e w5 ⟨rfl, hn5, ha5⟩; have N5 := Lib.hid hn5; have A5 := Lib.hid ha5; clear hn5 ha5)
    go_ret
    exact ⟨_, _, rfl, HR.out, N5.out, A0.out.trans A5.out⟩
  · have HR := Lib.hid (show DoR S 1 a c n (GG.lnk S.n a c n) S by unfold DoR; rw [if_pos rfl, if_neg hl]; exact ⟨rfl, rfl⟩)
    have HL := Lib.hid (fun (w1 : World) (hn : IsNet w1 base b ly S) => link_bad w1 hn a c n hl)
    generalize GG.lnk S.n a c n = z at HR HL hl
    clear hl
    have D := doF w b 1 a c n
    have H := Lib.hid (h.below D.bel)
    have A0 := Lib.hid (h.after_below D.bel)
    have HX := Lib.hid D
    clear h D
    go_enter Try.func13, Try.ntmps13
    go_upto_region 8 with fail
    change Code.wp _ _ _ _ (doW w b 1 a c n)
    generalize doW w b 1 a c n = W at H A0 HX ⊢
    have x0 := HX.out.box.cell
    have a0 := HX.out.a0
    have a1 := HX.out.a1
    have a2 := HX.out.a2
    have a3 := HX.out.a3
    go_wp2_with (go_at_call 31; (with_reducible refine (HL.out W H.out).mono ?_); rintro e w5 ⟨rfl, rfl⟩)
    go_ret
    exact ⟨_, _, rfl, HR.out, H.out, A0.out⟩
set_option maxRecDepth 1000000 in
set_option maxHeartbeats 8000000 in
theorem do_bring {base b : Nat} {ly : Lay} {S : NetV} (a c n : Int) (w : World) (h : IsNet w base b ly S) (hm : S.m.length ≤ 300) : Calls Try.prog 13 #[.pointer (some ⟨b, 0, none⟩), .agg #[.int .i64 3, .int .i64 a, .int .i64 c, .int .i64 n]] w fun e w' => ∃ x S', e = .returned (.int .i64 x) ∧ DoR S 3 a c n x S' ∧ IsNet w' base b ly S' ∧ After base w w' := by
  by_cases h0 : S.m.length = 0
  · have HR := Lib.hid (show DoR S 3 a c n 8 S by unfold DoR; rw [if_neg (by decide), if_pos (by decide), if_pos h0]; exact ⟨rfl, rfl⟩)
    have HL := Lib.hid (fun (w1 : World) (fn : Value) (hn : IsNet w1 base b ly S) => with_none n fn w1 hn h0)
    clear h0
    have D := doF w b 3 a c n
    have H := Lib.hid (h.below D.bel)
    have A0 := Lib.hid (h.after_below D.bel)
    have HX := Lib.hid D
    clear h D
    go_enter Try.func13, Try.ntmps13
    go_upto_region 10 with fail
    change Code.wp _ _ _ _ (doW w b 3 a c n)
    generalize doW w b 3 a c n = W at H A0 HX ⊢
    have x0 := HX.out.box.cell
    have a0 := HX.out.a0
    have a1 := HX.out.a1
    have a2 := HX.out.a2
    have a3 := HX.out.a3
    skip
    go_wp2_with (go_at_call 32; (with_reducible refine (HL.out W _ H.out).mono ?_); rintro e w5 ⟨rfl, rfl⟩)
    go_ret
    exact ⟨_, _, rfl, HR.out, H.out, A0.out⟩
  · have hm0 : 0 < S.m.length := Nat.pos_of_ne_zero h0
    have hk := (whichM_lt n hm0).1
    have hr := fun S' v (hv : S.m[whichM n S.m.length]? = some v) (e : S' = ({ S with m := S.m.eraseIdx (whichM n S.m.length) } : NetV).hear v) => (show DoR S 3 a c n 0 S' by unfold DoR; rw [if_neg (by decide), if_pos (by decide), if_neg h0]; exact ⟨rfl, v, hv, e⟩)
    have HR := Lib.hid (hr _ (S.m[whichM n S.m.length]) (List.getElem?_eq_getElem hk) rfl)
    have hl := fun (w1 : World) (xb : Nat) (lb hb : Nat) (hn : IsNet w1 base b ly S) (hx : Box w1 xb b) (hl : FBox w1 lb (fnLose xb)) (hh : FBox w1 hb (fnHear xb)) => with_both n w1 hn hx hl hh hm0 hm _ hk rfl
    unfold fnBoth at hl
    have HL := Lib.hid hl
    clear h0 hr hl
    have D := doF w b 3 a c n
    have H := Lib.hid (h.below D.bel)
    have A0 := Lib.hid (h.after_below D.bel)
    have HX := Lib.hid D
    clear h D
    go_enter Try.func13, Try.ntmps13
    go_upto_region 10 with fail
    change Code.wp _ _ _ _ (doW w b 3 a c n)
    generalize doW w b 3 a c n = W at H A0 HX ⊢
    have x0 := HX.out.box.cell
    have a0 := HX.out.a0
    have a1 := HX.out.a1
    have a2 := HX.out.a2
    have a3 := HX.out.a3
    skip
    go_wp2_with (go_at_call 32; (with_reducible refine (HL.out W _ _ _ H.out HX.out.box HX.out.fl HX.out.fh).mono ?_); rintro e w5 ⟨rfl, hn5, ha5⟩; have N5 := Lib.hid hn5; have A5 := Lib.hid ha5; clear hn5 ha5)
    go_ret
    exact ⟨_, _, rfl, HR.out, N5.out, A0.out.trans A5.out⟩
set_option maxRecDepth 1000000 in
set_option maxHeartbeats 8000000 in
theorem do_lose {base b : Nat} {ly : Lay} {S : NetV} (a c n : Int) (w : World) (h : IsNet w base b ly S) (hm : S.m.length ≤ 300) : Calls Try.prog 13 #[.pointer (some ⟨b, 0, none⟩), .agg #[.int .i64 4, .int .i64 a, .int .i64 c, .int .i64 n]] w fun e w' => ∃ x S', e = .returned (.int .i64 x) ∧ DoR S 4 a c n x S' ∧ IsNet w' base b ly S' ∧ After base w w' := by
  by_cases h0 : S.m.length = 0
  · have HR := Lib.hid (show DoR S 4 a c n 8 S by unfold DoR; rw [if_neg (by decide), if_pos (by decide), if_pos h0]; exact ⟨rfl, rfl⟩)
    have HL := Lib.hid (fun (w1 : World) (fn : Value) (hn : IsNet w1 base b ly S) => with_none n fn w1 hn h0)
    clear h0
    have D := doF w b 4 a c n
    have H := Lib.hid (h.below D.bel)
    have A0 := Lib.hid (h.after_below D.bel)
    have HX := Lib.hid D
    clear h D
    go_enter Try.func13, Try.ntmps13
    go_upto_region 12 with fail
    change Code.wp _ _ _ _ (doW w b 4 a c n)
    generalize doW w b 4 a c n = W at H A0 HX ⊢
    have x0 := HX.out.box.cell
    have a0 := HX.out.a0
    have a1 := HX.out.a1
    have a2 := HX.out.a2
    have a3 := HX.out.a3
    (have f0 := HX.out.fl.cell; unfold fnLose at f0)
    go_wp2_with (go_at_call 32; (with_reducible refine (HL.out W _ H.out).mono ?_); rintro e w5 ⟨rfl, rfl⟩)
    go_ret
    exact ⟨_, _, rfl, HR.out, H.out, A0.out⟩
  · have hm0 : 0 < S.m.length := Nat.pos_of_ne_zero h0
    have hk := (whichM_lt n hm0).1
    have hr := fun S' v (hv : S.m[whichM n S.m.length]? = some v) (e : S' = { S with m := S.m.eraseIdx (whichM n S.m.length) }) => (show DoR S 4 a c n 0 S' by unfold DoR; rw [if_neg (by decide), if_pos (by decide), if_neg h0]; exact ⟨rfl, v, hv, e⟩)
    have HR := Lib.hid (hr _ (S.m[whichM n S.m.length]) (List.getElem?_eq_getElem hk) rfl)
    have hl := fun (w1 : World) (xb : Nat)  (hn : IsNet w1 base b ly S) (hx : Box w1 xb b)  => with_lose n w1 hn hx hm0 hm _ hk rfl
    unfold fnLose at hl
    have HL := Lib.hid hl
    clear h0 hr hl
    have D := doF w b 4 a c n
    have H := Lib.hid (h.below D.bel)
    have A0 := Lib.hid (h.after_below D.bel)
    have HX := Lib.hid D
    clear h D
    go_enter Try.func13, Try.ntmps13
    go_upto_region 12 with fail
    change Code.wp _ _ _ _ (doW w b 4 a c n)
    generalize doW w b 4 a c n = W at H A0 HX ⊢
    have x0 := HX.out.box.cell
    have a0 := HX.out.a0
    have a1 := HX.out.a1
    have a2 := HX.out.a2
    have a3 := HX.out.a3
    (have f0 := HX.out.fl.cell; unfold fnLose at f0)
    go_wp2_with (go_at_call 32; (with_reducible refine (HL.out W _ H.out HX.out.box).mono ?_); rintro e w5 ⟨rfl, hn5, ha5⟩; have N5 := Lib.hid hn5; have A5 := Lib.hid ha5; clear hn5 ha5)
    go_ret
    exact ⟨_, _, rfl, HR.out, N5.out, A0.out.trans A5.out⟩
set_option maxRecDepth 1000000 in
set_option maxHeartbeats 8000000 in
theorem do_again {base b : Nat} {ly : Lay} {S : NetV} (a c n : Int) (w : World) (h : IsNet w base b ly S) (hm : S.m.length ≤ 300) : Calls Try.prog 13 #[.pointer (some ⟨b, 0, none⟩), .agg #[.int .i64 5, .int .i64 a, .int .i64 c, .int .i64 n]] w fun e w' => ∃ x S', e = .returned (.int .i64 x) ∧ DoR S 5 a c n x S' ∧ IsNet w' base b ly S' ∧ After base w w' := by
  by_cases h0 : S.m.length = 0
  · have HR := Lib.hid (show DoR S 5 a c n 8 S by unfold DoR; rw [if_neg (by decide), if_pos (by decide), if_pos h0]; exact ⟨rfl, rfl⟩)
    have HL := Lib.hid (fun (w1 : World) (fn : Value) (hn : IsNet w1 base b ly S) => with_none n fn w1 hn h0)
    clear h0
    have D := doF w b 5 a c n
    have H := Lib.hid (h.below D.bel)
    have A0 := Lib.hid (h.after_below D.bel)
    have HX := Lib.hid D
    clear h D
    go_enter Try.func13, Try.ntmps13
    go_upto_region 14 with fail
    change Code.wp _ _ _ _ (doW w b 5 a c n)
    generalize doW w b 5 a c n = W at H A0 HX ⊢
    have x0 := HX.out.box.cell
    have a0 := HX.out.a0
    have a1 := HX.out.a1
    have a2 := HX.out.a2
    have a3 := HX.out.a3
    (have f0 := HX.out.fh.cell; unfold fnHear at f0)
    go_wp2_with (go_at_call 32; (with_reducible refine (HL.out W _ H.out).mono ?_); rintro e w5 ⟨rfl, rfl⟩)
    go_ret
    exact ⟨_, _, rfl, HR.out, H.out, A0.out⟩
  · have hm0 : 0 < S.m.length := Nat.pos_of_ne_zero h0
    have hk := (whichM_lt n hm0).1
    have hr := fun S' v (hv : S.m[whichM n S.m.length]? = some v) (e : S' = S.hear v) => (show DoR S 5 a c n 0 S' by unfold DoR; rw [if_neg (by decide), if_pos (by decide), if_neg h0]; exact ⟨rfl, v, hv, e⟩)
    have HR := Lib.hid (hr _ (S.m[whichM n S.m.length]) (List.getElem?_eq_getElem hk) rfl)
    have hl := fun (w1 : World) (xb : Nat)  (hn : IsNet w1 base b ly S) (hx : Box w1 xb b)  => with_hear n w1 hn hx hm0 hm _ hk rfl
    unfold fnHear at hl
    have HL := Lib.hid hl
    clear h0 hr hl
    have D := doF w b 5 a c n
    have H := Lib.hid (h.below D.bel)
    have A0 := Lib.hid (h.after_below D.bel)
    have HX := Lib.hid D
    clear h D
    go_enter Try.func13, Try.ntmps13
    go_upto_region 14 with fail
    change Code.wp _ _ _ _ (doW w b 5 a c n)
    generalize doW w b 5 a c n = W at H A0 HX ⊢
    have x0 := HX.out.box.cell
    have a0 := HX.out.a0
    have a1 := HX.out.a1
    have a2 := HX.out.a2
    have a3 := HX.out.a3
    (have f0 := HX.out.fh.cell; unfold fnHear at f0)
    go_wp2_with (go_at_call 32; (with_reducible refine (HL.out W _ H.out HX.out.box).mono ?_); rintro e w5 ⟨rfl, hn5, ha5⟩; have N5 := Lib.hid hn5; have A5 := Lib.hid ha5; clear hn5 ha5)
    go_ret
    exact ⟨_, _, rfl, HR.out, N5.out, A0.out.trans A5.out⟩
end Net
end Go.Proofs.Ytebkpjefdaieaaa

/-
  Package network: Do, all acts. Conditions: those that each theorem names.
-/
namespace Go.Proofs.Ytebkpjefdaieaaa
open Go.RowKit FR FP H2 OW
set_option linter.unusedVariables false
set_option linter.unusedSimpArgs false
namespace Net
open Eng GG
set_option maxRecDepth 1000000 in
set_option maxHeartbeats 8000000 in
theorem bad_2 {base b : Nat} {ly : Lay} {S : NetV} (a c n : Int) (w : World) (h : IsNet w base b ly S) (hok : GG.ok S.n a = false) : Calls Try.prog 13 #[.pointer (some ⟨b, 0, none⟩), .agg #[.int .i64 2, .int .i64 a, .int .i64 c, .int .i64 n]] w fun e w' => ∃ x S', e = .returned (.int .i64 x) ∧ DoR S 2 a c n x S' ∧ IsNet w' base b ly S' ∧ After base w w' := by
  have HR := Lib.hid (show DoR S 2 a c n 2 S by unfold DoR; rw [if_neg (by decide), if_neg (by decide), if_pos (by decide), hok]; exact ⟨rfl, rfl⟩)
  have HL := Lib.hid (fun (w1 : World) (hn : IsNet w1 base b ly S) => at_bad w1 hn a hok)
  clear hok
  have D := doF w b 2 a c n
  have H := Lib.hid (h.below D.bel)
  have A0 := Lib.hid (h.after_below D.bel)
  have HX := Lib.hid D
  clear h D
  go_enter Try.func13, Try.ntmps13
  go_upto_region 18 with fail
  change Code.wp _ _ _ _ (doW w b 2 a c n)
  generalize doW w b 2 a c n = W at H A0 HX ⊢
  have x0 := HX.out.box.cell
  have a0 := HX.out.a0
  have a1 := HX.out.a1
  have a2 := HX.out.a2
  have a3 := HX.out.a3
  go_wp2_with (go_at_call 34; (with_reducible refine (HL.out W H.out).mono ?_); rintro e w5 ⟨rfl, rfl⟩)
  go_ret
  exact ⟨_, _, rfl, HR.out, H.out, A0.out⟩
set_option maxRecDepth 1000000 in
set_option maxHeartbeats 8000000 in
theorem bad_6 {base b : Nat} {ly : Lay} {S : NetV} (a c n : Int) (w : World) (h : IsNet w base b ly S) (hok : GG.ok S.n a = false) : Calls Try.prog 13 #[.pointer (some ⟨b, 0, none⟩), .agg #[.int .i64 6, .int .i64 a, .int .i64 c, .int .i64 n]] w fun e w' => ∃ x S', e = .returned (.int .i64 x) ∧ DoR S 6 a c n x S' ∧ IsNet w' base b ly S' ∧ After base w w' := by
  have HR := Lib.hid (show DoR S 6 a c n 2 S by unfold DoR; rw [if_neg (by decide), if_neg (by decide), if_pos (by decide), hok]; exact ⟨rfl, rfl⟩)
  have HL := Lib.hid (fun (w1 : World) (hn : IsNet w1 base b ly S) => at_bad w1 hn a hok)
  clear hok
  have D := doF w b 6 a c n
  have H := Lib.hid (h.below D.bel)
  have A0 := Lib.hid (h.after_below D.bel)
  have HX := Lib.hid D
  clear h D
  go_enter Try.func13, Try.ntmps13
  go_upto_region 18 with fail
  change Code.wp _ _ _ _ (doW w b 6 a c n)
  generalize doW w b 6 a c n = W at H A0 HX ⊢
  have x0 := HX.out.box.cell
  have a0 := HX.out.a0
  have a1 := HX.out.a1
  have a2 := HX.out.a2
  have a3 := HX.out.a3
  go_wp2_with (go_at_call 34; (with_reducible refine (HL.out W H.out).mono ?_); rintro e w5 ⟨rfl, rfl⟩)
  go_ret
  exact ⟨_, _, rfl, HR.out, H.out, A0.out⟩
set_option maxRecDepth 1000000 in
set_option maxHeartbeats 8000000 in
theorem bad_7 {base b : Nat} {ly : Lay} {S : NetV} (a c n : Int) (w : World) (h : IsNet w base b ly S) (hok : GG.ok S.n a = false) : Calls Try.prog 13 #[.pointer (some ⟨b, 0, none⟩), .agg #[.int .i64 7, .int .i64 a, .int .i64 c, .int .i64 n]] w fun e w' => ∃ x S', e = .returned (.int .i64 x) ∧ DoR S 7 a c n x S' ∧ IsNet w' base b ly S' ∧ After base w w' := by
  have HR := Lib.hid (show DoR S 7 a c n 2 S by unfold DoR; rw [if_neg (by decide), if_neg (by decide), if_pos (by decide), hok]; exact ⟨rfl, rfl⟩)
  have HL := Lib.hid (fun (w1 : World) (hn : IsNet w1 base b ly S) => at_bad w1 hn a hok)
  clear hok
  have D := doF w b 7 a c n
  have H := Lib.hid (h.below D.bel)
  have A0 := Lib.hid (h.after_below D.bel)
  have HX := Lib.hid D
  clear h D
  go_enter Try.func13, Try.ntmps13
  go_upto_region 18 with fail
  change Code.wp _ _ _ _ (doW w b 7 a c n)
  generalize doW w b 7 a c n = W at H A0 HX ⊢
  have x0 := HX.out.box.cell
  have a0 := HX.out.a0
  have a1 := HX.out.a1
  have a2 := HX.out.a2
  have a3 := HX.out.a3
  go_wp2_with (go_at_call 34; (with_reducible refine (HL.out W H.out).mono ?_); rintro e w5 ⟨rfl, rfl⟩)
  go_ret
  exact ⟨_, _, rfl, HR.out, H.out, A0.out⟩
set_option maxRecDepth 1000000 in
set_option maxHeartbeats 8000000 in
theorem do_tick {base b : Nat} {ly : Lay} {S : NetV} (i : Nat) (c n : Int) (w : World) (h : IsNet w base b ly S) (hm : S.m.length ≤ 300) (hi : i < S.n) : Calls Try.prog 13 #[.pointer (some ⟨b, 0, none⟩), .agg #[.int .i64 2, .int .i64 i, .int .i64 c, .int .i64 n]] w fun e w' => ∃ x S', e = .returned (.int .i64 x) ∧ DoR S 2 i c n x S' ∧ IsNet w' base b ly S' ∧ After base w w' := by
  have hok : GG.ok S.n (i : Int) = true := by simp [GG.ok]; omega
  have hbn := h.n6
  by_cases hbig : 300 < S.m.length + (nbl S.c i S.n).length
  · have HR := Lib.hid (show DoR S 2 i c n 7 S by unfold DoR; rw [if_neg (by decide), if_neg (by decide), if_pos (by decide), hok, if_pos rfl, if_pos rfl]; simp only [Int.toNat_natCast]; rw [if_pos hbig]; simp)
    have HT := Lib.hid (fun (w1 : World) (hn : IsNet w1 base b ly S) => tick_full w1 hn hm i hi hbig)
    have HA := Lib.hid (fun (w1 : World) (hn : IsNet w1 base b ly S) => at_ok w1 hn i hi)
    clear hok hbig hm
    have D := doF w b 2 i c n
    have H := Lib.hid (h.below D.bel)
    have A0 := Lib.hid (h.after_below D.bel)
    have HX := Lib.hid D
    clear h D
    go_enter Try.func13, Try.ntmps13
    go_upto_region 18 with fail
    change Code.wp _ _ _ _ (doW w b 2 i c n)
    generalize doW w b 2 i c n = W at H A0 HX ⊢
    have x0 := HX.out.box.cell
    have a0 := HX.out.a0
    have a1 := HX.out.a1
    have a2 := HX.out.a2
    have a3 := HX.out.a3
    go_wp2_with (first
      | (go_at_call 34; (with_reducible refine (HA.out W H.out).mono ?_); rintro e w5 ⟨rfl, rfl⟩)
      | (go_at_call 35; (with_reducible refine (HT.out W H.out).mono ?_); rintro e w6 ⟨rfl, hn5, ha5⟩; have N5 := Lib.hid hn5; have A5 := Lib.hid ha5; clear hn5 ha5))
    go_ret
    exact ⟨_, _, rfl, HR.out, N5.out, A0.out.trans A5.out⟩
  · have HR := Lib.hid (fun ms (hms : IsMsgs (S.x i) i (nbl S.c i S.n) ms) => (show DoR S 2 i c n 0 (S.ticked i (nbl S.c i S.n) ms) by unfold DoR; rw [if_neg (by decide), if_neg (by decide), if_pos (by decide), hok, if_pos rfl, if_pos rfl]; simp only [Int.toNat_natCast]; rw [if_neg hbig]; exact ⟨trivial, ms, hms, rfl⟩))
    have HT := Lib.hid (fun (w1 : World) (hn : IsNet w1 base b ly S) => tick_ok w1 hn hm i hi hbig)
    have HA := Lib.hid (fun (w1 : World) (hn : IsNet w1 base b ly S) => at_ok w1 hn i hi)
    clear hok hbig hm
    have D := doF w b 2 i c n
    have H := Lib.hid (h.below D.bel)
    have A0 := Lib.hid (h.after_below D.bel)
    have HX := Lib.hid D
    clear h D
    go_enter Try.func13, Try.ntmps13
    go_upto_region 18 with fail
    change Code.wp _ _ _ _ (doW w b 2 i c n)
    generalize doW w b 2 i c n = W at H A0 HX ⊢
    have x0 := HX.out.box.cell
    have a0 := HX.out.a0
    have a1 := HX.out.a1
    have a2 := HX.out.a2
    have a3 := HX.out.a3
    go_wp2_with (first
      | (go_at_call 34; (with_reducible refine (HA.out W H.out).mono ?_); rintro e w5 ⟨rfl, rfl⟩)
      | (go_at_call 35; (with_reducible refine (HT.out W H.out).mono ?_); rintro e w6 ⟨⟨rfl, ms, hms, hn5⟩, ha5⟩; have N5 := Lib.hid hn5; have A5 := Lib.hid ha5; have MS := Lib.hid hms; clear hn5 ha5 hms))
    go_ret
    exact ⟨_, _, rfl, HR.out ms MS.out, N5.out, A0.out.trans A5.out⟩
set_option maxRecDepth 1000000 in
set_option maxHeartbeats 8000000 in
theorem do_fresh {base b : Nat} {ly : Lay} {S : NetV} (i : Nat) (c n : Int) (w : World) (h : IsNet w base b ly S) (hi : i < S.n) : Calls Try.prog 13 #[.pointer (some ⟨b, 0, none⟩), .agg #[.int .i64 6, .int .i64 i, .int .i64 c, .int .i64 n]] w fun e w' => ∃ x S', e = .returned (.int .i64 x) ∧ DoR S 6 i c n x S' ∧ IsNet w' base b ly S' ∧ After base w w' := by
  have hok : GG.ok S.n (i : Int) = true := by simp [GG.ok]; omega
  have hbn := h.n6
  have HR := Lib.hid (show DoR S 6 i c n (freshv (S.x i)) (S.upd i (Net.fresh (S.x i))) by unfold DoR; rw [if_neg (by decide), if_neg (by decide), if_pos (by decide), hok, if_pos rfl, if_neg (by decide), if_pos rfl]; exact ⟨rfl, rfl⟩)
  have HT := Lib.hid (fun (w1 : World) (hn : IsNet w1 base b ly S) => fresh_all (ly.nb i) (S.x i) w1 (hn.node i hi) (hn.wf i hi).1)
  have HA := Lib.hid (fun (w1 : World) (hn : IsNet w1 base b ly S) => at_ok w1 hn i hi)
  clear hok
  have D := doF w b 6 i c n
  have H := Lib.hid (h.below D.bel)
  have A0 := Lib.hid (h.after_below D.bel)
  have HX := Lib.hid D
  clear h D
  go_enter Try.func13, Try.ntmps13
  go_upto_region 18 with fail
  change Code.wp _ _ _ _ (doW w b 6 i c n)
  generalize doW w b 6 i c n = W at H A0 HX ⊢
  have x0 := HX.out.box.cell
  have a0 := HX.out.a0
  have a1 := HX.out.a1
  have a2 := HX.out.a2
  have a3 := HX.out.a3
  go_wp2_with (first
    | (go_at_call 34; (with_reducible refine (HA.out W H.out).mono ?_); rintro e w5 ⟨rfl, rfl⟩)
    | (go_at_call 36; (with_reducible refine (HT.out W H.out).mono ?_); rintro e w6 ⟨rfl, hn5, hw5, ho5⟩; have N5 := Lib.hid (H.out.node_set hi hn5 ⟨hw5, (fresh_same _).1.trans (H.out.wf i hi).2.1, (fresh_same _).2.1.trans (H.out.wf i hi).2.2⟩ ho5); have A5 := Lib.hid (H.out.after_node hi ho5); clear hn5 hw5 ho5))
  go_ret
  exact ⟨_, _, rfl, HR.out, N5.out, A0.out.trans A5.out⟩
set_option maxRecDepth 1000000 in
set_option maxHeartbeats 8000000 in
theorem do_restart {base b : Nat} {ly : Lay} {S : NetV} (i : Nat) (c n : Int) (w : World) (h : IsNet w base b ly S) (hi : i < S.n) : Calls Try.prog 13 #[.pointer (some ⟨b, 0, none⟩), .agg #[.int .i64 7, .int .i64 i, .int .i64 c, .int .i64 n]] w fun e w' => ∃ x S', e = .returned (.int .i64 x) ∧ DoR S 7 i c n x S' ∧ IsNet w' base b ly S' ∧ After base w w' := by
  have hok : GG.ok S.n (i : Int) = true := by simp [GG.ok]; omega
  have hbn := h.n6
  have HR := Lib.hid (show DoR S 7 i c n 0 (S.upd i (S.x i).clear) by unfold DoR; rw [if_neg (by decide), if_neg (by decide), if_pos (by decide), hok, if_pos rfl, if_neg (by decide), if_neg (by decide)]; exact ⟨rfl, rfl⟩)
  have HT := Lib.hid (fun (w1 : World) (hn : IsNet w1 base b ly S) => restart_any (ly.nb i) (S.x i) w1 (hn.node i hi))
  have HA := Lib.hid (fun (w1 : World) (hn : IsNet w1 base b ly S) => at_ok w1 hn i hi)
  clear hok
  have D := doF w b 7 i c n
  have H := Lib.hid (h.below D.bel)
  have A0 := Lib.hid (h.after_below D.bel)
  have HX := Lib.hid D
  clear h D
  go_enter Try.func13, Try.ntmps13
  go_upto_region 18 with fail
  change Code.wp _ _ _ _ (doW w b 7 i c n)
  generalize doW w b 7 i c n = W at H A0 HX ⊢
  have x0 := HX.out.box.cell
  have a0 := HX.out.a0
  have a1 := HX.out.a1
  have a2 := HX.out.a2
  have a3 := HX.out.a3
  go_wp2_with (first
    | (go_at_call 34; (with_reducible refine (HA.out W H.out).mono ?_); rintro e w5 ⟨rfl, rfl⟩)
    | (go_at_call 37; (with_reducible refine (HT.out W H.out).mono ?_); rintro e w6 ⟨rfl, hn5, ho5⟩; have N5 := Lib.hid (H.out.node_set hi hn5 ⟨wf_clear (H.out.wf i hi).1, (H.out.wf i hi).2.1, (H.out.wf i hi).2.2⟩ ho5); have A5 := Lib.hid (H.out.after_node hi ho5); clear hn5 ho5))
  go_ret
  exact ⟨_, _, rfl, HR.out, N5.out, A0.out.trans A5.out⟩
set_option maxRecDepth 1000000 in
set_option maxHeartbeats 8000000 in
theorem do_other {base b : Nat} {ly : Lay} {S : NetV} (k a c n : Int) (w : World) (h : IsNet w base b ly S) (h1 : k ≠ 1) (h2 : k ≠ 2) (h3 : k ≠ 3) (h4 : k ≠ 4) (h5 : k ≠ 5) (h6 : k ≠ 6) (h7 : k ≠ 7) : Calls Try.prog 13 #[.pointer (some ⟨b, 0, none⟩), .agg #[.int .i64 k, .int .i64 a, .int .i64 c, .int .i64 n]] w fun e w' => ∃ x S', e = .returned (.int .i64 x) ∧ DoR S k a c n x S' ∧ IsNet w' base b ly S' ∧ After base w w' := by
  have HR := Lib.hid (show DoR S k a c n 1 S by unfold DoR; rw [if_neg h1, if_neg (by omega), if_neg (by omega)]; exact ⟨rfl, rfl⟩)
  have b1 : (k == 1) = false := by simpa using h1
  have b2 : (k == 2) = false := by simpa using h2
  have b3 : (k == 3) = false := by simpa using h3
  have b4 : (k == 4) = false := by simpa using h4
  have b5 : (k == 5) = false := by simpa using h5
  have b6 : (k == 6) = false := by simpa using h6
  have b7 : (k == 7) = false := by simpa using h7
  clear h1 h2 h3 h4 h5 h6 h7
  have D := doF w b k a c n
  have H := Lib.hid (h.below D.bel)
  have A0 := Lib.hid (h.after_below D.bel)
  have HX := Lib.hid D
  clear h D
  go_enter Try.func13, Try.ntmps13
  go_upto_region 6 with fail
  change Code.wp _ _ _ _ (doW w b k a c n)
  generalize doW w b k a c n = W at H A0 HX ⊢
  have x0 := HX.out.box.cell
  have a0 := HX.out.a0
  have a1 := HX.out.a1
  have a2 := HX.out.a2
  have a3 := HX.out.a3
  go_wp2
  go_ret
  exact ⟨_, _, rfl, HR.out, H.out, A0.out⟩
theorem do_any {base b : Nat} {ly : Lay} {S : NetV} (k a c n : Int) (w : World) (h : IsNet w base b ly S) (hm : S.m.length ≤ 300) : Calls Try.prog 13 #[.pointer (some ⟨b, 0, none⟩), .agg #[.int .i64 k, .int .i64 a, .int .i64 c, .int .i64 n]] w fun e w' => ∃ x S', e = .returned (.int .i64 x) ∧ DoR S k a c n x S' ∧ IsNet w' base b ly S' ∧ After base w w' := by
  by_cases h1 : k = 1
  · subst h1; exact do_link a c n w h
  by_cases h3 : k = 3
  · subst h3; exact do_bring a c n w h hm
  by_cases h4 : k = 4
  · subst h4; exact do_lose a c n w h hm
  by_cases h5 : k = 5
  · subst h5; exact do_again a c n w h hm
  by_cases h2 : k = 2
  · subst h2
    cases hok : GG.ok S.n a
    · exact bad_2 a c n w h hok
    · obtain ⟨i, rfl, hi⟩ := ok_nat hok
      exact do_tick i c n w h hm hi
  by_cases h6 : k = 6
  · subst h6
    cases hok : GG.ok S.n a
    · exact bad_6 a c n w h hok
    · obtain ⟨i, rfl, hi⟩ := ok_nat hok
      exact do_fresh i c n w h hi
  by_cases h7 : k = 7
  · subst h7
    cases hok : GG.ok S.n a
    · exact bad_7 a c n w h hok
    · obtain ⟨i, rfl, hi⟩ := ok_nat hok
      exact do_restart i c n w h hi
  exact do_other k a c n w h h1 h2 h3 h4 h5 h6 h7
set_option maxRecDepth 1000000 in
set_option maxHeartbeats 8000000 in
theorem do_nil (k a c n : Int) (w : World) : Calls Try.prog 13 #[.pointer none, .agg #[.int .i64 k, .int .i64 a, .int .i64 c, .int .i64 n]] w fun e w' => e = .returned (.int .i64 10) ∧ Below w.heap.size w w' := by
  go_enter Try.func13, Try.ntmps13
  go_wp2
  go_ret
  exact ⟨rfl, ((Below.refl _ _).alloc (Nat.le_refl _) _).alloc (by simp) _⟩
end Net
end Go.Proofs.Ytebkpjefdaieaaa

/-
  The walk of the laws' awake of layer 20, part one: what is reckoned. No program. Conditions: none.
-/
namespace Go.Proofs.Ytebkpjefdaieaaa
namespace Net
open Eng GG
def j0 : NetV := NetV.new 3
def j1 : NetV := j0.link 0 1 1
def j2 : NetV := j1.link 1 2 2
def j3 : NetV := { j2 with x := fun i => if i = 1 then tlAll (j2.x 1) [0, 2] else j2.x i }
def j4 : NetV := j3.upd 2 ((j3.x 2).hear 1 ((tl (j2.x 1) 0).offer 2) 3)
def j5 : NetV := j4.settle
theorem b1 : nbl j2.c 1 3 = [0, 2] := by decide +kernel
theorem b2 : (((j4.x 0).route 1).2.1.1, ((j4.x 1).route 1).2.1.1, ((j4.x 2).route 1).2.1.1) = (65535, 0, 2) := by decide +kernel
theorem b3 : j4.n * heard j4.c j4.n j4.n = 12 := by decide +kernel
theorem b4 : (((j5.x 0).route 2).2.1.1, ((j5.x 1).route 2).2.1.1, ((j5.x 2).route 2).2.1.1) = (3, 2, 0) := by decide +kernel
theorem b5 : (((j5.x 0).route 2).1, ((j5.x 1).route 2).1, ((j5.x 2).route 2).1) = (1, 2, -1) := by decide +kernel
end Net
end Go.Proofs.Ytebkpjefdaieaaa

/-
  The walk of the laws' awake of layer 20. Conditions: none.
-/
namespace Go.Proofs.Ytebkpjefdaieaaa
open Go.RowKit FR FP H2 OW
set_option linter.unusedVariables false
set_option linter.unusedSimpArgs false
namespace Net
open Eng GG
theorem lit_ints (w : World) (L : List Int) : Ints (w.alloc (.cells (nums L).toArray 3)) (some ⟨w.heap.size, 0, none⟩) L.length (fun i => L.getD i 0) := by
  have h : Row (w.alloc (.cells (nums L).toArray 3)) w.heap.size L := by
    show (w.alloc _).heap[w.heap.size]? = _
    simp only [World.alloc]; exact Array.getElem?_push_size
  exact h.ints
theorem far_ints {w : World} {g n : Nat} {F : Nat → Int} (h : Far w g n F) : Ints w (some ⟨g, 0, none⟩) n F := fun i hi => ⟨g, 0, rfl, blk_lt h, by rw [Nat.zero_add]; exact h.cell i hi⟩
theorem three {p : Nat → Prop} (h0 : p 0) (h1 : p 1) (h2 : p 2) : ∀ i, i < 3 → p i := fun i hi => by
  have : i = 0 ∨ i = 1 ∨ i = 2 := by omega
  rcases this with rfl | rfl | rfl <;> assumption
theorem sm3 (a b c : Int) (A : Option Addr) (cap : Nat) (V : Nat → Int) (w : World) (hI : Ints w A 3 V) (h0 : V 0 = a) (h1 : V 1 = b) (h2 : V 2 = c) : Calls Try.prog 16 #[.slice A 3 cap, .slice (some ⟨w.heap.size, 0, none⟩) 3 3] (w.alloc (.cells #[.int .i64 a, .int .i64 b, .int .i64 c] 3)) fun e w' => e = .returned (.bool true) ∧ Below w.heap.size w w' :=
  (same_any _ 3 cap V _ 3 3 _ _ (by omega) (hI.keep ((Below.refl _ _).alloc (Nat.le_refl _) _)) (lit_ints w [a, b, c])).mono fun e w' ⟨he, hb⟩ => ⟨by rw [he]; exact congrArg _ (congrArg _ (sam_yes (fun j hj => by
    have : j = 0 ∨ j = 1 ∨ j = 2 := by omega
    rcases this with rfl | rfl | rfl
    · exact h0
    · exact h1
    · exact h2))), ((Below.refl _ _).alloc (Nat.le_refl _) _).trans (hb.mono (by simp))⟩
def F5 (i : Nat) : Int := if i = 0 then 3 else if i = 1 then 2 else 0
theorem far5 : GP.IsFar 3 j5.c 2 F5 := by
  refine ⟨rfl, three (by decide) (by decide) (by decide), three (by decide) (by decide) (by decide), three (by decide) (by decide) (fun h => absurd rfl h), fun i k hi hk => ?_, three (fun _ => .inr ⟨1, by omega, by decide +kernel, by decide +kernel⟩) (fun _ => .inr ⟨2, by omega, by decide +kernel, by decide +kernel⟩) (fun h => absurd rfl h)⟩
  have a : i = 0 ∨ i = 1 ∨ i = 2 := by omega
  have b : k = 0 ∨ k = 1 ∨ k = 2 := by omega
  rcases a with rfl | rfl | rfl <;> rcases b with rfl | rfl | rfl <;> decide +kernel
theorem q1 {base b : Nat} {ly : Lay} (w : World) (h : IsNet w base b ly j0) : Calls Try.prog 13 #[.pointer (some ⟨b, 0, none⟩), .agg #[.int .i64 1, .int .i64 0, .int .i64 1, .int .i64 1]] w fun e w' => e = .returned (.int .i64 0) ∧ IsNet w' base b ly j1 ∧ After base w w' :=
  (do_any 1 0 1 1 w h (by decide)).mono fun e w' ⟨x, S', he, hd, hn, ha⟩ => by
    unfold DoR at hd
    rw [if_pos rfl] at hd
    obtain ⟨rfl, rfl⟩ := hd
    have hl : GG.lnk j0.n 0 1 1 = 0 := by decide +kernel
    rw [hl] at he hn
    exact ⟨he, hn, ha⟩
theorem q2 {base b : Nat} {ly : Lay} (w : World) (h : IsNet w base b ly j1) : Calls Try.prog 13 #[.pointer (some ⟨b, 0, none⟩), .agg #[.int .i64 1, .int .i64 1, .int .i64 2, .int .i64 2]] w fun e w' => e = .returned (.int .i64 0) ∧ IsNet w' base b ly j2 ∧ After base w w' :=
  (do_any 1 1 2 2 w h (by decide)).mono fun e w' ⟨x, S', he, hd, hn, ha⟩ => by
    unfold DoR at hd
    rw [if_pos rfl] at hd
    obtain ⟨rfl, rfl⟩ := hd
    have hl : GG.lnk j1.n 1 2 2 = 0 := by decide +kernel
    rw [hl] at he hn
    exact ⟨he, hn, ha⟩
theorem q3 {base b : Nat} {ly : Lay} (w : World) (h : IsNet w base b ly j2) : Calls Try.prog 13 #[.pointer (some ⟨b, 0, none⟩), .agg #[.int .i64 3, .int .i64 0, .int .i64 0, .int .i64 0]] w fun e w' => e = .returned (.int .i64 8) ∧ IsNet w' base b ly j2 ∧ After base w w' :=
  (do_any 3 0 0 0 w h (by decide)).mono fun e w' ⟨x, S', he, hd, hn, ha⟩ => by
    unfold DoR at hd
    rw [if_neg (by decide), if_pos (by decide), if_pos (by decide)] at hd
    obtain ⟨rfl, rfl⟩ := hd
    exact ⟨he, hn, ha⟩
theorem q4 {base b : Nat} {ly : Lay} (w : World) (h : IsNet w base b ly j2) : Calls Try.prog 13 #[.pointer (some ⟨b, 0, none⟩), .agg #[.int .i64 2, .int .i64 1, .int .i64 0, .int .i64 0]] w fun e w' => e = .returned (.int .i64 0) ∧ (∃ v0 v1, (v1.fr = 1 ∧ v1.to_ = 2 ∧ v1.k = 3 ∧ v1.f = (tl (j2.x 1) 0).offer 2) ∧ IsNet w' base b ly { j3 with m := [v0, v1] }) ∧ After base w w' :=
  (do_any 2 1 0 0 w h (by decide)).mono fun e w' ⟨x, S', he, hd, hn, ha⟩ => by
    unfold DoR at hd
    rw [if_neg (by decide), if_neg (by decide), if_pos (by decide), if_pos (by decide +kernel), if_pos rfl, if_neg (by decide +kernel)] at hd
    obtain ⟨rfl, ms, hm, rfl⟩ := hd
    have hl : nbl j2.c (1 : Int).toNat j2.n = [0, 2] := b1
    rw [hl] at hm hn
    obtain ⟨v0, r, rfl, _, _, _, _, v1, r', rfl, k1, k2, k3, k4, k5⟩ := hm
    have k5' : r' = [] := k5
    subst k5'
    exact ⟨he, ⟨v0, v1, ⟨k1, k2, k3.trans (by decide +kernel), k4⟩, hn⟩, ha⟩
theorem q5 {base b : Nat} {ly : Lay} (v0 v1 : MsgV) (w : World) (hv : v1.fr = 1 ∧ v1.to_ = 2 ∧ v1.k = 3 ∧ v1.f = (tl (j2.x 1) 0).offer 2) (h : IsNet w base b ly { j3 with m := [v0, v1] }) : Calls Try.prog 13 #[.pointer (some ⟨b, 0, none⟩), .agg #[.int .i64 3, .int .i64 0, .int .i64 0, .int .i64 1]] w fun e w' => e = .returned (.int .i64 0) ∧ IsNet w' base b ly { j4 with m := [v0] } ∧ After base w w' :=
  (do_any 3 0 0 1 w h (by simp)).mono fun e w' ⟨x, S', he, hd, hn, ha⟩ => by
    unfold DoR at hd
    rw [if_neg (by decide), if_pos (by decide), if_neg (by simp)] at hd
    obtain ⟨rfl, v, h1, rfl⟩ := hd
    have hw : whichM 1 ([v0, v1] : List MsgV).length = 1 := by show whichM 1 2 = 1; decide +kernel
    simp only [hw] at h1 hn
    cases h1
    refine ⟨he, ?_, ha⟩
    have e1 : (if (3 : Int) = 3 then ({ ({ j3 with m := [v0, v1] } : NetV) with m := [v0, v1].eraseIdx 1 } : NetV).hear v1 else if (3 : Int) = 4 then { ({ j3 with m := [v0, v1] } : NetV) with m := [v0, v1].eraseIdx 1 } else ({ j3 with m := [v0, v1] } : NetV).hear v1) = { j4 with m := [v0] } := by
      rw [if_pos rfl]
      unfold NetV.hear
      rw [hv.1, hv.2.1, hv.2.2.1, hv.2.2.2]
      rfl
    exact e1 ▸ hn
theorem q6 {base b : Nat} {ly : Lay} (v0 : MsgV) (w : World) (h : IsNet w base b ly { j4 with m := [v0] }) : Calls Try.prog 17 #[.pointer (some ⟨b, 0, none⟩), .int .i64 1] w fun e w' => (∃ v, e = .returned v ∧ w'.ownsRow w.heap.size 3 1 v 3 (ints (fun i => ((j4.x i).route 1).2.1.1) 3)) ∧ Below w.heap.size w w' := metrics_ok w h 1 (show 1 < j4.n by decide +kernel)
theorem q7 {base b : Nat} {ly : Lay} (v0 : MsgV) (w : World) (h : IsNet w base b ly { j4 with m := [v0] }) : Calls Try.prog 14 #[.pointer (some ⟨b, 0, none⟩)] w fun e w' => e = .returned (.int .i64 12) ∧ IsNet w' base b ly j5 ∧ After base w w' :=
  (settle_any w h).mono fun e w' ⟨he, hn, ha⟩ => ⟨by rw [he]; exact congrArg _ (congrArg (Value.int .i64) (congrArg Int.ofNat b3)), hn, ha⟩
theorem q8 {base b : Nat} {ly : Lay} (w : World) (h : IsNet w base b ly j5) : Calls Try.prog 17 #[.pointer (some ⟨b, 0, none⟩), .int .i64 2] w fun e w' => (∃ A c, e = .returned (.slice A 3 c) ∧ Ints w' A 3 (fun i => ((j5.x i).route 2).2.1.1)) ∧ Below w.heap.size w w' :=
  (metrics_ok w h 2 (by decide)).mono fun e w' ⟨⟨v, he, hv⟩, hb⟩ => by
    obtain ⟨A, c, rfl, hi, _⟩ := Net.own_row hv
    exact ⟨⟨A, c, he, hi⟩, hb⟩
theorem q9 {base b : Nat} {ly : Lay} (w : World) (h : IsNet w base b ly j5) : Calls Try.prog 19 #[.pointer (some ⟨b, 0, none⟩), .int .i64 2] w fun e w' => (∃ A c, e = .returned (.slice A 3 c) ∧ Ints w' A 3 (fun i => ((j5.x i).route 2).1)) ∧ Below w.heap.size w w' :=
  (next_ok w h 2 (by decide)).mono fun e w' ⟨⟨v, he, hv⟩, hb⟩ => by
    obtain ⟨A, c, rfl, hi, _⟩ := Net.own_row hv
    exact ⟨⟨A, c, he, hi⟩, hb⟩
theorem q10 {base b : Nat} {ly : Lay} (w : World) (h : IsNet w base b ly j5) : Calls Try.prog 18 #[.pointer (some ⟨b, 0, none⟩), .int .i64 2] w fun e w' => (∃ A c F, e = .returned (.slice A 3 c) ∧ Ints w' A 3 F ∧ F 0 = 3 ∧ F 1 = 2 ∧ F 2 = 0) ∧ Below w.heap.size w w' :=
  (far_any w h 2 (by decide)).mono fun e w' ⟨⟨gf, F, he, _, hf, hi⟩, hb⟩ => by
    have hu := hi.unique far5
    exact ⟨⟨_, 3, F, he, far_ints hf, hu 0 (by decide), hu 1 (by decide), hu 2 (by decide)⟩, hb⟩
theorem q11 {base b : Nat} {ly : Lay} (w : World) (h : IsNet w base b ly j5) : Calls Try.prog 13 #[.pointer (some ⟨b, 0, none⟩), .agg #[.int .i64 9, .int .i64 0, .int .i64 0, .int .i64 0]] w fun e w' => e = .returned (.int .i64 1) ∧ After base w w' :=
  (do_any 9 0 0 0 w h (by decide)).mono fun e w' ⟨x, S', he, hd, hn, ha⟩ => by
    unfold DoR at hd
    rw [if_neg (by decide), if_neg (by decide), if_neg (by decide)] at hd
    obtain ⟨rfl, rfl⟩ := hd
    exact ⟨he, ha⟩
theorem e0 : ((j4.x 0).route 1).2.1.1 = 65535 := by decide +kernel
theorem e1 : ((j4.x 1).route 1).2.1.1 = 0 := by decide +kernel
theorem e2 : ((j4.x 2).route 1).2.1.1 = 2 := by decide +kernel
theorem f0 : ((j5.x 0).route 2).2.1.1 = 3 := by decide +kernel
theorem f1' : ((j5.x 1).route 2).2.1.1 = 2 := by decide +kernel
theorem f2' : ((j5.x 2).route 2).2.1.1 = 0 := by decide +kernel
theorem g0 : ((j5.x 0).route 2).1 = 1 := by decide +kernel
theorem g1 : ((j5.x 1).route 2).1 = 2 := by decide +kernel
theorem g2 : ((j5.x 2).route 2).1 = -1 := by decide +kernel
theorem q12 {base b : Nat} {ly : Lay} (w : World) (h : IsNet w base b ly j5) : Calls Try.prog 20 #[.pointer (some ⟨b, 0, none⟩)] w fun e w' => e = .returned (.int .i64 0) ∧ w = w' := (way_len w h).mono fun e w' ⟨he, hw⟩ => ⟨by rw [he]; exact congrArg _ (congrArg (Value.int .i64) (show ((j5.m.length : Nat) : Int) = 0 by decide +kernel)), hw⟩
theorem q13 {base b : Nat} {ly : Lay} (w : World) (h : IsNet w base b ly j5) : Calls Try.prog 22 #[.pointer (some ⟨b, 0, none⟩)] w fun e w' => e = .returned (.int .i64 3) ∧ w = w' := (len_any w h).mono fun e w' ⟨he, hw⟩ => ⟨by rw [he]; exact congrArg _ (congrArg (Value.int .i64) (show ((j5.n : Nat) : Int) = 3 by decide +kernel)), hw⟩
theorem q14 {base b : Nat} {ly : Lay} (v0 v1 : MsgV) (w : World) (h : IsNet w base b ly { j3 with m := [v0, v1] }) : Calls Try.prog 20 #[.pointer (some ⟨b, 0, none⟩)] w fun e w' => e = .returned (.int .i64 2) ∧ w = w' := way_len w h
theorem q0 (w : World) : Calls Try.prog 11 #[.int .i64 3] w fun e w' => (∃ b ly, e = .returned (.tuple #[.pointer (some ⟨b, 0, none⟩), .int .i64 0]) ∧ IsNet w' w.heap.size b ly j0) ∧ Below w.heap.size w w' := new_any 3 w (by omega) (by omega)
attribute [local irreducible] j0 j1 j2 j3 j4 j5
set_option maxRecDepth 1000000 in
set_option maxHeartbeats 8000000 in
theorem awake_any (w : World) : Calls Try.prog 9 #[] w fun e w' => e = .returned (.bool true) ∧ Below w.heap.size w w' := by
  go_enter Try.func9, Try.ntmps9
  go_upto_region 5 with (first
    | (go_at_call 11; (with_reducible refine (q0 w).mono ?_); rintro e w1 ⟨⟨b, ly, rfl, hi⟩, hb⟩; have N1 := Lib.hid hi; have B1 := Lib.hid hb; clear hi hb)
    | (go_at_call 11; (with_reducible refine (new_bad 0 w1 (by omega)).mono ?_); rintro e w2 ⟨rfl, rfl⟩))
  go_upto_region 6 with (go_at_call 13; (with_reducible refine (q1 w1 N1.out).mono ?_); rintro e w2 ⟨rfl, hi, ha⟩; have N2 := Lib.hid hi; have B2 := Lib.hid (B1.out.trans ha.bel); clear hi ha)
  go_upto_region 7 with (go_at_call 13; (with_reducible refine (q2 w2 N2.out).mono ?_); rintro e w3 ⟨rfl, hi, ha⟩; have N3 := Lib.hid hi; have B3 := Lib.hid (B2.out.trans ha.bel); clear hi ha)
  go_upto_region 8 with (go_at_call 13; (with_reducible refine (q3 w3 N3.out).mono ?_); rintro e w4 ⟨rfl, hi, ha⟩; have N4 := Lib.hid hi; have B4 := Lib.hid (B3.out.trans ha.bel); clear hi ha)
  go_upto_region 9 with (go_at_call 13; (with_reducible refine (q4 w4 N4.out).mono ?_); rintro e w5 ⟨rfl, ⟨v0, v1, hv, hi⟩, ha⟩; have V := Lib.hid hv; have N5 := Lib.hid hi; have B5 := Lib.hid (B4.out.trans ha.bel); clear hi ha hv)
  go_upto_region 10 with (go_at_call 20; (with_reducible refine (q14 v0 v1 w5 N5.out).mono ?_); rintro e w6 ⟨rfl, rfl⟩)
  go_upto_region 11 with (go_at_call 13; (with_reducible refine (q5 v0 v1 w5 V.out N5.out).mono ?_); rintro e w6 ⟨rfl, hi, ha⟩; have N6 := Lib.hid hi; have B6 := Lib.hid (B5.out.trans ha.bel); clear hi ha)
  go_upto_region 12 with (go_at_call 17; (with_reducible refine (q6 v0 w6 N6.out).mono ?_); rintro e w7 ⟨⟨v, rfl, hr⟩, hb⟩; have R7 := Lib.hid hr; have N7 := Lib.hid (N6.out.below hb); have B7 := Lib.hid (B6.out.trans (hb.mono B6.out.size)); clear hr hb)
  go_upto_region 13 with (go_at_call 14; (with_reducible refine (q7 v0 w7 N7.out).mono ?_); rintro e w8 ⟨rfl, hi, ha⟩; have N8 := Lib.hid hi; obtain ⟨A8, c8, rfl, hi8, _⟩ := Net.own_row (ha.typ.own R7.out (by unfold netT; decide)); have I8 := Lib.hid hi8; have B8 := Lib.hid (B7.out.trans ha.bel); clear hi ha hi8)
  go_wp2_with (first
    | (go_at_call 16; (with_reducible refine (sm3 65535 0 2 A8 c8 _ w8 I8.out e0 e1 e2).mono ?_); rintro e w9 ⟨rfl, hb⟩; have N9 := Lib.hid (N8.out.below hb); have B9 := Lib.hid (B8.out.trans (hb.mono B8.out.size)); clear hb)
    | (go_at_call 17; (with_reducible refine (q8 w9 N9.out).mono ?_); rintro e w10 ⟨⟨A10, c10, rfl, hi⟩, hb⟩; have I10 := Lib.hid hi; have N10 := Lib.hid (N9.out.below hb); have B10 := Lib.hid (B9.out.trans (hb.mono B9.out.size)); clear hi hb)
    | (go_at_call 16; (with_reducible refine (sm3 3 2 0 A10 c10 _ w10 I10.out f0 f1' f2').mono ?_); rintro e w11 ⟨rfl, hb⟩; have N11 := Lib.hid (N10.out.below hb); have B11 := Lib.hid (B10.out.trans (hb.mono B10.out.size)); clear hb)
    | (go_at_call 19; (with_reducible refine (q9 w11 N11.out).mono ?_); rintro e w12 ⟨⟨A12, c12, rfl, hi⟩, hb⟩; have I12 := Lib.hid hi; have N12 := Lib.hid (N11.out.below hb); have B12 := Lib.hid (B11.out.trans (hb.mono B11.out.size)); clear hi hb)
    | (go_at_call 16; (with_reducible refine (sm3 1 2 (-1) A12 c12 _ w12 I12.out g0 g1 g2).mono ?_); rintro e w13 ⟨rfl, hb⟩; have N13 := Lib.hid (N12.out.below hb); have B13 := Lib.hid (B12.out.trans (hb.mono B12.out.size)); clear hb)
    | (go_at_call 18; (with_reducible refine (q10 w13 N13.out).mono ?_); rintro e w14 ⟨⟨A14, c14, F14, rfl, hi, hf⟩, hb⟩; have I14 := Lib.hid hi; have F14' := Lib.hid hf; have N14 := Lib.hid (N13.out.below hb); have B14 := Lib.hid (B13.out.trans (hb.mono B13.out.size)); clear hi hb hf)
    | (go_at_call 16; (with_reducible refine (sm3 3 2 0 A14 c14 _ w14 I14.out F14'.out.1 F14'.out.2.1 F14'.out.2.2).mono ?_); rintro e w15 ⟨rfl, hb⟩; have N15 := Lib.hid (N14.out.below hb); have B15 := Lib.hid (B14.out.trans (hb.mono B14.out.size)); clear hb)
    | (go_at_call 20; (with_reducible refine (q12 w15 N15.out).mono ?_); rintro e w16 ⟨rfl, rfl⟩)
    | (go_at_call 22; (with_reducible refine (q13 w15 N15.out).mono ?_); rintro e w16 ⟨rfl, rfl⟩)
    | (go_at_call 13; (with_reducible refine (q11 w15 N15.out).mono ?_); rintro e w16 ⟨rfl, ha⟩; have B16 := Lib.hid (B15.out.trans ha.bel); clear ha))
  go_ret
  exact ⟨rfl, B16.out⟩
set_option maxRecDepth 1000000 in
set_option maxHeartbeats 8000000 in
theorem few_any (A : Option Addr) (n cap : Nat) (w : World) (hn : n ≤ maxLen) : Calls Try.prog 10 #[.slice A n cap] w fun e w' => e = .returned (.bool (decide (n ≤ 300))) ∧ w = w' := by
  unfold maxLen at hn
  by_cases h : n ≤ 300
  · rw [decide_eq_true h]
    have h' : (n : Int) ≤ 300 := by omega
    go_enter Try.func10, Try.ntmps10
    go_wp2
    go_ret
    exact ⟨rfl, rfl⟩
  · rw [decide_eq_false h]
    have h' : ¬ (n : Int) ≤ 300 := by omega
    go_enter Try.func10, Try.ntmps10
    go_wp2
    go_ret
    exact ⟨rfl, rfl⟩
end Net
end Go.Proofs.Ytebkpjefdaieaaa

/-
  Slices of records that came in, opened. No program. Conditions: those that each theorem names.
-/
namespace Go.Proofs.Ytebkpjefdaieaaa
open Go Go.Deep Go.ChangeShapes Go.WideShapes
section
variable {H : Type} {enc : TypeId × Value → H} {P : Program} {w : World} {base : Nat} {spare : Nat → Bool} {held : Bool}
theorem open_slice_three {t e : TypeId} {f0 f1 f2 : Field} {fuel : Nat} {cs : List Value} {x : DataW H × List MemPlace} (ht : P.underlying t = some (.slice e)) (he : P.underlying e = some (.struct #[f0, f1, f2]))
    (ce : P.cellsOf e = 3) (o0 : f0.offset = 0) (o1 : f1.offset = 1) (o2 : f2.offset = 2) (c0 : P.cellsOf f0.type = 1) (c1 : P.cellsOf f1.type = 1) (c2 : P.cellsOf f2.type = 1)
    (h : DataW.trod enc P w base spare held fuel t cs = some x) :
    cs = [.slice none 0 0] ∨
    ∃ (b o len cap : Nat) , (∃ s, cs = [.slice (some ⟨b, o, s⟩) len cap] ∧ (0 < len → s = none)) ∧ len ≤ maxLen ∧
      ∀ i, i < len → ∃ v0 v1 v2 n y0 y1 y2, w.cell? ⟨b, o + i * 3, none⟩ = some v0 ∧ w.cell? ⟨b, o + i * 3 + 1, none⟩ = some v1 ∧ w.cell? ⟨b, o + i * 3 + 2, none⟩ = some v2 ∧
        DataW.trod enc P w base spare held n f0.type [v0] = some y0 ∧ DataW.trod enc P w base spare held n f1.type [v1] = some y1 ∧ DataW.trod enc P w base spare held n f2.type [v2] = some y2 := by
  rcases open_slice ht h with h0 | ⟨a, len, cap, m, n, D, Pl, rfl, hb, hl, hm, hmm, rfl, hx⟩
  · exact Or.inl h0.1
  right
  have hlm : len ≤ m := by rw [hmm]; split <;> omega
  have each : ∀ i, i < len → ∃ v0 v1 v2 n y0 y1 y2, w.cell? (a.add (i * 3)) = some v0 ∧ w.cell? (a.add (i * 3 + 1)) = some v1 ∧ w.cell? (a.add (i * 3 + 2)) = some v2 ∧
        DataW.trod enc P w base spare held n f0.type [v0] = some y0 ∧ DataW.trod enc P w base spare held n f1.type [v1] = some y1 ∧ DataW.trod enc P w base spare held n f2.type [v2] = some y2 := by
    intro i hi
    obtain ⟨cs', h1, h2⟩ := hx i (by omega)
    rw [ce] at h1
    obtain ⟨_, hlen, hcell⟩ := World.cells?_some h1
    obtain ⟨xs, k, hk, hxy, _, hxl, hf⟩ := DataW.trod_struct he h2
    match xs, hxl, cs', hlen with
    | [y0, y1, y2], _, [v0, v1, v2], _ =>
      have g0 := hf 0 f0 rfl
      have g1 := hf 1 f1 rfl
      have g2 := hf 2 f2 rfl
      simp [o0, o1, o2, c0, c1, c2] at g0 g1 g2
      have e0 := hcell 0 (by omega)
      have e1 := hcell 1 (by omega)
      have e2 := hcell 2 (by omega)
      rw [add_add] at e0 e1 e2
      exact ⟨v0, v1, v2, k, y0, y1, y2, by simpa using e0, by simpa using e1, by simpa using e2, g0, g1, g2⟩
  obtain ⟨ab, ao, sp⟩ := a
  refine ⟨ab, ao, len, cap, ⟨sp, rfl, fun h0 => ?_⟩, by omega, fun i hi => ?_⟩
  · obtain ⟨v0, _, _, _, _, _, _, e0, _⟩ := each 0 h0
    simpa [Addr.add] using World.cell?_spot e0
  · obtain ⟨v0, v1, v2, k, y0, y1, y2, e0, e1, e2, g⟩ := each i hi
    have hs : sp = none := by
      obtain ⟨v0, _, _, _, _, _, _, e0, _⟩ := each 0 (by omega)
      simpa [Addr.add] using World.cell?_spot e0
    subst hs
    rw [Addr.add_lit] at e0 e1 e2
    exact ⟨v0, v1, v2, k, y0, y1, y2, e0, e1, e2, g⟩
end
end Go.Proofs.Ytebkpjefdaieaaa

/-
  Slices of records of four parts that came in, opened. No program. Conditions: those that each theorem names.
-/
namespace Go.Proofs.Ytebkpjefdaieaaa
open Go Go.Deep Go.ChangeShapes Go.WideShapes
section
variable {H : Type} {enc : TypeId × Value → H} {P : Program} {w : World} {base : Nat} {spare : Nat → Bool} {held : Bool}
theorem open_slice_four {t e : TypeId} {f0 f1 f2 f3 : Field} {fuel : Nat} {cs : List Value} {x : DataW H × List MemPlace} (ht : P.underlying t = some (.slice e)) (he : P.underlying e = some (.struct #[f0, f1, f2, f3]))
    (ce : P.cellsOf e = 4) (o0 : f0.offset = 0) (o1 : f1.offset = 1) (o2 : f2.offset = 2) (o3 : f3.offset = 3) (c0 : P.cellsOf f0.type = 1) (c1 : P.cellsOf f1.type = 1) (c2 : P.cellsOf f2.type = 1) (c3 : P.cellsOf f3.type = 1)
    (h : DataW.trod enc P w base spare held fuel t cs = some x) :
    cs = [.slice none 0 0] ∨
    ∃ (b o len cap : Nat) , (∃ s, cs = [.slice (some ⟨b, o, s⟩) len cap] ∧ (0 < len → s = none)) ∧ len ≤ maxLen ∧
      ∀ i, i < len → ∃ v0 v1 v2 v3 n y0 y1 y2 y3, w.cell? ⟨b, o + i * 4, none⟩ = some v0 ∧ w.cell? ⟨b, o + i * 4 + 1, none⟩ = some v1 ∧ w.cell? ⟨b, o + i * 4 + 2, none⟩ = some v2 ∧ w.cell? ⟨b, o + i * 4 + 3, none⟩ = some v3 ∧
        DataW.trod enc P w base spare held n f0.type [v0] = some y0 ∧ DataW.trod enc P w base spare held n f1.type [v1] = some y1 ∧ DataW.trod enc P w base spare held n f2.type [v2] = some y2 ∧ DataW.trod enc P w base spare held n f3.type [v3] = some y3 := by
  rcases open_slice ht h with h0 | ⟨a, len, cap, m, n, D, Pl, rfl, hb, hl, hm, hmm, rfl, hx⟩
  · exact Or.inl h0.1
  right
  have hlm : len ≤ m := by rw [hmm]; split <;> omega
  have each : ∀ i, i < len → ∃ v0 v1 v2 v3 n y0 y1 y2 y3, w.cell? (a.add (i * 4)) = some v0 ∧ w.cell? (a.add (i * 4 + 1)) = some v1 ∧ w.cell? (a.add (i * 4 + 2)) = some v2 ∧ w.cell? (a.add (i * 4 + 3)) = some v3 ∧
        DataW.trod enc P w base spare held n f0.type [v0] = some y0 ∧ DataW.trod enc P w base spare held n f1.type [v1] = some y1 ∧ DataW.trod enc P w base spare held n f2.type [v2] = some y2 ∧ DataW.trod enc P w base spare held n f3.type [v3] = some y3 := by
    intro i hi
    obtain ⟨cs', h1, h2⟩ := hx i (by omega)
    rw [ce] at h1
    obtain ⟨_, hlen, hcell⟩ := World.cells?_some h1
    obtain ⟨xs, k, hk, hxy, _, hxl, hf⟩ := DataW.trod_struct he h2
    match xs, hxl, cs', hlen with
    | [y0, y1, y2, y3], _, [v0, v1, v2, v3], _ =>
      have g0 := hf 0 f0 rfl
      have g1 := hf 1 f1 rfl
      have g2 := hf 2 f2 rfl
      have g3 := hf 3 f3 rfl
      simp [o0, o1, o2, o3, c0, c1, c2, c3] at g0 g1 g2 g3
      have e0 := hcell 0 (by omega)
      have e1 := hcell 1 (by omega)
      have e2 := hcell 2 (by omega)
      have e3 := hcell 3 (by omega)
      rw [add_add] at e0 e1 e2 e3
      exact ⟨v0, v1, v2, v3, k, y0, y1, y2, y3, by simpa using e0, by simpa using e1, by simpa using e2, by simpa using e3, g0, g1, g2, g3⟩
  obtain ⟨ab, ao, sp⟩ := a
  refine ⟨ab, ao, len, cap, ⟨sp, rfl, fun h0 => ?_⟩, by omega, fun i hi => ?_⟩
  · obtain ⟨v0, _, _, _, _, _, _, _, _, e0, _⟩ := each 0 h0
    simpa [Addr.add] using World.cell?_spot e0
  · obtain ⟨v0, v1, v2, v3, k, y0, y1, y2, y3, e0, e1, e2, e3, g⟩ := each i hi
    have hs : sp = none := by
      obtain ⟨v0, _, _, _, _, _, _, _, _, e0, _⟩ := each 0 (by omega)
      simpa [Addr.add] using World.cell?_spot e0
    subst hs
    rw [Addr.add_lit] at e0 e1 e2 e3
    exact ⟨v0, v1, v2, v3, k, y0, y1, y2, y3, e0, e1, e2, e3, g⟩
end
end Go.Proofs.Ytebkpjefdaieaaa

/-
  What came into the laws of layer 20, opened: acts, offers. Conditions: those that each theorem names.
-/
namespace Go.Proofs.Ytebkpjefdaieaaa
open Go Go.Deep Go.Joins Go.ChangeShapes Go.WideShapes Go.RowKit FR FP
set_option linter.unusedVariables false
set_option linter.unusedSimpArgs false
namespace Net
open Eng
theorem cellsOO : Try.prog.cellsOf 99 = 3 := by kernel_rfl
theorem sm_of {a : Int} (h : (Lit.int .u32 a).wf = true) : Sm a := by
  simp [Lit.wf, IntKind.min, IntKind.max, IntKind.signed, IntKind.bits] at h
  exact ⟨h.1, by omega⟩
/-- offers that came in -/
def IsOf (W : World) (v : Value) : Prop := ∃ (A : Option Addr) (n cap : Nat) (f : Nat → Int × Int × Int), v = .slice A n cap ∧ n ≤ maxLen ∧ RdO W A n f ∧ SmO f n
set_option maxRecDepth 1000000 in
theorem open_of' {H : Type} {enc : TypeId × Value → H} {W : World} {fuel : Nat} {v : Value} {x : DataW H × List MemPlace}
    (h : DataW.trod enc Try.prog W 0 (fun _ => true) true fuel 42 [v] = some x) : IsOf W v := by
  rcases open_slice_three Try.underlying42 Try.underlying99 cellsOO rfl rfl rfl (by kernel_rfl) (by kernel_rfl) (by kernel_rfl) h with hcs | ⟨b, o, len, cap, ⟨s, hcs, hs⟩, hl, hx⟩
  · cases hcs
    exact ⟨none, 0, 0, fun _ => (0, 0, 0), rfl, by decide, fun i hi => by omega, fun i hi => by omega⟩
  · cases hcs
    have each : ∀ i, i < len → ∃ q : Int × Int × Int, Sm q.2.2 ∧ W.cell? ⟨b, o + i * 3, none⟩ = some (.int .i64 q.1) ∧ W.cell? ⟨b, o + i * 3 + 1, none⟩ = some (.int .i64 q.2.1) ∧ W.cell? ⟨b, o + i * 3 + 2, none⟩ = some (.int .u32 q.2.2) := by
      intro i hi
      obtain ⟨v0, v1, v2, n, y0, y1, y2, h0, h1, h2, t0, t1, t2⟩ := hx i hi
      obtain ⟨a, e0, _, wa⟩ := DataW.trod_int Try.underlying3 t0
      obtain ⟨b, e1, _, wb⟩ := DataW.trod_int Try.underlying3 t1
      obtain ⟨c, e2, _, wc⟩ := DataW.trod_int Try.underlying75 t2
      simp at e0 e1 e2
      subst e0 e1 e2
      exact ⟨(a, b, c), sm_of wc, h0, h1, h2⟩
    obtain ⟨q, hq⟩ := choose_lt each
    refine ⟨some ⟨b, o, s⟩, len, cap, q, rfl, hl, fun i hi => ?_, fun i hi => (hq i hi).1⟩
    have hs0 := hs (by omega)
    subst hs0
    obtain ⟨_, h2, h3, h4⟩ := hq i hi
    exact ⟨b, o, rfl, World.block_lt_of_cell? _ _ h2, h2, h3, h4⟩
set_option maxRecDepth 1000000 in
theorem open_Of {H : Type} {enc : TypeId × Value → H} {W : World} {base : Nat} {v : Value} {d : DataW H} {p : List MemPlace} (hv : Value.okWide Try.prog W .any base 42 v)
    (h : DataW.Trod enc Try.prog W 0 (fun _ => true) true 42 v d p) : IsOf W v := by
  obtain ⟨a1, len, cap, rfl⟩ := okWide_slice Try.underlying42 hv
  obtain ⟨fuel, hf⟩ := h
  exact open_of' (fuel := fuel) (by simpa [Value.cells] using hf)
theorem cellsA : Try.prog.cellsOf 33 = 4 := by kernel_rfl
/-- an act: what, A, B, N -/
structure ActV where
  k : Int
  a : Int
  b : Int
  n : Int
instance : Inhabited ActV := ⟨⟨0, 0, 0, 0⟩⟩
def RdA (W : World) (A : Option Addr) (n : Nat) (f : Nat → ActV) : Prop := ∀ i, i < n → ∃ g o, A = some ⟨g, o, none⟩ ∧ g < W.heap.size ∧ W.cell? ⟨g, o + i * 4, none⟩ = some (.int .i64 (f i).k) ∧ W.cell? ⟨g, o + i * 4 + 1, none⟩ = some (.int .i64 (f i).a) ∧ W.cell? ⟨g, o + i * 4 + 2, none⟩ = some (.int .i64 (f i).b) ∧ W.cell? ⟨g, o + i * 4 + 3, none⟩ = some (.int .i64 (f i).n)
theorem RdA.below {W W' : World} {A : Option Addr} {n : Nat} {f : Nat → ActV} (h : RdA W A n f) (hb : Below W.heap.size W W') : RdA W' A n f := fun i hi => by
  obtain ⟨g, o, e, hl, h0, h1, h2, h3⟩ := h i hi
  exact ⟨g, o, e, Nat.lt_of_lt_of_le hl hb.size, later hb h0, later hb h1, later hb h2, later hb h3⟩
def IsActs (W : World) (v : Value) : Prop := ∃ (A : Option Addr) (n cap : Nat) (f : Nat → ActV), v = .slice A n cap ∧ n ≤ maxLen ∧ RdA W A n f
def IsAct (W : World) (v : Value) : Prop := ∃ k a b n : Int, v = .agg #[.int .i64 k, .int .i64 a, .int .i64 b, .int .i64 n]
set_option maxRecDepth 1000000 in
theorem open_Act {H : Type} {enc : TypeId × Value → H} {W : World} {base : Nat} {v : Value} {d : DataW H} {p : List MemPlace} (hv : Value.okWide Try.prog W .any base 33 v)
    (h : DataW.Trod enc Try.prog W 0 (fun _ => true) true 33 v d p) : IsAct W v := by
  obtain ⟨c0, c1, c2, c3, y0, y1, y2, y3, m, rfl, rfl, rfl, hy0, hy1, hy2, hy3⟩ := open_agg4 Try.underlying33 (by kernel_rfl) cellsA hv h
  obtain ⟨a, e0, _, wa⟩ := DataW.trod_int Try.underlying3 hy0
  obtain ⟨b, e1, _, wb⟩ := DataW.trod_int Try.underlying3 hy1
  obtain ⟨c, e2, _, wc⟩ := DataW.trod_int Try.underlying3 hy2
  obtain ⟨d, e3, _, wd⟩ := DataW.trod_int Try.underlying3 hy3
  simp at e0 e1 e2 e3
  subst e0 e1 e2 e3
  exact ⟨a, b, c, d, rfl⟩
set_option maxRecDepth 1000000 in
theorem open_Acts {H : Type} {enc : TypeId × Value → H} {W : World} {base : Nat} {v : Value} {d : DataW H} {p : List MemPlace} (hv : Value.okWide Try.prog W .any base 22 v)
    (h : DataW.Trod enc Try.prog W 0 (fun _ => true) true 22 v d p) : IsActs W v := by
  obtain ⟨a1, len, cap, rfl⟩ := okWide_slice Try.underlying22 hv
  obtain ⟨fuel, hf⟩ := h
  rcases open_slice_four Try.underlying22 Try.underlying33 cellsA rfl rfl rfl rfl (by kernel_rfl) (by kernel_rfl) (by kernel_rfl) (by kernel_rfl) hf with hcs | ⟨b, o, len', cap', ⟨s, hcs, hs⟩, hl, hx⟩
  · simp [Value.cells] at hcs
    obtain ⟨rfl, rfl, rfl⟩ := hcs
    exact ⟨none, 0, 0, fun _ => ⟨0, 0, 0, 0⟩, rfl, by decide, fun i hi => by omega⟩
  · simp [Value.cells] at hcs
    obtain ⟨rfl, rfl, rfl⟩ := hcs
    have each : ∀ i, i < len → ∃ q : ActV, W.cell? ⟨b, o + i * 4, none⟩ = some (.int .i64 q.k) ∧ W.cell? ⟨b, o + i * 4 + 1, none⟩ = some (.int .i64 q.a) ∧ W.cell? ⟨b, o + i * 4 + 2, none⟩ = some (.int .i64 q.b) ∧ W.cell? ⟨b, o + i * 4 + 3, none⟩ = some (.int .i64 q.n) := by
      intro i hi
      obtain ⟨v0, v1, v2, v3, n, y0, y1, y2, y3, h0, h1, h2, h3, t0, t1, t2, t3⟩ := hx i hi
      obtain ⟨a, e0, _, wa⟩ := DataW.trod_int Try.underlying3 t0
      obtain ⟨b, e1, _, wb⟩ := DataW.trod_int Try.underlying3 t1
      obtain ⟨c, e2, _, wc⟩ := DataW.trod_int Try.underlying3 t2
      obtain ⟨d, e3, _, wd⟩ := DataW.trod_int Try.underlying3 t3
      simp at e0 e1 e2 e3
      subst e0 e1 e2 e3
      exact ⟨⟨a, b, c, d⟩, h0, h1, h2, h3⟩
    obtain ⟨q, hq⟩ := choose_lt each
    refine ⟨some ⟨b, o, s⟩, len, cap, q, rfl, hl, fun i hi => ?_⟩
    have hs0 := hs (by omega)
    subst hs0
    obtain ⟨h1, h2, h3, h4⟩ := hq i hi
    exact ⟨b, o, rfl, World.block_lt_of_cell? _ _ h2, h1, h2, h3, h4⟩
end Net
end Go.Proofs.Ytebkpjefdaieaaa

/-
  Networks: what is kept by any act; networks in which nothing was heard. No program. Conditions: those that each theorem names.
-/
namespace Go.Proofs.Ytebkpjefdaieaaa
open Go.RowKit FR FP H2 OW ChS
set_option linter.unusedVariables false
set_option linter.unusedSimpArgs false
namespace Net
open Eng GG
theorem isMsgs_len : ∀ {s : St} {a : Nat} {L : List Nat} {ms : List MsgV}, IsMsgs s a L ms → ms.length = L.length
  | s, a, [], ms, h => by
    have h' : ms = [] := h
    rw [h']; rfl
  | s, a, b :: L, ms, h => by
    obtain ⟨v, r, rfl, _, _, _, _, h5⟩ := h
    simp [isMsgs_len h5]
/-- the acts' cases -/
theorem DoR.cases {S S' : NetV} {k a b n e : Int} (h : DoR S k a b n e S') :
    S' = S ∨ (∃ i j : Nat, GG.lnk S.n a b n = 0 ∧ k = 1 ∧ i < S.n ∧ j < S.n ∧ i ≠ j ∧ a = i ∧ b = j ∧ 0 ≤ n ∧ n ≤ 1000 ∧ S' = S.link i j n) ∨
    (∃ v m, v ∈ S.m ∧ (∀ u, u ∈ m → u ∈ S.m) ∧ m.length ≤ S.m.length ∧ ((k = 3 ∨ k = 5) ∧ S' = ({ S with m := m } : NetV).hear v ∨ k = 4 ∧ S' = { S with m := m })) ∨
    (∃ i : Nat, i < S.n ∧ k = 2 ∧ a = i ∧ S.m.length + (nbl S.c i S.n).length ≤ 300 ∧ ∃ ms, IsMsgs (S.x i) i (nbl S.c i S.n) ms ∧ S' = S.ticked i (nbl S.c i S.n) ms) ∨
    (∃ i : Nat, i < S.n ∧ k = 6 ∧ a = i ∧ S' = S.upd i (Net.fresh (S.x i))) ∨ (∃ i : Nat, i < S.n ∧ k = 7 ∧ a = i ∧ S' = S.upd i (S.x i).clear) := by
  unfold DoR at h
  split at h
  · rename_i h1
    obtain ⟨_, h⟩ := h
    by_cases hl : GG.lnk S.n a b n = 0
    · rw [if_pos hl] at h
      have hk : (GG.ok S.n a = true ∧ GG.ok S.n b = true ∧ a ≠ b) ∧ ¬ (n < 0 ∨ 1000 < n) := by
        unfold GG.lnk at hl
        split at hl
        · rename_i h1
          split at hl
          · cases hl
          · rename_i h2; exact ⟨h1, h2⟩
        · cases hl
      obtain ⟨⟨h1', h2, h3⟩, h4⟩ := hk
      obtain ⟨i, rfl, hi⟩ := ok_nat h1'
      obtain ⟨j, rfl, hj⟩ := ok_nat h2
      exact .inr (.inl ⟨i, j, hl, h1, hi, hj, fun e => h3 (by rw [e]), rfl, rfl, by omega, by omega, h⟩)
    · rw [if_neg hl] at h
      exact .inl h
  · split at h
    · rename_i h3
      split at h
      · exact .inl h.2
      · obtain ⟨_, v, hv, h⟩ := h
        have hv' : v ∈ S.m := List.mem_of_getElem? hv
        split at h
        · rename_i k3
          exact .inr (.inr (.inl ⟨v, _, hv', fun u hu => List.mem_of_mem_eraseIdx hu, List.length_eraseIdx_le _ _, .inl ⟨.inl k3, h⟩⟩))
        · split at h
          · rename_i k4
            exact .inr (.inr (.inl ⟨v, _, hv', fun u hu => List.mem_of_mem_eraseIdx hu, List.length_eraseIdx_le _ _, .inr ⟨k4, h⟩⟩))
          · exact .inr (.inr (.inl ⟨v, S.m, hv', fun u hu => hu, Nat.le_refl _, .inl ⟨.inr (by omega), h⟩⟩))
    · split at h
      · rename_i h2
        split at h
        · rename_i hok
          obtain ⟨i, rfl, hi⟩ := ok_nat hok
          simp only [Int.toNat_natCast] at h
          split at h
          · rename_i k2
            split at h
            · exact .inl h.2
            · rename_i hbig
              exact .inr (.inr (.inr (.inl ⟨i, hi, k2, rfl, by omega, h.2⟩)))
          · split at h
            · rename_i k6
              exact .inr (.inr (.inr (.inr (.inl ⟨i, hi, k6, rfl, h.2⟩))))
            · exact .inr (.inr (.inr (.inr (.inr ⟨i, hi, by omega, rfl, h.2⟩))))
        · exact .inl h.2
      · exact .inl h.2
/-- so many messages stay few -/
theorem DoR.few {S S' : NetV} {k a b n e : Int} (h : DoR S k a b n e S') (hm : S.m.length ≤ 300) : S'.m.length ≤ 300 ∧ S'.n = S.n := by
  rcases h.cases with rfl | ⟨i, j, _, _, _, _, _, _, _, _, _, rfl⟩ | ⟨v, m, _, _, hl, ⟨_, rfl⟩ | ⟨_, rfl⟩⟩ | ⟨i, _, _, _, hl, ms, hms, rfl⟩ | ⟨i, _, _, _, rfl⟩ | ⟨i, _, _, _, rfl⟩
  · exact ⟨hm, rfl⟩
  · exact ⟨hm, rfl⟩
  · exact ⟨Nat.le_trans hl hm, rfl⟩
  · exact ⟨Nat.le_trans hl hm, rfl⟩
  · exact ⟨by show (S.m ++ ms).length ≤ 300; rw [List.length_append, isMsgs_len hms]; exact hl, rfl⟩
  · exact ⟨hm, rfl⟩
  · exact ⟨hm, rfl⟩
/-- nothing was heard -/
def Dark (S : NetV) : Prop := ∀ i d j, ((S.x i).inn d j).1 = 65535
theorem dark_new (n : Nat) : Dark (NetV.new n) := fun i d j => rfl
theorem inn_tl (s : St) (t : Int) : (tl s t).inn = s.inn := by unfold tl; split <;> rfl
theorem inn_tlAll (s : St) : ∀ L : List Nat, (tlAll s L).inn = s.inn := by
  intro L
  induction L generalizing s with
  | nil => rfl
  | cons b L ih => exact (ih (tl s b)).trans (inn_tl s b)
theorem link_dark {s : St} {t x : Int} (h : ∀ d j, (s.inn d j).1 = 65535) : ∀ d j, ((s.link t x).inn d j).1 = 65535 := by
  unfold St.link
  split
  · split
    · intro d j
      show (if j = t.toNat then ((65535 : Int), (0 : Int)) else s.inn d j).1 = 65535
      split
      · rfl
      · exact h d j
    · exact h
  · exact h
theorem upd_dark {S : NetV} {k : Nat} {s : St} (h : Dark S) (hs : ∀ d j, (s.inn d j).1 = 65535) : Dark (S.upd k s) := fun i d j => by
  show ((if i = k then s else S.x i).inn d j).1 = 65535
  split
  · exact hs d j
  · exact h i d j
theorem fresh_inn (s : St) : (Net.fresh s).inn = s.inn := by unfold Net.fresh; split <;> rfl
theorem DoR.dark {S S' : NetV} {k a b n e : Int} (h : DoR S k a b n e S') (h3 : k ≠ 3) (h5 : k ≠ 5) (hd : Dark S) : Dark S' := by
  rcases h.cases with rfl | ⟨i, j, _, _, _, _, _, _, _, _, _, rfl⟩ | ⟨v, m, _, _, hl, ⟨hk35, rfl⟩ | ⟨_, rfl⟩⟩ | ⟨i, _, _, _, hl, ms, hms, rfl⟩ | ⟨i, _, _, _, rfl⟩ | ⟨i, _, _, _, rfl⟩
  · exact hd
  · exact upd_dark (upd_dark hd (link_dark (hd i))) (link_dark (hd j))
  · rcases hk35 with h | h
    · exact absurd h h3
    · exact absurd h h5
  · exact hd
  · intro x d j
    show ((if x = i then tlAll (S.x i) (nbl S.c i S.n) else S.x x).inn d j).1 = 65535
    split
    · rw [inn_tlAll]; exact hd i d j
    · exact hd x d j
  · exact upd_dark hd (by rw [fresh_inn]; exact hd i)
  · exact upd_dark hd (fun d j => rfl)
theorem dark_metric {S : NetV} (h : Dark S) (i d : Nat) (hn : (S.x i).n = S.n) (hid : (S.x i).id = i) (hd : d < S.n) : ((S.x i).route d).2.1.1 = if i = d then 0 else 65535 := by
  by_cases e : i = d
  · rw [if_pos e]
    subst e
    have := route_self (S.x i) (by rw [hid, hn]; exact hd)
    rw [hid] at this
    rw [this]
  · rw [if_neg e]
    rcases route_spec (S.x i) d (by rw [hn]; exact hd) (by rw [hid]; exact fun h => e h.symm) with ⟨h1, _⟩ | ⟨a, h1, _, h3, _⟩
    · rw [h1]
    · have := (fea_iff _ _ _ _).1 h3.1
      have := h i d a
      omega
end Net
end Go.Proofs.Ytebkpjefdaieaaa

/-
  Networks: what is told, heard, and on the way is no better than the best that was told; so no way goes round. No program. Conditions: those that each theorem names.
-/
namespace Go.Proofs.Ytebkpjefdaieaaa
open Go.RowKit FR FP H2 OW ChS
set_option linter.unusedVariables false
set_option linter.unusedSimpArgs false
namespace Net
open Eng GG
/-- p may have been told of goal d by node a, which is s now -/
def Tld (s : St) (a d : Nat) (p : Int × Int) : Prop :=
  p.1 < 65535 → if a = d then p.1 = 0 ∧ p.2 ≤ s.seq else (s.told d).1 < 65535 ∧ bet p.1 p.2 (s.told d).1 (s.told d).2 = false
/-- a node goes on: what it told gets no worse -/
structure Up (s s' : St) : Prop where
  seq : s.seq ≤ s'.seq
  told : ∀ d, (s.told d).1 < 65535 → (s'.told d).1 < 65535 ∧ bet (s.told d).1 (s.told d).2 (s'.told d).1 (s'.told d).2 = false
theorem Up.refl (s : St) : Up s s := ⟨Int.le_refl _, fun d h => ⟨h, bet_self _ _⟩⟩
theorem Up.of_eq {s s' : St} (h1 : s'.seq = s.seq) (h2 : s'.told = s.told) : Up s s' := ⟨by rw [h1]; exact Int.le_refl _, fun d h => by rw [h2]; exact ⟨h, bet_self _ _⟩⟩
theorem bet_tr {a b c d e f : Int} (h : bet a b c d = false) (k : bet c d e f = false) : bet a b e f = false := by
  rw [bet_false] at h k ⊢
  omega
theorem Up.trans {s s' s2 : St} (h : Up s s') (k : Up s' s2) : Up s s2 :=
  ⟨Int.le_trans h.seq k.seq, fun d hd => by
    obtain ⟨h1, h2⟩ := h.told d hd
    obtain ⟨k1, k2⟩ := k.told d h1
    exact ⟨k1, bet_tr h2 k2⟩⟩
theorem Tld.up {s s' : St} {a d : Nat} {p : Int × Int} (h : Tld s a d p) (hu : Up s s') : Tld s' a d p := fun hp => by
  have h := h hp
  split
  · rename_i e
    rw [if_pos e] at h
    exact ⟨h.1, Int.le_trans h.2 hu.seq⟩
  · rename_i e
    rw [if_neg e] at h
    obtain ⟨h1, h2⟩ := hu.told d h.1
    exact ⟨h1, bet_tr h.2 h2⟩
theorem tld_far (s : St) (a d : Nat) {p : Int × Int} (h : 65535 ≤ p.1) : Tld s a d p := fun hp => by omega
theorem best_spec {s : St} {t : Int} {d : Nat} (hd : d < s.n) (h : s.best t d = true) : d ≠ s.id ∧ (s.route d).2.2 = true ∧ (s.route d).2.1.1 < 65535 ∧ (65535 ≤ (s.told d).1 ∨ bet (s.route d).2.1.1 (s.route d).2.1.2 (s.told d).1 (s.told d).2 = true) := by
  unfold St.best at h
  simp only [Bool.and_eq_true, Bool.not_eq_true', Bool.or_eq_true, decide_eq_true_eq] at h
  obtain ⟨⟨h1, h2⟩, h3⟩ := h
  have hid : d ≠ s.id := fun e => by rw [e] at h2; simp at h2
  unfold St.hid at h1
  simp only [Bool.or_eq_false_iff, Bool.not_eq_false'] at h1
  refine ⟨hid, h1.1, ?_, h3⟩
  rcases route_spec s d hd hid with ⟨h4, _⟩ | ⟨a, h4, _, h5, _⟩
  · rw [h4] at h1; cases h1.1
  · rw [h4]; exact h5.2.2
theorem up_tells (s : St) (t : Int) (k : Nat) (hk : k ≤ s.n) : Up s (s.tells t k) := by
  refine ⟨Int.le_refl _, fun d hd => ?_⟩
  have e : (s.tells t k).told d = if d < k ∧ s.best t d = true then (s.route d).2.1 else s.told d := rfl
  rw [e]
  split
  · rename_i h
    obtain ⟨h1, h2, h3, h4⟩ := best_spec (by omega) h.2
    refine ⟨h3, ?_⟩
    rcases h4 with h4 | h4
    · omega
    · rw [bet_iff] at h4; rw [bet_false]; omega
  · exact ⟨hd, bet_self _ _⟩
theorem up_tl (s : St) (t : Int) : Up s (tl s t) := by unfold tl; split; exact up_tells s t _ (Nat.le_refl _); exact Up.refl _
theorem up_tlAll : ∀ (L : List Nat) (s : St), Up s (tlAll s L)
  | [], s => Up.refl s
  | b :: L, s => (up_tl s b).trans (up_tlAll L (tl s b))
theorem up_link (s : St) (t x : Int) : Up s (s.link t x) := Up.of_eq (link_same s t x).2.2.2 (link_same s t x).2.2.1
theorem up_fresh (s : St) : Up s (Net.fresh s) := by
  unfold Net.fresh
  split
  · exact Up.refl s
  · exact ⟨by show s.seq ≤ s.seq + 1; omega, fun d h => ⟨h, bet_self _ _⟩⟩
theorem take_told (s : St) (i : Nat) (o : Int × Int × Int) : (s.take i o).told = s.told ∧ (s.take i o).seq = s.seq ∧ (s.take i o).cost = s.cost := by unfold St.take; split <;> exact ⟨rfl, rfl, rfl⟩
theorem takes_told (s : St) (i : Nat) (f : Nat → Int × Int × Int) : ∀ k, (s.takes i f k).told = s.told ∧ (s.takes i f k).seq = s.seq ∧ (s.takes i f k).cost = s.cost
  | 0 => ⟨rfl, rfl, rfl⟩
  | k + 1 => by
    have h := take_told (s.takes i f k) i (f k)
    have ih := takes_told s i f k
    exact ⟨h.1.trans ih.1, h.2.1.trans ih.2.1, h.2.2.trans ih.2.2⟩
theorem hear_told (s : St) (t : Int) (f : Nat → Int × Int × Int) (n : Nat) : (s.hear t f n).told = s.told ∧ (s.hear t f n).seq = s.seq ∧ (s.hear t f n).cost = s.cost := by
  unfold St.hear
  split
  · exact takes_told s t.toNat f n
  · exact ⟨rfl, rfl, rfl⟩
theorem up_hear (s : St) (t : Int) (f : Nat → Int × Int × Int) (n : Nat) : Up s (s.hear t f n) := Up.of_eq (hear_told s t f n).2.1 (hear_told s t f n).1
/-- what was heard: as ahead, or kept of what came -/
theorem takes_inn' (s : St) (i : Nat) (f : Nat → Int × Int × Int) (d j : Nat) : ∀ k, (s.takes i f k).inn d j = s.inn d j ∨ j = i ∧ ∃ q, q < k ∧ d = (f q).1.toNat ∧ (s.takes i f k).inn d j = kept (f q)
  | 0 => .inl rfl
  | k + 1 => by
    have ih := takes_inn' s i f d j k
    have e : s.takes i f (k + 1) = (s.takes i f k).take i (f k) := rfl
    rw [e]
    unfold St.take
    by_cases h : (f k).1 = (s.takes i f k).id
    · rw [if_pos h]
      rcases ih with ih | ⟨h1, q, h2, h3⟩
      · exact .inl ih
      · exact .inr ⟨h1, q, by omega, h3⟩
    · rw [if_neg h]
      have e2 : ((s.takes i f k).hear1 (f k).1.toNat i (kept (f k))).inn d j = if d = (f k).1.toNat ∧ j = i then kept (f k) else (s.takes i f k).inn d j := rfl
      rw [e2]
      split
      · rename_i h2
        exact .inr ⟨h2.2, k, by omega, h2.1, rfl⟩
      · rcases ih with ih | ⟨h1, q, h2, h3⟩
        · exact .inl ih
        · exact .inr ⟨h1, q, by omega, h3⟩
theorem hear_inn (s : St) (t : Nat) (f : Nat → Int × Int × Int) (n d j : Nat) : (s.hear t f n).inn d j = s.inn d j ∨ j = t ∧ ∃ q, q < n ∧ d = (f q).1.toNat ∧ (s.hear t f n).inn d j = kept (f q) := by
  unfold St.hear
  split
  · exact takes_inn' s t f d j n
  · exact .inl rfl
theorem kept_cases (o : Int × Int × Int) : 65535 ≤ (kept o).1 ∨ kept o = o.2 := by
  unfold kept
  split
  · exact .inl (Int.le_refl _)
  · exact .inr rfl
/-- what is told of d may have been told -/
theorem tld_offer (s : St) (t : Int) (d : Nat) (hd : d < s.n) : Tld (s.tells t s.n) s.id d (s.offer t d).2 := by
  unfold St.offer
  split
  · exact tld_far _ _ _ (Int.le_refl _)
  · rename_i hh
    intro hp
    by_cases e : s.id = d
    · rw [if_pos e]
      subst e
      rw [route_self s hd]
      exact ⟨rfl, Int.le_refl _⟩
    · rw [if_neg e]
      have e1 : (s.tells t s.n).told d = if d < s.n ∧ s.best t d = true then (s.route d).2.1 else s.told d := rfl
      rw [e1]
      split
      · exact ⟨hp, bet_self _ _⟩
      · rename_i hb
        have hb : s.best t d = false := by
          cases hx : s.best t d
          · rfl
          · exact absurd ⟨hd, hx⟩ hb
        unfold St.best at hb
        have hh' : s.hid t d = false := by simpa using hh
        have e3 : ((d : Int) == (s.id : Int)) = false := by simp; omega
        rw [hh', e3] at hb
        simp only [Bool.not_false, Bool.true_and, Bool.or_eq_false_iff, decide_eq_false_iff_not] at hb
        exact ⟨by omega, hb.2⟩
theorem tld_tl (s : St) (t : Int) (k : Nat) (hk : k < told_len s t) : Tld (tl s t) s.id (s.offer t k).1.toNat (s.offer t k).2 := by
  unfold told_len at hk
  unfold tl
  split
  · rename_i h
    rw [if_pos h] at hk
    have e : (s.offer t k).1.toNat = k := by unfold St.offer; split <;> simp
    rw [e]
    exact tld_offer s t k hk
  · rename_i h
    rw [if_neg h] at hk
    omega
theorem tld_msgs : ∀ (L : List Nat) (s : St) (a : Nat) (ms : List MsgV), s.id = a → IsMsgs s a L ms → ∀ v ∈ ms, v.fr = a ∧ ∀ k, k < v.k → Tld (tlAll s L) a (v.f k).1.toNat (v.f k).2
  | [], s, a, ms, _, h, v, hv => by
    have h' : ms = [] := h
    rw [h'] at hv
    cases hv
  | b :: L, s, a, ms, hid, h, v, hv => by
    obtain ⟨u, r, rfl, h1, h2, h3, h4, h5⟩ := h
    rcases List.mem_cons.1 hv with rfl | hv
    · refine ⟨h1, fun k hk => ?_⟩
      rw [h3] at hk
      rw [h4, ← hid]
      exact (tld_tl s b k hk).up (up_tlAll L (tl s b))
    · exact tld_msgs L (tl s b) a r ((tl_same s b).1.trans hid) h5 v hv
/-- what is heard and on the way may have been told -/
structure Ok (S : NetV) : Prop where
  inn : ∀ i d j, Tld (S.x j) j d ((S.x i).inn d j)
  msg : ∀ v, v ∈ S.m → ∀ k, k < v.k → Tld (S.x v.fr) v.fr (v.f k).1.toNat (v.f k).2
/-- the nodes know their own numbers -/
def Ids (S : NetV) : Prop := ∀ i, i < S.n → (S.x i).id = i ∧ (S.x i).n = S.n
theorem ok_new (n : Nat) : Ok (NetV.new n) := ⟨fun i d j => tld_far _ _ _ (Int.le_refl _), fun v hv => by cases hv⟩
theorem upd_up {S : NetV} {k : Nat} {s : St} (h : Up (S.x k) s) (j : Nat) : Up (S.x j) ((S.upd k s).x j) := by
  show Up (S.x j) (if j = k then s else S.x j)
  split
  · rename_i e; subst e; exact h
  · exact Up.refl _
/-- nodes go on, and hear no more than may have been told -/
theorem Ok.to {S S' : NetV} (h : Ok S) (hu : ∀ j, Up (S.x j) (S'.x j)) (hi : ∀ i d j, (S'.x i).inn d j = (S.x i).inn d j ∨ Tld (S'.x j) j d ((S'.x i).inn d j))
    (hm : ∀ v, v ∈ S'.m → v ∈ S.m ∨ ∀ k, k < v.k → Tld (S'.x v.fr) v.fr (v.f k).1.toNat (v.f k).2) : Ok S' :=
  ⟨fun i d j => (hi i d j).elim (fun e => by rw [e]; exact (h.inn i d j).up (hu j)) id, fun v hv => (hm v hv).elim (fun e k hk => (h.msg v e k hk).up (hu _)) id⟩
theorem upd_inn {S : NetV} {k : Nat} {s : St} (hs : ∀ d j, s.inn d j = (S.x k).inn d j ∨ 65535 ≤ (s.inn d j).1 ∨ Tld ((S.upd k s).x j) j d (s.inn d j)) (i d j : Nat) :
    ((S.upd k s).x i).inn d j = (S.x i).inn d j ∨ Tld ((S.upd k s).x j) j d (((S.upd k s).x i).inn d j) := by
  have e : (S.upd k s).x i = if i = k then s else S.x i := rfl
  rw [e]
  split
  · rename_i e; subst e
    rcases hs d j with h | h | h
    · exact .inl h
    · exact .inr (tld_far _ _ _ h)
    · exact .inr h
  · exact .inl rfl
theorem Ok.upd {S : NetV} {k : Nat} {s : St} (h : Ok S) (hu : Up (S.x k) s) (hs : ∀ d j, s.inn d j = (S.x k).inn d j ∨ 65535 ≤ (s.inn d j).1 ∨ Tld ((S.upd k s).x j) j d (s.inn d j)) : Ok (S.upd k s) :=
  h.to (upd_up hu) (upd_inn hs) (fun v hv => .inl hv)
theorem link_inn (s : St) (t x : Int) (d j : Nat) : (s.link t x).inn d j = s.inn d j ∨ 65535 ≤ ((s.link t x).inn d j).1 := by
  unfold St.link
  split
  · split
    · show (if j = t.toNat then ((65535 : Int), (0 : Int)) else s.inn d j) = s.inn d j ∨ 65535 ≤ (if j = t.toNat then ((65535 : Int), (0 : Int)) else s.inn d j).1
      split
      · exact .inr (Int.le_refl _)
      · exact .inl rfl
    · exact .inl rfl
  · exact .inl rfl
theorem Ok.hears {S : NetV} (h : Ok S) (fr t : Nat) (f : Nat → Int × Int × Int) (n : Nat) (hf : ∀ k, k < n → Tld (S.x fr) fr (f k).1.toNat (f k).2) : Ok (S.upd t ((S.x t).hear fr f n)) :=
  h.upd (up_hear _ _ _ _) (fun d j => by
    rcases hear_inn (S.x t) fr f n d j with e | ⟨rfl, q, hq, rfl, e⟩
    · exact .inl e
    · rcases kept_cases (f q) with hk | hk
      · exact .inr (.inl (by rw [e]; exact hk))
      · refine .inr (.inr ?_)
        rw [e, hk]
        exact (hf q hq).up (upd_up (up_hear _ _ _ _) j))
theorem DoR.ok {S S' : NetV} {k a b n e : Int} (h : DoR S k a b n e S') (hi : Ids S) (hk : Ok S) : Ok S' := by
  rcases h.cases with rfl | ⟨i, j, _, _, _, _, hij, _, _, _, _, rfl⟩ | ⟨v, m, hv, hm, hl, ⟨_, rfl⟩ | ⟨_, rfl⟩⟩ | ⟨i, hi', _, _, hl, ms, hms, rfl⟩ | ⟨i, _, _, _, rfl⟩ | ⟨i, _, _, _, rfl⟩
  · exact hk
  · have h1 : Ok (({ S with c := lnc S.n S.c i j n } : NetV).upd i ((S.x i).link j n)) := Ok.upd (S := { S with c := lnc S.n S.c i j n }) ⟨hk.inn, hk.msg⟩ (up_link _ _ _) (fun d q => (link_inn (S.x i) j n d q).elim .inl (fun h => .inr (.inl h)))
    have e : (({ S with c := lnc S.n S.c i j n } : NetV).upd i ((S.x i).link j n)).x j = S.x j := by
      show (if j = i then _ else S.x j) = S.x j
      rw [if_neg (fun e => hij e.symm)]
    exact h1.upd (by rw [e]; exact up_link _ _ _) (fun d q => by rw [e]; exact (link_inn (S.x j) i n d q).elim .inl (fun h => .inr (.inl h)))
  · have h1 : Ok ({ S with m := m } : NetV) := ⟨hk.inn, fun u hu => hk.msg u (hm u hu)⟩
    exact h1.hears v.fr v.to_ v.f v.k (hk.msg v hv)
  · exact ⟨hk.inn, fun u hu => hk.msg u (hm u hu)⟩
  · have hu : ∀ j, Up (S.x j) ((S.ticked i (nbl S.c i S.n) ms).x j) := fun j => by
      show Up (S.x j) (if j = i then tlAll (S.x i) (nbl S.c i S.n) else S.x j)
      split
      · rename_i e; subst e; exact up_tlAll _ _
      · exact Up.refl _
    refine hk.to hu (fun x d j => .inl ?_) (fun v hv => ?_)
    · show ((if x = i then tlAll (S.x i) (nbl S.c i S.n) else S.x x)).inn d j = _
      split
      · rename_i e; subst e; rw [inn_tlAll]
      · rfl
    · rcases List.mem_append.1 hv with hv | hv
      · exact .inl hv
      · obtain ⟨h1, h2⟩ := tld_msgs _ _ _ _ (hi i hi').1 hms v hv
        refine .inr (fun k hk => ?_)
        have := h2 k hk
        rw [h1]
        show Tld (if i = i then tlAll (S.x i) (nbl S.c i S.n) else S.x i) _ _ _
        rw [if_pos rfl]
        exact this
  · exact hk.upd (up_fresh _) (fun d j => .inl (by rw [fresh_inn]))
  · exact hk.upd (Up.of_eq rfl rfl) (fun d j => .inr (.inl (Int.le_refl _)))
theorem Ids.upd {S : NetV} {k : Nat} {s : St} (h : Ids S) (h1 : s.id = (S.x k).id) (h2 : s.n = (S.x k).n) : Ids (S.upd k s) := fun i hi => by
  show (if i = k then s else S.x i).id = i ∧ (if i = k then s else S.x i).n = S.n
  split
  · rename_i e; subst e; rw [h1, h2]; exact h i hi
  · exact h i hi
theorem Ids.say {S : NetV} (h : Ids S) (a t : Nat) : Ids (S.say a t) :=
  (h.upd (tl_same _ _).1 (tl_same _ _).2).upd (hear_same _ _ _ _).1 (hear_same _ _ _ _).2
theorem Ok.say {S : NetV} (h : Ok S) (hi : Ids S) {a : Nat} (ha : a < S.n) (t : Nat) : Ok (S.say a t) := by
  have h1 : Ok (S.upd a (tl (S.x a) t)) := h.upd (up_tl _ _) (fun d j => .inl (by rw [inn_tl]))
  refine h1.hears a t _ _ (fun k hk => ?_)
  have e : (S.upd a (tl (S.x a) t)).x a = tl (S.x a) t := by show (if a = a then _ else _) = _; rw [if_pos rfl]
  rw [e]
  have := tld_tl (S.x a) t k hk
  rw [(hi a ha).1] at this
  exact this
/-- whatever is kept by each telling is kept by all rounds -/
theorem rounds_ind {P : NetV → Prop} {n : Nat} {c : Nat → Nat → Int} (hp : ∀ (S : NetV) (a t : Nat), S.n = n → S.c = c → a < n → t < n → 0 < c a t → P S → P (S.say a t)) {S : NetV} (hn : S.n = n) (hc : S.c = c) (h : P S) : ∀ k, k ≤ n → P (S.rounds k)
  | 0, _ => h
  | k + 1, hk => by
    have ih := rounds_ind hp hn hc h k (by omega)
    have hs := rounds_same S k
    have key : ∀ (L : List Nat) (T : NetV), T.n = n → T.c = c → (∀ t, t ∈ L → t < n ∧ 0 < c k t) → P T → P (T.sayAll k L) := by
      intro L
      induction L with
      | nil => intro T _ _ _ h; exact h
      | cons t L ih2 =>
        intro T h1 h2 h3 h4
        have h5 := h3 t List.mem_cons_self
        exact ih2 (T.say k t) h1 h2 (fun u hu => h3 u (List.mem_cons_of_mem _ hu)) (hp T k t h1 h2 (by omega) h5.1 h5.2 h4)
    exact key _ _ (hs.1.trans hn) (hs.2.1.trans hc) (fun t ht => by
      have := (nbl_mem S.c k t S.n).1 ht
      rw [hn, hc] at this
      exact this) ih
theorem spin_ind {P : NetV → Prop} {n : Nat} {c : Nat → Nat → Int} (hp : ∀ (S : NetV) (a t : Nat), S.n = n → S.c = c → a < n → t < n → 0 < c a t → P S → P (S.say a t)) {S : NetV} (hn : S.n = n) (hc : S.c = c) (h : P S) : ∀ k, P (S.spin k)
  | 0 => h
  | k + 1 => by
    have hs := spin_same S k
    have := rounds_ind hp (hs.1.trans hn) (hs.2.1.trans hc) (spin_ind hp hn hc h k) n (Nat.le_refl _)
    show P ((S.spin k).rounds S.n)
    rw [hn]
    exact this
theorem fresh_x (S : NetV) (k i : Nat) : (S.fresh k).x i = if i < k then Net.fresh (S.x i) else S.x i := rfl
theorem Ids.fresh {S : NetV} (h : Ids S) (k : Nat) : Ids (S.fresh k) := fun i hi => by
  rw [fresh_x]
  split
  · rw [(fresh_same _).1, (fresh_same _).2.1]; exact h i hi
  · exact h i hi
theorem Ok.fresh {S : NetV} (h : Ok S) (k : Nat) : Ok (S.fresh k) :=
  h.to (fun j => by rw [fresh_x]; split; exact up_fresh _; exact Up.refl _) (fun i d j => .inl (by rw [fresh_x]; split; rw [fresh_inn]; rfl)) (fun v hv => by cases hv)
theorem ok_settle {S : NetV} (h : Ok S) (hi : Ids S) : Ok S.settle :=
  (spin_ind (P := fun T => Ids T ∧ Ok T) (S := S.fresh S.n) (n := S.n) (c := S.c) (fun T a t h1 h2 ha ht hc hp => ⟨hp.1.say a t, hp.2.say hp.1 (by omega) t⟩) rfl rfl ⟨hi.fresh S.n, h.fresh S.n⟩ S.n).2
theorem ids_settle {S : NetV} (hi : Ids S) : Ids S.settle :=
  spin_ind (P := Ids) (S := S.fresh S.n) (n := S.n) (c := S.c) (fun T a t h1 h2 ha ht hc hp => hp.say a t) rfl rfl (hi.fresh S.n) S.n
/-- u is better than t, or t is none -/
def Prec (t u : Int × Int) : Prop := u.1 < 65535 ∧ (65535 ≤ t.1 ∨ bet u.1 u.2 t.1 t.2 = true)
theorem Prec.trans {t u v : Int × Int} (h : Prec t u) (k : Prec u v) : Prec t v := by
  refine ⟨k.1, ?_⟩
  rcases h.2 with h2 | h2
  · exact .inl h2
  · rcases k.2 with k2 | k2
    · have := h.1; omega
    · rw [bet_iff] at h2 k2 ⊢; omega
theorem Prec.irrefl (t : Int × Int) : ¬ Prec t t := fun h => by
  rcases h.2 with h2 | h2
  · have := h.1; omega
  · rw [bet_self] at h2; cases h2
/-- one goes on to who told better, or to the goal -/
def Nxt (S : NetV) (d : Nat) (i j : Int) : Prop := i ≠ d ∧ (j = d ∨ Prec ((S.x i.toNat).told d) ((S.x j.toNat).told d))
theorem Nxt.trans {S : NetV} {d : Nat} {i j k : Int} (h : Nxt S d i j) (h2 : Nxt S d j k) : Nxt S d i k := by
  refine ⟨h.1, ?_⟩
  rcases h2.2 with e | e
  · exact .inl e
  · rcases h.2 with e2 | e2
    · exact absurd e2 h2.1
    · exact .inr (e2.trans e)
theorem Nxt.irrefl {S : NetV} {d : Nat} {i : Int} (h : Nxt S d i i) : False := by
  rcases h.2 with e | e
  · exact h.1 e
  · exact Prec.irrefl _ e
theorem next_is {S : NetV} (h : Ok S) (hi : Ids S) {d : Nat} (hd : d < S.n) {i : Nat} (hin : i < S.n) (h0 : 0 ≤ ((S.x i).route d).1) : Nxt S d i ((S.x i).route d).1 := by
  have h1 := hi i hin
  by_cases e : i = d
  · subst e
    have := route_self (S.x i) (by rw [h1.1, h1.2]; exact hd)
    rw [h1.1] at this
    rw [this] at h0
    have h0 : (0 : Int) ≤ -1 := h0
    omega
  · rcases route_spec (S.x i) d (by rw [h1.2]; exact hd) (by rw [h1.1]; exact fun h => e h.symm) with ⟨h2, _⟩ | ⟨a, h2, _, h3, _⟩
    · rw [h2] at h0
      have h0 : (0 : Int) ≤ -1 := h0
      omega
    · rw [h2]
      refine ⟨fun e2 => e (by omega), ?_⟩
      by_cases ea : a = d
      · exact .inl (by rw [ea])
      · refine .inr ?_
        have hf := (fea_iff _ _ _ _).1 h3.1
        have ht := h.inn i d a hf.1
        rw [if_neg ea] at ht
        show Prec ((S.x i).told d) ((S.x a).told d)
        refine ⟨ht.1, ?_⟩
        rcases hf.2 with hx | hx
        · exact .inl hx
        · refine .inr ?_
          have := ht.2
          rw [bet_false] at this
          rw [bet_iff] at hx ⊢
          omega
/-- following what only goes on never comes back -/
theorem wy_pair {R : Int → Int → Prop} (htr : ∀ a b c, R a b → R b c → R a c) {n : Nat} {N : Nat → Int} (hN : ∀ i : Nat, i < n → 0 ≤ N i → R i (N i)) : ∀ (k : Nat) (out : List Int) (f : Int), out.Pairwise R → (0 ≤ f → ∀ y ∈ out, R y f) → (wy n N k out f).Pairwise R
  | 0, out, f, h, _ => h
  | k + 1, out, f, h, hf => by
    unfold wy
    split
    · rename_i h1
      have hp : (out ++ [f]).Pairwise R := List.pairwise_append.2 ⟨h, List.pairwise_singleton _ _, fun a ha b hb => by
        have : b = f := by simpa using hb
        subst this
        exact hf h1.1 a ha⟩
      split
      · exact hp
      · refine wy_pair htr hN k _ _ hp (fun h0 y hy => ?_)
        have hff : R f (N f.toNat) := by
          have := hN f.toNat (by omega) h0
          rw [show ((f.toNat : Nat) : Int) = f by omega] at this
          exact this
        rcases List.mem_append.1 hy with hy | hy
        · exact htr _ _ _ (hf h1.1 y hy) hff
        · have : y = f := by simpa using hy
          subst this
          exact hff
    · exact h
theorem acy_of {R : Int → Int → Prop} (htr : ∀ a b c, R a b → R b c → R a c) (hir : ∀ a, ¬ R a a) {n : Nat} {N : Nat → Int} (hN : ∀ i : Nat, i < n → 0 ≤ N i → R i (N i)) : acy n N = true := by
  refine decide_eq_true (fun i hi => ?_)
  have hp := wy_pair htr hN (n + 1 - ([] : List Int).length) [] (i : Int) List.Pairwise.nil (fun _ y hy => by cases hy)
  have hp : (way n N [] (i : Int)).Pairwise R := hp
  refine decide_eq_false (fun ⟨j, hj, e⟩ => ?_)
  have hl : j < (way n N [] (i : Int)).length := by omega
  have hl2 : (way n N [] (i : Int)).length - 1 < (way n N [] (i : Int)).length := by omega
  have := List.pairwise_iff_getElem.1 hp j ((way n N [] (i : Int)).length - 1) hl hl2 hj
  rw [List.getD_eq_getElem?_getD, List.getD_eq_getElem?_getD, List.getElem?_eq_getElem hl, List.getElem?_eq_getElem hl2] at e
  simp only [Option.getD_some] at e
  rw [e] at this
  exact hir _ this
theorem acy_net {S : NetV} (h : Ok S) (hi : Ids S) {d : Nat} (hd : d < S.n) : acy S.n (fun i => ((S.x i).route d).1) = true :=
  acy_of (R := Nxt S d) (fun _ _ _ => Nxt.trans) (fun _ => Nxt.irrefl) (fun i hin h0 => next_is h hi hd hin h0)
end Net
end Go.Proofs.Ytebkpjefdaieaaa
