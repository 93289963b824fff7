/-
  Package network: what Do's functions do with a message. Conditions: those that each theorem names.
-/
import Derived.Test.YtebkpjefdaieaaaNet9
import Derived.Deep.QuietTactic
namespace Go.Proofs.Ytebkpjefdaieaaa
open Go.RowKit FR FP H2 OW
set_option linter.unusedVariables false
set_option linter.unusedSimpArgs false
namespace Net
open Eng GG
/-- a message less -/
theorem IsNet.lose {w w1 : World} {base b g cap : Nat} {ly : Lay} {S : NetV} {k : Nat} (h : IsNet w base b ly S) (hb : w.heap[b]? = some (.cells #[.pointer (some ⟨ly.g, 0, none⟩), .slice (some ⟨ly.gn, 0, none⟩) S.n ly.cap, .slice (some ⟨g, 0, none⟩) S.m.length cap] 55 (0, 0))) (hr : w.ownsRow base 60 3 (.slice (some ⟨g, 0, none⟩) S.m.length cap) S.m.length (cellsM S.m)) (hk : k < S.m.length)
    (ho : w1.ownsRow base 60 3 (.slice (some ⟨g, 0, none⟩) (S.m.length - 1) cap) (S.m.length - 1) (cellsM (S.m.eraseIdx k))) (hg : Only (fun i => i = g) w w1) :
    IsNet (w1.setCell ⟨b, 2, none⟩ (.slice (some ⟨g, 0, none⟩) (S.m.length - 1) cap)) base b ly { S with m := S.m.eraseIdx k } ∧ After base w (w1.setCell ⟨b, 2, none⟩ (.slice (some ⟨g, 0, none⟩) (S.m.length - 1) cap)) := by
  have o1 : OnlyT (fun t => t = 60) w w1 := hg.mono (fun i _ e => by subst e; exact own_type hr (k := i) rfl rfl)
  have b1 := o1.obj hb (by decide)
  have hs : OnlyT (fun t => t = 55) w1 (w1.setCell ⟨b, 2, none⟩ (.slice (some ⟨g, 0, none⟩) (S.m.length - 1) cap)) := (OnlyT.refl (fun t => t = 55) w1).setCell (p := ⟨b, 2, none⟩) (fun _ => ⟨_, _, _, b1, rfl⟩) _
  have o2 : OnlyT (fun t => t = 60 ∨ t = 55) w (w1.setCell ⟨b, 2, none⟩ (.slice (some ⟨g, 0, none⟩) (S.m.length - 1) cap)) := (o1.mono (fun _ e => .inl e)).trans (hs.mono (fun _ e => .inr e))
  refine ⟨⟨h.n1, h.n6, isG_only h.gr o2 (by decide), h.good, ?_, fun i hi => isN_only (h.node i hi) o2 (by decide), h.inj, h.wf, ⟨_, blk_set b1 2 _, ?_⟩, fun u hu => ?_, ?_⟩, ?_, o2.mono (fun t e => e.elim (fun e => .inr (.inr (.inr e))) (fun e => .inl e))⟩
  · obtain ⟨cs, x, y⟩ := h.nodes
    exact ⟨cs, o2.obj x (by decide), y⟩
  · have e : (S.m.eraseIdx k).length = S.m.length - 1 := by rw [List.length_eraseIdx_of_lt hk]
    show (w1.setCell ⟨b, 2, none⟩ _).ownsRow base 60 3 _ (S.m.eraseIdx k).length (cellsM (S.m.eraseIdx k))
    rw [e]
    exact hs.own ho (by decide)
  · obtain ⟨p, q, r, s, t⟩ := h.msg u (List.mem_of_mem_eraseIdx hu)
    exact ⟨p, q, r, s.onlyT o2 (by decide), t⟩
  · obtain ⟨p, q, r, u, t⟩ := h.lo
    exact ⟨p, q, r, u, Nat.le_trans t o2.size⟩
  · have hgb := (OW.own_base hr (b := g) rfl).1
    exact (hg.below h.lo.2.2.2.2 (fun i hi e => by omega)).trans (((Only.refl (fun i => i = b) w1).setCell (p := ⟨b, 2, none⟩) (fun _ => rfl) _).below (Nat.le_trans h.lo.2.2.2.2 o1.size) (fun i hi e => by have := h.lo.1; omega))
/-- a message, as a value -/
def MsgV.val (v : MsgV) : Value := .agg #[.int .i64 v.fr, .int .i64 v.to_, .slice v.A v.k v.cap]
/-- what hearing a message makes of a network -/
def NetV.hear (S : NetV) (v : MsgV) : NetV := S.upd v.to_ ((S.x v.to_).hear v.fr v.f v.k)
/-- the box that holds the network's pointer -/
def Box (w : World) (xb b : Nat) : Prop := w.heap[xb]? = some (.cells #[.pointer (some ⟨b, 0, none⟩)] 26 (0, 0))
theorem Box.cell {w : World} {xb b : Nat} (h : Box w xb b) : w.cell? ⟨xb, 0, none⟩ = some (.pointer (some ⟨b, 0, none⟩)) := by rw [blk_cell h]; rfl
theorem Box.only {w w' : World} {xb b : Nat} (h : Box w xb b) (ho : OnlyT netT w w') : Box w' xb b := ho.obj h (by unfold netT; decide)
theorem Box.below {w w' : World} {xb b : Nat} (h : Box w xb b) (hb : Below w.heap.size w w') : Box w' xb b := (hb.block xb (blk_lt h)).trans h
set_option maxRecDepth 100000 in
set_option maxHeartbeats 4000000 in
theorem hear_cl {base b xb : Nat} {ly : Lay} {S : NetV} (q : Int) (v : MsgV) (w : World) (h : IsNet w base b ly S) (hx : Box w xb b) (hv : v.fr < S.n ∧ v.to_ < S.n ∧ v.k ≤ 6 ∧ RdT w v.A v.k v.f ∧ SmO v.f v.k) : Calls Try.prog 28 #[.int .i64 q, v.val, .pointer (some ⟨xb, 0, none⟩)] w fun e w' => e = .returned (.tuple #[]) ∧ IsNet w' base b ly (S.hear v) ∧ After base w w' := by
  have hb1 := (Below.refl w.heap.size w).alloc (Nat.le_refl _) (.cells #[.int .i64 v.fr, .int .i64 v.to_, .slice v.A v.k v.cap] 60)
  have H := Lib.hid h
  have H1 := Lib.hid (h.below hb1)
  have A1 := Lib.hid (h.after_below hb1)
  have HH := Lib.hid (hear_any _ H1.out v.to_ hv.2.1 v.fr v.A v.k v.cap v.f hv.2.2.1 (hv.2.2.2.1.below hb1) hv.2.2.2.2)
  have x0 := hx.cell
  have xl := blk_lt hx
  have to0 : (0 : Int) ≤ (v.to_ : Int) := by omega
  clear h hb1 hx hv
  obtain ⟨fr, to_, A, k, cap, f⟩ := v
  dsimp only [MsgV.val, NetV.hear] at *
  go_enter Try.func28, Try.ntmps28
  go_wp2_with (go_at_call 23; (with_reducible refine (HH.out).mono ?_); rintro e w4 ⟨rfl, hn, ha⟩; have HN := Lib.hid hn; have HA := Lib.hid ha; clear hn ha)
  refine bodyPost_end (results_none rfl _ _ _) rfl ?_
  exact ⟨rfl, HN.out, A1.out.trans HA.out⟩
set_option maxRecDepth 100000 in
set_option maxHeartbeats 8000000 in
theorem lose_cl {base b xb g cap : Nat} {ly : Lay} {S : NetV} (k : Nat) (v : MsgV) (w : World) (h : IsNet w base b ly S) (hx : Box w xb b) (hk : k < S.m.length) (hm : S.m.length ≤ 300) (hbw : w.heap[b]? = some (.cells #[.pointer (some ⟨ly.g, 0, none⟩), .slice (some ⟨ly.gn, 0, none⟩) S.n ly.cap, .slice (some ⟨g, 0, none⟩) S.m.length cap] 55 (0, 0))) : Calls Try.prog 29 #[.int .i64 k, v.val, .pointer (some ⟨xb, 0, none⟩)] w fun e w' => e = .returned (.tuple #[]) ∧ IsNet w' base b ly { S with m := S.m.eraseIdx k } ∧ After base w w' ∧ Only (fun i => i = b ∨ i = g) w w' := by
  have hb1 := (Below.refl w.heap.size w).alloc (Nat.le_refl _) (.cells #[.int .i64 v.fr, .int .i64 v.to_, .slice v.A v.k v.cap] 60)
  have hbs := h.lo.2.2.2.2
  have h1 := (h.below hb1).drew
  have A1 := Lib.hid (h.after_below hb1)
  have xl := blk_lt hx
  have hx1 : Box (w.alloc (.cells #[.int .i64 v.fr, .int .i64 v.to_, .slice v.A v.k v.cap] 60)).drew xb b := show Box (w.alloc _) xb b from hx.below hb1
  generalize hW : (w.alloc (.cells #[.int .i64 v.fr, .int .i64 v.to_, .slice v.A v.k v.cap] 60)).drew = W at h1 hx1
  have HW := Lib.hid hW
  obtain ⟨wv, hb, hr⟩ := h1.blk
  have hbW : W.heap[b]? = some (.cells #[.pointer (some ⟨ly.g, 0, none⟩), .slice (some ⟨ly.gn, 0, none⟩) S.n ly.cap, .slice (some ⟨g, 0, none⟩) S.m.length cap] 55 (0, 0)) := by
    rw [← hW]
    exact (hb1.block b (blk_lt hbw)).trans hbw
  have ewv : wv = .slice (some ⟨g, 0, none⟩) S.m.length cap := by
    rw [hb] at hbW
    simp only [Option.some.injEq, Obj.cells.injEq, List.toArray_inj, Array.mk.injEq, List.cons.injEq, and_true, true_and] at hbW
    exact hbW
  subst ewv
  have hd := delete_any base g S.m.length cap S.m k W rfl hk hm hr
  rw [show ((k + 1 : Nat) : Int) = (k : Int) + 1 by omega] at hd
  have HD := Lib.hid hd
  have H1 := Lib.hid h1
  have HB := Lib.hid hb
  have HR := Lib.hid hr
  have x0 := hx1.cell
  have y0 : W.cell? ⟨b, 2, none⟩ = some (.slice (some ⟨g, 0, none⟩) S.m.length cap) := by rw [blk_cell hb]; rfl
  have hxg : xb ≠ g := by
    rcases hr.2 with ⟨e, _⟩ | ⟨g', c', cur, e, _, hh, _⟩
    · cases e
    · cases e
      exact blk_ne hx1 hh (by decide)
  have hbg : b ≠ g := by
    rcases hr.2 with ⟨e, _⟩ | ⟨g', c', cur, e, _, hh, _⟩
    · cases e
    · cases e
      exact blk_ne hb hh (by decide)
  have X := Lib.hid (And.intro x0 y0)
  have HXB := Lib.hid (blk_ne hx1 hb (by decide))
  have k0 : (0 : Int) ≤ (k : Int) := by omega
  have km : (k : Int) < (S.m.length : Int) := by omega
  have hmi : (S.m.length : Int) ≤ 300 := by omega
  have hwr : IntKind.i64.wrap ((k : Int) + 1) = (k : Int) + 1 := IntWalk.i64_in _ (by omega)
  have HO3 := Lib.hid (show Only (fun i => i = b ∨ i = g) w W from hW ▸ (((Only.refl _ w).of_below hb1).drew))
  clear h hb1 hx hx1 hb hr h1 x0 y0 hW hd hbW hbw
  obtain ⟨fr, to_, A, kk, cp, f⟩ := v
  dsimp only [MsgV.val] at *
  go_enter Try.func29, Try.ntmps29
  go_upto_region 1 with fail
  refine wp_region_held_drew (S := (fun w' => w'.cell? ⟨xb, 0, none⟩ = some (.pointer (some ⟨b, 0, none⟩)))) (by kernel_rfl) (by first | (rw [HW.out]; exact X.out.1) | exact X.out.1 | exact X1.out | exact X2.out) (fun _ => ?_)
  refine held_take 0 5 (v := ?_) rfl rfl (by kernel_rfl) (by kernel_rfl) (by kernel_rfl) (fun _ _ _ h => h) (by rfl) ?_ (by first | (rw [HW.out]; exact X.out.1) | exact X.out.1 | exact X1.out | exact X2.out) ?_
  rotate_left
  · (intro w hSw; (try dsimp only at hSw); try simp only [List.getElem_toArray, List.getElem_cons_zero, List.getElem_cons_succ]; go_simp; try (with_reducible rfl))
  try simp only [List.setIfInBounds_toArray, List.set_cons_zero, List.set_cons_succ]
  refine held_take 1 6 (v := ?_) rfl rfl (by kernel_rfl) (by kernel_rfl) (by kernel_rfl) (fun _ _ _ h => h) (by rfl) ?_ (by first | (rw [HW.out]; exact X.out.1) | exact X.out.1 | exact X1.out | exact X2.out) ?_
  rotate_left
  · (intro w hSw; (try dsimp only at hSw); try simp only [List.getElem_toArray, List.getElem_cons_zero, List.getElem_cons_succ]; go_simp; try (with_reducible rfl))
  try simp only [List.setIfInBounds_toArray, List.set_cons_zero, List.set_cons_succ]
  refine held_take 2 7 (v := ?_) rfl rfl (by kernel_rfl) (by kernel_rfl) (by kernel_rfl) (fun _ _ _ h => h) (by rfl) ?_ (by first | (rw [HW.out]; exact X.out.1) | exact X.out.1 | exact X1.out | exact X2.out) ?_
  rotate_left
  · (intro w hSw; (try dsimp only at hSw); try simp only [List.getElem_toArray, List.getElem_cons_zero, List.getElem_cons_succ]; go_simp; try (with_reducible rfl))
  try simp only [List.setIfInBounds_toArray, List.set_cons_zero, List.set_cons_succ]
  refine held_take 3 8 (v := ?_) rfl rfl (by kernel_rfl) (by kernel_rfl) (by kernel_rfl) (fun _ _ _ h => h) (by rfl) ?_ (by first | (rw [HW.out]; exact X.out.1) | exact X.out.1 | exact X1.out | exact X2.out) ?_
  rotate_left
  · (intro w hSw; (try dsimp only at hSw); try simp only [List.getElem_toArray, List.getElem_cons_zero, List.getElem_cons_succ]; go_simp; try (with_reducible rfl))
  try simp only [List.setIfInBounds_toArray, List.set_cons_zero, List.set_cons_succ]
  refine held_take 5 10 (v := ?_) rfl rfl (by kernel_rfl) (by kernel_rfl) (by kernel_rfl) (fun _ _ _ h => h) (by rfl) ?_ (by first | (rw [HW.out]; exact X.out.1) | exact X.out.1 | exact X1.out | exact X2.out) ?_
  rotate_left
  · (intro w hSw; (try dsimp only at hSw); try simp only [List.getElem_toArray, List.getElem_cons_zero, List.getElem_cons_succ]; go_simp; try (with_reducible rfl))
  try simp only [List.setIfInBounds_toArray, List.set_cons_zero, List.set_cons_succ]
  refine held_take 6 11 (v := ?_) rfl rfl (by kernel_rfl) (by kernel_rfl) (by kernel_rfl) (fun _ _ _ h => h) (by rfl) ?_ (by first | (rw [HW.out]; exact X.out.1) | exact X.out.1 | exact X1.out | exact X2.out) ?_
  rotate_left
  · (intro w hSw; (try dsimp only at hSw); try simp only [List.getElem_toArray, List.getElem_cons_zero, List.getElem_cons_succ]; go_simp; try (with_reducible rfl))
  try simp only [List.setIfInBounds_toArray, List.set_cons_zero, List.set_cons_succ]
  refine held_take 7 12 (v := ?_) rfl rfl (by kernel_rfl) (by kernel_rfl) (by kernel_rfl) (fun _ _ _ h => h) (by rfl) ?_ (by first | (rw [HW.out]; exact X.out.1) | exact X.out.1 | exact X1.out | exact X2.out) ?_
  rotate_left
  · (intro w hSw; (try dsimp only at hSw); try simp only [List.getElem_toArray, List.getElem_cons_zero, List.getElem_cons_succ]; go_simp; try (with_reducible rfl))
  try simp only [List.setIfInBounds_toArray, List.set_cons_zero, List.set_cons_succ]
  refine held_call 4 9 rfl rfl (by kernel_rfl) (by rfl) (fun K hK => ?_)
  try simp only [List.getElem_toArray, List.getElem_cons_zero, List.getElem_cons_succ]
  (rw [HW.out]; have y4 := X.out.2; go_simp)
  try simp only [Act.put, List.setIfInBounds_toArray, List.set_cons_zero, List.set_cons_succ]
  refine hK.out _ _ _ (by first | (rw [HW.out]; exact X.out.1) | exact X.out.1 | exact X1.out | exact X2.out) ?_
  clear hK K
  refine held_call 8 13 rfl rfl (by kernel_rfl) (by rfl) (fun K hK => ?_)
  try simp only [List.getElem_toArray, List.getElem_cons_zero, List.getElem_cons_succ]
  go_simp
  (go_at_call 30; (with_reducible refine (HD.out).mono ?_); rintro e w4 ⟨rfl, ho, hg⟩; have HO := Lib.hid ho; have HG := Lib.hid hg; have X1 := Lib.hid (hg.cell X.out.1 hxg); have hb4 := hg.obj HB.out hbg; have z1 := blk_cell hb4 2; have z2 := blk_free hb4 2; clear ho hg hb4)
  try go_wp2_with fail
  try simp only [Act.put, List.setIfInBounds_toArray, List.set_cons_zero, List.set_cons_succ]
  refine hK.out _ _ _ (by first | (rw [HW.out]; exact X.out.1) | exact X.out.1 | exact X1.out | exact X2.out) ?_
  clear hK K
  refine held_take 9 14 (v := ?_) rfl rfl (by kernel_rfl) (by kernel_rfl) (by kernel_rfl) (fun _ _ _ h => h) (by rfl) ?_ (by first | (rw [HW.out]; exact X.out.1) | exact X.out.1 | exact X1.out | exact X2.out) ?_
  rotate_left
  · (intro w hSw; (try dsimp only at hSw); try simp only [List.getElem_toArray, List.getElem_cons_zero, List.getElem_cons_succ]; go_simp; try (with_reducible rfl))
  try simp only [List.setIfInBounds_toArray, List.set_cons_zero, List.set_cons_succ]
  refine held_take 10 15 (v := ?_) rfl rfl (by kernel_rfl) (by kernel_rfl) (by kernel_rfl) (fun _ _ _ h => h) (by rfl) ?_ (by first | (rw [HW.out]; exact X.out.1) | exact X.out.1 | exact X1.out | exact X2.out) ?_
  rotate_left
  · (intro w hSw; (try dsimp only at hSw); try simp only [List.getElem_toArray, List.getElem_cons_zero, List.getElem_cons_succ]; go_simp; try (with_reducible rfl))
  try simp only [List.setIfInBounds_toArray, List.set_cons_zero, List.set_cons_succ]
  refine held_do 11 rfl (by kernel_rfl) (by rfl) (fun K hK => ?_)
  try simp only [List.getElem_toArray, List.getElem_cons_zero, List.getElem_cons_succ]
  (go_simp; have X2 := Lib.hid (show (w4.setCell ⟨b, 2, none⟩ (.slice (some ⟨g, 0, none⟩) (S.m.length - 1) cap)).cell? ⟨xb, 0, none⟩ = some (.pointer (some ⟨b, 0, none⟩)) from cell_other X1.out (fun e => HXB.out e.symm)))
  try simp only [Act.put, List.setIfInBounds_toArray, List.set_cons_zero, List.set_cons_succ]
  refine hK.out _ _ _ (by first | (rw [HW.out]; exact X.out.1) | exact X.out.1 | exact X1.out | exact X2.out) ?_
  clear hK K
  refine wpAnyH_done (by kernel_rfl) ?_ _
  have hl := H1.out.lose HB.out HR.out hk HO.out HG.out
  have HL1 := Lib.hid hl.1
  have HL2 := Lib.hid ((A1.out.trans (After.of_below (base := base) (((Only.refl (fun _ => False) _).drew).below (Nat.le_refl _) (fun _ _ e => e)) (Nat.le_trans hbs A1.out.bel.size))).trans (by rw [HW.out]; exact hl.2))
  clear hl
  refine bodyPost_end (results_none rfl _ _ _) rfl ?_
  exact ⟨rfl, HL1.out, HL2.out, (HO3.out.trans (HG.out.mono (fun i _ e => .inr e)) (fun i hi e => e)).setCell (p := ⟨b, 2, none⟩) (fun _ => .inl rfl) _⟩
end Net
end Go.Proofs.Ytebkpjefdaieaaa
