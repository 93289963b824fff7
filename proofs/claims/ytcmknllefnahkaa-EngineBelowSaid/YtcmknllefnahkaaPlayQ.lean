/-
  The law EnginePlays: each call of both nodes as one contract, whatever it answers. Conditions: those that each theorem names.
-/
import Derived.Test.YtcmknllefnahkaaPlayP
import Derived.Test.YtcmknllefnahkaaOffs
namespace Go.Proofs.Ytcmknllefnahkaa
open Go.RowKit FR FP H2 OW
set_option linter.unusedVariables false
set_option linter.unusedSimpArgs false
namespace RefN
open Eng Ref18 Feas
theorem nd_drew {w0 w : World} {b : Nat} {s : St} (h : Nd w0 w b s) : Nd w0 w.drew b s := ⟨h.isn.drew, h.wf, h.bel.trans (((Only.refl (fun _ => False) w).drew).below h.bel.size (fun _ _ e => e)), h.new⟩
/-- once told -/
def tl (s : St) (t : Int) : St := if upv s t = 0 then s.tells t s.n else s
def tln (s : St) (t : Int) : Nat := if upv s t = 0 then s.n else 0
theorem tl_same (s : St) (t : Int) : (tl s t).n = s.n := by unfold tl; split <;> rfl
theorem tln_le (s : St) (t : Int) : tln s t ≤ s.n := by unfold tln; split <;> omega
theorem tell_p {w0 w : World} {b : Nat} {s : St} (h : Nd w0 w b s) (t : Int) : Calls Try.prog 18 #[.pointer (some ⟨b, 0, none⟩), .int .i64 t] w fun e w' => (∃ v, e = .returned (.tuple #[v, .int .i64 (upv s t)]) ∧ w'.ownsRow w.heap.size 71 3 v (tln s t) (cellsO (s.offer t) (tln s t))) ∧ Nd w0 w' b (tl s t) ∧ Only (fun i => i = b) w w' := by
  by_cases hz : upv s t = 0
  · unfold tln tl
    rw [if_pos hz, if_pos hz, hz]
    exact (nd_tell h t hz).mono fun e w' ⟨⟨v, he, hv⟩, hn, ho⟩ => ⟨⟨v, he, hv⟩, hn, ho⟩
  · unfold tln tl
    rw [if_neg hz, if_neg hz]
    exact (Eng.tell_no b s t w h.isn h.wf hz).mono fun e w' ⟨he, hw⟩ => ⟨⟨_, he, World.ownsRow_nil _ _ _ _⟩, hw ▸ h, hw ▸ Only.refl _ _⟩
theorem tell_r {base b : Nat} {s : St} {L : RLay} (t : Int) (w : World) (h : RN w base b s L) (hw : Wf s) : Calls Try.prog 19 #[.pointer (some ⟨b, 0, none⟩), .int .i64 t] w fun e w' => (∃ v, e = .returned (.tuple #[v, .int .i64 (upv s t)]) ∧ w'.ownsRow w.heap.size 87 3 v (tln s t) (cellsO (s.offer t) (tln s t))) ∧ RN w' base b (tl s t) L ∧ AfterR base w w' := by
  by_cases hz : upv s t = 0
  · unfold tln tl
    rw [if_pos hz, if_pos hz, hz]
    exact tell_any t w h hw hz
  · unfold tln tl
    rw [if_neg hz, if_neg hz]
    exact (tell_no t w h hz).mono fun e w' ⟨he, hw⟩ => ⟨⟨_, he, World.ownsRow_nil _ _ _ _⟩, hw ▸ h, hw ▸ AfterR.refl _ _⟩
theorem same_yes (A B : Option Addr) (n cap cap' : Nat) (f : Nat → Int × Int × Int) (w : World) (hn : n ≤ maxLen) (hf : RdO w A n f) (hg : RdO w B n f) : Calls Try.prog 20 #[.slice A n cap, .slice B n cap'] w fun e w' => e = .returned (.bool true) ∧ Below w.heap.size w w' :=
  (sameOffers_any A B n n cap cap' f f w hn hf hg).mono fun e w' ⟨he, hb⟩ => ⟨by rw [he, decide_eq_true rfl, sameO_mk (fun _ _ => rfl)]; rfl, hb⟩
def frv (s : St) : Int := if s.seq = 4294967295 then 7 else 0
def frs (s : St) : St := if s.seq = 4294967295 then s else { s with seq := s.seq + 1 }
theorem frs_same (s : St) : (frs s).n = s.n := by unfold frs; split <;> rfl
theorem fresh_p {w0 w : World} {b : Nat} {s : St} (h : Nd w0 w b s) : Calls Try.prog 21 #[.pointer (some ⟨b, 0, none⟩)] w fun e w' => e = .returned (.int .i64 (frv s)) ∧ Nd w0 w' b (frs s) ∧ Only (fun i => i = b) w w' := by
  unfold frv frs
  by_cases ht : s.seq = 4294967295
  · rw [if_pos ht, if_pos ht]
    exact (Eng.fresh_top b s w h.isn ht).mono fun e w' ⟨he, hw⟩ => ⟨he, hw ▸ h, hw ▸ Only.refl _ _⟩
  · rw [if_neg ht, if_neg ht]
    exact h.fresh ht
theorem fresh_r {base b : Nat} {s : St} {L : RLay} (w : World) (h : RN w base b s L) (hw : Wf s) : Calls Try.prog 22 #[.pointer (some ⟨b, 0, none⟩)] w fun e w' => e = .returned (.int .i64 (frv s)) ∧ RN w' base b (frs s) L ∧ AfterR base w w' := by
  unfold frv frs
  by_cases ht : s.seq = 4294967295
  · rw [if_pos ht, if_pos ht]
    exact (fresh_top w h ht).mono fun e w' ⟨he, hw⟩ => ⟨he, hw ▸ h, hw ▸ AfterR.refl _ _⟩
  · rw [if_neg ht, if_neg ht]
    exact fresh_any w h hw.seq ht
theorem clear_p {w0 w : World} {b : Nat} {s : St} (h : Nd w0 w b s) : Calls Try.prog 23 #[.pointer (some ⟨b, 0, none⟩)] w fun e w' => e = .returned (.tuple #[]) ∧ Nd w0 w' b s.clear ∧ Only (fun i => i = b) w w' :=
  (Eng.restart_any b s w h.isn).mono fun e w' ⟨he, hi, ho⟩ => ⟨he, h.only hi (wf_clear h.wf) ho, ho⟩
/-- the best that was told of a goal -/
def tv (s : St) (d : Int) : Int × Int := if 0 ≤ d ∧ d < s.n then s.told d.toNat else (65535, 0)
theorem tv_sm (s : St) (d : Int) (h : Wf s) : Sm (tv s d).1 ∧ Sm (tv s d).2 := by
  unfold tv
  split
  · have := h.told d.toNat
    exact ⟨⟨this.1.1, by have := this.1.2; omega⟩, this.2⟩
  · exact ⟨⟨by decide, by decide⟩, ⟨by decide, by decide⟩⟩
theorem told_p {w0 w : World} {b : Nat} {s : St} (h : Nd w0 w b s) (d : Int) : Calls Try.prog 30 #[.pointer (some ⟨b, 0, none⟩), .int .i64 d] w fun e w' => e = .returned (dv (tv s d).1 (tv s d).2) ∧ w = w' := by
  unfold tv
  by_cases hd : 0 ≤ d ∧ d < s.n
  · rw [if_pos hd]
    obtain ⟨k, rfl⟩ : ∃ k : Nat, d = k := ⟨d.toNat, by omega⟩
    exact told_any b s k w h.isn (by omega)
  · rw [if_neg hd]
    exact told_bad b s d w h.isn (by omega)
theorem two_set {w : World} {g : Nat} {x0 y0 x y : Value} {t : TypeId} (h : w.heap[g]? = some (.cells #[x0, y0] t (0, 0))) : ((w.setCell ⟨g, 0, none⟩ x).setCell ⟨g, 1, none⟩ y).cell? ⟨g, 0, none⟩ = some x ∧ ((w.setCell ⟨g, 0, none⟩ x).setCell ⟨g, 1, none⟩ y).cell? ⟨g, 1, none⟩ = some y := by
  obtain ⟨cs, h1, _, h3⟩ := blk_cells (g := g) (t := t) [x, y] 0 h
  have e : w.setCells g 0 [x, y] = (w.setCell ⟨g, 0, none⟩ x).setCell ⟨g, 1, none⟩ y := rfl
  rw [e] at h1
  have h4 := h3 0
  have h5 := h3 1
  simp at h4 h5
  exact ⟨(blk_cell h1 0).trans h4, (blk_cell h1 1).trans h5⟩
/-- offers of a call behind an empty row leave all that stood -/
theorem app_bel {w w1 : World} {H size d : Nat} {e : TypeId} {v : Value} {xs : List Value} (ho : w.ownsRow H e size v d xs) (hg : w.grownBy w1 v.ownBlock) {w0 : World} (hb : Below H w0 w) (hH : H ≤ w0.heap.size) : Below H w0 w1 :=
  hb.trans ((((Only.refl (fun k => H ≤ k) w)).grown hg (fun k hk _ => (OW.own_base ho hk).1)).below (Nat.le_trans hH hb.size) (fun i h1 h2 => by omega))
theorem row_zero (w : World) : ((w.alloc (.cells #[] 71 (0, 0))).drew).ownsRow w.heap.size 71 3 (.slice (some ⟨w.heap.size, 0, none⟩) 0 0) 0 [] :=
  ⟨rfl, .inr ⟨w.heap.size, 0, #[], rfl, Nat.le_refl _, heap_alloc_new w _, Nat.le_refl _, by decide, rfl, rfl⟩⟩
theorem route_range' (s : St) (hw : Wf s) (d : Int) : (0 ≤ (s.route d).2.1.1 ∧ (s.route d).2.1.1 ≤ 65535) ∧ Sm (s.route d).2.1.2 := by
  by_cases hd : 0 ≤ d
  · obtain ⟨k, rfl⟩ : ∃ k : Nat, d = k := ⟨d.toNat, by omega⟩
    exact route_range s hw k
  · have e : s.route d = (-1, (65535, 0), false) := by
      unfold St.route
      rw [if_pos (.inl (by omega))]
    rw [e]
    exact ⟨⟨by decide, by decide⟩, ⟨by decide, by decide⟩⟩
end RefN
end Go.Proofs.Ytcmknllefnahkaa
