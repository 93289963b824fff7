/-
  EngineBelow: the plain law. Conditions: those that each theorem names.
-/
import Derived.Test.YtcmknllefnahkaaPlayQ
namespace Go.Proofs.Ytcmknllefnahkaa
open Go.RowKit FR FP H2 OW
set_option linter.unusedVariables false
set_option linter.unusedSimpArgs false
namespace BelowP
open Feas Eng RefN
abbrev Hd := Nat → Nat → Int × Int
def hset (h : Hd) (d k : Nat) (p : Int × Int) : Hd := fun x y => if x = d ∧ y = k then p else h x y
def mk (o : Int × Int × Int) : Int × Int := (cl o.2.1, o.2.2)
/-- what was heard, behind the first k offers of one call -/
def hds (h : Hd) (i : Nat) (f : Nat → Int × Int × Int) : Nat → Hd
  | 0 => h
  | k + 1 => hset (hds h i f k) (f k).1.toNat i (mk (f k))
/-- what a node knows is what was heard, and what links cost -/
structure Inv (s : St) (h : Hd) (c : Nat → Int) : Prop where
  heard : ∀ d k, d < s.n → k < s.n → d ≠ s.id → (s.inn d k).1 < 65535 → h d k = s.inn d k
  costs : ∀ k, k < s.n → (s.cost k).1 ≠ 0 → c k = (s.cost k).1
theorem inv_new (id n : Nat) (h : Hd) (c : Nat → Int) : Inv (new id n) h c := ⟨fun _ _ _ _ _ e => absurd e (by show ¬ (65535 : Int) < 65535; omega), fun _ _ e => absurd rfl e⟩
theorem inv_clear {s : St} {h : Hd} {c : Nat → Int} (i : Inv s h c) : Inv s.clear h c := ⟨fun _ _ _ _ _ e => absurd e (by show ¬ (65535 : Int) < 65535; omega), i.costs⟩
theorem inv_frs {s : St} {h : Hd} {c : Nat → Int} (i : Inv s h c) : Inv (frs s) h c := by
  unfold frs
  split
  · exact i
  · exact ⟨i.heard, i.costs⟩
theorem inv_tl {s : St} {h : Hd} {c : Nat → Int} (i : Inv s h c) (t : Int) : Inv (tl s t) h c := by
  unfold tl
  split
  · exact ⟨i.heard, i.costs⟩
  · exact i
theorem link_no {s : St} {t c : Int} (h : lnk s t c ≠ 0) : s.link t c = s := by
  unfold St.link
  rw [if_neg]
  intro ⟨h1, h2, h3⟩
  apply h
  unfold lnk
  rw [if_pos h1, if_pos ⟨h2, h3⟩]
theorem link_yes {s : St} {t c : Int} (h : lnk s t c = 0) : oth s t = true ∧ 0 ≤ c ∧ c ≤ 1000 := by
  unfold lnk at h
  split at h
  · rename_i h1
    split at h
    · rename_i h2
      exact ⟨h1, h2⟩
    · cases h
  · cases h
theorem inv_link {s : St} {h : Hd} {c : Nat → Int} (i : Inv s h c) {t x : Int} (hl : lnk s t x = 0) : Inv (s.link t x) h (fun k => if k = t.toNat then x else c k) := by
  have hy := link_yes hl
  unfold St.link
  rw [if_pos hy]
  split
  · rename_i h0
    refine ⟨fun d k hd hk hne hm => ?_, fun k hk hne => ?_⟩
    · have hm : (if k = t.toNat then ((65535 : Int), (0 : Int)) else s.inn d k).1 < 65535 := hm
      show h d k = if k = t.toNat then ((65535 : Int), (0 : Int)) else s.inn d k
      by_cases hkt : k = t.toNat
      · rw [if_pos hkt] at hm
        exact absurd hm (by show ¬ (65535 : Int) < 65535; omega)
      · rw [if_neg hkt] at hm ⊢
        exact i.heard d k hd hk hne hm
    · have hne : (if k = t.toNat then ((0 : Int), (0 : Int)) else s.cost k).1 ≠ 0 := hne
      show (if k = t.toNat then x else c k) = (if k = t.toNat then ((0 : Int), (0 : Int)) else s.cost k).1
      by_cases hkt : k = t.toNat
      · rw [if_pos hkt] at hne
        exact absurd rfl hne
      · rw [if_neg hkt] at hne ⊢
        rw [if_neg hkt]
        exact i.costs k hk hne
  · refine ⟨fun d k hd hk hne hm => i.heard d k hd hk hne hm, fun k hk hne => ?_⟩
    have hne : (if k = t.toNat then (x, (0 : Int)) else s.cost k).1 ≠ 0 := hne
    show (if k = t.toNat then x else c k) = (if k = t.toNat then (x, (0 : Int)) else s.cost k).1
    by_cases hkt : k = t.toNat
    · rw [if_pos hkt, if_pos hkt]
    · rw [if_neg hkt] at hne
      rw [if_neg hkt, if_neg hkt]
      exact i.costs k hk hne
theorem inv_take {s : St} {h : Hd} {c : Nat → Int} (i : Inv s h c) (t : Nat) {o : Int × Int × Int} (hf : fit s.n o = true) : Inv (s.take t o) (hset h o.1.toNat t (mk o)) c := by
  simp [fit] at hf
  obtain ⟨⟨⟨h0, h1⟩, h2⟩, h3⟩ := hf
  unfold St.take
  split
  · rename_i he
    refine ⟨fun d k hd hk hne hm => ?_, i.costs⟩
    show (if d = o.1.toNat ∧ k = t then mk o else h d k) = _
    rw [if_neg (fun hx => hne (by omega))]
    exact i.heard d k hd hk hne hm
  · rename_i he
    refine ⟨fun d k hd hk hne hm => ?_, i.costs⟩
    have hm : (if d = o.1.toNat ∧ k = t then kept o else s.inn d k).1 < 65535 := hm
    show (if d = o.1.toNat ∧ k = t then mk o else h d k) = (if d = o.1.toNat ∧ k = t then kept o else s.inn d k)
    by_cases hx : d = o.1.toNat ∧ k = t
    · rw [if_pos hx] at hm
      rw [if_pos hx, if_pos hx]
      unfold kept at hm ⊢
      split at hm
      · exact absurd hm (by show ¬ (65535 : Int) < 65535; omega)
      · rename_i hlt
        rw [if_neg hlt]
        unfold mk cl
        rw [show min (max o.2.1 0) 65535 = o.2.1 by omega]
    · rw [if_neg hx] at hm
      rw [if_neg hx, if_neg hx]
      exact i.heard d k hd hk hne hm
theorem inv_takes {s : St} {h : Hd} {c : Nat → Int} (i : Inv s h c) (t : Nat) (f : Nat → Int × Int × Int) : ∀ k, (∀ j, j < k → fit s.n (f j) = true) → Inv (s.takes t f k) (hds h t f k) c
  | 0, _ => i
  | k + 1, hf => inv_take (inv_takes i t f k (fun j hj => hf j (by omega))) t (by rw [(takes_same s t f k).2]; exact hf k (by omega))
theorem hear_no {s : St} {t : Int} {f : Nat → Int × Int × Int} {n : Nat} (h : hea s t f n ≠ 0) : s.hear t f n = s := by
  unfold St.hear
  rw [if_neg]
  intro ⟨h1, h2⟩
  apply h
  unfold hea
  rw [if_pos h1, if_pos h2]
theorem hear_yes {s : St} {t : Int} {f : Nat → Int × Int × Int} {n : Nat} (h : hea s t f n = 0) : upv s t = 0 ∧ fits s.n f n = true := by
  unfold hea at h
  split at h
  · rename_i h1
    split at h
    · rename_i h2
      exact ⟨h1, h2⟩
    · cases h
  · exact absurd h ‹_›
theorem upv_oth {s : St} {t : Int} (h : upv s t = 0) : oth s t = true := by
  unfold upv at h
  split at h
  · assumption
  · cases h
theorem inv_hear {s : St} {h : Hd} {c : Nat → Int} (i : Inv s h c) {t : Int} {f : Nat → Int × Int × Int} {n : Nat} (hh : hea s t f n = 0) : Inv (s.hear t f n) (hds h t.toNat f n) c := by
  have hy := hear_yes hh
  unfold St.hear
  rw [if_pos hy]
  exact inv_takes i t.toNat f n (fun j hj => fits_lt hy.2 hj)
/-- a way is one that was heard, over a link, and better than all that was told -/
theorem route_by {s : St} {h : Hd} {c : Nat → Int} (i : Inv s h c) {d : Nat} (hd : d < s.n) (hne : d ≠ s.id) {nx : Int} {p : Int × Int} (hr : s.route d = (nx, p, true)) :
    ∃ a : Nat, nx = (a : Int) ∧ a < s.n ∧ h d a = s.inn d a ∧ p = (addm (h d a).1 (c a), (h d a).2) ∧ 0 < c a ∧ (65535 ≤ (s.told d).1 ∨ bet (h d a).1 (h d a).2 (s.told d).1 (s.told d).2 = true) := by
  rcases route_spec s d hd hne with ⟨h1, _⟩ | ⟨a, h1, ha, ⟨hf, hc, _⟩, _⟩
  · rw [h1] at hr
    cases hr
  · rw [h1] at hr
    simp only [Prod.mk.injEq] at hr
    obtain ⟨e1, e2, _⟩ := hr
    have hf := (fea_iff _ _ _ _).1 hf
    have e3 := i.heard d a hd ha hne hf.1
    have e4 := i.costs a ha (by omega)
    refine ⟨a, e1.symm, ha, e3, ?_, by omega, ?_⟩
    · rw [e3, e4]; exact e2.symm
    · rw [e3]; exact hf.2
/-- what was told never gets worse -/
def Mono (s s' : St) : Prop := ∀ d, 65535 ≤ (s.told d).1 ∨ bet (s.told d).1 (s.told d).2 (s'.told d).1 (s'.told d).2 = false
theorem takes_told (s : St) (t : Nat) (f : Nat → Int × Int × Int) : ∀ k, (s.takes t f k).told = s.told
  | 0 => rfl
  | k + 1 => by
    show ((s.takes t f k).take t (f k)).told = s.told
    rw [← takes_told s t f k]
    unfold St.take
    split <;> rfl
theorem hear_told' (s : St) (t : Int) (f : Nat → Int × Int × Int) (n : Nat) : (s.hear t f n).told = s.told := by
  unfold St.hear
  split
  · exact takes_told _ _ _ _
  · rfl
theorem offer_fst (s : St) (t : Int) (d : Nat) : (s.offer t d).1 = d := by unfold St.offer; split <;> rfl
theorem hds_succ (h : Hd) (k : Nat) (f : Nat → Int × Int × Int) (j d : Nat) (m q : Int) (e : f j = ((d : Int), m, q)) : hds h k f (j + 1) = hset (hds h k f j) d k (cl m, q) := by
  show hset _ (f j).1.toNat k (mk (f j)) = _
  rw [e]
  rfl
theorem bet_self (a b : Int) : bet a b a b = false := by rw [bet_false]; omega
theorem mono_same {s s' : St} (h : s'.told = s.told) : Mono s s' := fun d => .inr (by rw [h]; exact bet_self _ _)
theorem mono_tl (s : St) (t : Int) : Mono s (tl s t) := by
  unfold tl
  split
  · intro d
    show _ ∨ bet (s.told d).1 (s.told d).2 (if d < s.n ∧ s.best t d = true then (s.route d).2.1 else s.told d).1 (if d < s.n ∧ s.best t d = true then (s.route d).2.1 else s.told d).2 = false
    by_cases hb : d < s.n ∧ s.best t d = true
    · rw [if_pos hb]
      have h := hb.2
      simp [St.best] at h
      rcases h.2 with h | h
      · exact .inl h
      · refine .inr ?_
        rw [bet_iff] at h
        rw [bet_false]
        omega
    · rw [if_neg hb]
      exact .inr (bet_self _ _)
  · exact mono_same rfl
/-- of what is told just one is so: it is what was told best, or worse -/
theorem tell_law {s : St} (hw : Wf s) {t : Int} (hu : upv s t = 0) {d : Nat} (hd : d < s.n) (hne : d ≠ s.id) (hm : (s.offer t d).2.1 < 65535) :
    bet ((tl s t).told d).1 ((tl s t).told d).2 (s.offer t d).2.1 (s.offer t d).2.2 = !decide ((tl s t).told d = (s.offer t d).2) ∧ 0 ≤ (s.offer t d).2.1 ∧ Sm (s.offer t d).2.2 := by
  have hr := route_range s hw d
  have hh : s.hid t d = false := by
    cases e : s.hid t d
    · rfl
    · unfold St.offer at hm
      rw [if_pos e] at hm
      exact absurd hm (by show ¬ (65535 : Int) < 65535; omega)
  have ho : s.offer t d = ((d : Int), (s.route d).2.1.1, (s.route d).2.1.2) := by unfold St.offer; rw [if_neg (by rw [hh]; decide)]
  rw [ho]
  refine ⟨?_, hr.1.1, hr.2⟩
  have et : (tl s t).told d = if d < s.n ∧ s.best t d = true then (s.route d).2.1 else s.told d := by unfold tl; rw [if_pos hu]; rfl
  rw [et]
  by_cases hb : s.best t d = true
  · rw [if_pos ⟨hd, hb⟩, bet_self]
    simp
  · rw [if_neg (fun h => hb h.2)]
    have hb' : s.best t d = false := by simpa using hb
    have hdi : ((d : Int) == (s.id : Int)) = false := by simp; omega
    unfold St.best at hb'
    rw [hh, hdi] at hb'
    simp at hb'
    obtain ⟨h1, h2⟩ := hb'
    rw [bet_false] at h2
    obtain ⟨⟨m, q⟩, hx⟩ : ∃ x, (s.route (d : Int)).2.1 = x := ⟨_, rfl⟩
    obtain ⟨⟨m2, q2⟩, hy⟩ : ∃ x, s.told d = x := ⟨_, rfl⟩
    rw [hx, hy] at h2 ⊢
    dsimp only at h2 ⊢
    by_cases e : (m2, q2) = (m, q)
    · rw [decide_eq_true e]
      cases e
      exact bet_self _ _
    · rw [decide_eq_false e]
      show _ = true
      rw [bet_iff]
      simp only [Prod.mk.injEq] at e
      omega
theorem tell_none {s : St} {t : Int} (hu : upv s t ≠ 0) : tln s t = 0 := by unfold tln; rw [if_neg hu]
end BelowP
end Go.Proofs.Ytcmknllefnahkaa
