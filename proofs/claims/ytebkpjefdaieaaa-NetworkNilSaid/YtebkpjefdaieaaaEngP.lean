/-
  Package engine: where a node goes on, as plain laws. Conditions: those that each theorem names.
-/
import Derived.Test.YtebkpjefdaieaaaEng9
import Derived.Test.YtebkpjefdaieaaaChS
import Derived.IntWalk
namespace Go.Proofs.Ytebkpjefdaieaaa
open Go.RowKit FR FP H2 OW ChS
set_option linter.unusedVariables false
set_option linter.unusedSimpArgs false
namespace Eng
/-- may goal d be gone to by j? -/
def St.may (s : St) (d j : Nat) : Prop := fea (s.inn d j).1 (s.inn d j).2 (s.told d).1 (s.told d).2 = true ∧ 0 < (s.cost j).1 ∧ addm (s.inn d j).1 (s.cost j).1 < 65535
theorem route_spec (s : St) (d : Nat) (hd : d < s.n) (hid : d ≠ s.id) :
    (s.route d = (-1, (65535, 0), false) ∧ ∀ j, j < s.n → ¬ s.may d j) ∨
    ∃ a : Nat, s.route d = ((a : Int), (addm (s.inn d a).1 (s.cost a).1, (s.inn d a).2), true) ∧ a < s.n ∧ s.may d a ∧ ∀ j, j < s.n → s.may d j → bet (addm (s.inn d j).1 (s.cost j).1) (s.inn d j).2 (addm (s.inn d a).1 (s.cost a).1) (s.inn d a).2 = false := by
  have hr : s.route d = if s.pick d < 0 then (-1, (65535, 0), false) else (s.pick d, (addm (s.inn d (s.pick d).toNat).1 (s.cost (s.pick d).toNat).1, (s.inn d (s.pick d).toNat).2), true) := by
    unfold St.route
    rw [if_neg (by omega), if_neg (by omega)]
    rfl
  rcases ChS.ch_state (fun i => (s.inn d i).1) (fun i => (s.inn d i).2) (fun i => (s.cost i).1) s.n (s.told d).1 (s.told d).2 s.n with ⟨h1, h2⟩ | ⟨a, h1, h2, h3, h4⟩
  · have hp : s.pick d = -1 := by unfold St.pick; rw [h1]
    exact .inl ⟨by rw [hr, hp]; rfl, fun j hj hm => h2 j hj ⟨hj, hm⟩⟩
  · have hp : s.pick d = a := by unfold St.pick; rw [h1]
    exact .inr ⟨a, by rw [hr, hp, if_neg (by omega)]; rfl, h2, h3.2, fun j hj hm => h4 j hj ⟨hj, hm⟩⟩
theorem route_self (s : St) (h : s.id < s.n) : s.route s.id = (-1, (0, s.seq), true) := by
  unfold St.route
  rw [if_neg (by omega), if_pos rfl]
/-- what came from t is none: t is no way -/
theorem route_not (s : St) (t d : Nat) (hid : s.id < s.n) (hd : d < s.n) (h : (s.inn d t).1 = 65535) : (s.route d).1 ≠ (t : Int) := by
  by_cases e : d = s.id
  · subst e
    rw [route_self s hd]
    show (-1 : Int) ≠ _
    omega
  · rcases route_spec s d hd e with ⟨h1, _⟩ | ⟨a, h1, _, h3, _⟩
    · rw [h1]; show (-1 : Int) ≠ _; omega
    · rw [h1]
      intro hh
      have : a = t := by have h : (a : Int) = (t : Int) := hh; omega
      subst this
      have := (fea_iff _ _ _ _).1 h3.1
      omega
theorem route_ok (s : St) (d : Nat) (hd : d < s.n) : (s.route d).2.2 = (decide (0 ≤ (s.route d).1) || ((d : Int) == (s.id : Int))) := by
  by_cases e : d = s.id
  · subst e
    rw [route_self s hd]
    simp
  · have e' : ((d : Int) == (s.id : Int)) = false := by simp; omega
    rw [e']
    rcases route_spec s d hd e with ⟨h1, _⟩ | ⟨a, h1, _, h3, _⟩
    · rw [h1]; rfl
    · rw [h1]; simp
theorem link_same (s : St) (t c : Int) : (s.link t c).id = s.id ∧ (s.link t c).n = s.n ∧ (s.link t c).told = s.told ∧ (s.link t c).seq = s.seq := by
  unfold St.link
  split
  · split
    · exact ⟨rfl, rfl, rfl, rfl⟩
    · exact ⟨rfl, rfl, rfl, rfl⟩
  · exact ⟨rfl, rfl, rfl, rfl⟩
theorem hear_same (s : St) (t : Int) (f : Nat → Int × Int × Int) (n : Nat) : (s.hear t f n).id = s.id ∧ (s.hear t f n).n = s.n := by
  unfold St.hear
  split
  · exact takes_same _ _ _ _
  · exact ⟨rfl, rfl⟩
theorem RdO.below {w w' : World} {A : Option Addr} {n : Nat} {f : Nat → Int × Int × Int} (h : RdO w A n f) (hb : Below w.heap.size w w') : RdO w' A n f :=
  h.keep (Only.of_below (Only.refl (fun _ => False) w) hb) (fun _ _ _ h => h)
theorem RdO.lt {w : World} {A : Option Addr} {n : Nat} {f : Nat → Int × Int × Int} (h : RdO w A n f) : 0 < n → ∀ g o, A = some ⟨g, o, none⟩ → g < w.heap.size := fun h0 g o e => by
  obtain ⟨g', o', e', hg, _⟩ := h 0 h0
  rw [e'] at e
  cases e
  exact hg
/-- what came in is heard -/
theorem nd_hear0 {w0 w : World} {b : Nat} {s : St} (h : Nd w0 w b s) (t : Int) (A : Option Addr) (n cap : Nat) (f : Nat → Int × Int × Int) (hn : n ≤ maxLen) (hf : RdO w0 A n f) (hs : SmO f n) : Calls Try.prog 43 #[.pointer (some ⟨b, 0, none⟩), .int .i64 t, .slice A n cap] w fun e w' => e = .returned (.int .i64 (hea s t f n)) ∧ Nd w0 w' b (s.hear t f n) ∧ Only (fun i => i = b) w w' :=
  nd_hear h t A n cap f hn (hf.below h.bel) hs (fun h0 g o e => by have := hf.lt h0 g o e; have := h.new; omega)
/-- whatever it is told: the node stands -/
theorem nd_tell_any {w0 w : World} {b : Nat} {s : St} (h : Nd w0 w b s) (t : Int) : Calls Try.prog 42 #[.pointer (some ⟨b, 0, none⟩), .int .i64 t] w fun e w' => (∃ v, e = .returned (.tuple #[v, .int .i64 (upv s t)]) ∧ (upv s t = 0 → w'.ownsRow w.heap.size 99 3 v s.n (cellsO (s.offer t) s.n)) ∧ (upv s t ≠ 0 → v = .slice none 0 0)) ∧ (∃ s', Nd w0 w' b s' ∧ s' = (if upv s t = 0 then s.tells t s.n else s)) ∧ Only (fun i => i = b) w w' := by
  by_cases hu : upv s t = 0
  · exact (nd_tell h t hu).mono fun e w' ⟨⟨v, he, hv⟩, hn, ho⟩ => ⟨⟨v, by rw [he, hu], fun _ => hv, fun h => absurd hu h⟩, ⟨_, hn, by rw [if_pos hu]⟩, ho⟩
  · exact (tell_no b s t w h.isn h.wf hu).mono fun e w' ⟨he, hw⟩ => ⟨⟨_, he, fun h => absurd h hu, fun _ => rfl⟩, ⟨_, hw ▸ h, by rw [if_neg hu]⟩, hw ▸ Only.refl _ _⟩
theorem remk (t : Int) (n : Nat) (h : 1 ≤ n) : ∃ T : Nat, T < n ∧ (IntKind.u64.wrap t).tmod n = (T : Int) := by
  have h0 : 0 ≤ IntKind.u64.wrap t := by simp [IntKind.wrap, IntKind.bits, IntKind.signed]; omega
  have h1 : (IntKind.u64.wrap t).tmod n = IntKind.u64.wrap t % n := Int.tmod_eq_emod_of_nonneg h0
  have h2 := Int.emod_nonneg (IntKind.u64.wrap t) (show (n : Int) ≠ 0 by omega)
  have h3 := Int.emod_lt_of_pos (IntKind.u64.wrap t) (show 0 < (n : Int) by omega)
  exact ⟨(IntKind.u64.wrap t % n).toNat, by omega, by rw [h1]; omega⟩
theorem bet_chain2 {a b c d e f : Int} (h : bet a b c d = true) (h2 : bet e f c d = false) : bet a b e f = true := by
  rw [bet_iff] at h ⊢
  rw [bet_false] at h2
  omega
theorem ch_first (om os cm : Nat → Int) (m : Nat) (fm fs : Int) : ∀ k : Nat,
    (ch om os cm m fm fs k = (-1, 65535, 0) ∧ ∀ j, j < k → ¬ May om os cm m fm fs j) ∨
    ∃ a : Nat, ch om os cm m fm fs k = ((a : Int), addm (om a) (cm a), os a) ∧ a < k ∧ May om os cm m fm fs a ∧ (∀ j, j < k → May om os cm m fm fs j → bet (addm (om j) (cm j)) (os j) (addm (om a) (cm a)) (os a) = false) ∧ (∀ j, j < a → May om os cm m fm fs j → bet (addm (om a) (cm a)) (os a) (addm (om j) (cm j)) (os j) = true)
  | 0 => .inl ⟨rfl, fun j hj => by omega⟩
  | k + 1 => by
    have ih := ch_first om os cm m fm fs k
    by_cases hm : May om os cm m fm fs k
    · rcases ih with ⟨h1, h2⟩ | ⟨a, h1, ha, hma, h2, h3⟩
      · refine .inr ⟨k, ch_yes ⟨hm.1, hm.2.1, hm.2.2.1, hm.2.2.2, .inl (by rw [h1]; decide)⟩, by omega, hm, fun j hj hj2 => ?_, fun j hj hj2 => absurd hj2 (h2 j hj)⟩
        by_cases e : j = k
        · subst e; exact bet_self _ _
        · exact absurd hj2 (h2 j (by omega))
      · cases hb : bet (addm (om k) (cm k)) (os k) (addm (om a) (cm a)) (os a)
        · refine .inr ⟨a, ?_, by omega, hma, fun j hj hj2 => ?_, h3⟩
          · rw [ch_no, h1]
            rintro ⟨_, _, _, _, h | h⟩
            · rw [h1] at h; simp only at h; omega
            · rw [h1] at h; simp only at h; rw [hb] at h; cases h
          · by_cases e : j = k
            · subst e; exact hb
            · exact h2 j (by omega) hj2
        · refine .inr ⟨k, ch_yes ⟨hm.1, hm.2.1, hm.2.2.1, hm.2.2.2, .inr (by rw [h1]; exact hb)⟩, by omega, hm, fun j hj hj2 => ?_, fun j hj hj2 => ?_⟩
          · by_cases e : j = k
            · subst e; exact bet_self _ _
            · exact bet_chain hb (h2 j (by omega) hj2)
          · exact bet_chain2 hb (h2 j hj hj2)
    · have hn : ch om os cm m fm fs (k + 1) = ch om os cm m fm fs k := ch_no (fun h => hm ⟨h.1, h.2.1, h.2.2.1, h.2.2.2.1⟩)
      rcases ih with ⟨h1, h2⟩ | ⟨a, h1, ha, hma, h2, h3⟩
      · refine .inl ⟨by rw [hn, h1], fun j hj => ?_⟩
        by_cases e : j = k
        · subst e; exact hm
        · exact h2 j (by omega)
      · refine .inr ⟨a, by rw [hn, h1], by omega, hma, fun j hj hj2 => ?_, h3⟩
        by_cases e : j = k
        · subst e; exact absurd hj2 hm
        · exact h2 j (by omega) hj2
/-- what is gone by to j -/
def St.val' (s : St) (d j : Nat) : Int × Int := (addm (s.inn d j).1 (s.cost j).1, (s.inn d j).2)
/-- a is the one that is chosen -/
structure IsPick (s : St) (d a : Nat) : Prop where
  lt : a < s.n
  may : s.may d a
  best : ∀ j, j < s.n → s.may d j → bet (s.val' d j).1 (s.val' d j).2 (s.val' d a).1 (s.val' d a).2 = false
  first : ∀ j, j < a → s.may d j → bet (s.val' d a).1 (s.val' d a).2 (s.val' d j).1 (s.val' d j).2 = true
theorem route_first (s : St) (d : Nat) (hd : d < s.n) (hid : d ≠ s.id) :
    (s.route d = (-1, (65535, 0), false) ∧ ∀ j, j < s.n → ¬ s.may d j) ∨ ∃ a : Nat, s.route d = ((a : Int), s.val' d a, true) ∧ IsPick s d a := by
  have hr : s.route d = if s.pick d < 0 then (-1, (65535, 0), false) else (s.pick d, (addm (s.inn d (s.pick d).toNat).1 (s.cost (s.pick d).toNat).1, (s.inn d (s.pick d).toNat).2), true) := by
    unfold St.route
    rw [if_neg (by omega), if_neg (by omega)]
    rfl
  rcases ch_first (fun i => (s.inn d i).1) (fun i => (s.inn d i).2) (fun i => (s.cost i).1) s.n (s.told d).1 (s.told d).2 s.n with ⟨h1, h2⟩ | ⟨a, h1, h2, h3, h4, h5⟩
  · have hp : s.pick d = -1 := by unfold St.pick; rw [h1]
    exact .inl ⟨by rw [hr, hp]; rfl, fun j hj hm => h2 j hj ⟨hj, hm⟩⟩
  · have hp : s.pick d = a := by unfold St.pick; rw [h1]
    exact .inr ⟨a, by rw [hr, hp, if_neg (by omega)]; rfl, h2, h3.2, fun j hj hm => h4 j hj ⟨hj, hm⟩, fun j hj hm => h5 j hj ⟨by omega, hm⟩⟩
theorem pick_unique {s : St} {d a b : Nat} (h : IsPick s d a) (k : IsPick s d b) : a = b := by
  rcases Nat.lt_trichotomy a b with hl | hl | hl
  · have h1 := k.first a hl h.may
    rw [h.best b k.lt k.may] at h1
    cases h1
  · exact hl
  · have h1 := h.first b hl k.may
    rw [k.best a h.lt h.may] at h1
    cases h1
/-- with what is told of d made what is gone by, or left, nothing turns -/
theorem route_kept (s s' : St) (d : Nat) (hd : d < s.n) (hw : Wf s) (h1 : s'.id = s.id) (h2 : s'.n = s.n) (h3 : s'.cost = s.cost) (h4 : s'.inn d = s.inn d) (h5 : s'.seq = s.seq)
    (ht : s'.told d = s.told d ∨ d ≠ s.id ∧ (s.route d).2.2 = true ∧ s'.told d = (s.route d).2.1 ∧ (65535 ≤ (s.told d).1 ∨ bet (s.route d).2.1.1 (s.route d).2.1.2 (s.told d).1 (s.told d).2 = true)) : s'.route d = s.route d := by
  rcases ht with ht | ⟨hid, hok, ht, hfd⟩
  · unfold St.route St.pick
    simp only [Int.toNat_natCast, h1, h2, h3, h4, h5, ht]
  · rcases route_first s d hd hid with ⟨h, _⟩ | ⟨a, h, hp⟩
    · rw [h] at hok; cases hok
    · have hval : ∀ j, s'.val' d j = s.val' d j := fun j => by unfold St.val'; rw [h3, h4]
      rw [h] at ht hfd
      dsimp only at ht hfd
      have hmay : ∀ j, s'.may d j → s.may d j := fun j hm => by
        unfold St.may at hm ⊢
        rw [h3, h4, ht] at hm
        refine ⟨?_, hm.2⟩
        have hf := (fea_iff _ _ _ _).1 hm.1
        refine (fea_iff _ _ _ _).2 ⟨hf.1, ?_⟩
        have ha := hp.may.2.2
        rcases hf.2 with hx | hx
        · have : (s.val' d a).1 < 65535 := ha
          omega
        · rcases hfd with hy | hy
          · exact .inl hy
          · refine .inr ?_
            rw [bet_iff] at hx hy ⊢
            omega
      have hma : s'.may d a := by
        unfold St.may
        rw [h3, h4, ht]
        refine ⟨(fea_iff _ _ _ _).2 ⟨((fea_iff _ _ _ _).1 hp.may.1).1, .inr ?_⟩, hp.may.2⟩
        have hc := hp.may.2.1
        have h0 := (hw.inn d a).1
        have hlt := hp.may.2.2
        have hc2 := (hw.cost a).2.1
        show bet (s.inn d a).1 (s.inn d a).2 (addm (s.inn d a).1 (s.cost a).1) (s.inn d a).2 = true
        rw [bet_iff]
        refine .inr ⟨rfl, ?_⟩
        unfold addm cl at hlt ⊢
        omega
      have hp' : IsPick s' d a := ⟨by rw [h2]; exact hp.lt, hma, fun j hj hm => by rw [hval, hval]; exact hp.best j (by rw [← h2]; exact hj) (hmay j hm), fun j hj hm => by rw [hval, hval]; exact hp.first j hj (hmay j hm)⟩
      rcases route_first s' d (by rw [h2]; exact hd) (by rw [h1]; exact hid) with ⟨h', hn⟩ | ⟨b, h', hpb⟩
      · exact absurd hma (hn a hp'.lt)
      · have := pick_unique hp' hpb
        subst this
        rw [h', h, hval]
theorem route_told (s : St) (t : Int) (k d : Nat) (hd : d < s.n) (hw : Wf s) : (s.tells t k).route d = s.route d := by
  refine route_kept s (s.tells t k) d hd hw rfl rfl rfl rfl rfl ?_
  have e : (s.tells t k).told d = if d < k ∧ s.best t d = true then (s.route d).2.1 else s.told d := rfl
  by_cases hb : d < k ∧ s.best t d = true
  · refine .inr ?_
    rw [e, if_pos hb]
    have h := hb.2
    unfold St.best at h
    simp only [Bool.and_eq_true, Bool.not_eq_true', Bool.or_eq_true, decide_eq_true_eq] at h
    obtain ⟨⟨h1, h2⟩, h3⟩ := h
    refine ⟨fun e => by rw [e] at h2; simp at h2, ?_, rfl, h3⟩
    unfold St.hid at h1
    simp only [Bool.or_eq_false_iff, Bool.not_eq_false'] at h1
    exact h1.1
  · rw [e, if_neg hb]
    exact .inl rfl
/-- told twice at once: the same -/
theorem offer_told (s : St) (t : Int) (d : Nat) (hd : d < s.n) (hw : Wf s) : (s.tells t s.n).offer t d = s.offer t d := by
  have h := route_told s t s.n d hd hw
  unfold St.offer St.hid
  rw [h]
theorem upv_tells (s : St) (t u : Int) (k : Nat) : upv (s.tells t k) u = upv s u := rfl
end Eng
end Go.Proofs.Ytebkpjefdaieaaa
