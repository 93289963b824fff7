/-
  Networks: by new numbers, told as often as there are nodes, each node knows how far it is. No program. Conditions: those that each theorem names.
-/
import Derived.Test.YtebkpjefdaieaaaTrueP
namespace Go.Proofs.Ytebkpjefdaieaaa
open Go.RowKit FR FP H2 OW ChS
set_option linter.unusedVariables false
set_option linter.unusedSimpArgs false
namespace Net
open Eng GG
/-- the node knows a way to d by number Q, no farther than x -/
def HasN (s : St) (d : Nat) (Q x : Int) : Prop := (s.route d).2.2 = true ∧ (s.route d).2.1.2 = Q ∧ (s.route d).2.1.1 ≤ x
theorem HasN.congr {s s' : St} {d : Nat} {Q x : Int} (h : HasN s d Q x) (e : s'.route d = s.route d) : HasN s' d Q x := by unfold HasN; rw [e]; exact h
theorem HasN.mono {s : St} {d : Nat} {Q x y : Int} (h : HasN s d Q x) (e : x ≤ y) : HasN s d Q y := ⟨h.1, h.2.1, Int.le_trans h.2.2 e⟩
theorem has_self {s : St} {d : Nat} {x : Int} (hd : d < s.n) (e : s.id = d) (hx : 0 ≤ x) : HasN s d s.seq x := by
  subst e
  unfold HasN
  rw [route_self s hd]
  exact ⟨rfl, rfl, hx⟩
theorem has_of_may {s : St} {d k : Nat} {Q : Int} (hd : d < s.n) (hid : d ≠ s.id) (hk : k < s.n) (hm : s.may d k) (hq : (s.inn d k).2 = Q) (htop : ∀ j, j < s.n → (s.inn d j).1 < 65535 → (s.inn d j).2 ≤ Q) : HasN s d Q (addm (s.inn d k).1 (s.cost k).1) := by
  rcases route_spec s d hd hid with ⟨_, h⟩ | ⟨a, h1, h2, h3, h4⟩
  · exact absurd hm (h k hk)
  · have h5 := h4 k hk hm
    rw [bet_false] at h5
    have h6 := htop a h2 ((fea_iff _ _ _ _).1 h3.1).1
    unfold HasN
    rw [h1]
    refine ⟨rfl, ?_, ?_⟩
    · show (s.inn d a).2 = Q
      omega
    · show addm (s.inn d a).1 (s.cost a).1 ≤ _
      omega
theorem has_may {s : St} {d : Nat} {Q x : Int} (hd : d < s.n) (hid : d ≠ s.id) (h : HasN s d Q x) : ∃ k, k < s.n ∧ s.may d k ∧ (s.inn d k).2 = Q ∧ addm (s.inn d k).1 (s.cost k).1 ≤ x ∧ (s.route d).1 = (k : Int) ∧ (s.route d).2.1.1 = addm (s.inn d k).1 (s.cost k).1 := by
  rcases route_spec s d hd hid with ⟨h1, _⟩ | ⟨a, h1, h2, h3, h4⟩
  · obtain ⟨h, _⟩ := h
    rw [h1] at h
    cases h
  · obtain ⟨_, h5, h6⟩ := h
    rw [h1] at h5 h6 ⊢
    exact ⟨a, h2, h3, h5, h6, rfl, rfl⟩
/-- a node hears from a: what it goes by gets no farther -/
theorem has_hear {s s' : St} {d a : Nat} {Q x : Int} (hd : d < s.n) (h1 : s'.id = s.id) (h2 : s'.n = s.n) (h3 : s'.cost = s.cost) (h4 : s'.told = s.told) (h5 : s'.seq = s.seq) (hin : ∀ j, j ≠ a → s'.inn d j = s.inn d j)
    (htop : ∀ j, j < s.n → (s'.inn d j).1 < 65535 → (s'.inn d j).2 ≤ Q) (hba : d ≠ s.id → (s.route d).1 = (a : Int) → s.may d a → (s.inn d a).2 = Q → (s.route d).2.1.1 = addm (s.inn d a).1 (s.cost a).1 → (s'.inn d a).2 = Q ∧ (s'.inn d a).1 ≤ (s.inn d a).1) (h : HasN s d Q x) : HasN s' d Q x := by
  by_cases e : d = s.id
  · refine h.congr ?_
    rw [e]
    have h6 := route_self s' (by rw [h1, h2]; omega)
    rw [h1, h5] at h6
    rw [h6, route_self s (by omega)]
  · obtain ⟨k, hk, hm, hq, hx, hr, hv⟩ := has_may hd e h
    by_cases ek : k = a
    · subst ek
      obtain ⟨q1, q2⟩ := hba e hr hm hq hv
      have hm2 : s'.may d k := by
        unfold St.may at hm ⊢
        rw [h3, h4]
        obtain ⟨hf, hc, ha⟩ := hm
        refine ⟨?_, hc, ?_⟩
        · rw [fea_iff] at hf ⊢
          refine ⟨by omega, hf.2.elim .inl (fun h => .inr ?_)⟩
          rw [bet_iff] at h ⊢
          omega
        · unfold addm at ha ⊢
          omega
      refine (has_of_may (by omega) (by omega) (by omega) hm2 q1 (by rw [h2]; exact htop)).mono (Int.le_trans ?_ hx)
      rw [h3]
      unfold addm
      omega
    · have hm2 : s'.may d k := by
        unfold St.may at hm ⊢
        rw [h3, h4, hin k ek]
        exact hm
      refine (has_of_may (by omega) (by omega) (by omega) hm2 (by rw [hin k ek]; exact hq) (by rw [h2]; exact htop)).mono ?_
      rw [h3, hin k ek]
      exact hx
theorem offer_fst (s : St) (t : Int) (k : Nat) : (s.offer t k).1 = (k : Int) := by unfold St.offer; split <;> rfl
theorem takes_inn_at (s : St) (i : Nat) (f : Nat → Int × Int × Int) (hf : ∀ k, (f k).1 = (k : Int)) (d j : Nat) : ∀ m, (s.takes i f m).inn d j = if j = i ∧ d < m ∧ d ≠ s.id then kept (f d) else s.inn d j
  | 0 => by rw [if_neg (by omega)]; rfl
  | m + 1 => by
    have ih := takes_inn_at s i f hf d j m
    have e : s.takes i f (m + 1) = (s.takes i f m).take i (f m) := rfl
    rw [e]
    unfold St.take
    rw [(takes_same s i f m).1, hf m]
    by_cases h : m = s.id
    · rw [if_pos (by omega), ih]
      by_cases e2 : j = i ∧ d < m ∧ d ≠ s.id
      · rw [if_pos e2, if_pos ⟨e2.1, by omega, e2.2.2⟩]
      · rw [if_neg e2, if_neg (fun h2 => e2 ⟨h2.1, by omega, h2.2.2⟩)]
    · rw [if_neg (by omega)]
      show (if d = (m : Int).toNat ∧ j = i then kept (f m) else (s.takes i f m).inn d j) = _
      rw [ih, Int.toNat_natCast]
      by_cases e2 : d = m ∧ j = i
      · rw [if_pos e2, if_pos ⟨e2.2, by omega, by omega⟩, e2.1]
      · rw [if_neg e2]
        by_cases e3 : j = i ∧ d < m ∧ d ≠ s.id
        · rw [if_pos e3, if_pos ⟨e3.1, by omega, e3.2.2⟩]
        · rw [if_neg e3, if_neg (fun h2 => e3 ⟨h2.1, by have : d ≠ m := fun e => e2 ⟨e, h2.1⟩; omega, h2.2.2⟩)]
theorem upv_up {s : St} {t : Nat} (h1 : t < s.n) (h2 : t ≠ s.id) (hc : (s.cost t).1 ≠ 0) : upv s (t : Int) = 0 := by
  unfold upv
  rw [if_pos (oth_mk h1 h2), Int.toNat_natCast, if_neg hc]
theorem fits_mk {n m : Nat} {f : Nat → Int × Int × Int} (h : ∀ k, k < m → fit n (f k) = true) : fits n f m = true := by
  simp only [fits, List.all_eq_true, List.mem_range]
  exact h
theorem fit_offer (s : St) (hw : Wf s) (t : Int) (k n : Nat) (hk : k < n) : fit n (s.offer t k) = true := by
  have hr := route_range s hw k
  have h0 := offer_fst s t k
  have h1 : 0 ≤ (s.offer t k).2.1 ∧ (s.offer t k).2.1 ≤ 65535 := by
    unfold St.offer
    split
    · exact ⟨by show (0 : Int) ≤ 65535; decide, Int.le_refl _⟩
    · exact hr.1
  simp [fit, h0, h1, hk]
/-- no link goes to oneself -/
def Diag (S : NetV) : Prop := ∀ i, S.c i i = 0
/-- what stands while links stay -/
structure Stand (n : Nat) (c : Nat → Nat → Int) (S : NetV) : Prop where
  n_ : S.n = n
  c_ : S.c = c
  ids : ∀ i, i < n → (S.x i).id = i ∧ (S.x i).n = n
  wf : ∀ i, i < n → Wf (S.x i)
  cst : ∀ i j, i < n → j < n → ((S.x i).cost j).1 = c i j
  good : GG.Good c
  diag : ∀ i, c i i = 0
theorem Stand.ids' {n : Nat} {c : Nat → Nat → Int} {S : NetV} (h : Stand n c S) : Ids S := fun i hi => by rw [h.n_] at hi ⊢; exact h.ids i hi
theorem Stand.cst' {n : Nat} {c : Nat → Nat → Int} {S : NetV} (h : Stand n c S) : Cst S := fun i j hi hj => by rw [h.n_] at hi hj; rw [h.c_]; exact h.cst i j hi hj
theorem Stand.upd {n : Nat} {c : Nat → Nat → Int} {S : NetV} (h : Stand n c S) {k : Nat} {s : St} (h1 : s.id = (S.x k).id) (h2 : s.n = (S.x k).n) (h3 : Wf s) (h4 : s.cost = (S.x k).cost) : Stand n c (S.upd k s) := by
  have e : ∀ i, (S.upd k s).x i = if i = k then s else S.x i := fun i => rfl
  refine ⟨h.n_, h.c_, fun i hi => ?_, fun i hi => ?_, fun i j hi hj => ?_, h.good, h.diag⟩
  · rw [e]; split
    · rename_i e; subst e; rw [h1, h2]; exact h.ids i hi
    · exact h.ids i hi
  · rw [e]; split
    · exact h3
    · exact h.wf i hi
  · rw [e]; split
    · rename_i e; subst e; rw [h4]; exact h.cst i j hi hj
    · exact h.cst i j hi hj
theorem say_is {n : Nat} {c : Nat → Nat → Int} {S : NetV} (h : Stand n c S) {a t : Nat} (ha : a < n) (ht : t < n) (hc : 0 < c a t) :
    a ≠ t ∧ (S.say a t).x t = (S.x t).takes a ((S.x a).offer t) n ∧ (S.say a t).x a = (S.x a).tells t n ∧ ∀ i, i ≠ t → i ≠ a → (S.say a t).x i = S.x i := by
  have hat : a ≠ t := fun e => by rw [e, h.diag] at hc; omega
  have hia := h.ids a ha
  have hit := h.ids t ht
  have hu : upv (S.x a) (t : Int) = 0 := upv_up (by omega) (by omega) (by rw [h.cst a t ha ht]; omega)
  have hu2 : upv (S.x t) (a : Int) = 0 := upv_up (by omega) (by omega) (by rw [h.cst t a ht ha, h.good.sym]; omega)
  have e1 : tl (S.x a) (t : Int) = (S.x a).tells t n := by unfold tl; rw [if_pos hu, hia.2]
  have e2 : told_len (S.x a) (t : Int) = n := by unfold told_len; rw [if_pos hu, hia.2]
  have e3 : (S.upd a (tl (S.x a) t)).x t = S.x t := by
    show (if t = a then _ else S.x t) = S.x t
    rw [if_neg (fun e => hat e.symm)]
  have e4 : (S.x t).hear a ((S.x a).offer t) n = (S.x t).takes a ((S.x a).offer t) n := by
    unfold St.hear
    rw [if_pos ⟨hu2, fits_mk (fun k hk => fit_offer _ (h.wf a ha) _ _ _ (by omega))⟩, Int.toNat_natCast]
  have e5 : ∀ i, (S.say a t).x i = if i = t then ((S.upd a (tl (S.x a) t)).x t).hear a ((S.x a).offer t) (told_len (S.x a) t) else if i = a then tl (S.x a) t else S.x i := fun i => rfl
  refine ⟨hat, ?_, ?_, fun i h1 h2 => ?_⟩
  · rw [e5, if_pos rfl, e3, e2, e4]
  · rw [e5, if_neg hat, if_pos rfl, e1]
  · rw [e5, if_neg h1, if_neg h2]
theorem Stand.say {n : Nat} {c : Nat → Nat → Int} {S : NetV} (h : Stand n c S) {a t : Nat} (ha : a < n) (ht : t < n) : Stand n c (S.say a t) := by
  have h1 : Stand n c (S.upd a (tl (S.x a) t)) := h.upd (tl_same _ _).1 (tl_same _ _).2 (wf_tl (h.wf a ha) _) (tl_cost _ _)
  exact h1.upd (hear_same _ _ _ _).1 (hear_same _ _ _ _).2 (wf_hear (h1.wf t ht) _ _ _ (smO_offer _ _ _ (h.wf a ha))) (hear_told _ _ _ _).2.2
/-- of goal d, whose number is Q -/
structure Inv (n : Nat) (c : Nat → Nat → Int) (d : Nat) (Q : Int) (S : NetV) : Prop where
  st : Stand n c S
  ok : Ok S
  seq : (S.x d).seq = Q
  top : ∀ i j, i < n → j < n → ((S.x i).inn d j).1 < 65535 → ((S.x i).inn d j).2 ≤ Q
  topt : ∀ i, i < n → ((S.x i).told d).1 < 65535 → ((S.x i).told d).2 ≤ Q
  K : ∀ i j, i < n → j < n → 0 < c i j → ((S.x i).inn d j).1 < 65535 → ((S.x i).inn d j).2 = Q → HasN (S.x j) d Q ((S.x i).inn d j).1
  T : ∀ i, i < n → i ≠ d → ((S.x i).told d).1 < 65535 → ((S.x i).told d).2 = Q → HasN (S.x i) d Q ((S.x i).told d).1
/-- of a node's way: its number is no greater -/
theorem route_top {s : St} {d : Nat} {Q : Int} (hd : d < s.n) (hs : s.id = d → s.seq ≤ Q) (ht : ∀ j, j < s.n → (s.inn d j).1 < 65535 → (s.inn d j).2 ≤ Q) (h : (s.route d).2.1.1 < 65535) : (s.route d).2.1.2 ≤ Q := by
  by_cases e : d = s.id
  · subst e
    rw [route_self s hd]
    exact hs rfl
  · rcases route_spec s d hd e with ⟨h1, _⟩ | ⟨a, h1, h2, h3, _⟩
    · rw [h1] at h
      have h : (65535 : Int) < 65535 := h
      omega
    · rw [h1]
      exact ht a h2 ((fea_iff _ _ _ _).1 h3.1).1
theorem offer_cases (s : St) (t : Int) (d : Nat) : (s.offer t d).2 = (65535, 0) ∧ (((s.route d).2.2 = false) ∨ (s.route d).1 = t) ∨ (s.offer t d).2 = (s.route d).2.1 ∧ (s.route d).2.2 = true ∧ (s.route d).1 ≠ t := by
  unfold St.offer
  split
  · rename_i h
    refine .inl ⟨rfl, ?_⟩
    unfold St.hid at h
    simpa using h
  · rename_i h
    refine .inr ⟨rfl, ?_⟩
    unfold St.hid at h
    simpa using h
theorem kept_of {o : Int × Int × Int} (h : (kept o).1 < 65535) : kept o = o.2 := by
  rcases kept_cases o with h1 | h1
  · omega
  · exact h1
theorem kept_lt {o : Int × Int × Int} (h : o.2.1 < 65535) : kept o = o.2 := by
  unfold kept
  rw [if_neg (by omega)]
section
variable {n : Nat} {c : Nat → Nat → Int} {d : Nat} {Q : Int} {S : NetV}
/-- where its hearer goes on by the teller, what it is told is as good -/
theorem Inv.told_back (h : Inv n c d Q S) (hd : d < n) {a t : Nat} (ha : a < n) (ht : t < n) (hc : 0 < c a t) (htd : t ≠ d) (hr : ((S.x t).route d).1 = (a : Int)) {e : Int × Int} (he : (S.x t).inn d a = e) (h1 : e.1 < 65535) (hq : e.2 = Q) :
    ((S.x a).offer t d).2.2 = Q ∧ ((S.x a).offer t d).2.1 ≤ e.1 := by
  have hk := h.K t a ht ha (by rw [h.st.good.sym]; exact hc) (by rw [he]; exact h1) (by rw [he]; exact hq)
  rw [he] at hk
  rcases offer_cases (S.x a) t d with ⟨_, h2⟩ | ⟨h2, _⟩
  · exfalso
    rcases h2 with h2 | h2
    · rw [hk.1] at h2; cases h2
    · have n1 := next_is h.ok h.st.ids' (by rw [h.st.n_]; exact hd) (i := a) (by rw [h.st.n_]; exact ha) (by rw [h2]; omega)
      have n2 := next_is h.ok h.st.ids' (by rw [h.st.n_]; exact hd) (i := t) (by rw [h.st.n_]; exact ht) (by rw [hr]; omega)
      rw [h2] at n1
      rw [hr] at n2
      exact (n1.trans n2).irrefl
  · rw [h2]
    exact ⟨hk.2.1, hk.2.2⟩
theorem say_inn (h : Stand n c S) (hd : d < n) {a t : Nat} (ha : a < n) (ht : t < n) (hc : 0 < c a t) (i j : Nat) : ((S.say a t).x i).inn d j = if i = t ∧ j = a ∧ d ≠ t then kept ((S.x a).offer t d) else (S.x i).inn d j := by
  obtain ⟨hat, e1, e2, e3⟩ := say_is h ha ht hc
  by_cases h1 : i = t
  · subst h1
    rw [e1, takes_inn_at _ _ _ (offer_fst _ _), (h.ids i ht).1]
    by_cases h2 : j = a ∧ d ≠ i
    · rw [if_pos ⟨h2.1, hd, h2.2⟩, if_pos ⟨rfl, h2.1, h2.2⟩]
    · rw [if_neg (fun h3 => h2 ⟨h3.1, h3.2.2⟩), if_neg (fun h3 => h2 h3.2)]
  · rw [if_neg (fun h2 => h1 h2.1)]
    by_cases h2 : i = a
    · subst h2; rw [e2]; rfl
    · rw [e3 i h1 h2]
theorem say_told (h : Stand n c S) (hd : d < n) {a t : Nat} (ha : a < n) (ht : t < n) (hc : 0 < c a t) (i : Nat) : ((S.say a t).x i).told d = if i = a ∧ (S.x a).best t d = true then ((S.x a).route d).2.1 else (S.x i).told d := by
  obtain ⟨hat, e1, e2, e3⟩ := say_is h ha ht hc
  by_cases h1 : i = t
  · subst h1
    rw [e1, (takes_told _ _ _ _).1, if_neg (fun h2 => hat h2.1.symm)]
  · by_cases h2 : i = a
    · subst h2
      rw [e2]
      show (if d < n ∧ (S.x i).best t d = true then _ else _) = _
      by_cases h3 : (S.x i).best t d = true
      · rw [if_pos ⟨hd, h3⟩, if_pos ⟨rfl, h3⟩]
      · rw [if_neg (fun h4 => h3 h4.2), if_neg (fun h4 => h3 h4.2)]
    · rw [e3 i h1 h2, if_neg (fun h3 => h2 h3.1)]
theorem say_seq (h : Stand n c S) {a t : Nat} (ha : a < n) (ht : t < n) (hc : 0 < c a t) (i : Nat) : ((S.say a t).x i).seq = (S.x i).seq := by
  obtain ⟨hat, e1, e2, e3⟩ := say_is h ha ht hc
  by_cases h1 : i = t
  · subst h1; rw [e1, (takes_told _ _ _ _).2.1]
  · by_cases h2 : i = a
    · subst h2; rw [e2]; rfl
    · rw [e3 i h1 h2]
/-- where nothing is heard, nothing turns -/
theorem say_route (h : Stand n c S) (hd : d < n) {a t : Nat} (ha : a < n) (ht : t < n) (hc : 0 < c a t) {i : Nat} (hi : i ≠ t) : ((S.say a t).x i).route d = (S.x i).route d := by
  obtain ⟨hat, e1, e2, e3⟩ := say_is h ha ht hc
  by_cases h2 : i = a
  · subst h2
    rw [e2, route_told _ _ _ _ (by rw [(h.ids i ha).2]; exact hd) (h.wf i ha)]
  · rw [e3 i hi h2]
theorem Inv.top_say (h : Inv n c d Q S) (hd : d < n) {a t : Nat} (ha : a < n) (ht : t < n) (hc : 0 < c a t) (i j : Nat) (hi : i < n) (hj : j < n) (hx : (((S.say a t).x i).inn d j).1 < 65535) : (((S.say a t).x i).inn d j).2 ≤ Q := by
  rw [say_inn h.st hd ha ht hc] at hx ⊢
  split at hx
  · rename_i e
    rw [if_pos e]
    have hk := kept_of hx
    rw [hk] at hx ⊢
    rcases offer_cases (S.x a) t d with ⟨h2, _⟩ | ⟨h2, _⟩
    · rw [h2] at hx
      have hx : (65535 : Int) < 65535 := hx
      omega
    · rw [h2] at hx ⊢
      exact route_top (by rw [(h.st.ids a ha).2]; exact hd) (fun e => by rw [(h.st.ids a ha).1] at e; subst e; rw [h.seq]; exact Int.le_refl _) (fun j hj => h.top a j ha (by rw [(h.st.ids a ha).2] at hj; exact hj)) hx
  · rename_i e
    rw [if_neg e]
    exact h.top i j hi hj hx
theorem Inv.has_say (h : Inv n c d Q S) (hd : d < n) {a t : Nat} (ha : a < n) (ht : t < n) (hc : 0 < c a t) {i : Nat} (hi : i < n) {x : Int} (hx : HasN (S.x i) d Q x) : HasN ((S.say a t).x i) d Q x := by
  by_cases e : i = t
  · subst e
    obtain ⟨hat, e1, e2, e3⟩ := say_is h.st ha ht hc
    have hit := h.st.ids i ht
    have hto := takes_told (S.x i) a ((S.x a).offer i) n
    have hsa := takes_same (S.x i) a ((S.x a).offer i) n
    have htop := fun j hj => h.top_say hd ha ht hc i j hi hj
    have hin := fun j => say_inn h.st hd ha ht hc i j
    rw [e1] at htop hin ⊢
    refine has_hear (a := a) (by rw [hit.2]; exact hd) hsa.1 hsa.2 hto.2.2 hto.1 hto.2.1 (fun j hj => by rw [hin, if_neg (fun h2 => hj h2.2.1)]) (fun j hj => htop j (by rw [hit.2] at hj; exact hj)) (fun h1 h2 h3 h4 _ => ?_) hx
    have hdi : i ≠ d := fun e => h1 (by rw [hit.1]; exact e.symm)
    obtain ⟨b1, b2⟩ := h.told_back hd ha ht hc hdi h2 rfl ((fea_iff _ _ _ _).1 h3.1).1 h4
    have h5 := ((fea_iff _ _ _ _).1 h3.1).1
    rw [hin, if_pos ⟨rfl, rfl, fun e => hdi e.symm⟩, kept_lt (by omega)]
    exact ⟨b1, b2⟩
  · exact hx.congr (say_route h.st hd ha ht hc e)
theorem Inv.say (h : Inv n c d Q S) (hd : d < n) {a t : Nat} (ha : a < n) (ht : t < n) (hc : 0 < c a t) : Inv n c d Q (S.say a t) := by
  have hat := (say_is h.st ha ht hc).1
  refine ⟨h.st.say ha ht, h.ok.say h.st.ids' (by rw [h.st.n_]; exact ha) t, by rw [say_seq h.st ha ht hc]; exact h.seq, fun i j hi hj => h.top_say hd ha ht hc i j hi hj, fun i hi hx => ?_, fun i j hi hj hij hx hq => ?_, fun i hi hid hx hq => ?_⟩
  · rw [say_told h.st hd ha ht hc] at hx ⊢
    split at hx
    · rename_i e
      rw [if_pos e]
      exact route_top (by rw [(h.st.ids a ha).2]; exact hd) (fun e => by rw [(h.st.ids a ha).1] at e; subst e; rw [h.seq]; exact Int.le_refl _) (fun j hj => h.top a j ha (by rw [(h.st.ids a ha).2] at hj; exact hj)) hx
    · rename_i e
      rw [if_neg e]
      exact h.topt i hi hx
  · rw [say_inn h.st hd ha ht hc] at hx hq ⊢
    by_cases e : i = t ∧ j = a ∧ d ≠ t
    · rw [if_pos e] at hx hq ⊢
      have hk := kept_of hx
      rw [hk] at hx hq ⊢
      obtain ⟨rfl, rfl, _⟩ := e
      rcases offer_cases (S.x j) i d with ⟨h2, _⟩ | ⟨h2, h3, _⟩
      · rw [h2] at hx
        have hx : (65535 : Int) < 65535 := hx
        omega
      · rw [h2] at hx hq ⊢
        exact (show HasN (S.x j) d Q _ from ⟨h3, hq, Int.le_refl _⟩).congr (say_route h.st hd ha ht hc hat)
    · rw [if_neg e] at hx hq ⊢
      exact h.has_say hd ha ht hc hj (h.K i j hi hj hij hx hq)
  · rw [say_told h.st hd ha ht hc] at hx hq ⊢
    by_cases e : i = a ∧ (S.x a).best t d = true
    · rw [if_pos e] at hx hq ⊢
      obtain ⟨rfl, e⟩ := e
      have hb := best_spec (by rw [(h.st.ids i ha).2]; exact hd) e
      exact (show HasN (S.x i) d Q _ from ⟨hb.2.1, hq, Int.le_refl _⟩).congr (say_route h.st hd ha ht hc hat)
    · rw [if_neg e] at hx hq ⊢
      exact h.has_say hd ha ht hc hi (h.T i hi hid hx hq)
/-- who is told knows a way, too -/
theorem Inv.reach (h : Inv n c d Q S) (hd : d < n) {a t : Nat} (ha : a < n) (ht : t < n) (hc : 0 < c a t) {x : Int} (hx : HasN (S.x a) d Q x) (hlt : x + c a t < 65535) : HasN ((S.say a t).x t) d Q (x + c a t) := by
  obtain ⟨hat, e1, e2, e3⟩ := say_is h.st ha ht hc
  have hia := h.st.ids a ha
  have hit := h.st.ids t ht
  have hra := route_range (S.x a) (h.st.wf a ha) d
  have hxx := hx.2.2
  have hS := h.say hd ha ht hc
  by_cases htd : t = d
  · subst htd
    have := has_self (s := (S.say a t).x t) (d := t) (x := x + c a t) (by rw [(hS.st.ids t ht).2]; exact hd) (hS.st.ids t ht).1 (by omega)
    rw [hS.seq] at this
    exact this
  · rcases offer_cases (S.x a) t d with ⟨_, h2⟩ | ⟨h2, h3, _⟩
    · rcases h2 with h2 | h2
      · rw [hx.1] at h2; cases h2
      · have hda : d ≠ (S.x a).id := fun e => by
          rw [e, route_self _ (by omega)] at h2
          have h2 : (-1 : Int) = (t : Int) := h2
          omega
        obtain ⟨k, hk, hm, hq, hv, hr, _⟩ := has_may (by rw [hia.2]; exact hd) hda hx
        obtain rfl : k = t := by omega
        have h5 := ((fea_iff _ _ _ _).1 hm.1).1
        have h6 := hm.2.2
        have h7 := h.K a k ha ht hc h5 hq
        refine h.has_say hd ha ht hc ht (h7.mono ?_)
        have h8 := hm.2.1
        unfold addm cl at hv h6
        omega
    · have hin := say_inn h.st hd ha ht hc t a
      rw [if_pos ⟨rfl, rfl, fun e => htd e.symm⟩, kept_lt (by rw [h2]; omega), h2] at hin
      have hto := say_told h.st hd ha ht hc t
      rw [if_neg (fun e => hat e.1.symm)] at hto
      have hco : (((S.say a t).x t).cost a).1 = c a t := by rw [hS.st.cst t a ht ha, h.st.good.sym]
      have hle := h.st.good.high a t
      have hadd : addm ((S.x a).route d).2.1.1 (c a t) = ((S.x a).route d).2.1.1 + c a t := by unfold addm cl; omega
      cases hf : fea ((S.x a).route d).2.1.1 ((S.x a).route d).2.1.2 ((S.x t).told d).1 ((S.x t).told d).2
      · have hf' : ¬ (((S.x a).route d).2.1.1 < 65535 ∧ (65535 ≤ ((S.x t).told d).1 ∨ bet ((S.x a).route d).2.1.1 ((S.x a).route d).2.1.2 ((S.x t).told d).1 ((S.x t).told d).2 = true)) := fun hh => by
          rw [(fea_iff _ _ _ _).2 hh] at hf; cases hf
        have g1 : ((S.x t).told d).1 < 65535 := by
          apply Decidable.byContradiction
          intro hh
          exact hf' ⟨by omega, .inl (by omega)⟩
        have g2 : bet ((S.x a).route d).2.1.1 ((S.x a).route d).2.1.2 ((S.x t).told d).1 ((S.x t).told d).2 = false := by
          cases hb : bet ((S.x a).route d).2.1.1 ((S.x a).route d).2.1.2 ((S.x t).told d).1 ((S.x t).told d).2
          · rfl
          · exact absurd ⟨by omega, .inr hb⟩ hf'
        rw [bet_false, hx.2.1] at g2
        have g3 := h.topt t ht g1
        have g4 := h.T t ht htd g1 (by omega)
        exact h.has_say hd ha ht hc ht (g4.mono (by omega))
      · have hm : ((S.say a t).x t).may d a := by
          unfold St.may
          rw [hin, hto, hco, hadd]
          exact ⟨hf, hc, by omega⟩
        have := has_of_may (by rw [(hS.st.ids t ht).2]; exact hd) (by rw [(hS.st.ids t ht).1]; exact fun e => htd e.symm) (by rw [(hS.st.ids t ht).2]; exact ha) hm (by rw [hin]; exact hx.2.1) (fun j hj => hS.top t j ht (by rw [(hS.st.ids t ht).2] at hj; exact hj))
        rw [hin, hco, hadd] at this
        exact this.mono (by omega)
end
end Net
end Go.Proofs.Ytebkpjefdaieaaa
