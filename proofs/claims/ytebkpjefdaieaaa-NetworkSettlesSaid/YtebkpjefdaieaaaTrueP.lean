/-
  Networks: what is heard and told is no nearer than it truly is. No program. Conditions: those that each theorem names.
-/
import Derived.Test.YtebkpjefdaieaaaJe
namespace Go.Proofs.Ytebkpjefdaieaaa
open Go.RowKit FR FP H2 OW ChS
set_option linter.unusedVariables false
set_option linter.unusedSimpArgs false
namespace Net
open Eng GG
/-- links cost what the graph says -/
def Cst (S : NetV) : Prop := ∀ i j, i < S.n → j < S.n → ((S.x i).cost j).1 = S.c i j
theorem cst_new (n : Nat) : Cst (NetV.new n) := fun i j _ _ => rfl
theorem cst_upd {S : NetV} {k : Nat} {s : St} (h : Cst S) (hs : s.cost = (S.x k).cost) : Cst (S.upd k s) := fun i j hi hj => by
  show ((if i = k then s else S.x i).cost j).1 = S.c i j
  split
  · rename_i e; subst e; rw [hs]; exact h i j hi hj
  · exact h i j hi hj
theorem tl_cost (s : St) (t : Int) : (tl s t).cost = s.cost := by unfold tl; split <;> rfl
theorem tlAll_cost : ∀ (L : List Nat) (s : St), (tlAll s L).cost = s.cost
  | [], s => rfl
  | b :: L, s => (tlAll_cost L (tl s b)).trans (tl_cost s b)
theorem oth_mk {s : St} {t : Nat} (h1 : t < s.n) (h2 : t ≠ s.id) : oth s (t : Int) = true := by simp [oth]; omega
theorem link_cost {s : St} {t : Nat} {x : Int} (h1 : t < s.n) (h2 : t ≠ s.id) (h0 : 0 ≤ x) (h3 : x ≤ 1000) (k : Nat) : ((s.link t x).cost k).1 = if k = t then x else (s.cost k).1 := by
  unfold St.link
  rw [if_pos ⟨oth_mk h1 h2, h0, h3⟩, Int.toNat_natCast]
  split
  · rename_i e
    show (if k = t then ((0 : Int), (0 : Int)) else s.cost k).1 = _
    split
    · exact e.symm
    · rfl
  · show (if k = t then (x, (0 : Int)) else s.cost k).1 = _
    split <;> rfl
theorem cst_link {S : NetV} {i j : Nat} {x : Int} (h : Cst S) (hi : Ids S) (h1 : i < S.n) (h2 : j < S.n) (hij : i ≠ j) (h0 : 0 ≤ x) (h3 : x ≤ 1000) : Cst (S.link i j x) := fun a b ha hb => by
  have hok : GG.lnk S.n (i : Int) (j : Int) x = 0 := by
    unfold GG.lnk
    rw [if_pos ⟨by simp [GG.ok]; omega, by simp [GG.ok]; omega, by omega⟩, if_neg (by omega)]
  have hc : (S.link i j x).c a b = if a = j ∧ b = i then x else if a = i ∧ b = j then x else S.c a b := by
    show GG.lnc S.n S.c (i : Int) (j : Int) x a b = _
    unfold GG.lnc
    rw [if_pos hok]
    rfl
  have hx : (S.link i j x).x a = if a = j then (S.x j).link i x else if a = i then (S.x i).link j x else S.x a := rfl
  have ki := hi i h1
  have kj := hi j h2
  have hn : (S.link i j x).n = S.n := rfl
  rw [hn] at ha hb
  have hab := h a b ha hb
  rw [hc, hx]
  by_cases e1 : a = j
  · subst e1
    rw [if_pos rfl, link_cost (by omega) (by omega) h0 h3]
    by_cases e2 : b = i
    · rw [if_pos e2, if_pos ⟨rfl, e2⟩]
    · rw [if_neg e2, if_neg (show ¬ (a = a ∧ b = i) from fun e => e2 e.2), if_neg (show ¬ (a = i ∧ b = a) from fun e => hij e.1.symm)]
      exact hab
  · rw [if_neg e1, if_neg (show ¬ (a = j ∧ b = i) from fun e => e1 e.1)]
    by_cases e3 : a = i
    · subst e3
      rw [if_pos rfl, link_cost (by omega) (by omega) h0 h3]
      by_cases e2 : b = j
      · rw [if_pos e2, if_pos ⟨rfl, e2⟩]
      · rw [if_neg e2, if_neg (show ¬ (a = a ∧ b = j) from fun e => e2 e.2)]
        exact hab
    · rw [if_neg e3, if_neg (show ¬ (a = i ∧ b = j) from fun e => e3 e.1)]
      exact hab
theorem DoR.cst {S S' : NetV} {k a b n e : Int} (h : DoR S k a b n e S') (hi : Ids S) (hk : Cst S) : Cst S' := by
  rcases h.cases with rfl | ⟨i, j, _, _, h1, h2, hij, _, _, h0, h3, rfl⟩ | ⟨v, m, hv, hm, hl, ⟨_, rfl⟩ | ⟨_, rfl⟩⟩ | ⟨i, hi', _, _, hl, ms, hms, rfl⟩ | ⟨i, _, _, _, rfl⟩ | ⟨i, _, _, _, rfl⟩
  · exact hk
  · exact cst_link hk hi h1 h2 hij h0 h3
  · exact cst_upd (S := ({ S with m := m } : NetV)) hk (hear_told _ _ _ _).2.2
  · exact hk
  · intro x j hx hj
    show ((if x = i then tlAll (S.x i) (nbl S.c i S.n) else S.x x).cost j).1 = S.c x j
    split
    · rename_i e; subst e; rw [tlAll_cost]; exact hk x j hx hj
    · exact hk x j hx hj
  · exact cst_upd hk (fresh_same _).2.2.1
  · exact cst_upd hk rfl
theorem DoR.same {S S' : NetV} {k a b n e : Int} (h : DoR S k a b n e S') (h1 : k ≠ 1) : S'.c = S.c := by
  rcases h.cases with rfl | ⟨i, j, _, hk, _⟩ | ⟨v, m, hv, hm, hl, ⟨_, rfl⟩ | ⟨_, rfl⟩⟩ | ⟨i, hi', _, _, hl, ms, hms, rfl⟩ | ⟨i, _, _, _, rfl⟩ | ⟨i, _, _, _, rfl⟩
  · rfl
  · exact absurd hk h1
  all_goals rfl
theorem DoR.ids {S S' : NetV} {k a b n e : Int} (h : DoR S k a b n e S') (hi : Ids S) : Ids S' := by
  rcases h.cases with rfl | ⟨i, j, _, _, h1, h2, hij, _, _, h0, h3, rfl⟩ | ⟨v, m, hv, hm, hl, ⟨_, rfl⟩ | ⟨_, rfl⟩⟩ | ⟨i, hi', _, _, hl, ms, hms, rfl⟩ | ⟨i, _, _, _, rfl⟩ | ⟨i, _, _, _, rfl⟩
  · exact hi
  · intro a ha
    have hx : (S.link i j n).x a = if a = j then (S.x j).link i n else if a = i then (S.x i).link j n else S.x a := rfl
    rw [hx]
    split
    · rename_i e; subst e; rw [(link_same _ _ _).1, (link_same _ _ _).2.1]; exact hi a h2
    · split
      · rename_i e; subst e; rw [(link_same _ _ _).1, (link_same _ _ _).2.1]; exact hi a h1
      · exact hi a ha
  · exact Ids.upd (S := ({ S with m := m } : NetV)) hi (hear_same _ _ _ _).1 (hear_same _ _ _ _).2
  · exact hi
  · intro x hx
    show (if x = i then tlAll (S.x i) (nbl S.c i S.n) else S.x x).id = x ∧ (if x = i then tlAll (S.x i) (nbl S.c i S.n) else S.x x).n = S.n
    split
    · rename_i e; subst e; rw [(tlAll_same _ _).1, (tlAll_same _ _).2]; exact hi x hx
    · exact hi x hx
  · exact hi.upd (fresh_same _).1 (fresh_same _).2.1
  · exact hi.upd rfl rfl
/-- what is gone by is no nearer than it is -/
theorem route_low {s : St} {n d : Nat} {c : Nat → Nat → Int} {D : Nat → Int} (hF : GP.IsFar n c d D) (hd : d < n) (hn : s.n = n) (hid : s.id < n) (hc : ∀ j, j < n → (s.cost j).1 = c s.id j) (hcc : ∀ i j, c i j ≤ 1000) {P : Int → Prop}
    (hin : ∀ j, j < n → P (s.inn d j).2 → D j ≤ (s.inn d j).1) (hp : P (s.route d).2.1.2) : D s.id ≤ (s.route d).2.1.1 := by
  by_cases e : d = s.id
  · rw [e, route_self s (by omega)]
    rw [← e, hF.zero]
    exact Int.le_refl _
  · rcases route_spec s d (by omega) e with ⟨h1, _⟩ | ⟨a, h1, ha, h3, _⟩
    · rw [h1]; exact hF.high _ hid
    · rw [h1] at hp ⊢
      have h4 := hin a (by omega) hp
      have h5 := hc a (by omega)
      have h6 := h3.2.1
      have h7 := hF.link s.id a hid (by omega) (by omega)
      have h8 := hF.high s.id hid
      have h9 := hcc s.id a
      show D s.id ≤ addm (s.inn d a).1 (s.cost a).1
      unfold addm cl
      omega
theorem offer_low {s : St} {n d : Nat} {c : Nat → Nat → Int} {D : Nat → Int} (hF : GP.IsFar n c d D) (hd : d < n) (hn : s.n = n) (hid : s.id < n) (hc : ∀ j, j < n → (s.cost j).1 = c s.id j) (hcc : ∀ i j, c i j ≤ 1000) {P : Int → Prop}
    (hin : ∀ j, j < n → P (s.inn d j).2 → D j ≤ (s.inn d j).1) (t : Int) (hp : P (s.offer t d).2.2) : D s.id ≤ (s.offer t d).2.1 := by
  unfold St.offer at hp ⊢
  split at hp
  · rename_i hh; rw [if_pos hh]; exact hF.high _ hid
  · rename_i hh; rw [if_neg hh]; exact route_low hF hd hn hid hc hcc hin hp
theorem offer_goal (s : St) (t : Int) (k : Nat) : (s.offer t k).1.toNat = k := by unfold St.offer; split <;> simp
/-- of goal d, as far as P says of the numbers: nothing heard, or on the way, is nearer than it is -/
structure Low (P : Int → Prop) (d : Nat) (D : Nat → Int) (S : NetV) : Prop where
  inn : ∀ i j, j < S.n → P ((S.x i).inn d j).2 → D j ≤ ((S.x i).inn d j).1
  msg : ∀ v, v ∈ S.m → ∀ k, k < v.k → (v.f k).1.toNat = d → P (v.f k).2.2 → D v.fr ≤ (v.f k).2.1
theorem Low.upd {P : Int → Prop} {d : Nat} {D : Nat → Int} {S : NetV} {k : Nat} {s : St} (h : Low P d D S) (hs : ∀ j, j < S.n → P (s.inn d j).2 → D j ≤ (s.inn d j).1) : Low P d D (S.upd k s) :=
  ⟨fun i j hj hp => by
    have e : (S.upd k s).x i = if i = k then s else S.x i := rfl
    rw [e] at hp ⊢
    split at hp
    · rename_i e; rw [if_pos e]; exact hs j hj hp
    · rename_i e; rw [if_neg e]; exact h.inn i j hj hp, h.msg⟩
theorem kept_low {o : Int × Int × Int} {x : Int} {P : Int → Prop} (hx : x ≤ 65535) (h : P o.2.2 → x ≤ o.2.1) (hp : P (kept o).2) : x ≤ (kept o).1 := by
  unfold kept at hp ⊢
  split at hp
  · rename_i e; rw [if_pos e]; exact hx
  · rename_i e; rw [if_neg e]; exact h hp
theorem Low.hears {P : Int → Prop} {n d : Nat} {c : Nat → Nat → Int} {D : Nat → Int} {S : NetV} (h : Low P d D S) (hF : GP.IsFar n c d D) (hn : S.n = n) (fr t : Nat) (f : Nat → Int × Int × Int) (m : Nat) (hf : ∀ k, k < m → (f k).1.toNat = d → P (f k).2.2 → D fr ≤ (f k).2.1) : Low P d D (S.upd t ((S.x t).hear fr f m)) :=
  h.upd (fun j hj hp => by
    rcases hear_inn (S.x t) fr f m d j with e | ⟨rfl, q, hq, hd, e⟩
    · rw [e] at hp ⊢; exact h.inn t j hj hp
    · rw [e] at hp ⊢
      exact kept_low (hF.high _ (by omega)) (hf q hq hd.symm) hp)
/-- the offers by which a node, that was s, tells are no nearer -/
theorem msgs_low {n d : Nat} {c : Nat → Nat → Int} {D : Nat → Int} (hF : GP.IsFar n c d D) (hd : d < n) (hcc : ∀ i j, c i j ≤ 1000) {P : Int → Prop} : ∀ (L : List Nat) (s : St) (a : Nat) (ms : List MsgV), s.n = n → s.id = a → a < n → (∀ j, j < n → (s.cost j).1 = c a j) →
    (∀ j, j < n → P (s.inn d j).2 → D j ≤ (s.inn d j).1) → IsMsgs s a L ms → ∀ v, v ∈ ms → ∀ k, k < v.k → (v.f k).1.toNat = d → P (v.f k).2.2 → D v.fr ≤ (v.f k).2.1
  | [], s, a, ms, _, _, _, _, _, h, v, hv => by
    have h' : ms = [] := h
    rw [h'] at hv
    cases hv
  | b :: L, s, a, ms, h1, h2, h3, h4, h5, h, v, hv => by
    obtain ⟨u, r, rfl, k1, k2, k3, k4, k5⟩ := h
    rcases List.mem_cons.1 hv with rfl | hv
    · intro k hk hkd hp
      rw [k4] at hkd hp ⊢
      rw [offer_goal] at hkd
      subst hkd
      rw [k1, ← h2]
      exact offer_low hF hd h1 (by omega) (by rw [h2]; exact h4) hcc h5 b hp
    · exact msgs_low hF hd hcc L (tl s b) a r ((tl_same s b).2.trans h1) ((tl_same s b).1.trans h2) h3 (by rw [tl_cost]; exact h4) (by rw [inn_tl]; exact h5) k5 v hv
theorem DoR.low {P : Int → Prop} {d : Nat} {D : Nat → Int} {S S' : NetV} {k a b n e : Int} (h : DoR S k a b n e S') (h1 : k ≠ 1) (hi : Ids S) (hc : Cst S) (hg : GG.Good S.c) (hd : d < S.n) (hF : GP.IsFar S.n S.c d D) (hM : ∀ v, v ∈ S.m → v.fr < S.n) (hL : Low P d D S) : Low P d D S' := by
  rcases h.cases with rfl | ⟨i, j, _, hk, _⟩ | ⟨v, m, hv, hm, hl, ⟨_, rfl⟩ | ⟨_, rfl⟩⟩ | ⟨i, hi', _, _, hl, ms, hms, rfl⟩ | ⟨i, _, _, _, rfl⟩ | ⟨i, _, _, _, rfl⟩
  · exact hL
  · exact absurd hk h1
  · have h2 : Low P d D ({ S with m := m } : NetV) := ⟨hL.inn, fun u hu => hL.msg u (hm u hu)⟩
    exact h2.hears hF rfl v.fr v.to_ v.f v.k (hL.msg v hv)
  · exact ⟨hL.inn, fun u hu => hL.msg u (hm u hu)⟩
  · refine ⟨fun x j hj hp => ?_, fun v hv => ?_⟩
    · have e : ((S.ticked i (nbl S.c i S.n) ms).x x).inn = (S.x x).inn := by
        show (if x = i then tlAll (S.x i) (nbl S.c i S.n) else S.x x).inn = _
        split
        · rename_i e; subst e; rw [inn_tlAll]
        · rfl
      rw [e] at hp ⊢
      exact hL.inn x j hj hp
    · rcases List.mem_append.1 hv with hv | hv
      · exact hL.msg v hv
      · have hii := hi i hi'
        exact msgs_low hF hd hg.high _ _ _ _ hii.2 hii.1 hi' (fun j hj => hc i j hi' hj) (fun j hj => hL.inn i j hj) hms v hv
  · exact hL.upd (fun j hj hp => by rw [fresh_inn] at hp ⊢; exact hL.inn i j hj hp)
  · exact hL.upd (fun j hj hp => hF.high j hj)
theorem low_dark {P : Int → Prop} {n d : Nat} {c : Nat → Nat → Int} {D : Nat → Int} {S : NetV} (hF : GP.IsFar n c d D) (hn : S.n = n) (h : Dark S) (hm : S.m = []) : Low P d D S :=
  ⟨fun i j hj _ => by rw [h i d j]; exact hF.high j (by omega), fun v hv => by rw [hm] at hv; cases hv⟩
theorem Low.metric {d : Nat} {D : Nat → Int} {S : NetV} (hL : Low (fun _ => True) d D S) (hi : Ids S) (hc : Cst S) (hg : GG.Good S.c) (hd : d < S.n) (hF : GP.IsFar S.n S.c d D) {i : Nat} (hin : i < S.n) : D i ≤ ((S.x i).route d).2.1.1 ∧ (((S.x i).route d).2.1.1 = 0 ↔ i = d) := by
  have hii := hi i hin
  have h1 := route_low (P := fun _ => True) hF hd hii.2 (by rw [hii.1]; exact hin) (by rw [hii.1]; exact fun j hj => hc i j hin hj) hg.high (fun j hj => hL.inn i j hj) trivial
  rw [hii.1] at h1
  refine ⟨h1, fun e => ?_, fun e => ?_⟩
  · rw [e] at h1
    apply Decidable.byContradiction
    intro hne
    have := hF.pos i hin hne
    omega
  · subst e
    have := route_self (S.x i) (by rw [hii.1, hii.2]; exact hin)
    rw [hii.1] at this
    rw [this]
end Net
end Go.Proofs.Ytebkpjefdaieaaa
