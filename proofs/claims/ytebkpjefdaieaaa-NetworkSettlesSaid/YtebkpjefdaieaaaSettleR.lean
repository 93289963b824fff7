/-
  Networks: what stands ahead of settling, and what is told again behind it. No program. Conditions: those that each theorem names.
-/
import Derived.Test.YtebkpjefdaieaaaSettleQ
namespace Go.Proofs.Ytebkpjefdaieaaa
open Go.RowKit FR FP H2 OW ChS
set_option linter.unusedVariables false
set_option linter.unusedSimpArgs false
namespace Net
open Eng GG
/-- what stands behind any acts; k: no number is greater -/
structure Pre (S : NetV) (k : Int) : Prop where
  ok : Ok S
  cst : Cst S
  diag : ∀ i, S.c i i = 0
  top : ∀ i d, i < S.n → d < S.n → ((S.x i).told d).1 < 65535 → ((S.x i).told d).2 ≤ (S.x d).seq
  seq : ∀ i, i < S.n → (S.x i).seq ≤ k
theorem pre_new (n : Nat) : Pre (NetV.new n) 1 := ⟨ok_new n, cst_new n, fun _ => rfl, fun i d _ _ h => by
  have h : (65535 : Int) < 65535 := h
  omega, fun i _ => Int.le_refl _⟩
theorem Pre.inn_top {S : NetV} {k : Int} (h : Pre S k) {i d j : Nat} (hd : d < S.n) (hj : j < S.n) (hx : ((S.x i).inn d j).1 < 65535) : ((S.x i).inn d j).2 ≤ (S.x d).seq := by
  have h1 := h.ok.inn i d j hx
  by_cases e : j = d
  · rw [if_pos e] at h1
    subst e
    exact h1.2
  · rw [if_neg e] at h1
    have h2 := h.top j d hj hd h1.1
    have h3 := h1.2
    rw [bet_false] at h3
    omega
theorem tl_seq (s : St) (t : Int) : (tl s t).seq = s.seq := by unfold tl; split <;> rfl
theorem tlAll_seq : ∀ (L : List Nat) (s : St), (tlAll s L).seq = s.seq
  | [], s => rfl
  | b :: L, s => (tlAll_seq L (tl s b)).trans (tl_seq s b)
theorem tl_top {s : St} {d : Nat} {Q : Int} (hd : d < s.n) (hs : s.id = d → s.seq ≤ Q) (ht : ∀ j, j < s.n → (s.inn d j).1 < 65535 → (s.inn d j).2 ≤ Q) (ho : (s.told d).1 < 65535 → (s.told d).2 ≤ Q) (t : Int) (hx : ((tl s t).told d).1 < 65535) : ((tl s t).told d).2 ≤ Q := by
  unfold tl at hx ⊢
  split at hx
  · rename_i hu
    rw [if_pos hu]
    have e : (s.tells t s.n).told d = if d < s.n ∧ s.best t d = true then (s.route d).2.1 else s.told d := rfl
    rw [e] at hx ⊢
    split at hx
    · rename_i h2; rw [if_pos h2]; exact route_top hd hs ht hx
    · rename_i h2; rw [if_neg h2]; exact ho hx
  · rename_i hu
    rw [if_neg hu]
    exact ho hx
theorem tlAll_top {d : Nat} {Q : Int} : ∀ (L : List Nat) (s : St), d < s.n → (s.id = d → s.seq ≤ Q) → (∀ j, j < s.n → (s.inn d j).1 < 65535 → (s.inn d j).2 ≤ Q) → ((s.told d).1 < 65535 → (s.told d).2 ≤ Q) → ((tlAll s L).told d).1 < 65535 → ((tlAll s L).told d).2 ≤ Q
  | [], s, _, _, _, ho, hx => ho hx
  | b :: L, s, hd, hs, ht, ho, hx => tlAll_top L (tl s b) (by rw [(tl_same s b).2]; exact hd) (by rw [(tl_same s b).1, tl_seq]; exact hs) (by rw [(tl_same s b).2, inn_tl]; exact ht) (fun h => tl_top hd hs ht ho b h) hx
theorem fresh_seq (s : St) : s.seq ≤ (Net.fresh s).seq ∧ (Net.fresh s).seq ≤ s.seq + 1 := by unfold Net.fresh; split <;> (constructor <;> (try dsimp only) <;> omega)
/-- told and numbers as they were, or better -/
theorem pre_upd {S : NetV} {k : Int} {i : Nat} {s : St} (h : Pre S k) (h1 : (S.x i).seq ≤ s.seq) (h2 : s.seq ≤ (S.x i).seq + 1) (h3 : s.told = (S.x i).told) :
    (∀ a d, a < S.n → d < S.n → (((S.upd i s).x a).told d).1 < 65535 → (((S.upd i s).x a).told d).2 ≤ ((S.upd i s).x d).seq) ∧ ∀ a, a < S.n → ((S.upd i s).x a).seq ≤ k + 1 := by
  have e : ∀ a, (S.upd i s).x a = if a = i then s else S.x a := fun a => rfl
  have et : ∀ a, ((S.upd i s).x a).told = (S.x a).told := fun a => by
    rw [e]; split
    · rename_i e; subst e; exact h3
    · rfl
  refine ⟨fun a d ha hd hx => ?_, fun a ha => ?_⟩
  · rw [et] at hx ⊢
    have := h.top a d ha hd hx
    rw [e]
    split
    · rename_i e; subst e; omega
    · exact this
  · rw [e]
    split
    · rename_i e; subst e; have := h.seq a ha; omega
    · have := h.seq a ha; omega
theorem DoR.pre {S S' : NetV} {k a b n e q : Int} (h : DoR S k a b n e S') (hi : Ids S) (hp : Pre S q) : Pre S' (q + 1) := by
  have hok := h.ok hi hp.ok
  have hcst := h.cst hi hp.cst
  rcases h.cases with rfl | ⟨i, j, _, _, h1, h2, hij, _, _, h0, h3, rfl⟩ | ⟨v, m, hv, hm, hl, ⟨_, rfl⟩ | ⟨_, rfl⟩⟩ | ⟨i, hi', _, _, hl, ms, hms, rfl⟩ | ⟨i, hi', _, _, rfl⟩ | ⟨i, hi', _, _, rfl⟩
  · exact ⟨hok, hcst, hp.diag, hp.top, fun i hi => by have := hp.seq i hi; omega⟩
  · have hx : ∀ a, (S.link i j n).x a = if a = j then (S.x j).link i n else if a = i then (S.x i).link j n else S.x a := fun a => rfl
    have ht : ∀ a, ((S.link i j n).x a).told = (S.x a).told ∧ ((S.link i j n).x a).seq = (S.x a).seq := fun a => by
      rw [hx]
      split
      · rename_i e; subst e; exact ⟨(link_same _ _ _).2.2.1, (link_same _ _ _).2.2.2⟩
      · split
        · rename_i e; subst e; exact ⟨(link_same _ _ _).2.2.1, (link_same _ _ _).2.2.2⟩
        · exact ⟨rfl, rfl⟩
    refine ⟨hok, hcst, fun a => ?_, fun a d ha hd => by rw [(ht a).1, (ht d).2]; exact hp.top a d ha hd, fun a ha => by rw [(ht a).2]; have := hp.seq a ha; omega⟩
    show GG.lnc S.n S.c (i : Int) (j : Int) n a a = 0
    unfold GG.lnc
    split
    · show (if a = j ∧ a = i then n else if a = i ∧ a = j then n else S.c a a) = 0
      rw [if_neg (by omega), if_neg (by omega)]
      exact hp.diag a
    · exact hp.diag a
  · have h2 := pre_upd (S := S) (i := v.to_) (s := (S.x v.to_).hear v.fr v.f v.k) hp (by rw [(hear_told _ _ _ _).2.1]; exact Int.le_refl _) (by rw [(hear_told _ _ _ _).2.1]; omega) (hear_told _ _ _ _).1
    exact ⟨hok, hcst, hp.diag, h2.1, h2.2⟩
  · exact ⟨hok, hcst, hp.diag, hp.top, fun i hi => Int.le_trans (hp.seq i hi) (by omega)⟩
  · have hx : ∀ x, (S.ticked i (nbl S.c i S.n) ms).x x = if x = i then tlAll (S.x i) (nbl S.c i S.n) else S.x x := fun x => rfl
    have hs : ∀ x, ((S.ticked i (nbl S.c i S.n) ms).x x).seq = (S.x x).seq := fun x => by
      rw [hx]; split
      · rename_i e; subst e; exact tlAll_seq _ _
      · rfl
    refine ⟨hok, hcst, hp.diag, fun x d hx' hd => ?_, fun x hx' => by rw [hs]; have := hp.seq x hx'; omega⟩
    rw [hs, hx]
    split
    · rename_i e
      subst e
      have hii := hi x hi'
      exact tlAll_top _ _ (by rw [hii.2]; exact hd) (fun e => by rw [hii.1] at e; subst e; exact Int.le_refl _) (fun j hj => hp.inn_top hd (by rw [hii.2] at hj; exact hj)) (hp.top x d hx' hd)
    · exact hp.top x d hx' hd
  · have h2 := pre_upd (S := S) (i := i) (s := Net.fresh (S.x i)) hp (fresh_seq _).1 (fresh_seq _).2 (fresh_same _).2.2.2.2
    exact ⟨hok, hcst, hp.diag, h2.1, h2.2⟩
  · have h2 := pre_upd (S := S) (i := i) (s := (S.x i).clear) hp (Int.le_refl _) (by show (S.x i).seq ≤ (S.x i).seq + 1; omega) rfl
    exact ⟨hok, hcst, hp.diag, h2.1, h2.2⟩
theorem fresh_up {s : St} (h : s.seq ≠ 4294967295) : (Net.fresh s).seq = s.seq + 1 := by unfold Net.fresh; rw [if_neg h]
theorem wf_freshN {s : St} (h : Wf s) : Wf (Net.fresh s) := by
  unfold Net.fresh
  split
  · exact h
  · rename_i e; exact wf_fresh h e
/-- begun with new numbers -/
theorem run_fresh {S : NetV} {k : Int} (hp : Pre S k) (hk : k < 4294967295) (hi : Ids S) (hw : ∀ i, i < S.n → Wf (S.x i)) (hg : GG.Good S.c) {d : Nat} (hd : d < S.n) {D : Nat → Int} (hF : GP.IsFar S.n S.c d D) : Run S.n S.c d ((S.x d).seq + 1) D (S.fresh S.n) := by
  have hx : ∀ i, i < S.n → (S.fresh S.n).x i = Net.fresh (S.x i) := fun i hi => by rw [fresh_x, if_pos hi]
  have hinn : ∀ i, ((S.fresh S.n).x i).inn = (S.x i).inn := fun i => by
    rw [fresh_x]; split
    · exact fresh_inn _
    · rfl
  have htold : ∀ i, ((S.fresh S.n).x i).told = (S.x i).told := fun i => by
    rw [fresh_x]; split
    · exact (fresh_same _).2.2.2.2
    · rfl
  have hst : Stand S.n S.c (S.fresh S.n) := ⟨rfl, rfl, hi.fresh S.n, fun i hi => by rw [hx i hi]; exact wf_freshN (hw i hi), fun i j hi hj => by rw [hx i hi, (fresh_same _).2.2.1]; exact hp.cst i j hi hj, hg, hp.diag⟩
  refine ⟨⟨hst, hp.ok.fresh S.n, ?_, fun i j hi hj hlt => ?_, fun i hi hlt => ?_, fun i j hi hj _ hlt hq => ?_, fun i hi _ hlt hq => ?_⟩, ⟨fun i j hj hq => ?_, fun v hv => by cases hv⟩⟩
  · rw [hx d hd, fresh_up (by have := hp.seq d hd; omega)]
  · rw [hinn] at hlt ⊢
    have := hp.inn_top (i := i) hd hj hlt
    omega
  · rw [htold] at hlt ⊢
    have := hp.top i d hi hd hlt
    omega
  · rw [hinn] at hlt hq
    have := hp.inn_top (i := i) hd hj hlt
    omega
  · rw [htold] at hlt hq
    have := hp.top i d hi hd hlt
    omega
  · rw [hinn] at hq ⊢
    by_cases hlt : ((S.x i).inn d j).1 < 65535
    · have := hp.inn_top (i := i) hd hj hlt
      omega
    · have := hF.high j hj
      omega
theorem settled_of {S : NetV} {k : Int} (hp : Pre S k) (hk : k < 4294967295) (hi : Ids S) (hw : ∀ i, i < S.n → Wf (S.x i)) (hg : GG.Good S.c) {d : Nat} (hd : d < S.n) {D : Nat → Int} (hF : GP.IsFar S.n S.c d D) : Settled S.n S.c d ((S.x d).seq + 1) D S.settle :=
  (At.spin (run_fresh hp hk hi hw hg hd hF) hF hd S.n).settled
theorem settle_same (S : NetV) : S.settle.n = S.n ∧ S.settle.c = S.c ∧ S.settle.m = [] := by
  have h := spin_same (S.fresh S.n) S.n
  exact ⟨h.1, h.2.1, h.2.2⟩
/-! what is told again -/
theorem route_tl (s : St) (t : Int) (d : Nat) (hd : d < s.n) (hw : Wf s) : (tl s t).route d = s.route d := by
  unfold tl
  split
  · exact route_told s t s.n d hd hw
  · rfl
theorem route_tlAll : ∀ (L : List Nat) (s : St) (d : Nat), d < s.n → Wf s → (tlAll s L).route d = s.route d
  | [], s, d, _, _ => rfl
  | b :: L, s, d, hd, hw => (route_tlAll L (tl s b) d (by rw [(tl_same s b).2]; exact hd) (wf_tl hw b)).trans (route_tl s b d hd hw)
theorem wf_tlAll : ∀ (L : List Nat) (s : St), Wf s → Wf (tlAll s L)
  | [], s, h => h
  | b :: L, s, h => wf_tlAll L (tl s b) (wf_tl h b)
theorem offer_congr {s s' : St} {t : Int} {d : Nat} (h : s'.route d = s.route d) : s'.offer t d = s.offer t d := by
  unfold St.offer St.hid
  rw [h]
theorem msgs_route {d : Nat} : ∀ (L : List Nat) (s : St) (a : Nat) (ms : List MsgV), IsMsgs s a L ms → Wf s → d < s.n → ∀ v, v ∈ ms → v.fr = a ∧ v.to_ ∈ L ∧ (∀ k, (v.f k).1.toNat = k) ∧ v.f d = s.offer v.to_ d
  | [], s, a, ms, h, _, _, v, hv => by
    have h' : ms = [] := h
    rw [h'] at hv
    cases hv
  | b :: L, s, a, ms, h, hw, hd, v, hv => by
    obtain ⟨u, r, rfl, k1, k2, k3, k4, k5⟩ := h
    rcases List.mem_cons.1 hv with rfl | hv
    · exact ⟨k1, by rw [k2]; exact List.mem_cons_self, fun k => by rw [k4]; exact offer_goal _ _ _, by rw [k4, k2]⟩
    · obtain ⟨g1, g2, g3, g4⟩ := msgs_route L (tl s b) a r k5 (wf_tl hw b) (by rw [(tl_same s b).2]; exact hd) v hv
      exact ⟨g1, List.mem_cons_of_mem _ g2, g3, by rw [g4]; exact offer_congr (route_tl s b d hd hw)⟩
theorem fea_up {s s' : St} (hu : Up s s') {d : Nat} {p : Int × Int} (h1 : p.1 < 65535) (h : fea p.1 p.2 (s.told d).1 (s.told d).2 = false) : fea p.1 p.2 (s'.told d).1 (s'.told d).2 = false := by
  have h2 : ¬ (65535 ≤ (s.told d).1 ∨ bet p.1 p.2 (s.told d).1 (s.told d).2 = true) := fun hh => by
    rw [(fea_iff _ _ _ _).2 ⟨h1, hh⟩] at h; cases h
  obtain ⟨h3, h4⟩ := hu.told d (by apply Decidable.byContradiction; intro hh; exact h2 (.inl (by omega)))
  have h5 : bet p.1 p.2 (s.told d).1 (s.told d).2 = false := by
    cases hb : bet p.1 p.2 (s.told d).1 (s.told d).2
    · rfl
    · exact absurd (.inr hb) h2
  cases hf : fea p.1 p.2 (s'.told d).1 (s'.told d).2
  · rfl
  · rcases ((fea_iff _ _ _ _).1 hf).2 with h6 | h6
    · omega
    · rw [bet_tr h5 h4] at h6; cases h6
/-- settled, and what is on the way says nothing else -/
structure Calm2 (n : Nat) (c : Nat → Nat → Int) (d : Nat) (Q : Int) (D : Nat → Int) (S : NetV) : Prop where
  set : Settled n c d Q D S
  msg : ∀ v, v ∈ S.m → v.fr < n ∧ v.to_ < n ∧ ∀ k, k < v.k → (v.f k).1.toNat = d → ((v.f k).2.1 < 65535 → (v.f k).2.2 = Q ∧ D v.fr ≤ (v.f k).2.1) ∧ (D v.fr + c v.fr v.to_ = D v.to_ → D v.to_ < 65535 → (v.f k).2 = (D v.fr, Q))
section
variable {n : Nat} {c : Nat → Nat → Int} {d : Nat} {Q : Int} {S : NetV} {D : Nat → Int}
theorem calm_hear (h : Calm2 n c d Q D S) (hF : GP.IsFar n c d D) (hd : d < n) {v : MsgV} {m : List MsgV} (hv : v ∈ S.m) (hm : ∀ u, u ∈ m → u ∈ S.m) (hw : Wf ((S.x v.to_).hear v.fr v.f v.k)) : Calm2 n c d Q D (({ S with m := m } : NetV).hear v) := by
  obtain ⟨ha, ht, hk⟩ := h.msg v hv
  have hit := h.set.st.ids v.to_ ht
  have hto := hear_told (S.x v.to_) v.fr v.f v.k
  have hsa := hear_same (S.x v.to_) v.fr v.f v.k
  have e : ∀ i, ((({ S with m := m } : NetV).hear v).x i) = if i = v.to_ then (S.x v.to_).hear v.fr v.f v.k else S.x i := fun i => rfl
  have hnew : ∀ j, ((S.x v.to_).hear v.fr v.f v.k).inn d j = (S.x v.to_).inn d j ∨ j = v.fr ∧ ∃ q, q < v.k ∧ (v.f q).1.toNat = d ∧ ((S.x v.to_).hear v.fr v.f v.k).inn d j = kept (v.f q) := fun j => by
    rcases hear_inn (S.x v.to_) v.fr v.f v.k d j with h1 | ⟨h1, q, h2, h3, h4⟩
    · exact .inl h1
    · exact .inr ⟨h1, q, h2, h3.symm, h4⟩
  have htop : ∀ j, j < n → (((S.x v.to_).hear v.fr v.f v.k).inn d j).1 < 65535 → (((S.x v.to_).hear v.fr v.f v.k).inn d j).2 ≤ Q := fun j hj hx => by
    rcases hnew j with h1 | ⟨rfl, q, h2, h3, h4⟩
    · rw [h1] at hx ⊢; exact h.set.top _ _ ht hj hx
    · rw [h4] at hx ⊢
      have hke := kept_of hx
      rw [hke] at hx ⊢
      rw [((hk q h2 h3).1 hx).1]
      exact Int.le_refl _
  refine ⟨⟨Stand.upd (S := ({ S with m := m } : NetV)) ⟨h.set.st.n_, h.set.st.c_, h.set.st.ids, h.set.st.wf, h.set.st.cst, h.set.st.good, h.set.st.diag⟩ hsa.1 hsa.2 hw hto.2.2, ?_, fun i j hi hj hx => ?_, fun i j hi hj hq => ?_, fun i hi hD => ?_, fun i j hi hj hid hij hx hq => ?_⟩, fun u hu => h.msg u (hm u hu)⟩
  · rw [e]
    split
    · rename_i e2; rw [hto.2.1, ← e2]; exact h.set.seq
    · exact h.set.seq
  · rw [e] at hx ⊢
    split at hx
    · rename_i e2; rw [if_pos e2]; exact htop j hj hx
    · rename_i e2; rw [if_neg e2]; exact h.set.top i j hi hj hx
  · rw [e] at hq ⊢
    split at hq
    · rename_i e2
      rw [if_pos e2]
      rcases hnew j with h1 | ⟨rfl, q, h2, h3, h4⟩
      · rw [h1] at hq ⊢; exact h.set.low _ _ ht hj hq
      · rw [h4] at hq ⊢
        by_cases hx : (kept (v.f q)).1 < 65535
        · have hke := kept_of hx
          rw [hke] at hx ⊢
          exact ((hk q h2 h3).1 hx).2
        · have := hF.high v.fr ha
          omega
    · rename_i e2; rw [if_neg e2]; exact h.set.low i j hi hj hq
  · rw [e]
    split
    · rename_i e2
      subst e2
      refine has_hear (a := v.fr) (by rw [hit.2]; exact hd) hsa.1 hsa.2 hto.2.2 hto.1 hto.2.1 (fun j hj => ?_) (fun j hj => htop j (by rw [hit.2] at hj; exact hj)) (fun h1 h2 h3 h4 _ => ?_) (h.set.has v.to_ ht hD)
      · rcases hnew j with g1 | ⟨g1, _⟩
        · exact g1
        · exact absurd g1 hj
      · obtain ⟨_, _, r3⟩ := h.set.route hF hd ht
        rw [if_pos ⟨hD, fun e => h1 (by rw [hit.1]; exact e.symm)⟩] at r3
        obtain ⟨k, r4, r5, r6, r7, r8, r9⟩ := r3
        obtain rfl : k = v.fr := by omega
        rw [r9]
        rcases hnew v.fr with g1 | ⟨_, q, g2, g3, g4⟩
        · rw [g1, r9]
          exact ⟨rfl, Int.le_refl _⟩
        · have hsy := h.set.st.good.sym v.fr v.to_
          have g5 := (hk q g2 g3).2 (by omega) hD
          have g6 := h.set.st.good.low v.to_ v.fr
          rw [g4, kept_lt (by rw [g5]; show D v.fr < 65535; omega), g5]
          exact ⟨rfl, Int.le_refl _⟩
    · exact h.set.has i hi hD
  · rw [e] at hx hq ⊢
    split at hx
    · rename_i e2
      rw [if_pos e2] at hq ⊢
      rw [hto.1]
      rcases hnew j with h1 | ⟨rfl, q, h2, h3, h4⟩
      · rw [h1] at hx hq ⊢
        subst e2
        exact h.set.old _ j hi hj hid hij hx hq
      · exfalso
        rw [h4] at hx hq
        have hke := kept_of hx
        rw [hke] at hx hq
        exact hq ((hk q h2 h3).1 hx).1
    · rename_i e2
      rw [if_neg e2] at hq ⊢
      exact h.set.old i j hi hj hid hij hx hq
theorem calm_tick (h : Calm2 n c d Q D S) (hF : GP.IsFar n c d D) (hd : d < n) {i : Nat} (hi : i < n) {ms : List MsgV} (hms : IsMsgs (S.x i) i (nbl S.c i S.n) ms) : Calm2 n c d Q D (S.ticked i (nbl S.c i S.n) ms) := by
  have e : ∀ x, (S.ticked i (nbl S.c i S.n) ms).x x = if x = i then tlAll (S.x i) (nbl S.c i S.n) else S.x x := fun x => rfl
  have hii := h.set.st.ids i hi
  have hwi := h.set.st.wf i hi
  have hinn : ∀ x, ((S.ticked i (nbl S.c i S.n) ms).x x).inn = (S.x x).inn := fun x => by
    rw [e]; split
    · rename_i e; subst e; exact inn_tlAll _ _
    · rfl
  have hup : ∀ x, Up (S.x x) ((S.ticked i (nbl S.c i S.n) ms).x x) := fun x => by
    rw [e]; split
    · rename_i e; subst e; exact up_tlAll _ _
    · exact Up.refl _
  refine ⟨⟨⟨h.set.st.n_, h.set.st.c_, fun x hx => ?_, fun x hx => ?_, fun x j hx hj => ?_, h.set.st.good, h.set.st.diag⟩, ?_, fun x j hx hj hlt => ?_, fun x j hx hj hq => ?_, fun x hx hD => ?_, fun x j hx hj hxd hxj hlt hq => ?_⟩, fun v hv => ?_⟩
  · rw [e]; split
    · rename_i e; subst e; rw [(tlAll_same _ _).1, (tlAll_same _ _).2]; exact hii
    · exact h.set.st.ids x hx
  · rw [e]; split
    · exact wf_tlAll _ _ hwi
    · exact h.set.st.wf x hx
  · rw [e]; split
    · rename_i e; subst e; rw [tlAll_cost]; exact h.set.st.cst x j hx hj
    · exact h.set.st.cst x j hx hj
  · rw [e]; split
    · rename_i e; rw [tlAll_seq, ← e]; exact h.set.seq
    · exact h.set.seq
  · rw [hinn] at hlt ⊢; exact h.set.top x j hx hj hlt
  · rw [hinn] at hq ⊢; exact h.set.low x j hx hj hq
  · have := h.set.has x hx hD
    rw [e]; split
    · rename_i e; subst e; exact this.congr (route_tlAll _ _ _ (by rw [hii.2]; exact hd) hwi)
    · exact this
  · rw [hinn] at hlt hq ⊢
    exact fea_up (hup x) hlt (h.set.old x j hx hj hxd hxj hlt hq)
  · rcases List.mem_append.1 hv with hv | hv
    · exact h.msg v hv
    · obtain ⟨g1, g2, g3, g4⟩ := msgs_route (d := d) _ _ _ _ hms hwi (by rw [hii.2]; exact hd) v hv
      have g5 := (nbl_mem S.c i v.to_ S.n).1 g2
      rw [h.set.st.n_, h.set.st.c_] at g5
      rw [g1]
      refine ⟨hi, g5.1, fun k hk hkd => ?_⟩
      rw [g3] at hkd
      subst hkd
      rw [g4]
      obtain ⟨r1, r2, r3⟩ := h.set.route hF hd hi
      rcases offer_cases (S.x i) v.to_ k with ⟨o1, o2⟩ | ⟨o1, o2, o3⟩
      · rw [o1]
        refine ⟨fun hx => by have hx : (65535 : Int) < 65535 := hx; omega, fun q1 q2 => ?_⟩
        exfalso
        have hDi : D i < 65535 := by omega
        rcases o2 with o2 | o2
        · rw [(r2 hDi).1] at o2; cases o2
        · by_cases hik : i = k
          · rw [if_neg (fun hh => hh.2 hik)] at r3
            omega
          · rw [if_pos ⟨hDi, hik⟩] at r3
            obtain ⟨z, z1, _, z3, z4, _⟩ := r3
            obtain rfl : z = v.to_ := by omega
            omega
      · rw [o1]
        refine ⟨fun hx => ⟨(r2 (by omega)).2, by omega⟩, fun q1 q2 => ?_⟩
        have hDi : D i < 65535 := by omega
        exact Prod.ext r1 (r2 hDi).2
theorem DoR.calm {S' : NetV} {k a b x e : Int} (hdo : DoR S k a b x e S') (hk : k = 2 ∨ k = 3) (hw : ∀ i, i < n → Wf (S'.x i)) (h : Calm2 n c d Q D S) (hF : GP.IsFar n c d D) (hd : d < n) : Calm2 n c d Q D S' := by
  rcases hdo.cases with rfl | ⟨i, j, _, h1, _⟩ | ⟨v, m, hv, hm, hl, ⟨_, rfl⟩ | ⟨h1, rfl⟩⟩ | ⟨i, hi, _, _, hl, ms, hms, rfl⟩ | ⟨i, _, h1, _, rfl⟩ | ⟨i, _, h1, _, rfl⟩
  · exact h
  · omega
  · have ht := (h.msg v hv).2.1
    have h2 := hw v.to_ ht
    have e : (({ S with m := m } : NetV).hear v).x v.to_ = (S.x v.to_).hear v.fr v.f v.k := by
      show (if v.to_ = v.to_ then _ else _) = _
      rw [if_pos rfl]
    rw [e] at h2
    exact calm_hear h hF hd hv hm h2
  · omega
  · exact calm_tick h hF hd (by rw [h.set.st.n_] at hi; exact hi) hms
  · omega
  · omega
end
end Net
end Go.Proofs.Ytebkpjefdaieaaa
