/-
  Networks: all rounds. No program. Conditions: those that each theorem names.
-/
import Derived.Test.YtebkpjefdaieaaaSettleP
namespace Go.Proofs.Ytebkpjefdaieaaa
open Go.RowKit FR FP H2 OW ChS
set_option linter.unusedVariables false
set_option linter.unusedSimpArgs false
namespace Net
open Eng GG
/-- how many say yes -/
def cnt (f : Nat → Bool) : Nat → Nat
  | 0 => 0
  | n + 1 => cnt f n + (if f n = true then 1 else 0)
theorem cnt_mono {f g : Nat → Bool} (h : ∀ i, f i = true → g i = true) : ∀ n, cnt f n ≤ cnt g n
  | 0 => Nat.le_refl _
  | n + 1 => by
    have := cnt_mono h n
    unfold cnt
    split
    · rename_i e; rw [if_pos (h n e)]; omega
    · split <;> omega
theorem cnt_le (f : Nat → Bool) : ∀ n, cnt f n ≤ n
  | 0 => Nat.le_refl _
  | n + 1 => by
    have := cnt_le f n
    unfold cnt
    split <;> omega
theorem cnt_lt {f g : Nat → Bool} (h : ∀ i, f i = true → g i = true) {a : Nat} (h1 : f a = false) (h2 : g a = true) : ∀ n, a < n → cnt f n < cnt g n
  | 0, hn => by omega
  | n + 1, hn => by
    unfold cnt
    by_cases e : a = n
    · subst e
      have := cnt_mono h a
      rw [h1, h2]
      simp
      omega
    · have := cnt_lt h h1 h2 n (by omega)
      split
      · rename_i e; rw [if_pos (h n e)]; omega
      · split <;> omega
theorem cnt_all {f : Nat → Bool} {a : Nat} (h : f a = false) : ∀ n, a < n → cnt f n < n
  | 0, hn => by omega
  | n + 1, hn => by
    unfold cnt
    by_cases e : a = n
    · subst e
      have := cnt_le f a
      rw [h]
      simp
      omega
    · have := cnt_all h n (by omega)
      split <;> omega
/-- did k tell of d as well as p? -/
def tellsB (S : NetV) (d : Nat) (p : Int × Int) (k : Nat) : Bool := decide (((S.x k).told d).1 < 65535) && !bet p.1 p.2 ((S.x k).told d).1 ((S.x k).told d).2
theorem tellsB_iff (S : NetV) (d : Nat) (p : Int × Int) (k : Nat) : tellsB S d p k = true ↔ ((S.x k).told d).1 < 65535 ∧ bet p.1 p.2 ((S.x k).told d).1 ((S.x k).told d).2 = false := by
  unfold tellsB
  simp
/-- of an entry that isn't of number Q: r nodes at least told as well -/
def Ent (n d : Nat) (Q : Int) (r : Nat) (S : NetV) (i j : Nat) : Prop := ((S.x i).inn d j).1 < 65535 → ((S.x i).inn d j).2 ≠ Q → r ≤ cnt (tellsB S d ((S.x i).inn d j)) n
section
variable {n : Nat} {c : Nat → Nat → Int} {d : Nat} {Q : Int} {S : NetV} {D : Nat → Int}
theorem up_say (h : Stand n c S) {a t : Nat} (ha : a < n) (ht : t < n) (hc : 0 < c a t) (i : Nat) : Up (S.x i) ((S.say a t).x i) := by
  obtain ⟨hat, e1, e2, e3⟩ := say_is h ha ht hc
  by_cases h1 : i = t
  · subst h1; rw [e1]; exact Up.of_eq (takes_told _ _ _ _).2.1 (takes_told _ _ _ _).1
  · by_cases h2 : i = a
    · subst h2; rw [e2]; exact up_tells _ _ _ (by rw [(h.ids i ha).2]; exact Nat.le_refl _)
    · rw [e3 i h1 h2]; exact Up.refl _
theorem tellsB_up {S S' : NetV} (hu : ∀ i, Up (S.x i) (S'.x i)) (p : Int × Int) (k : Nat) (h : tellsB S d p k = true) : tellsB S' d p k = true := by
  rw [tellsB_iff] at h ⊢
  obtain ⟨h1, h2⟩ := (hu k).told d h.1
  exact ⟨h1, bet_tr h.2 h2⟩
theorem Inv.ent_say (h : Inv n c d Q S) (hd : d < n) {a t : Nat} (ha : a < n) (ht : t < n) (hc : 0 < c a t) {r : Nat} (hr : ∀ i j, i < n → j < n → i ≠ d → 0 < c i j → Ent n d Q r S i j) :
    (∀ i j, i < n → j < n → i ≠ d → 0 < c i j → Ent n d Q r (S.say a t) i j) ∧ (t ≠ d → Ent n d Q (r + 1) (S.say a t) t a) ∧ (∀ i j, i < n → j < n → i ≠ d → 0 < c i j → Ent n d Q (r + 1) S i j → Ent n d Q (r + 1) (S.say a t) i j) := by
  have hu := up_say h.st ha ht hc
  have hta : t ≠ d → Ent n d Q (r + 1) (S.say a t) t a := by
    intro htd hx hq
    have hdt : d ≠ t := fun e => htd e.symm
    have hin := say_inn h.st hd ha ht hc t a
    rw [if_pos ⟨rfl, rfl, hdt⟩] at hin
    rw [hin] at hx hq ⊢
    have hk := kept_of hx
    rw [hk] at hx hq ⊢
    rcases offer_cases (S.x a) t d with ⟨h2, _⟩ | ⟨h2, hok, hnt⟩
    · rw [h2] at hx
      have hx : (65535 : Int) < 65535 := hx
      omega
    · rw [h2] at hx hq ⊢
      have hia := h.st.ids a ha
      have hda : d ≠ (S.x a).id := fun e => by
        rw [e, route_self _ (by omega)] at hq
        rw [hia.1] at e
        subst e
        exact hq h.seq
      rcases route_spec (S.x a) d (by rw [hia.2]; exact hd) hda with ⟨h3, _⟩ | ⟨k, h3, hkn, hm, _⟩
      · rw [h3] at hok; cases hok
      · have hkn : k < n := by rw [hia.2] at hkn; exact hkn
        have hck : 0 < c a k := by rw [← h.st.cst a k ha hkn]; exact hm.2.1
        have hf := (fea_iff _ _ _ _).1 hm.1
        rw [h3] at hx hq ⊢
        have hrk := hr a k ha hkn (by rw [hia.1] at hda; exact fun e => hda e.symm) hck hf.1 hq
        have hadd : ((S.x a).inn d k).1 ≤ addm ((S.x a).inn d k).1 ((S.x a).cost k).1 := by
          have := hm.2.2
          have := hm.2.1
          unfold addm cl at *
          omega
        have key : cnt (tellsB S d ((S.x a).inn d k)) n < cnt (tellsB (S.say a t) d (addm ((S.x a).inn d k).1 ((S.x a).cost k).1, ((S.x a).inn d k).2)) n := by
          refine cnt_lt (a := a) (fun i hi => ?_) ?_ ?_ n ha
          · have h5 := tellsB_up hu _ i hi
            rw [tellsB_iff] at h5 ⊢
            refine ⟨h5.1, ?_⟩
            have h6 := h5.2
            rw [bet_false] at h6 ⊢
            dsimp only
            omega
          · cases hb : tellsB S d ((S.x a).inn d k) a
            · rfl
            · rw [tellsB_iff] at hb
              rcases hf.2 with h5 | h5
              · omega
              · rw [hb.2] at h5; cases h5
          · have h5 := tld_offer (S.x a) t d (by rw [hia.2]; exact hd)
            rw [h2, h3] at h5
            have h5 := h5 hx
            rw [if_neg (fun e => hda e.symm), hia.2] at h5
            rw [tellsB_iff, (say_is h.st ha ht hc).2.2.1]
            exact h5
        exact Nat.le_trans (Nat.succ_le_succ hrk) key
  have hold : ∀ i j, ¬ (i = t ∧ j = a ∧ d ≠ t) → ∀ q, Ent n d Q q S i j → Ent n d Q q (S.say a t) i j := fun i j hij q he hx hq => by
    have hin := say_inn h.st hd ha ht hc i j
    rw [if_neg hij] at hin
    rw [hin] at hx hq ⊢
    exact Nat.le_trans (he hx hq) (cnt_mono (fun k hk => tellsB_up hu _ k hk) n)
  refine ⟨fun i j hi hj hid hij => ?_, hta, fun i j hi hj hid hij he => ?_⟩
  · by_cases e : i = t ∧ j = a ∧ d ≠ t
    · obtain ⟨rfl, rfl, e⟩ := e
      exact fun hx hq => Nat.le_of_succ_le (hta hid hx hq)
    · exact hold i j e r (hr i j hi hj hid hij)
  · by_cases e : i = t ∧ j = a ∧ d ≠ t
    · obtain ⟨rfl, rfl, e⟩ := e
      exact hta hid
    · exact hold i j e _ he
/-- what all rounds keep, with how far each one is -/
structure Run (n : Nat) (c : Nat → Nat → Int) (d : Nat) (Q : Int) (D : Nat → Int) (S : NetV) : Prop where
  inv : Inv n c d Q S
  low : Low (fun q => q = Q) d D S
theorem Run.say (h : Run n c d Q D S) (hF : GP.IsFar n c d D) (hd : d < n) {a t : Nat} (ha : a < n) (ht : t < n) (hc : 0 < c a t) : Run n c d Q D (S.say a t) := by
  refine ⟨h.inv.say hd ha ht hc, ⟨fun i j hj hp => ?_, h.low.msg⟩⟩
  have hin := say_inn h.inv.st hd ha ht hc i j
  have hjn : j < n := by
    have e : (S.say a t).n = S.n := rfl
    rw [e, h.inv.st.n_] at hj
    exact hj
  clear hj
  rw [hin] at hp ⊢
  by_cases e : i = t ∧ j = a ∧ d ≠ t
  · rw [if_pos e] at hp ⊢
    obtain ⟨rfl, rfl, _⟩ := e
    refine kept_low (P := fun q => q = Q) (hF.high _ hjn) (fun hq => ?_) hp
    have := offer_low (s := S.x j) (P := fun q => q = Q) hF hd (h.inv.st.ids j hjn).2 (by rw [(h.inv.st.ids j hjn).1]; exact hjn) (by rw [(h.inv.st.ids j hjn).1]; exact fun k hk => h.inv.st.cst j k hjn hk) h.inv.st.good.high (fun k hk => h.low.inn j k (by rw [h.inv.st.n_]; exact hk)) i hq
    rw [(h.inv.st.ids j hjn).1] at this
    exact this
  · rw [if_neg e] at hp ⊢
    exact h.low.inn i j (by rw [h.inv.st.n_]; exact hjn) hp
/-- what a round brings: who was told by a -/
structure Step (n : Nat) (c : Nat → Nat → Int) (d : Nat) (Q : Int) (D : Nat → Int) (r : Nat) (S S' : NetV) : Prop where
  run : Run n c d Q D S'
  has : ∀ i x, i < n → HasN (S.x i) d Q x → HasN (S'.x i) d Q x
  ent : ∀ i j, i < n → j < n → i ≠ d → 0 < c i j → Ent n d Q r S' i j
  ent1 : ∀ i j, i < n → j < n → i ≠ d → 0 < c i j → Ent n d Q (r + 1) S i j → Ent n d Q (r + 1) S' i j
def Told1 (n : Nat) (c : Nat → Nat → Int) (d : Nat) (Q : Int) (r : Nat) (S S' : NetV) (a t : Nat) : Prop :=
  (t ≠ d → Ent n d Q (r + 1) S' t a) ∧ ∀ x, HasN (S.x a) d Q x → x + c a t < 65535 → HasN (S'.x t) d Q (x + c a t)
theorem Step.refl {r : Nat} (h : Run n c d Q D S) (he : ∀ i j, i < n → j < n → i ≠ d → 0 < c i j → Ent n d Q r S i j) : Step n c d Q D r S S := ⟨h, fun _ _ _ h => h, he, fun _ _ _ _ _ _ h => h⟩
theorem Step.say {r : Nat} {S0 : NetV} (h : Step n c d Q D r S0 S) (hF : GP.IsFar n c d D) (hd : d < n) {a t : Nat} (ha : a < n) (ht : t < n) (hc : 0 < c a t) : Step n c d Q D r S0 (S.say a t) ∧ Told1 n c d Q r S0 (S.say a t) a t := by
  obtain ⟨e1, e2, e3⟩ := h.run.inv.ent_say hd ha ht hc h.ent
  refine ⟨⟨h.run.say hF hd ha ht hc, fun i x hi hx => h.run.inv.has_say hd ha ht hc hi (h.has i x hi hx), e1, fun i j hi hj hid hij he => e3 i j hi hj hid hij (h.ent1 i j hi hj hid hij he)⟩, e2, fun x hx hl => ?_⟩
  exact h.run.inv.reach hd ha ht hc (h.has a x ha hx) hl
theorem Told1.say {r : Nat} {S0 : NetV} (h : Step n c d Q D r S0 S) (hd : d < n) {a t b u : Nat} (hk : Told1 n c d Q r S0 S b u) (hb : b < n) (hu : u < n) (hcb : 0 < c b u) (ha : a < n) (ht : t < n) (hc : 0 < c a t) : Told1 n c d Q r S0 (S.say a t) b u := by
  obtain ⟨e1, e2, e3⟩ := h.run.inv.ent_say hd ha ht hc h.ent
  exact ⟨fun hud => e3 u b hu hb hud (by rw [h.run.inv.st.good.sym]; exact hcb) (hk.1 hud), fun x hx hl => h.run.inv.has_say hd ha ht hc hu (hk.2 x hx hl)⟩
theorem Step.sayAll {r : Nat} {S0 : NetV} (hF : GP.IsFar n c d D) (hd : d < n) {a : Nat} (ha : a < n) : ∀ (L : List Nat) (S : NetV), (∀ t, t ∈ L → t < n ∧ 0 < c a t) → Step n c d Q D r S0 S →
    Step n c d Q D r S0 (S.sayAll a L) ∧ (∀ t, t ∈ L → Told1 n c d Q r S0 (S.sayAll a L) a t) ∧ ∀ b u, b < n → u < n → 0 < c b u → Told1 n c d Q r S0 S b u → Told1 n c d Q r S0 (S.sayAll a L) b u
  | [], S, _, h => ⟨h, (fun t ht => by cases ht), fun _ _ _ _ _ h => h⟩
  | t :: L, S, hL, h => by
    have ht := hL t List.mem_cons_self
    obtain ⟨h1, h2⟩ := h.say hF hd ha ht.1 ht.2
    obtain ⟨k1, k2, k3⟩ := Step.sayAll hF hd ha L (S.say a t) (fun u hu => hL u (List.mem_cons_of_mem _ hu)) h1
    refine ⟨k1, fun u hu => ?_, fun b u hb hu hc hk => k3 b u hb hu hc (hk.say h hd hb hu hc ha ht.1 ht.2)⟩
    rcases List.mem_cons.1 hu with rfl | hu
    · exact k3 a u ha ht.1 ht.2 h2
    · exact k2 u hu
theorem Step.rounds {r : Nat} (hF : GP.IsFar n c d D) (hd : d < n) (h : Step n c d Q D r S S) : ∀ k, k ≤ n → Step n c d Q D r S (S.rounds k) ∧ ∀ a t, a < k → t < n → 0 < c a t → Told1 n c d Q r S (S.rounds k) a t
  | 0, _ => ⟨h, fun a t ha => by omega⟩
  | k + 1, hk => by
    obtain ⟨h1, h2⟩ := Step.rounds hF hd h k (by omega)
    have hL : ∀ t, t ∈ nbl S.c k S.n ↔ t < n ∧ 0 < c k t := fun t => by rw [nbl_mem, h.run.inv.st.n_, h.run.inv.st.c_]
    obtain ⟨k1, k2, k3⟩ := Step.sayAll hF hd (show k < n by omega) (nbl S.c k S.n) (S.rounds k) (fun t ht => (hL t).1 ht) h1
    refine ⟨k1, fun a t ha ht hc => ?_⟩
    by_cases e : a = k
    · subst e; exact k2 t ((hL t).2 ⟨ht, hc⟩)
    · exact k3 a t (by omega) ht hc (h2 a t (by omega) ht hc)
/-- behind r rounds -/
structure At (n : Nat) (c : Nat → Nat → Int) (d : Nat) (Q : Int) (D : Nat → Int) (r : Nat) (S : NetV) : Prop where
  run : Run n c d Q D S
  ent : ∀ i j, i < n → j < n → i ≠ d → 0 < c i j → Ent n d Q r S i j
  has : ∀ i, i < n → D i < 65535 → GP.rank D (D i) n < r → HasN (S.x i) d Q (D i)
theorem At.zero (h : Run n c d Q D S) : At n c d Q D 0 S := ⟨h, fun _ _ _ _ _ _ _ _ => Nat.zero_le _, fun i _ _ h => by omega⟩
theorem At.next {r : Nat} (h : At n c d Q D r S) (hF : GP.IsFar n c d D) (hd : d < n) : At n c d Q D (r + 1) (S.rounds n) := by
  obtain ⟨h1, h2⟩ := Step.rounds hF hd (Step.refl h.run h.ent) n (Nat.le_refl _)
  refine ⟨h1.run, fun i j hi hj hid hij => (h2 j i hj hi (by rw [h.run.inv.st.good.sym]; exact hij)).1 hid, fun i hi hD hr => ?_⟩
  by_cases e : i = d
  · subst e
    have := has_self (s := (S.rounds n).x i) (d := i) (x := D i) (by rw [(h1.run.inv.st.ids i hi).2]; exact hi) (h1.run.inv.st.ids i hi).1 (hF.low i hi)
    rw [h1.run.inv.seq] at this
    exact this
  · rcases hF.by_ i hi e with h3 | ⟨k, hk, hc, h3⟩
    · omega
    · have hrk : GP.rank D (D k) n < GP.rank D (D i) n := GP.rank_lt D (by omega) n k hk (Int.le_refl _) (by omega)
      have hki := h.run.inv.st.good.sym i k
      have h4 := (h2 k i hk hi (by omega)).2 (D k) (h.has k hk (by omega) (by omega)) (by omega)
      rw [h3, hki]
      exact h4
theorem At.spin (h : Run n c d Q D S) (hF : GP.IsFar n c d D) (hd : d < n) : ∀ r, At n c d Q D r (S.spin r)
  | 0 => At.zero h
  | r + 1 => by
    have ih := At.spin h hF hd r
    have := ih.next hF hd
    show At n c d Q D (r + 1) ((S.spin r).rounds S.n)
    rw [h.inv.st.n_]
    exact this
/-- settled: each node knows how far it is, by number Q alone -/
structure Settled (n : Nat) (c : Nat → Nat → Int) (d : Nat) (Q : Int) (D : Nat → Int) (S : NetV) : Prop where
  st : Stand n c S
  seq : (S.x d).seq = Q
  top : ∀ i j, i < n → j < n → ((S.x i).inn d j).1 < 65535 → ((S.x i).inn d j).2 ≤ Q
  low : ∀ i j, i < n → j < n → ((S.x i).inn d j).2 = Q → D j ≤ ((S.x i).inn d j).1
  has : ∀ i, i < n → D i < 65535 → HasN (S.x i) d Q (D i)
  old : ∀ i j, i < n → j < n → i ≠ d → 0 < c i j → ((S.x i).inn d j).1 < 65535 → ((S.x i).inn d j).2 ≠ Q → fea ((S.x i).inn d j).1 ((S.x i).inn d j).2 ((S.x i).told d).1 ((S.x i).told d).2 = false
theorem At.settled (h : At n c d Q D n S) : Settled n c d Q D S := by
  refine ⟨h.run.inv.st, h.run.inv.seq, h.run.inv.top, fun i j hi hj => h.run.low.inn i j (by rw [h.run.inv.st.n_]; exact hj), fun i hi hD => h.has i hi hD (GP.rank_lt_n D n i hi), fun i j hi hj hid hij hx hq => ?_⟩
  have he := h.ent i j hi hj hid hij hx hq
  have hb : tellsB S d ((S.x i).inn d j) i = true := by
    cases hb : tellsB S d ((S.x i).inn d j) i
    · have := cnt_all hb n hi; omega
    · rfl
  rw [tellsB_iff] at hb
  cases hf : fea ((S.x i).inn d j).1 ((S.x i).inn d j).2 ((S.x i).told d).1 ((S.x i).told d).2
  · rfl
  · have := (fea_iff _ _ _ _).1 hf
    rcases this.2 with h1 | h1
    · omega
    · rw [hb.2] at h1; cases h1
/-- where one goes on, when all is settled -/
theorem Settled.route (h : Settled n c d Q D S) (hF : GP.IsFar n c d D) (hd : d < n) {i : Nat} (hi : i < n) :
    ((S.x i).route d).2.1.1 = D i ∧ (D i < 65535 → ((S.x i).route d).2.2 = true ∧ ((S.x i).route d).2.1.2 = Q) ∧
    (if D i < 65535 ∧ i ≠ d then ∃ k : Nat, ((S.x i).route d).1 = (k : Int) ∧ k < n ∧ 0 < c i k ∧ D i = D k + c i k ∧ (S.x i).may d k ∧ ((S.x i).inn d k) = (D k, Q) else ((S.x i).route d).1 = -1) := by
  have hii := h.st.ids i hi
  by_cases e : i = d
  · subst e
    have h1 := route_self (S.x i) (by rw [hii.1, hii.2]; exact hi)
    rw [hii.1] at h1
    rw [h1, if_neg (fun hh => hh.2 rfl)]
    exact ⟨hF.zero.symm, fun _ => ⟨rfl, h.seq⟩, rfl⟩
  · have hid : d ≠ (S.x i).id := by rw [hii.1]; exact fun h => e h.symm
    have key : ∀ k, k < n → (S.x i).may d k → ((S.x i).inn d k).2 = Q ∧ 0 < c i k ∧ D k ≤ ((S.x i).inn d k).1 ∧ D i ≤ D k + c i k ∧ addm ((S.x i).inn d k).1 ((S.x i).cost k).1 = ((S.x i).inn d k).1 + c i k ∧ ((S.x i).inn d k).1 + c i k < 65535 := fun k hk hm => by
      have hck : ((S.x i).cost k).1 = c i k := h.st.cst i k hi hk
      have hm2 := hm.2
      rw [hck] at hm2
      have hf := (fea_iff _ _ _ _).1 hm.1
      have hq : ((S.x i).inn d k).2 = Q := by
        apply Decidable.byContradiction
        intro hne
        have := h.old i k hi hk e hm2.1 hf.1 hne
        have hm1 := hm.1
        rw [this] at hm1
        cases hm1
      have h5 := h.low i k hi hk hq
      have h6 := hF.link i k hi hk hm2.1
      have h7 := h.st.good.high i k
      have h8 := hm2.2
      have h9 : addm ((S.x i).inn d k).1 ((S.x i).cost k).1 = ((S.x i).inn d k).1 + c i k := by
        rw [hck]
        unfold addm cl at h8 ⊢
        omega
      refine ⟨hq, hm2.1, h5, h6, h9, ?_⟩
      rw [hck] at h9
      omega
    by_cases hD : D i < 65535
    · have hh := h.has i hi hD
      obtain ⟨k, hk, hm, hq, hv, hr, hm2⟩ := has_may (by rw [hii.2]; exact hd) hid hh
      have hk : k < n := by rw [hii.2] at hk; exact hk
      obtain ⟨k1, k2, k3, k4, k5, k6⟩ := key k hk hm
      rw [if_pos ⟨hD, e⟩, hm2]
      refine ⟨by omega, fun _ => ⟨hh.1, hh.2.1⟩, k, hr, hk, k2, by omega, hm, Prod.ext (by show ((S.x i).inn d k).1 = D k; omega) hq⟩
    · have hD' : D i = 65535 := by have := hF.high i hi; omega
      rw [if_neg (fun hh => hD hh.1)]
      rcases route_spec (S.x i) d (by rw [hii.2]; exact hd) hid with ⟨h1, _⟩ | ⟨k, h1, hk, hm, _⟩
      · rw [h1]
        exact ⟨hD'.symm, fun hh => absurd hh hD, rfl⟩
      · exfalso
        obtain ⟨k1, k2, k3, k4, k5, k6⟩ := key k (by rw [hii.2] at hk; exact hk) hm
        omega
end
end Net
end Go.Proofs.Ytebkpjefdaieaaa
