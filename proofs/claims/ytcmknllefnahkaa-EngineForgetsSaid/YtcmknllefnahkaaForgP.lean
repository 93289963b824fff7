/-
  EngineForgets: the plain law. Conditions: those that each theorem names.
-/
import Derived.Test.YtcmknllefnahkaaEngB
namespace Go.Proofs.Ytcmknllefnahkaa
open Go.RowKit FR FP H2 OW
set_option linter.unusedVariables false
set_option linter.unusedSimpArgs false
namespace EngineForgets
open Feas Eng
theorem oth_mk {s : St} {i : Int} (h0 : 0 ≤ i) (h1 : i < s.n) (h2 : i ≠ s.id) : oth s i = true := by
  simp [oth, h0, h1, h2]
theorem takes_inn (s s' : St) (i : Nat) (f : Nat → Int × Int × Int) (hid : s.id = s'.id) (h : s.inn = s'.inn) : ∀ k, (s.takes i f k).inn = (s'.takes i f k).inn
  | 0 => h
  | k + 1 => by
    have ih := takes_inn s s' i f hid h k
    have e1 := (takes_same s i f k).1
    have e2 := (takes_same s' i f k).1
    show ((s.takes i f k).take i (f k)).inn = ((s'.takes i f k).take i (f k)).inn
    unfold St.take
    rw [e1, e2, hid]
    split
    · exact ih
    · show (fun x y => if x = (f k).1.toNat ∧ y = i then kept (f k) else (s.takes i f k).inn x y) = (fun x y => if x = (f k).1.toNat ∧ y = i then kept (f k) else (s'.takes i f k).inn x y)
      rw [ih]
theorem takes_rest (s : St) (i : Nat) (f : Nat → Int × Int × Int) : ∀ k, (s.takes i f k).cost = s.cost ∧ (s.takes i f k).told = s.told ∧ ∀ d j, j ≠ i → (s.takes i f k).inn d j = s.inn d j
  | 0 => ⟨rfl, rfl, fun _ _ _ => rfl⟩
  | k + 1 => by
    obtain ⟨h1, h2, h3⟩ := takes_rest s i f k
    show ((s.takes i f k).take i (f k)).cost = _ ∧ ((s.takes i f k).take i (f k)).told = _ ∧ ∀ d j, j ≠ i → ((s.takes i f k).take i (f k)).inn d j = _
    unfold St.take
    split
    · exact ⟨h1, h2, h3⟩
    · refine ⟨h1, h2, fun d j hj => ?_⟩
      show (if d = (f k).1.toNat ∧ j = i then _ else (s.takes i f k).inn d j) = _
      rw [if_neg (fun h => hj h.2)]
      exact h3 d j hj
theorem hear_rest (s : St) (i : Nat) (f : Nat → Int × Int × Int) (n : Nat) : (s.hear i f n).cost = s.cost ∧ (s.hear i f n).told = s.told ∧ ∀ d j, j ≠ i → (s.hear i f n).inn d j = s.inn d j := by
  unfold St.hear
  split
  · simpa using takes_rest s i f n
  · exact ⟨rfl, rfl, fun _ _ _ => rfl⟩
/-- from the start to the first Hear -/
def s2 (n : Nat) (c : Int) (f : Nat → Int × Int × Int) (m : Nat) : St := ((new 0 n).link 1 c).hear 1 f m
/-- what is told then -/
def s3 (n : Nat) (c : Int) (f : Nat → Int × Int × Int) (m : Nat) : St := if 2 < n then (if upv ((s2 n c f m).link 2 1) 2 = 0 then ((s2 n c f m).link 2 1).tells 2 n else (s2 n c f m).link 2 1) else s2 n c f m
def s5 (n : Nat) (c : Int) (f : Nat → Int × Int × Int) (m : Nat) : St := (s3 n c f m).clear.hear 1 f m
theorem s2_same (n : Nat) (c : Int) (f : Nat → Int × Int × Int) (m : Nat) : (s2 n c f m).id = 0 ∧ (s2 n c f m).n = n :=
  ⟨(hear_same _ 1 f m).1.trans (link_same _ 1 c).1, (hear_same _ 1 f m).2.trans (link_same _ 1 c).2.1⟩
theorem s3_same (n : Nat) (c : Int) (f : Nat → Int × Int × Int) (m : Nat) : (s3 n c f m).id = 0 ∧ (s3 n c f m).n = n := by
  unfold s3
  have h := s2_same n c f m
  have h2 := link_same (s2 n c f m) 2 1
  split
  · split
    · exact ⟨h2.1.trans h.1, h2.2.1.trans h.2⟩
    · exact ⟨h2.1.trans h.1, h2.2.1.trans h.2⟩
  · exact h
theorem lnk1 (n : Nat) (c : Int) (hn : 2 ≤ n) (h0 : 0 ≤ c) (h1 : c ≤ 1000) : lnk (new 0 n) 1 c = 0 := by
  unfold lnk
  rw [if_pos (oth_mk (by omega) (by show (1 : Int) < (n : Int); omega) (by show (1 : Int) ≠ ((0 : Nat) : Int); omega)), if_pos ⟨h0, h1⟩]
theorem route_clear (s : St) (h1 : s.id = 0) (d : Nat) (hd : d < s.n) : (s.clear.route d).2.2 = ((d : Int) == 0) := by
  by_cases e : d = 0
  · have hr := route_self s.clear (show s.id < s.n by omega)
    have : (d : Int) = ((s.clear.id : Nat) : Int) := by show (d : Int) = (s.id : Int); omega
    rw [this, hr]
    simp [show s.clear.id = 0 from h1]
  · have e' : ((d : Int) == 0) = false := by simp; omega
    rw [e']
    rcases route_spec s.clear d hd (show d ≠ s.id by omega) with ⟨h, _⟩ | ⟨a, h, _, h3, _⟩
    · rw [h]
    · have := (fea_iff _ _ _ _).1 h3.1
      have h4 : (s.clear.inn d a).1 = 65535 := rfl
      omega
/-- begun anew: what was told is what is known again -/
theorem again (n : Nat) (c : Int) (f : Nat → Int × Int × Int) (m : Nat) (hn : 2 ≤ n) (h0 : 1 ≤ c) (h1 : c ≤ 1000) (hh : hea ((new 0 n).link 1 c) 1 f m = 0) (d : Nat) (hd0 : 1 ≤ d) (hdn : d < n) (hok : ((s5 n c f m).route d).2.2 = true) (hT : ((s3 n c f m).told d).1 < 65535) : (s3 n c f m).told d = ((s5 n c f m).route d).2.1 := by
  -- the first Hear
  have hu0 : upv ((new 0 n).link 1 c) 1 = 0 ∧ fits ((new 0 n).link 1 c).n f m = true := by
    unfold hea at hh
    split at hh
    · rename_i hu
      refine ⟨hu, ?_⟩
      cases e : fits ((new 0 n).link 1 c).n f m
      · rw [e] at hh; simp at hh
      · rfl
    · exact absurd hh ‹_›
  have hl : (new 0 n).link 1 c = (new 0 n).price 1 (c, 0) := by
    have ho : oth (new 0 n) 1 = true := oth_mk (by omega) (by show (1 : Int) < (n : Int); omega) (by show (1 : Int) ≠ ((0 : Nat) : Int); omega)
    unfold St.link
    rw [if_pos (show oth (new 0 n) 1 = true ∧ 0 ≤ c ∧ c ≤ 1000 from ⟨ho, by omega, h1⟩), if_neg (show ¬ c = 0 by omega)]
    rfl
  have hin2 : (s2 n c f m).inn = (((new 0 n).price 1 (c, 0)).takes 1 f m).inn := by
    unfold s2 St.hear
    rw [if_pos hu0, hl]
    rfl
  have hin2' : ∀ e j, j ≠ 1 → (s2 n c f m).inn e j = (65535, 0) := fun e j hj => by
    have := (hear_rest ((new 0 n).link 1 c) 1 f m).2.2 e j hj
    show (((new 0 n).link 1 c).hear ((1 : Nat) : Int) f m).inn e j = _
    rw [this, hl]
    rfl
  have hc2 : (s2 n c f m).cost = fun k => if k = 1 then (c, 0) else (0, 0) := by
    have := (hear_rest ((new 0 n).link 1 c) 1 f m).1
    show (((new 0 n).link 1 c).hear ((1 : Nat) : Int) f m).cost = _
    rw [this, hl]
    rfl
  have ht2 : (s2 n c f m).told = fun _ => (65535, 0) := by
    have := (hear_rest ((new 0 n).link 1 c) 1 f m).2.1
    show (((new 0 n).link 1 c).hear ((1 : Nat) : Int) f m).told = _
    rw [this, hl]
    rfl
  have hsm := s2_same n c f m
  by_cases h2 : 2 < n
  · have hl2 : (s2 n c f m).link 2 1 = (s2 n c f m).price 2 (1, 0) := by
      have ho : oth (s2 n c f m) 2 = true := oth_mk (by omega) (by rw [hsm.2]; omega) (by rw [hsm.1]; omega)
      unfold St.link
      rw [if_pos ⟨ho, by omega, by omega⟩, if_neg (by omega)]
      rfl
    have hu2 : upv ((s2 n c f m).link 2 1) 2 = 0 := by
      rw [hl2]
      unfold upv
      rw [if_pos (show oth ((s2 n c f m).price 2 (1, 0)) 2 = true from oth_mk (by omega) (by show (2 : Int) < (s2 n c f m).n; rw [hsm.2]; omega) (by show (2 : Int) ≠ (s2 n c f m).id; rw [hsm.1]; omega))]
      rfl
    have hs3 : s3 n c f m = ((s2 n c f m).price 2 (1, 0)).tells 2 n := by
      unfold s3
      rw [if_pos h2, if_pos hu2, hl2]
    have hsm3 := s3_same n c f m
    -- the second Hear
    have hc3 : (s3 n c f m).cost = fun k => if k = 2 then (1, 0) else if k = 1 then (c, 0) else (0, 0) := by
      rw [hs3]
      show (fun k => if k = 2 then ((1 : Int), (0 : Int)) else (s2 n c f m).cost k) = _
      rw [hc2]
    have hu5 : upv (s3 n c f m).clear 1 = 0 ∧ fits (s3 n c f m).clear.n f m = true := by
      constructor
      · unfold upv
        have h7 : ((s3 n c f m).clear.cost (1 : Int).toNat).1 = c := by
          show ((s3 n c f m).cost 1).1 = c
          rw [hc3]
          rfl
        rw [if_pos (show oth (s3 n c f m).clear 1 = true from oth_mk (by omega) (by show (1 : Int) < (s3 n c f m).n; rw [hsm3.2]; omega) (by show (1 : Int) ≠ (s3 n c f m).id; rw [hsm3.1]; omega)), h7, if_neg (by omega)]
      · have := hu0.2
        rw [hl] at this
        show fits (s3 n c f m).n f m = true
        rw [hsm3.2]
        exact this
    have hin5 : (s5 n c f m).inn = (s2 n c f m).inn := by
      unfold s5 St.hear
      rw [if_pos hu5, hin2]
      exact takes_inn (s3 n c f m).clear ((new 0 n).price 1 (c, 0)) 1 f hsm3.1 rfl m
    have hr5 := hear_rest (s3 n c f m).clear 1 f m
    have hc5 : (s5 n c f m).cost = (s3 n c f m).cost := hr5.1
    have ht5 : (s5 n c f m).told = (s3 n c f m).told := hr5.2.1
    have hsm5 : (s5 n c f m).id = 0 ∧ (s5 n c f m).n = n := ⟨(hear_same _ 1 f m).1.trans hsm3.1, (hear_same _ 1 f m).2.trans hsm3.2⟩
    have hd5 : (s5 n c f m).route d = (((1 : Nat) : Int), (addm ((s2 n c f m).inn d 1).1 c, ((s2 n c f m).inn d 1).2), true) := by
      rcases route_spec (s5 n c f m) d (by omega) (by omega) with ⟨h, _⟩ | ⟨a, h, _, h3, _⟩
      · rw [h] at hok; exact absurd hok (by decide)
      · have ha : a = 1 := by
          by_cases e : a = 1
          · exact e
          · have := (fea_iff _ _ _ _).1 h3.1
            rw [hin5, hin2' d a e] at this
            omega
        subst ha
        rw [h, hin5, hc5, hc3]
        rfl
    rw [hd5, hs3]
    rw [hs3] at hT
    show (if d < n ∧ ((s2 n c f m).price 2 (1, 0)).best 2 d = true then (((s2 n c f m).price 2 (1, 0)).route d).2.1 else ((s2 n c f m).price 2 (1, 0)).told d) = _
    have hT' : (if d < n ∧ ((s2 n c f m).price 2 (1, 0)).best 2 d = true then (((s2 n c f m).price 2 (1, 0)).route d).2.1 else ((s2 n c f m).price 2 (1, 0)).told d).1 < 65535 := hT
    by_cases hb : d < n ∧ ((s2 n c f m).price 2 (1, 0)).best 2 d = true
    · rw [if_pos hb] at hT' ⊢
      rcases route_spec ((s2 n c f m).price 2 (1, 0)) d (by show d < (s2 n c f m).n; omega) (by show d ≠ (s2 n c f m).id; omega) with ⟨h, _⟩ | ⟨a, h, _, h3, _⟩
      · rw [h] at hT'; simp at hT'
      · have ha : a = 1 := by
          by_cases e : a = 1
          · exact e
          · have := (fea_iff _ _ _ _).1 h3.1
            have h4 : ((s2 n c f m).price 2 (1, 0)).inn d a = (s2 n c f m).inn d a := rfl
            rw [h4, hin2' d a e] at this
            omega
        subst ha
        rw [h]
        have h4 : ((s2 n c f m).price 2 (1, 0)).inn d 1 = (s2 n c f m).inn d 1 := rfl
        have h5 : (((s2 n c f m).price 2 (1, 0)).cost 1).1 = c := by
          show (if (1 : Nat) = 2 then ((1 : Int), (0 : Int)) else (s2 n c f m).cost 1).1 = c
          rw [if_neg (by omega), hc2]
          rfl
        rw [h4, h5]
    · rw [if_neg hb] at hT'
      have h4 : ((s2 n c f m).price 2 (1, 0)).told d = (s2 n c f m).told d := rfl
      rw [h4, ht2] at hT'
      simp at hT'
  · have hs3 : s3 n c f m = s2 n c f m := by unfold s3; rw [if_neg h2]
    rw [hs3, ht2] at hT
    simp at hT
end EngineForgets
end Go.Proofs.Ytcmknllefnahkaa
