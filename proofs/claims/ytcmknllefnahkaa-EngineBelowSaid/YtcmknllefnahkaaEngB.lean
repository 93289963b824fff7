/-
  Package engine: where a node goes on, as a plain law; the laws' lists of calls. Conditions: those that each theorem names.
-/
import Derived.Test.YtcmknllefnahkaaOpenO
import Derived.Test.YtcmknllefnahkaaChS
import Derived.IntWalk
namespace Go.Proofs.Ytcmknllefnahkaa
open Go.RowKit FR FP H2 OW
set_option linter.unusedVariables false
set_option linter.unusedSimpArgs false
namespace Eng
open Feas
/-- may goal d be gone to by j? -/
def St.may (s : St) (d j : Nat) : Prop := fea (s.inn d j).1 (s.inn d j).2 (s.told d).1 (s.told d).2 = true ∧ 0 < (s.cost j).1 ∧ addm (s.inn d j).1 (s.cost j).1 < 65535
theorem route_spec (s : St) (d : Nat) (hd : d < s.n) (hid : d ≠ s.id) :
    (s.route d = (-1, (65535, 0), false) ∧ ∀ j, j < s.n → ¬ s.may d j) ∨
    ∃ a : Nat, s.route d = ((a : Int), (addm (s.inn d a).1 (s.cost a).1, (s.inn d a).2), true) ∧ a < s.n ∧ s.may d a ∧ ∀ j, j < s.n → s.may d j → bet (addm (s.inn d j).1 (s.cost j).1) (s.inn d j).2 (addm (s.inn d a).1 (s.cost a).1) (s.inn d a).2 = false := by
  have hr : s.route d = if s.pick d < 0 then (-1, (65535, 0), false) else (s.pick d, (addm (s.inn d (s.pick d).toNat).1 (s.cost (s.pick d).toNat).1, (s.inn d (s.pick d).toNat).2), true) := by
    unfold St.route
    rw [if_neg (by omega), if_neg (by omega)]
    rfl
  rcases ChS.ch_state (fun i => (s.inn d i).1) (fun i => (s.inn d i).2) (fun i => (s.cost i).1) s.n (s.told d).1 (s.told d).2 s.n with ⟨h1, h2⟩ | ⟨a, h1, h2, h3, h4⟩
  · have hp : s.pick d = -1 := by unfold St.pick; rw [h1]
    exact .inl ⟨by rw [hr, hp]; rfl, fun j hj hm => h2 j hj ⟨hj, hm⟩⟩
  · have hp : s.pick d = a := by unfold St.pick; rw [h1]
    exact .inr ⟨a, by rw [hr, hp, if_neg (by omega)]; rfl, h2, h3.2, fun j hj hm => h4 j hj ⟨hj, hm⟩⟩
theorem route_self (s : St) (h : s.id < s.n) : s.route s.id = (-1, (0, s.seq), true) := by
  unfold St.route
  rw [if_neg (by omega), if_pos rfl]
/-- what came from t is none: t is no way -/
theorem route_not (s : St) (t d : Nat) (hid : s.id < s.n) (hd : d < s.n) (h : (s.inn d t).1 = 65535) : (s.route d).1 ≠ (t : Int) := by
  by_cases e : d = s.id
  · subst e
    rw [route_self s hd]
    show (-1 : Int) ≠ _
    omega
  · rcases route_spec s d hd e with ⟨h1, _⟩ | ⟨a, h1, _, h3, _⟩
    · rw [h1]; show (-1 : Int) ≠ _; omega
    · rw [h1]
      intro hh
      have : a = t := by have h : (a : Int) = (t : Int) := hh; omega
      subst this
      have := (fea_iff _ _ _ _).1 h3.1
      omega
theorem route_ok (s : St) (d : Nat) (hd : d < s.n) : (s.route d).2.2 = (decide (0 ≤ (s.route d).1) || ((d : Int) == (s.id : Int))) := by
  by_cases e : d = s.id
  · subst e
    rw [route_self s hd]
    simp
  · have e' : ((d : Int) == (s.id : Int)) = false := by simp; omega
    rw [e']
    rcases route_spec s d hd e with ⟨h1, _⟩ | ⟨a, h1, _, h3, _⟩
    · rw [h1]; rfl
    · rw [h1]; simp
theorem link_same (s : St) (t c : Int) : (s.link t c).id = s.id ∧ (s.link t c).n = s.n ∧ (s.link t c).told = s.told ∧ (s.link t c).seq = s.seq := by
  unfold St.link
  split
  · split
    · exact ⟨rfl, rfl, rfl, rfl⟩
    · exact ⟨rfl, rfl, rfl, rfl⟩
  · exact ⟨rfl, rfl, rfl, rfl⟩
theorem hear_same (s : St) (t : Int) (f : Nat → Int × Int × Int) (n : Nat) : (s.hear t f n).id = s.id ∧ (s.hear t f n).n = s.n := by
  unfold St.hear
  split
  · exact takes_same _ _ _ _
  · exact ⟨rfl, rfl⟩
theorem RdO.below {w w' : World} {A : Option Addr} {n : Nat} {f : Nat → Int × Int × Int} (h : RdO w A n f) (hb : Below w.heap.size w w') : RdO w' A n f :=
  h.keep (Only.of_below (Only.refl (fun _ => False) w) hb) (fun _ _ _ h => h)
theorem RdOp.below {w w' : World} {A : Option Addr} {n : Nat} {f : Nat → OpV} (h : RdOp w A n f) (hb : Below w.heap.size w w') : RdOp w' A n f := fun i hi => by
  obtain ⟨g, o, e, hg, h0, h1, h2, h3, h4, h5, h6⟩ := h i hi
  exact ⟨g, o, e, Nat.lt_of_lt_of_le hg hb.size, later hb h0, later hb h1, later hb h2, later hb h3, h4, h5.below hb, h6⟩
set_option maxRecDepth 100000 in
set_option maxHeartbeats 4000000 in
theorem long_any (A : Option Addr) (n cap : Nat) (f : Nat → OpV) (w : World) (hn : n ≤ maxLen) (h : RdOp w A n f) : Calls Try.prog 10 #[.slice A n cap] w fun e w' => (∃ x, e = .returned (.bool x)) ∧ Below w.heap.size w w' := by
  have H := Lib.hid h
  unfold maxLen at hn
  clear h
  go_enter Try.func10, Try.ntmps10
  go_upto_region 2 with fail
  go_loopw [7] (fun s7 wr => ∃ i : Nat, i ≤ n ∧ s7 = .int .i64 i ∧ Below w.heap.size w wr) (fun s7 _ => n - (intOf s7).toNat)
  case atStart => exact ⟨0, by omega, rfl, Below.refl _ _⟩
  case round =>
    obtain ⟨i, hi, rfl, hb⟩ := hrel
    have HB := Lib.hid hb
    clear hb
    by_cases hlt : i < n
    · have hlt' : (i : Int) < (n : Int) := by omega
      have i0 : (0 : Int) ≤ (i : Int) := by omega
      obtain ⟨g, o, rfl, hg, x0, x1, x2, x3, _⟩ := (H.out.below HB.out) i hlt
      by_cases h50 : 50 < (f i).n
      all_goals
        go_wp2
      · go_ret
        exact ⟨⟨_, rfl⟩, HB.out.alloc HB.out.size _⟩
      · go_roundw
        case rel => exact ⟨i + 1, by omega, by go_num, HB.out.alloc HB.out.size _⟩
        case measure => simp [intOf]; omega
    · obtain rfl : i = n := by omega
      go_wp2
      go_ret
      exact ⟨⟨_, rfl⟩, HB.out⟩
theorem RdO.lt {w : World} {A : Option Addr} {n : Nat} {f : Nat → Int × Int × Int} (h : RdO w A n f) : 0 < n → ∀ g o, A = some ⟨g, o, none⟩ → g < w.heap.size := fun h0 g o e => by
  obtain ⟨g', o', e', hg, _⟩ := h 0 h0
  rw [e'] at e
  cases e
  exact hg
/-- what came in is heard -/
theorem nd_hear0 {w0 w : World} {b : Nat} {s : St} (h : Nd w0 w b s) (t : Int) (A : Option Addr) (n cap : Nat) (f : Nat → Int × Int × Int) (hn : n ≤ maxLen) (hf : RdO w0 A n f) (hs : SmO f n) : Calls Try.prog 15 #[.pointer (some ⟨b, 0, none⟩), .int .i64 t, .slice A n cap] w fun e w' => e = .returned (.int .i64 (hea s t f n)) ∧ Nd w0 w' b (s.hear t f n) ∧ Only (fun i => i = b) w w' :=
  nd_hear h t A n cap f hn (hf.below h.bel) hs (fun h0 g o e => by have := hf.lt h0 g o e; have := h.new; omega)
/-- whatever it is told: the node stands -/
theorem nd_tell_any {w0 w : World} {b : Nat} {s : St} (h : Nd w0 w b s) (t : Int) : Calls Try.prog 18 #[.pointer (some ⟨b, 0, none⟩), .int .i64 t] w fun e w' => (∃ v, e = .returned (.tuple #[v, .int .i64 (upv s t)]) ∧ (upv s t = 0 → w'.ownsRow w.heap.size 71 3 v s.n (cellsO (s.offer t) s.n)) ∧ (upv s t ≠ 0 → v = .slice none 0 0)) ∧ (∃ s', Nd w0 w' b s' ∧ s' = (if upv s t = 0 then s.tells t s.n else s)) ∧ Only (fun i => i = b) w w' := by
  by_cases hu : upv s t = 0
  · exact (nd_tell h t hu).mono fun e w' ⟨⟨v, he, hv⟩, hn, ho⟩ => ⟨⟨v, by rw [he, hu], fun _ => hv, fun h => absurd hu h⟩, ⟨_, hn, by rw [if_pos hu]⟩, ho⟩
  · exact (tell_no b s t w h.isn h.wf hu).mono fun e w' ⟨he, hw⟩ => ⟨⟨_, he, fun h => absurd h hu, fun _ => rfl⟩, ⟨_, hw ▸ h, by rw [if_neg hu]⟩, hw ▸ Only.refl _ _⟩
theorem nd_new0 (n : Nat) (w0 w : World) (h : Below w0.heap.size w0 w) (h1 : 0 < n) (h2 : n ≤ 6) : Calls Try.prog 11 #[.int .i64 0, .int .i64 n] w fun e w' => ∃ b, e = .returned (.tuple #[.pointer (some ⟨b, 0, none⟩), .int .i64 0]) ∧ Nd w0 w' b (new 0 n) ∧ w.heap.size ≤ b ∧ Below w.heap.size w w' := nd_new 0 n w0 w h h1 h2
theorem remk (t : Int) (n : Nat) (h : 1 ≤ n) : ∃ T : Nat, T < n ∧ (IntKind.u64.wrap t).tmod n = (T : Int) := by
  have h0 : 0 ≤ IntKind.u64.wrap t := by simp [IntKind.wrap, IntKind.bits, IntKind.signed]; omega
  have h1 : (IntKind.u64.wrap t).tmod n = IntKind.u64.wrap t % n := Int.tmod_eq_emod_of_nonneg h0
  have h2 := Int.emod_nonneg (IntKind.u64.wrap t) (show (n : Int) ≠ 0 by omega)
  have h3 := Int.emod_lt_of_pos (IntKind.u64.wrap t) (show 0 < (n : Int) by omega)
  exact ⟨(IntKind.u64.wrap t % n).toNat, by omega, by rw [h1]; omega⟩
end Eng
end Go.Proofs.Ytcmknllefnahkaa
