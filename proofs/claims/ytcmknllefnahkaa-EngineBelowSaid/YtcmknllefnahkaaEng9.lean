/-
  Package engine: a node all through a law: what each call leaves. Conditions: those that each theorem names.
-/
import Derived.Test.YtcmknllefnahkaaEng8
namespace Go.Proofs.Ytcmknllefnahkaa
open Go.RowKit FR FP H2 OW
set_option linter.unusedVariables false
set_option linter.unusedSimpArgs false
namespace Eng
open Feas
theorem sm0 : Sm 0 := ⟨by decide, by decide⟩
theorem sm1 : Sm 1 := ⟨by decide, by decide⟩
theorem okz : (0 : Int) ≤ 0 ∧ (0 : Int) ≤ 1000 ∧ (0 : Int) = 0 := ⟨by decide, by decide, rfl⟩
theorem okf : ((0 : Int) ≤ 65535 ∧ (65535 : Int) ≤ 65535) ∧ Sm 0 := ⟨⟨by decide, by decide⟩, sm0⟩
theorem wf_new (id n : Nat) : Wf (new id n) := ⟨fun _ => okz, fun _ _ => okf, fun _ => okf, sm1⟩
theorem wf_clear {s : St} (h : Wf s) : Wf s.clear := ⟨h.cost, fun _ _ => okf, h.told, h.seq⟩
theorem ite_c {c : Prop} [Decidable c] {a b : Int × Int} (ha : 0 ≤ a.1 ∧ a.1 ≤ 1000 ∧ a.2 = 0) (hb : 0 ≤ b.1 ∧ b.1 ≤ 1000 ∧ b.2 = 0) : 0 ≤ (if c then a else b).1 ∧ (if c then a else b).1 ≤ 1000 ∧ (if c then a else b).2 = 0 := by split <;> assumption
theorem ite_d {c : Prop} [Decidable c] {a b : Int × Int} (ha : (0 ≤ a.1 ∧ a.1 ≤ 65535) ∧ Sm a.2) (hb : (0 ≤ b.1 ∧ b.1 ≤ 65535) ∧ Sm b.2) : (0 ≤ (if c then a else b).1 ∧ (if c then a else b).1 ≤ 65535) ∧ Sm (if c then a else b).2 := by split <;> assumption
theorem wf_link {s : St} (h : Wf s) (t c : Int) : Wf (s.link t c) := by
  unfold St.link
  split
  · rename_i hc
    split
    · exact ⟨fun i => ite_c okz (h.cost i), fun d k => ite_d okf (h.inn d k), h.told, h.seq⟩
    · exact ⟨fun i => ite_c ⟨hc.2.1, hc.2.2, rfl⟩ (h.cost i), h.inn, h.told, h.seq⟩
  · exact h
theorem wf_fresh {s : St} (h : Wf s) (hs : s.seq ≠ 4294967295) : Wf { s with seq := s.seq + 1 } := ⟨h.cost, h.inn, h.told, by have h1 := h.seq.1; have h2 := h.seq.2; exact ⟨by show 0 ≤ s.seq + 1; omega, by show s.seq + 1 ≤ 4294967295; omega⟩⟩
theorem wf_take {s : St} (h : Wf s) (i : Nat) (o : Int × Int × Int) (ho : (0 ≤ o.2.1 ∧ o.2.1 ≤ 65535) ∧ Sm o.2.2) : Wf (s.take i o) := by
  unfold St.take
  split
  · exact h
  · refine ⟨h.cost, fun d k => ite_d ?_ (h.inn d k), h.told, h.seq⟩
    unfold kept
    exact ite_d okf ho
theorem wf_takes {s : St} (h : Wf s) (i : Nat) (f : Nat → Int × Int × Int) : ∀ k, (∀ j, j < k → (0 ≤ (f j).2.1 ∧ (f j).2.1 ≤ 65535) ∧ Sm (f j).2.2) → Wf (s.takes i f k)
  | 0, _ => h
  | k + 1, hf => wf_take (wf_takes h i f k (fun j hj => hf j (by omega))) i (f k) (hf k (by omega))
/-- offers whose numbers are of 32 bits -/
def SmO (f : Nat → Int × Int × Int) (n : Nat) : Prop := ∀ i, i < n → Sm (f i).2.2
theorem wf_hear {s : St} (h : Wf s) (i : Int) (f : Nat → Int × Int × Int) (n : Nat) (hf : SmO f n) : Wf (s.hear i f n) := by
  unfold St.hear
  split
  · rename_i hc
    refine wf_takes h _ f n (fun j hj => ⟨?_, hf j hj⟩)
    have := fits_lt hc.2 hj
    simp only [fit, Bool.and_eq_true, decide_eq_true_eq] at this
    exact ⟨by omega, by omega⟩
  · exact h
theorem smO_offer (s : St) (t : Int) (n : Nat) (hw : Wf s) : SmO (s.offer t) n := fun i _ => by
  unfold St.offer
  split
  · exact sm0
  · exact (route_range s hw i).2
theorem flat_get (f : Nat → Int × Int × Int) : ∀ (n i j : Nat), i < n → j < 3 → (cellsO f n)[i * 3 + j]? = ([.int .i64 (f i).1, .int .i64 (f i).2.1, .int .u32 (f i).2.2] : List Value)[j]?
  | 0, i, j, h, _ => by omega
  | n + 1, i, j, h, hj => by
    have hl : ∀ m, (cellsO f m).length = m * 3 := by
      intro m
      induction m with
      | zero => rfl
      | succ m ih => rw [cellsO_succ, List.length_append, ih]; simp; omega
    rw [cellsO_succ]
    by_cases e : i < n
    · rw [List.getElem?_append_left (by rw [hl]; omega)]
      exact flat_get f n i j e hj
    · obtain rfl : i = n := by omega
      rw [List.getElem?_append_right (by rw [hl]; omega), hl, Nat.add_sub_cancel_left]
/-- a row of offers reads as offers -/
theorem rdO_own {w : World} {base n : Nat} {v : Value} {f : Nat → Int × Int × Int} (h : w.ownsRow base 71 3 v n (cellsO f n)) : ∃ A cap, v = .slice A n cap ∧ n ≤ maxLen ∧ RdO w A n f ∧ (∀ g o, A = some ⟨g, o, none⟩ → base ≤ g ∧ g < w.heap.size) := by
  have hc := fun i (u : Value) hu => fun g cap (e : v = .slice (some ⟨g, 0, none⟩) n cap) => h.cells (g := g) (by rw [e]; rfl) i u hu
  rcases h.2 with ⟨rfl, rfl⟩ | ⟨g, cap, cur, rfl, hb, hh, hn, hm, _⟩
  · exact ⟨none, 0, rfl, by decide, fun i hi => by omega, fun g o e => by cases e⟩
  · refine ⟨some ⟨g, 0, none⟩, cap, rfl, by omega, fun i hi => ⟨g, 0, rfl, blk_lt hh, ?_, ?_, ?_⟩, fun g' o e => by cases e; exact ⟨hb, blk_lt hh⟩⟩
    all_goals
      have hx := fun j u hu => hc (i * 3 + j) u hu g cap rfl
      have hadd : ∀ j, (⟨g, 0, none⟩ : Addr).add j = ⟨g, j, none⟩ := fun j => by unfold Addr.add; split <;> simp_all
      simp only [hadd] at hx
      rw [Nat.zero_add]
    · exact hx 0 _ (flat_get f n i 0 hi (by omega))
    · exact hx 1 _ (flat_get f n i 1 hi (by omega))
    · exact hx 2 _ (flat_get f n i 2 hi (by omega))
/-- a node that was made since w0 -/
structure Nd (w0 w : World) (b : Nat) (s : St) : Prop where
  isn : IsN w b s
  wf : Wf s
  bel : Below w0.heap.size w0 w
  new : w0.heap.size ≤ b
theorem Nd.keep {w0 w w' : World} {b : Nat} {s : St} (h : Nd w0 w b s) (hb : Below w.heap.size w w') : Nd w0 w' b s := ⟨h.isn.keep hb, h.wf, h.bel.trans (hb.mono h.bel.size), h.new⟩
theorem Nd.only {w0 w w' : World} {b : Nat} {s s' : St} (h : Nd w0 w b s) (hi : IsN w' b s') (hw : Wf s') (ho : Only (fun i => i = b) w w') : Nd w0 w' b s' := ⟨hi, hw, h.bel.trans (ho.below h.bel.size (fun i hi e => by have := h.new; omega)), h.new⟩
theorem Nd.drewN {w0 w : World} {b : Nat} {s : St} (h : Nd w0 w b s) (q : Nat) : Nd w0 (w.drewN q) b s := ⟨h.isn.drewN q, h.wf, h.bel.trans (((Only.refl (fun _ => False) w).drewN q).below h.bel.size (fun _ _ e => e)), h.new⟩
theorem Nd.alloc {w0 w : World} {b : Nat} {s : St} (h : Nd w0 w b s) (o : Obj) : Nd w0 (w.alloc o) b s := h.keep ((Below.refl _ _).alloc (Nat.le_refl _) o)
theorem Nd.lt {w0 w : World} {b : Nat} {s : St} (h : Nd w0 w b s) : b < w.heap.size := blk_lt h.isn.blk.choose_spec.1
theorem nd_new (id n : Nat) (w0 w : World) (h : Below w0.heap.size w0 w) (h1 : id < n) (h2 : n ≤ 6) : Calls Try.prog 11 #[.int .i64 id, .int .i64 n] w fun e w' => ∃ b, e = .returned (.tuple #[.pointer (some ⟨b, 0, none⟩), .int .i64 0]) ∧ Nd w0 w' b (new id n) ∧ w.heap.size ≤ b ∧ Below w.heap.size w w' :=
  (new_any id n w h1 h2).mono fun e w' ⟨⟨b, he, hi, hb, _⟩, hw⟩ => ⟨b, he, ⟨hi, wf_new id n, h.trans (hw.mono h.size), by have := h.size; omega⟩, hb, hw⟩
theorem nd_link {w0 w : World} {b : Nat} {s : St} (h : Nd w0 w b s) (t c : Int) : Calls Try.prog 13 #[.pointer (some ⟨b, 0, none⟩), .int .i64 t, .int .i64 c] w fun e w' => e = .returned (.int .i64 (lnk s t c)) ∧ Nd w0 w' b (s.link t c) ∧ Only (fun i => i = b) w w' :=
  (link_any b s t c w h.isn).mono fun e w' ⟨he, hi, ho⟩ => ⟨he, h.only hi (wf_link h.wf t c) ho, ho⟩
theorem nd_hear {w0 w : World} {b : Nat} {s : St} (h : Nd w0 w b s) (t : Int) (A : Option Addr) (n cap : Nat) (f : Nat → Int × Int × Int) (hn : n ≤ maxLen) (hf : RdO w A n f) (hs : SmO f n) (hb : 0 < n → ∀ g o, A = some ⟨g, o, none⟩ → g ≠ b) : Calls Try.prog 15 #[.pointer (some ⟨b, 0, none⟩), .int .i64 t, .slice A n cap] w fun e w' => e = .returned (.int .i64 (hea s t f n)) ∧ Nd w0 w' b (s.hear t f n) ∧ Only (fun i => i = b) w w' :=
  (hear_any b s t A n cap f w h.isn h.wf hn hf hb).mono fun e w' ⟨he, hi, ho⟩ => ⟨he, h.only hi (wf_hear h.wf t f n hs) ho, ho⟩
theorem nd_route {w0 w : World} {b : Nat} {s : St} (h : Nd w0 w b s) (d : Int) : Calls Try.prog 26 #[.pointer (some ⟨b, 0, none⟩), .int .i64 d] w fun e w' => e = .returned (.tuple #[.int .i64 (s.route d).1, dp (s.route d).2.1, .bool (s.route d).2.2]) ∧ ∃ q, w' = w.drewN q := route_any b s d w h.isn h.wf
theorem nd_tell {w0 w : World} {b : Nat} {s : St} (h : Nd w0 w b s) (t : Int) (hu : upv s t = 0) : Calls Try.prog 18 #[.pointer (some ⟨b, 0, none⟩), .int .i64 t] w fun e w' => (∃ v, e = .returned (.tuple #[v, .int .i64 0]) ∧ w'.ownsRow w.heap.size 71 3 v s.n (cellsO (s.offer t) s.n)) ∧ Nd w0 w' b (s.tells t s.n) ∧ Only (fun i => i = b) w w' :=
  (tell_any b s t w h.isn h.wf hu).mono fun e w' ⟨hv, hi, ho⟩ => ⟨hv, h.only hi (wf_tells s t s.n h.wf) ho, ho⟩
end Eng
end Go.Proofs.Ytcmknllefnahkaa
