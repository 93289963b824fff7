/-
  The law's awake: its tables. Conditions: those that each theorem names.
-/
import Derived.Test.YtbeoclcnajfjcaaTe
import Derived.Test.YtbeoclcnajfjcaaChgA
import Derived.Test.YtbeoclcnajfjcaaNilA
import Derived.Test.YtbeoclcnajfjcaaPutB
import Derived.Test.YtbeoclcnajfjcaaTf
namespace Go.Proofs.Ytbeoclcnajfjcaa
open Go Go.RowKit H2
set_option linter.unusedVariables false
set_option linter.unusedSimpArgs false
namespace Tab
theorem zvI (w : World) : Sem.run Try.prog (zeroValue 43) w = .ok (.agg (encI zI).toArray) w := Try.zeroValue43 w
attribute [simp 10000] zvI
theorem four1 (w : World) : Calls Try.prog 34 #[.int .i64 1, .int .i64 8] w fun e w' => e = .returned (.agg (encP (pk 1)).toArray) ∧ Below w.heap.size w w' := four_any 1 w
theorem four2 (w : World) : Calls Try.prog 34 #[.int .i64 2, .int .i64 8] w fun e w' => e = .returned (.agg (encP (pk 2)).toArray) ∧ Below w.heap.size w w' := four_any 2 w
theorem four3 (w : World) : Calls Try.prog 34 #[.int .i64 3, .int .i64 8] w fun e w' => e = .returned (.agg (encP (pk 3)).toArray) ∧ Below w.heap.size w w' := four_any 3 w
theorem four9 (w : World) : Calls Try.prog 34 #[.int .i64 9, .int .i64 8] w fun e w' => e = .returned (.agg (encP (pk 9)).toArray) ∧ Below w.heap.size w w' := four_any 9 w
/-- New of two fresh routes -/
theorem new_two (r s : Rt) (w : World) : Calls Try.prog 11 #[.slice (some ⟨w.heap.size, 0, none⟩) 2 2] (w.alloc (.cells (encR r ++ encR s).toArray 34 (0, 0))) fun e w' => Made (w.alloc (.cells (encR r ++ encR s).toArray 34 (0, 0))) w' [r, s] e ∧ Below w.heap.size w w' :=
  (new_any (some ⟨w.heap.size, 0, none⟩) 2 [r, s] (by simp) _ ⟨rfl, Nat.le_refl _, by decide, Rd.at (L := [r, s]) (by rw [show flat [r, s] = encR r ++ encR s by simp [flat]]; exact at_new w _ _ _), fun e => (by cases e), fun a e => (by cases e; exact ⟨_, _, rfl, by simp⟩)⟩).mono fun e w' ⟨h1, h2⟩ => ⟨h1, (Below.refl _ w).alloc (Nat.le_refl _) _ |>.trans (h2.mono (by simp))⟩
theorem new_one (r : Rt) (w : World) : Calls Try.prog 11 #[.slice (some ⟨w.heap.size, 0, none⟩) 1 1] (w.alloc (.cells (encR r).toArray 34 (0, 0))) fun e w' => Made (w.alloc (.cells (encR r).toArray 34 (0, 0))) w' [r] e ∧ Below w.heap.size w w' :=
  (new_any (some ⟨w.heap.size, 0, none⟩) 1 [r] (by simp) _ ⟨rfl, Nat.le_refl _, by decide, Rd.at (L := [r]) (by rw [flat_one]; exact at_new w _ _ _), fun e => (by cases e), fun a e => (by cases e; exact ⟨_, _, rfl, by simp⟩)⟩).mono fun e w' ⟨h1, h2⟩ => ⟨h1, (Below.refl _ w).alloc (Nat.le_refl _) _ |>.trans (h2.mono (by simp))⟩
theorem new_none (w : World) : Calls Try.prog 11 #[.slice none 0 0] w fun e w' => ∃ b v, e = .returned (.tuple #[.pointer (some ⟨b, 0, none⟩), .int .i64 0]) ∧ Tb w.heap.size w' b v [] ∧ Below w.heap.size w w' :=
  (new_any none 0 [] (by simp) w ⟨rfl, Nat.le_refl _, by decide, fun i hi => absurd hi (by simp), fun _ => rfl, fun a e => (by cases e)⟩).mono fun e w' ⟨h1, h2⟩ => by
    rcases h1 with ⟨h, _⟩ | ⟨_, b, v, h3, h4⟩
    · exact absurd (show newC [] = 0 by decide) h
    · exact ⟨b, v, h3, h4, h2⟩
theorem Tb.lower {base base' : Nat} {w : World} {b : Nat} {v : Value} {T : List Rt} (h : Tb base w b v T) (hb : base' ≤ base) : Tb base' w b v T := ⟨h.blk, own_le h.own hb, Nat.le_trans hb h.lo, h.tok⟩
/-- what is done to a table leaves what is older -/
theorem tb_below {base : Nat} {w w' : World} {b : Nat} {v : Value} {T : List Rt} (h : Tb base w b v T) (ho : Only (fun k => k = b ∨ v.ownBlock = some k) w w') : Below base w w' := by
  refine ho.below (Nat.le_trans h.lo (Nat.le_of_lt h.lt)) (fun i hi e => ?_)
  have h1 := h.lo
  rcases e with rfl | e
  · omega
  · rcases h.own.2 with ⟨h0, _⟩ | ⟨g, cap, cur, h0, hg, _⟩
    · rw [h0] at e; cases e
    · rw [h0] at e
      simp only [Value.ownBlock, Option.some.injEq] at e
      omega
theorem made_ok {w w' : World} {L T : List Rt} {e : Ending} (h : Made w w' L e) (hc : newC L = 0) (hf : fold L = T) : ∃ b v, e = .returned (.tuple #[.pointer (some ⟨b, 0, none⟩), .int .i64 0]) ∧ Tb w.heap.size w' b v T := by
  rcases h with ⟨h, _⟩ | ⟨_, b, v, h1, h2⟩
  · exact absurd hc h
  · exact ⟨b, v, h1, hf ▸ h2⟩
theorem made_no {w w' : World} {L : List Rt} {e : Ending} {c : Int} (h : Made w w' L e) (hc : newC L = c) (h0 : c ≠ 0) : e = .returned (.tuple #[.pointer none, .int .i64 c]) := by
  subst hc
  rcases h with ⟨_, h⟩ | ⟨h, _⟩
  · exact h
  · exact absurd h h0
/-- the law's two tables, and the incs between them -/
theorem awk_new1 (w : World) : Calls Try.prog 11 #[.slice (some ⟨w.heap.size, 0, none⟩) 2 2] (w.alloc (.cells (encR (rk 2 2) ++ encR (rk 1 1)).toArray 34 (0, 0))) fun e w' => ∃ b v, e = .returned (.tuple #[.pointer (some ⟨b, 0, none⟩), .int .i64 0]) ∧ Tb w.heap.size w' b v aT ∧ Below w.heap.size w w' :=
  (new_two _ _ w).mono fun e w' ⟨h1, h2⟩ => by
    obtain ⟨b, v, h3, h4⟩ := made_ok (T := aT) h1 aC aF
    exact ⟨b, v, h3, h4.lower (by simp), h2⟩
theorem awk_new2 (w : World) : Calls Try.prog 11 #[.slice (some ⟨w.heap.size, 0, none⟩) 2 2] (w.alloc (.cells (encR (rk 2 3) ++ encR (rk 3 4)).toArray 34 (0, 0))) fun e w' => ∃ b v, e = .returned (.tuple #[.pointer (some ⟨b, 0, none⟩), .int .i64 0]) ∧ Tb w.heap.size w' b v bL ∧ Below w.heap.size w w' :=
  (new_two _ _ w).mono fun e w' ⟨h1, h2⟩ => by
    obtain ⟨b, v, h3, h4⟩ := made_ok (T := bL) h1 bC bF
    exact ⟨b, v, h3, h4.lower (by simp), h2⟩
theorem awk_new3 (w : World) : Calls Try.prog 11 #[.slice (some ⟨w.heap.size, 0, none⟩) 1 1] (w.alloc (.cells (encR ⟨zP, 65535, 0⟩).toArray 34 (0, 0))) fun e w' => e = .returned (.tuple #[.pointer none, .int .i64 1]) ∧ Below w.heap.size w w' :=
  (new_one _ w).mono fun e w' ⟨h1, h2⟩ => ⟨made_no h1 cC (by decide), h2⟩
end Tab
end Go.Proofs.Ytbeoclcnajfjcaa
