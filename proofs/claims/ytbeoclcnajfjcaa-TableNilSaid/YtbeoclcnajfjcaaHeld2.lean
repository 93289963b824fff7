/-
  A region that draws its order: the condition may grow on the way; an operation that leaves no value; a row stored in the midst of a block. Plain laws; no program. Conditions: those that each theorem names.
-/
import Derived.Test.YtbeoclcnajfjcaaHeld
import Derived.Test.YtbeoclcnajfjcaaFrame
import Derived.Deep.MidRow
namespace Go.Proofs.Ytbeoclcnajfjcaa
open Go
set_option linter.unusedVariables false
namespace H2
theorem held_mono {P : Program} {ops : Array Oper} {Q : Exit → Act → World → Prop} {md : Region.Mode} {S S' : World → Prop} (h : ∀ w, S' w → S w) : ∀ (fuel : Nat) (listed : Array Bool) (a : Act) (w : World), wpAnyH P md ops Q S' fuel listed a w → wpAnyH P md ops Q S fuel listed a w
  | 0, _, _, _, hh => hh
  | fuel + 1, _, _, _, hh => ⟨hh.1, fun i hi => wpOp_mono (fun a' w' h' => ⟨h _ h'.1, held_mono h fuel _ a' w' h'.2⟩) (hh.2 i hi)⟩
theorem cell_other {w : World} {q a : Addr} {u v : Value} (h : w.cell? a = some v) (hq : q.block ≠ a.block) : (w.setCell q u).cell? a = some v := (World.cell?_setCell_far w q a u hq).trans h
/-- number i alone may come up, and is carried out; it leaves no value -/
theorem held_do {P : Program} {ops : Array Oper} {Q : Exit → Act → World → Prop} {S : World → Prop} (i : Nat) {oi : Oper} {fuel : Nat} {listed : Array Bool} {T : Array Value} {D : List Deferred} {w : World} (hi : ops[i]? = some oi)
    (hr : Region.ready .any ops listed = [i]) (hw : Region.wanted oi (yielded ops T) = true)
    (h : ∀ K' : Act → World → Prop, Shut (∀ T D w, S w → wpAnyH P .any ops Q S fuel (listed.setIfInBounds i true) ⟨T, D⟩ w → K' ⟨T, D⟩ w) → Oper.wp P oi ⟨T, D⟩ w K' Q) : wpAnyH P .any ops Q S (fuel + 1) listed ⟨T, D⟩ w := by
  refine wpAnyH_ready hr (by simp) (AllReadyH.cons hi (fun K hK => ?_) AllReadyH.nil)
  rw [if_pos hw]
  exact h K (fun T D w hS h => hK.out _ _ hS (fun _ => h))
/-- two may come up: each is carried out first -/
theorem held_two {P : Program} {ops : Array Oper} {Q : Exit → Act → World → Prop} {S : World → Prop} (i j : Nat) {oi oj : Oper} {fuel : Nat} {listed : Array Bool} {T : Array Value} {D : List Deferred} {w : World} (hi : ops[i]? = some oi) (hj : ops[j]? = some oj)
    (hr : Region.ready .any ops listed = [i, j]) (hw : Region.wanted oi (yielded ops T) = true) (hw2 : Region.wanted oj (yielded ops T) = true)
    (h : ∀ K' : Act → World → Prop, Shut (∀ T D w, S w → wpAnyH P .any ops Q S fuel (listed.setIfInBounds i true) ⟨T, D⟩ w → K' ⟨T, D⟩ w) → Oper.wp P oi ⟨T, D⟩ w K' Q)
    (h2 : ∀ K' : Act → World → Prop, Shut (∀ T D w, S w → wpAnyH P .any ops Q S fuel (listed.setIfInBounds j true) ⟨T, D⟩ w → K' ⟨T, D⟩ w) → Oper.wp P oj ⟨T, D⟩ w K' Q) : wpAnyH P .any ops Q S (fuel + 1) listed ⟨T, D⟩ w := by
  refine wpAnyH_ready hr (by simp) (AllReadyH.cons hi (fun K hK => ?_) (AllReadyH.cons hj (fun K hK => ?_) AllReadyH.nil))
  · rw [if_pos hw]
    exact h K (fun T D w hS h => hK.out _ _ hS (fun _ => h))
  · rw [if_pos hw2]
    exact h2 K (fun T D w hS h => hK.out _ _ hS (fun _ => h))
theorem blk_cells {g : Nat} {t : TypeId} : ∀ (vs : List Value) (o : Nat) {w : World} {cs : Array Value} (_ : w.heap[g]? = some (.cells cs t (0, 0))), ∃ cs', (w.setCells g o vs).heap[g]? = some (.cells cs' t (0, 0)) ∧ cs'.size = cs.size ∧ ∀ k, cs'[k]? = if o ≤ k ∧ k < o + vs.length ∧ k < cs.size then vs[k - o]? else cs[k]?
  | [], o, w, cs, h => ⟨cs, h, rfl, fun k => by simp; intro h1 h2; omega⟩
  | v :: r, o, w, cs, h => by
    obtain ⟨cs', h1, h2, h3⟩ := blk_cells r (o + 1) (blk_set h o v)
    refine ⟨cs', h1, by simpa using h2, fun k => ?_⟩
    rw [h3 k, Array.getElem?_setIfInBounds]
    by_cases e : o = k
    · subst e
      rw [if_neg (by omega), if_pos rfl]
      by_cases hs : o < cs.size
      · rw [if_pos hs, if_pos ⟨by omega, by simp, hs⟩]; simp
      · rw [if_neg hs, if_neg (by omega), Array.getElem?_eq_none (by omega)]
    · by_cases hk : o + 1 ≤ k ∧ k < o + 1 + r.length ∧ k < cs.size
      · rw [if_pos (by simpa using hk), if_pos ⟨by omega, by simp; omega, hk.2.2⟩, show k - o = (k - (o + 1)) + 1 by omega, List.getElem?_cons_succ]
      · rw [if_neg (by simpa using hk), if_neg e, if_neg (by simp; omega)]
theorem Only.setCells {S : Nat → Prop} {g : Nat} : ∀ (vs : List Value) (o : Nat) {a w : World} (_ : Only S a w) (_ : g < a.heap.size → S g), Only S a (w.setCells g o vs)
  | [], _, _, _, h, _ => h
  | v :: r, o, a, w, h, hp => Only.setCells r (o + 1) (Only.setCell h (p := ⟨g, o, none⟩) hp v) hp
end H2
end Go.Proofs.Ytbeoclcnajfjcaa
