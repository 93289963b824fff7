/-
  A region that draws its order, walked operation by operation. Plain laws; no program. Conditions: those that each theorem names.
-/
import Derived.Deep.RegionHeld3
namespace Go.Proofs.Ytbeoclcnajfjcaa
open Go
set_option linter.unusedVariables false
variable {P : Program} {ops : Array Oper} {Q : Exit → Act → World → Prop} {S : World → Prop}
/-- number i, which lays its value into slot d, is taken first -/
theorem held_take (i d : Nat) {oi : Oper} {v : Value} {fuel : Nat} {listed : Array Bool} {T : Array Value} {D : List Deferred} {w : World} (hi : ops[i]? = some oi) (hd : oi.dst = some d)
    (hs : Region.noSelect ops = true) (hf : Region.free .any ops listed i = true) (hr : (Region.ready .any ops listed).contains i = true)
    (hQ : ∀ c a w, Q (.panic c) (a.put oi.dst v) w → Q (.panic c) a w) (hw : Region.wanted oi (yielded ops T) = true) (hy : ∀ w, S w → (execOp (Act.mk T D).eval oi).run P w = .ok (.value v) w) (hS : S w)
    (h : wpAnyH P .any ops Q S fuel (listed.setIfInBounds i true) ⟨T.setIfInBounds d v, D⟩ w) : wpAnyH P .any ops Q S (fuel + 1) listed ⟨T, D⟩ w := by
  refine wpAnyH_take hi hs hf hr hQ (.inl ⟨hw, hy⟩) hS ?_
  rw [hd]
  exact h
/-- number i, whose guard is false, is passed by -/
theorem held_skip (i d : Nat) {oi : Oper} {fuel : Nat} {listed : Array Bool} {T : Array Value} {D : List Deferred} {w : World} (hi : ops[i]? = some oi) (hd : oi.dst = some d)
    (hs : Region.noSelect ops = true) (hf : Region.free .any ops listed i = true) (hr : (Region.ready .any ops listed).contains i = true)
    (hQ : ∀ c a w, Q (.panic c) (a.put oi.dst undef) w → Q (.panic c) a w) (hw : Region.wanted oi (yielded ops T) = false) (hS : S w)
    (h : wpAnyH P .any ops Q S fuel (listed.setIfInBounds i true) ⟨T.setIfInBounds d undef, D⟩ w) : wpAnyH P .any ops Q S (fuel + 1) listed ⟨T, D⟩ w := by
  refine wpAnyH_take hi hs hf hr hQ (.inr ⟨hw, rfl⟩) hS ?_
  rw [hd]
  exact h
/-- number i alone may come up, and its guard is false -/
theorem held_pass (i d : Nat) {oi : Oper} {fuel : Nat} {listed : Array Bool} {T : Array Value} {D : List Deferred} {w : World} (hi : ops[i]? = some oi) (hd : oi.dst = some d)
    (hr : Region.ready .any ops listed = [i]) (hw : Region.wanted oi (yielded ops T) = false) (hS : S w)
    (h : wpAnyH P .any ops Q S fuel (listed.setIfInBounds i true) ⟨T.setIfInBounds d undef, D⟩ w) : wpAnyH P .any ops Q S (fuel + 1) listed ⟨T, D⟩ w := by
  refine wpAnyH_ready hr (by simp) (AllReadyH.cons hi (fun K hK => ?_) AllReadyH.nil)
  rw [if_neg (by simpa using hw), hd]
  exact hK.out _ _ hS (fun _ => h)
/-- number i alone may come up, and is carried out -/
theorem held_call (i d : Nat) {oi : Oper} {fuel : Nat} {listed : Array Bool} {T : Array Value} {D : List Deferred} {w : World} (hi : ops[i]? = some oi) (hd : oi.dst = some d)
    (hr : Region.ready .any ops listed = [i]) (hw : Region.wanted oi (yielded ops T) = true)
    (h : ∀ K' : Act → World → Prop, Shut (∀ T D w, S w → wpAnyH P .any ops Q S fuel (listed.setIfInBounds i true) ⟨T, D⟩ w → K' ⟨T, D⟩ w) → Oper.wp P oi ⟨T, D⟩ w K' Q) : wpAnyH P .any ops Q S (fuel + 1) listed ⟨T, D⟩ w := by
  refine wpAnyH_ready hr (by simp) (AllReadyH.cons hi (fun K hK => ?_) AllReadyH.nil)
  rw [if_pos hw]
  exact h K (fun T D w hS h => hK.out _ _ hS (fun _ => h))
end Go.Proofs.Ytbeoclcnajfjcaa
