/-
  Table.Put: laws. Conditions: those that each theorem names.
-/
import Derived.Test.YtbeoclcnajfjcaaDelA
namespace Go.Proofs.Ytbeoclcnajfjcaa
open Go Go.RowKit H2
set_option linter.unusedVariables false
set_option linter.unusedSimpArgs false
namespace Tab
theorem splice_set (cur : Array Value) (L : List Rt) (r : Rt) (i : Nat) (hi : i < L.length) (hs : L.length * 20 ≤ cur.size) (ht : cur.toList.take (L.length * 20) = flat L) :
    (splice cur (i * 20) (encR r)).toList.take (L.length * 20) = flat (L.set i r) := by
  have h2 : cur.toList.take (i * 20) = flat (L.take i) := by
    rw [← flat_take, ← ht, List.take_take, show min (i * 20) (L.length * 20) = i * 20 by omega]
  have h3 : (cur.toList.drop (i * 20 + 20)).take (L.length * 20 - (i * 20 + 20)) = flat (L.drop (i + 1)) := by
    rw [← flat_drop, ← ht, List.drop_take, show (i + 1) * 20 = i * 20 + 20 by omega]
  have h4 : (flat (L.take i) ++ encR r).length = i * 20 + 20 := by rw [List.length_append, flat_len, encR_len, List.length_take]; omega
  rw [splice_list, h2, encR_len, List.take_append, h4, h3, List.take_of_length_le (by rw [h4]; omega), List.set_eq_take_append_cons_drop, if_pos hi, flat_app, List.append_assoc]
  rfl
theorem cell_blk {w w' : World} {B o : Nat} (h : w'.heap[B]? = w.heap[B]?) : w'.cell? ⟨B, o, none⟩ = w.cell? ⟨B, o, none⟩ := by
  unfold World.cell?
  rw [h]
theorem At.blk {w w' : World} {B o : Nat} {cs : List Value} (h : At w B o cs) (e : w'.heap[B]? = w.heap[B]?) : At w' B o cs := fun j u hj => (cell_blk e).trans (h j u hj)
theorem RAt.blk {w w' : World} {B o : Nat} {r : Rt} (h : RAt w B o r) (e : w'.heap[B]? = w.heap[B]?) : RAt w' B o r := ⟨h.all.blk e⟩
theorem own_typ {w : World} {base n : Nat} {v : Value} {xs : List Value} (h : w.ownsRow base 34 20 v n xs) {k : Nat} (hk : v.ownBlock = some k) : ∃ cur, w.heap[k]? = some (.cells cur 34 (0, 0)) := by
  rcases h.2 with ⟨rfl, _⟩ | ⟨g, cap, cur, rfl, _, hh, _⟩
  · cases hk
  · simp only [Value.ownBlock, Option.some.injEq] at hk
    subst hk
    exact ⟨cur, hh⟩
theorem own_lt {w : World} {base n : Nat} {v : Value} {xs : List Value} (h : w.ownsRow base 34 20 v n xs) {k : Nat} (hk : v.ownBlock = some k) : k < w.heap.size := by
  obtain ⟨cur, h⟩ := own_typ h hk
  exact blk_lt h
theorem own_ne {w : World} {base n b : Nat} {v u : Value} {xs : List Value} (h : w.ownsRow base 34 20 v n xs) (hb : w.heap[b]? = some (.cells #[u] 78 (0, 0))) : v.ownBlock ≠ some b := fun e => by
  obtain ⟨cur, h⟩ := own_typ h e
  rw [h] at hb
  simp at hb
/-- a new slice in a table -/
theorem tb_set {base : Nat} {w : World} {b : Nat} {v v' : Value} {T' : List Rt} (hb : w.heap[b]? = some (.cells #[v] 78 (0, 0))) (h : w.ownsRow base 34 20 v' T'.length (flat T')) (ht : TOk T') (hl : base ≤ b) : Tb base (w.setCell ⟨b, 0, none⟩ v') b v' T' :=
  ⟨blk_set hb 0 v', (Only.setCell (Only.refl (fun k => k = b) w) (p := ⟨b, 0, none⟩) (fun _ => rfl) v').own h (fun k hk e => own_ne h hb (by subst e; exact hk)), hl, ht⟩
theorem tok_ins {T : List Rt} (h : TOk T) {r : Rt} (hr : right r = true) (hl : has T r.to = true ∨ T.length < 300) : TOk (ins T r) :=
  ⟨srt_ins h.srt r, fun x hx => by rcases (mem_ins h.srt).1 hx with rfl | ⟨h1, _⟩
                                   · exact hr
                                   · exact h.ok x h1, by
    rw [len_ins h.srt]
    have := h.len
    rcases hl with hl | hl
    · rw [hl]; simpa using this
    · split <;> omega⟩
theorem tok_del {T : List Rt} (h : TOk T) (p : Pf) : TOk (del T p) :=
  ⟨srt_del h.srt p, fun x hx => h.ok x (mem_del.1 hx).1, Nat.le_trans (List.length_filter_le ..) h.len⟩
/-- what Put answers, and what is then there -/
def putC (T : List Rt) (r : Rt) : Int := if right r then (if has T r.to then 0 else if T.length < 300 then 0 else 7) else 1
def putT (T : List Rt) (r : Rt) : List Rt := if right r then (if has T r.to then ins T r else if T.length < 300 then ins T r else T) else T
theorem putT_ok {T : List Rt} (h : TOk T) (r : Rt) : TOk (putT T r) := by
  unfold putT
  by_cases h1 : right r = true
  · rw [if_pos h1]
    by_cases h2 : has T r.to = true
    · rw [if_pos h2]; exact tok_ins h h1 (.inl h2)
    · rw [if_neg h2]
      by_cases h3 : T.length < 300
      · rw [if_pos h3]; exact tok_ins h h1 (.inr h3)
      · rw [if_neg h3]; exact h
  · rw [if_neg h1]; exact h
/-- two may come up, in either order -/
theorem held_two {P : Program} {ops : Array Oper} {Q : Exit → Act → World → Prop} {S : World → Prop} (i j : Nat) {oi oj : Oper} {fuel : Nat} {listed : Array Bool} {T : Array Value} {D : List Deferred} {w : World} (hi : ops[i]? = some oi) (hj : ops[j]? = some oj)
    (hr : Region.ready .any ops listed = [i, j]) (hwi : Region.wanted oi (yielded ops T) = true) (hwj : Region.wanted oj (yielded ops T) = true)
    (h : ∀ K' : Act → World → Prop, Shut (∀ T D w, S w → wpAnyH P .any ops Q S fuel (listed.setIfInBounds i true) ⟨T, D⟩ w → K' ⟨T, D⟩ w) → Oper.wp P oi ⟨T, D⟩ w K' Q)
    (h2 : ∀ K' : Act → World → Prop, Shut (∀ T D w, S w → wpAnyH P .any ops Q S fuel (listed.setIfInBounds j true) ⟨T, D⟩ w → K' ⟨T, D⟩ w) → Oper.wp P oj ⟨T, D⟩ w K' Q) : wpAnyH P .any ops Q S (fuel + 1) listed ⟨T, D⟩ w := by
  refine wpAnyH_ready hr (by simp) (AllReadyH.cons hi (fun K hK => ?_) (AllReadyH.cons hj (fun K hK => ?_) AllReadyH.nil))
  · rw [if_pos hwi]
    exact h K (fun T D w hS h => hK.out _ _ hS (fun _ => h))
  · rw [if_pos hwj]
    exact h2 K (fun T D w hS h => hK.out _ _ hS (fun _ => h))
end Tab
end Go.Proofs.Ytbeoclcnajfjcaa
