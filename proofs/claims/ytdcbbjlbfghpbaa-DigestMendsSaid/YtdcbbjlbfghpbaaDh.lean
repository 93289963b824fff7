/-
  Joined texts: InsA InsB InsC DelA PutA DelF. Conditions: those that each theorem names.
-/
import Derived.Test.YtdcbbjlbfghpbaaDf
import Derived.Shelf.Spec.SlicesInsertGrow
import Derived.Maps.AppendAt
/-
  slices.Insert and slices.Delete at routes: rows of cells spliced, runs of copy, append, clear. Conditions: those that each theorem names.
-/
namespace Go.Proofs.Ytdcbbjlbfghpbaa
open Go Go.RowKit H2
set_option linter.unusedVariables false
set_option linter.unusedSimpArgs false
namespace Tab
theorem splice_list (cur : Array Value) (o : Nat) (vs : List Value) : (splice cur o vs).toList = cur.toList.take o ++ vs ++ cur.toList.drop (o + vs.length) := by simp [splice]
/-- shifted by one route, and one laid in -/
theorem splice_ins (cur : Array Value) (L : List Rt) (r : Rt) (i : Nat) (hi : i ≤ L.length) (hs : (L.length + 1) * 20 ≤ cur.size) (ht : cur.toList.take (L.length * 20) = flat L) :
    (splice (splice cur ((i + 1) * 20) (flat (L.drop i))) (i * 20) (encR r)).toList.take ((L.length + 1) * 20) = flat (L.take i ++ r :: L.drop i) := by
  have hl : cur.toList.length = cur.size := by simp
  have hd : (flat (L.drop i)).length = (L.length - i) * 20 := by rw [flat_len, List.length_drop]
  have h1 : (splice cur ((i + 1) * 20) (flat (L.drop i))).toList = cur.toList.take ((i + 1) * 20) ++ (flat (L.drop i) ++ cur.toList.drop ((L.length + 1) * 20)) := by
    rw [splice_list, List.append_assoc, hd, show (i + 1) * 20 + (L.length - i) * 20 = (L.length + 1) * 20 by omega]
  have h2 : cur.toList.take (i * 20) = flat (L.take i) := by
    rw [← flat_take, ← ht, List.take_take, show min (i * 20) (L.length * 20) = i * 20 by omega]
  have hlen1 : (cur.toList.take ((i + 1) * 20)).length = (i + 1) * 20 := by rw [List.length_take, hl]; omega
  have hA : (cur.toList.take ((i + 1) * 20) ++ (flat (L.drop i) ++ cur.toList.drop ((L.length + 1) * 20))).take (i * 20) = flat (L.take i) := by
    rw [List.take_append_of_le_length (by rw [hlen1]; omega), List.take_take, show min (i * 20) ((i + 1) * 20) = i * 20 by omega, h2]
  have hB : (cur.toList.take ((i + 1) * 20) ++ (flat (L.drop i) ++ cur.toList.drop ((L.length + 1) * 20))).drop ((i + 1) * 20) = flat (L.drop i) ++ cur.toList.drop ((L.length + 1) * 20) := by
    rw [List.drop_append, hlen1, Nat.sub_self, List.drop_zero, List.drop_of_length_le (by rw [hlen1]; exact Nat.le_refl _), List.nil_append]
  rw [splice_list, h1, encR_len, show i * 20 + 20 = (i + 1) * 20 by omega, hA, hB]
  have h3 : (flat (L.take i) ++ encR r ++ flat (L.drop i)).length = (L.length + 1) * 20 := by
    rw [List.length_append, List.length_append, flat_len, encR_len, hd, List.length_take]; omega
  rw [← List.append_assoc, ← h3, List.take_left, flat_app, flat_cons, List.append_assoc]
/-- laid behind what stands ahead, then what stands behind -/
theorem splice_grow (row : Array Value) (L : List Rt) (r : Rt) (i : Nat) (hi : i ≤ L.length) (hs : (L.length + 1) * 20 ≤ row.size) (ht : row.toList.take (i * 20) = flat (L.take i)) :
    (splice (splice row (i * 20) (encR r)) ((i + 1) * 20) (flat (L.drop i))).toList.take ((L.length + 1) * 20) = flat (L.take i ++ r :: L.drop i) := by
  have hl : row.toList.length = row.size := by simp
  have hd : (flat (L.drop i)).length = (L.length - i) * 20 := by rw [flat_len, List.length_drop]
  have h1 : (splice row (i * 20) (encR r)).toList = (flat (L.take i) ++ encR r) ++ row.toList.drop ((i + 1) * 20) := by
    rw [splice_list, ht, encR_len, show i * 20 + 20 = (i + 1) * 20 by omega]
  have h4 : (flat (L.take i) ++ encR r).length = (i + 1) * 20 := by rw [List.length_append, flat_len, encR_len, List.length_take]; omega
  rw [splice_list, h1, ← h4, List.take_left]
  have h3 : ((flat (L.take i) ++ encR r) ++ flat (L.drop i)).length = (L.length + 1) * 20 := by rw [List.length_append, h4, hd]; omega
  rw [← h3, List.take_left, flat_app, flat_cons, List.append_assoc]
/-- what stands behind laid over one that goes -/
theorem splice_del (cur : Array Value) (L : List Rt) (i : Nat) (hi : i < L.length) (hs : L.length * 20 ≤ cur.size) (ht : cur.toList.take (L.length * 20) = flat L) (z : List Value) :
    (splice (splice cur (i * 20) (flat (L.drop (i + 1)))) ((L.length - 1) * 20) z).toList.take ((L.length - 1) * 20) = flat (L.take i ++ L.drop (i + 1)) := by
  have hl : cur.toList.length = cur.size := by simp
  have hd : (flat (L.drop (i + 1))).length = (L.length - (i + 1)) * 20 := by rw [flat_len, List.length_drop]
  have h2 : cur.toList.take (i * 20) = flat (L.take i) := by
    rw [← flat_take, ← ht, List.take_take, show min (i * 20) (L.length * 20) = i * 20 by omega]
  have h1 : (splice cur (i * 20) (flat (L.drop (i + 1)))).toList = (flat (L.take i) ++ flat (L.drop (i + 1))) ++ cur.toList.drop ((L.length - 1) * 20) := by
    rw [splice_list, h2, hd, show i * 20 + (L.length - (i + 1)) * 20 = (L.length - 1) * 20 by omega]
  have h3 : (flat (L.take i) ++ flat (L.drop (i + 1))).length = (L.length - 1) * 20 := by rw [List.length_append, hd, flat_len, List.length_take]; omega
  rw [splice_list, h1, ← h3, List.take_left, List.append_assoc, List.take_left, flat_app]
theorem infoR20 : (Try.prog.info? 37).map (·.size) = some 20 := by kernel_rfl
theorem copy_run (w : World) (ty : TypeId) (g o dLen dCap : Nat) (a : Addr) (sLen sCap : Nat) (cur : Array Value) (M : List Rt)
    (hg : w.heap[g]? = some (.cells cur 37 (0, 0))) (hn : M.length = Nat.min sLen dLen) (hsrc : ∀ j v, (flat M)[j]? = some v → w.cell? (a.add j) = some v) (hfit : o + M.length * 20 ≤ cur.size) :
    (Builtin.copy_ #[22, 22] ty #[.slice (some ⟨g, o, none⟩) dLen dCap, .slice (some a) sLen sCap]).run Try.prog w = .ok (.int .i64 M.length) (w.setRow g (splice cur o (flat M))) := by
  have hl := run_loadCells_list (P := Try.prog) w a (flat M) hsrc
  rw [flat_len] at hl
  have hst := store_row (o := o) (vs := flat M) hg (by rw [flat_len]; exact hfit) (flat_one' M) Try.prog
  have hi := infoR20
  cases hq : Try.prog.info? 37 with
  | none => rw [hq] at hi; cases hi
  | some i =>
    have hs : i.size = 20 := by rw [hq] at hi; simpa using hi
    have hu : Try.prog.underlying 22 = some (.slice 37) := Try.underlying22
    rw [Builtin.copy_]
    simp [run_underlying hu, Builtin.lenOf, Builtin.firstCells, Go.sizeOf, typeInfo, hq, hs, ← hn, hl, hst, goInt, flat_len]
theorem clear_run (w : World) (ty : TypeId) (g o cap : Nat) (cur : Array Value) (hg : w.heap[g]? = some (.cells cur 37 (0, 0))) (hfit : o + 20 ≤ cur.size) :
    (Builtin.clear_ #[22] ty #[.slice (some ⟨g, o, none⟩) 1 cap]).run Try.prog w = .ok (.tuple #[]) (w.setRow g (splice cur o (encR zR))) := by
  have hst := store_row (o := o) (vs := encR zR) hg (by rw [encR_len]; exact hfit) (encR_one zR) Try.prog
  have hu : Try.prog.underlying 22 = some (.slice 37) := Try.underlying22
  have hz : (Builtin.zeroCells (encR zR).toArray 1).toList = encR zR := by kernel_rfl
  rw [Builtin.clear_]
  simp [run_underlying hu, Value.cells, hz, hst]
end Tab
end Go.Proofs.Ytdcbbjlbfghpbaa

/-
  slices.Insert at routes. Conditions: those that each theorem names.
-/
namespace Go.Proofs.Ytdcbbjlbfghpbaa
open Go Go.RowKit H2
set_option linter.unusedVariables false
set_option linter.unusedSimpArgs false
namespace Tab
theorem row_own {w : World} {base g cap n : Nat} {cur : Array Value} {M : List Rt} (hg : w.heap[g]? = some (.cells cur 37 (0, 0))) (hb : base ≤ g) (hn : M.length = n) (hc : n ≤ cap) (hm : cap ≤ maxLen) (hs : cur.size = cap * 20) (ht : cur.toList.take (n * 20) = flat M) :
    w.ownsRow base 37 20 (.slice (some ⟨g, 0, none⟩) n cap) n (flat M) :=
  ⟨by rw [flat_len, hn], .inr ⟨g, cap, cur, rfl, hb, hg, hc, hm, hs, ht⟩⟩
theorem at_one {w : World} {b : Nat} {r : Rt} (h : w.heap[b]? = some (.cells (encR r).toArray 37 (0, 0))) : ∀ j u, (flat [r])[j]? = some u → w.cell? ((⟨b, 0, none⟩ : Addr).add j) = some u := fun j u hj => by
  rw [flat_one] at hj
  rw [Addr.add_lit]
  exact at_row h j u hj
theorem rd_one {w : World} {b : Nat} {r : Rt} (h : w.heap[b]? = some (.cells (encR r).toArray 37 (0, 0))) : Rd w (some ⟨b, 0, none⟩) [r] := fun i hi => by
  have : i = 0 := by simp at hi; omega
  subst this
  exact ⟨b, 0, rfl, ⟨at_row h⟩⟩
theorem Only.setRow {S : Nat → Prop} {a w : World} (h : Only S a w) {g : Nat} (hg : g < a.heap.size → S g) (cs : Array Value) : Only S a (w.setRow g cs) :=
  ⟨h.os, h.tape, h.output, by simpa using h.size, fun i hi hn => (setRow_other w g i cs (fun e => hn (by subst e; exact hg hi))).trans (h.block i hi hn)⟩
/-- where a slice lies behind a call: where it lay, or in a new block -/
def Kin (w : World) (v v' : Value) : Prop := ∀ k, v'.ownBlock = some k → v.ownBlock = some k ∨ w.heap.size ≤ k
theorem Kin.same (w : World) (v : Value) : Kin w v v := fun k e => .inl e
theorem Kin.up {w W : World} {v v' : Value} (h : Kin W v v') (hb : w.heap.size ≤ W.heap.size) : Kin w v v' := fun k e => (h k e).imp id (Nat.le_trans hb)
theorem app_runK (w : World) (base : Nat) (v : Value) (L M : List Rt) (ty : TypeId) (ho : w.ownsRow base 37 20 v L.length (flat L)) (A : Option Addr) (c : Nat) (hr : Rd w A M) (hA : A = none → M = [])
    (hl : L.length + M.length ≤ 1000000) (hb : base ≤ w.heap.size) :
    ∃ v' w', (Builtin.append_ #[22, 22] ty #[v, .slice A M.length c]).run Try.prog w = .ok v' w' ∧ w'.ownsRow base 37 20 v' (L ++ M).length (flat (L ++ M)) ∧ w.grownBy w' v.ownBlock ∧ Kin w v v' := by
  obtain ⟨i0, hi, hz0, hz1, hz2⟩ := infoR'
  cases A with
  | none =>
    obtain rfl := hA rfl
    exact ⟨v, w, run_app_none w Try.underlying22 hi ho c, by simpa using ho, World.grownBy.refl w _, Kin.same w v⟩
  | some ad =>
    have hnews : ∀ j u, (flat M)[j]? = some u → w.cell? (ad.add j) = some u := fun j u hj => by
      have hj' : j < M.length * 20 := by
        have := (List.getElem?_eq_some_iff.1 hj).1
        rwa [flat_len] at this
      obtain ⟨b, o, e, _⟩ := hr (j / 20) (by omega)
      cases e
      rw [Addr.add_lit]
      exact hr.flat j u hj
    obtain ⟨v', w', hrun, h2, h3, _, h4⟩ := run_append_own_at (P := Try.prog) (w := w) base 22 ty 37 i0 _ 20 48 Try.underlying22 hi hz0 hz1 hz2 (by simp [Value.cells, encR_len]) (by omega) v L.length (flat L) ho ad M.length c (flat M) (flat_len M) hnews (flat_one' M) (by unfold maxLen; omega) (by omega) hb
    exact ⟨v', w', hrun, by rw [flat_app, List.length_append]; exact h2, h3, fun k e => by
      rcases h4 with h4 | h4
      · exact .inl (h4 ▸ e)
      · rw [h4] at e
        cases e
        exact .inr (Nat.le_refl _)⟩
theorem size20 (w : World) : (Go.sizeOf 37).run Try.prog w = .ok 20 w := Try.sizeOf37 w
end Tab
end Go.Proofs.Ytdcbbjlbfghpbaa

/-
  slices.Insert at routes: a new row. Conditions: those that each theorem names.
-/
namespace Go.Proofs.Ytdcbbjlbfghpbaa
open Go Go.RowKit H2
set_option linter.unusedVariables false
set_option linter.unusedSimpArgs false
namespace Tab
theorem zc_size (k : Nat) : (Builtin.zeroCells (Value.agg (encR zR).toArray).cells k).size = k * 20 := by simp [Builtin.zeroCells, Value.cells, encR_len]
end Tab
end Go.Proofs.Ytdcbbjlbfghpbaa

/-
  slices.Insert whole, slices.Delete at routes. Conditions: those that each theorem names.
-/
namespace Go.Proofs.Ytdcbbjlbfghpbaa
open Go Go.RowKit H2
set_option linter.unusedVariables false
set_option linter.unusedSimpArgs false
namespace Tab
theorem insertIdx_eq (L : List Rt) (r : Rt) : ∀ i, i ≤ L.length → L.insertIdx i r = L.take i ++ r :: L.drop i := by
  induction L with
  | nil => intro i hi; have : i = 0 := by simpa using hi
           subst this; rfl
  | cons x L ih =>
    intro i hi
    cases i with
    | zero => rfl
    | succ i => rw [List.insertIdx_succ_cons, ih i (by simpa using hi)]; rfl
theorem eraseIdx_eq (L : List Rt) : ∀ i, L.eraseIdx i = L.take i ++ L.drop (i + 1) := by
  induction L with
  | nil => intro i; simp
  | cons x L ih =>
    intro i
    cases i with
    | zero => rfl
    | succ i => rw [List.eraseIdx_cons_succ, ih i]; rfl
section
variable {P : Program}
theorem wpList_clear_run {ops : Array Oper} {rest : List Oper} {o : Oper} {a : Act} {w w' : World} {Q : Exit → Act → World → Prop} (hgd : o.guard = none) (x : Operand) (t : TypeId)
    (ho : o.op = .call { callee := .builtin .clear, args := #[x], argTypes := #[t] }) (u : Value) (hx : a.eval x = u) {v' : Value} (hr : (Builtin.clear_ #[t] o.type #[u]).run P w = .ok v' w')
    (h : wpList P ops Q rest (a.put o.dst v') w') : wpList P ops Q (o :: rest) a w := by
  refine wpList_plain hgd fun K hK => ?_
  unfold Oper.wp execOp
  simp only [ho, resolve, invoke, builtin, Sem.run_bind, Sem.run_pure, Result.andThen_ok, List.map_toArray, List.map_cons, List.map_nil, hx, hr]
  exact hK _ _ h
end
end Tab
end Go.Proofs.Ytdcbbjlbfghpbaa

/-
  Table.Put: laws. Conditions: those that each theorem names.
-/
namespace Go.Proofs.Ytdcbbjlbfghpbaa
open Go Go.RowKit H2
set_option linter.unusedVariables false
set_option linter.unusedSimpArgs false
namespace Tab
theorem splice_set (cur : Array Value) (L : List Rt) (r : Rt) (i : Nat) (hi : i < L.length) (hs : L.length * 20 ≤ cur.size) (ht : cur.toList.take (L.length * 20) = flat L) :
    (splice cur (i * 20) (encR r)).toList.take (L.length * 20) = flat (L.set i r) := by
  have h2 : cur.toList.take (i * 20) = flat (L.take i) := by
    rw [← flat_take, ← ht, List.take_take, show min (i * 20) (L.length * 20) = i * 20 by omega]
  have h3 : (cur.toList.drop (i * 20 + 20)).take (L.length * 20 - (i * 20 + 20)) = flat (L.drop (i + 1)) := by
    rw [← flat_drop, ← ht, List.drop_take, show (i + 1) * 20 = i * 20 + 20 by omega]
  have h4 : (flat (L.take i) ++ encR r).length = i * 20 + 20 := by rw [List.length_append, flat_len, encR_len, List.length_take]; omega
  rw [splice_list, h2, encR_len, List.take_append, h4, h3, List.take_of_length_le (by rw [h4]; omega), List.set_eq_take_append_cons_drop, if_pos hi, flat_app, List.append_assoc]
  rfl
theorem cell_blk {w w' : World} {B o : Nat} (h : w'.heap[B]? = w.heap[B]?) : w'.cell? ⟨B, o, none⟩ = w.cell? ⟨B, o, none⟩ := by
  unfold World.cell?
  rw [h]
theorem At.blk {w w' : World} {B o : Nat} {cs : List Value} (h : At w B o cs) (e : w'.heap[B]? = w.heap[B]?) : At w' B o cs := fun j u hj => (cell_blk e).trans (h j u hj)
theorem RAt.blk {w w' : World} {B o : Nat} {r : Rt} (h : RAt w B o r) (e : w'.heap[B]? = w.heap[B]?) : RAt w' B o r := ⟨h.all.blk e⟩
theorem own_typ {w : World} {base n : Nat} {v : Value} {xs : List Value} (h : w.ownsRow base 37 20 v n xs) {k : Nat} (hk : v.ownBlock = some k) : ∃ cur, w.heap[k]? = some (.cells cur 37 (0, 0)) := by
  rcases h.2 with ⟨rfl, _⟩ | ⟨g, cap, cur, rfl, _, hh, _⟩
  · cases hk
  · simp only [Value.ownBlock, Option.some.injEq] at hk
    subst hk
    exact ⟨cur, hh⟩
theorem own_lt {w : World} {base n : Nat} {v : Value} {xs : List Value} (h : w.ownsRow base 37 20 v n xs) {k : Nat} (hk : v.ownBlock = some k) : k < w.heap.size := by
  obtain ⟨cur, h⟩ := own_typ h hk
  exact blk_lt h
theorem own_ne {w : World} {base n b : Nat} {v u : Value} {xs : List Value} (h : w.ownsRow base 37 20 v n xs) (hb : w.heap[b]? = some (.cells #[u] 81 (0, 0))) : v.ownBlock ≠ some b := fun e => by
  obtain ⟨cur, h⟩ := own_typ h e
  rw [h] at hb
  simp at hb
/-- a new slice in a table -/
theorem tb_set {base : Nat} {w : World} {b : Nat} {v v' : Value} {T' : List Rt} (hb : w.heap[b]? = some (.cells #[v] 81 (0, 0))) (h : w.ownsRow base 37 20 v' T'.length (flat T')) (ht : TOk T') (hl : base ≤ b) : Tb base (w.setCell ⟨b, 0, none⟩ v') b v' T' :=
  ⟨blk_set hb 0 v', (Only.setCell (Only.refl (fun k => k = b) w) (p := ⟨b, 0, none⟩) (fun _ => rfl) v').own h (fun k hk e => own_ne h hb (by subst e; exact hk)), hl, ht⟩
theorem tok_ins {T : List Rt} (h : TOk T) {r : Rt} (hr : right r = true) (hl : has T r.to = true ∨ T.length < 300) : TOk (ins T r) :=
  ⟨srt_ins h.srt r, fun x hx => by rcases (mem_ins h.srt).1 hx with rfl | ⟨h1, _⟩
                                   · exact hr
                                   · exact h.ok x h1, by
    rw [len_ins h.srt]
    have := h.len
    rcases hl with hl | hl
    · rw [hl]; simpa using this
    · split <;> omega⟩
theorem tok_del {T : List Rt} (h : TOk T) (p : Pf) : TOk (del T p) :=
  ⟨srt_del h.srt p, fun x hx => h.ok x (mem_del.1 hx).1, Nat.le_trans (List.length_filter_le ..) h.len⟩
/-- what Put answers, and what is then there -/
def putC (T : List Rt) (r : Rt) : Int := if right r then (if has T r.to then 0 else if T.length < 300 then 0 else 7) else 1
def putT (T : List Rt) (r : Rt) : List Rt := if right r then (if has T r.to then ins T r else if T.length < 300 then ins T r else T) else T
theorem putT_ok {T : List Rt} (h : TOk T) (r : Rt) : TOk (putT T r) := by
  unfold putT
  by_cases h1 : right r = true
  · rw [if_pos h1]
    by_cases h2 : has T r.to = true
    · rw [if_pos h2]; exact tok_ins h h1 (.inl h2)
    · rw [if_neg h2]
      by_cases h3 : T.length < 300
      · rw [if_pos h3]; exact tok_ins h h1 (.inr h3)
      · rw [if_neg h3]; exact h
  · rw [if_neg h1]; exact h
/-- two may come up, in either order -/
theorem held_two {P : Program} {ops : Array Oper} {Q : Exit → Act → World → Prop} {S : World → Prop} (i j : Nat) {oi oj : Oper} {fuel : Nat} {listed : Array Bool} {T : Array Value} {D : List Deferred} {w : World} (hi : ops[i]? = some oi) (hj : ops[j]? = some oj)
    (hr : Region.ready .any ops listed = [i, j]) (hwi : Region.wanted oi (yielded ops T) = true) (hwj : Region.wanted oj (yielded ops T) = true)
    (h : ∀ K' : Act → World → Prop, Shut (∀ T D w, S w → wpAnyH P .any ops Q S fuel (listed.setIfInBounds i true) ⟨T, D⟩ w → K' ⟨T, D⟩ w) → Oper.wp P oi ⟨T, D⟩ w K' Q)
    (h2 : ∀ K' : Act → World → Prop, Shut (∀ T D w, S w → wpAnyH P .any ops Q S fuel (listed.setIfInBounds j true) ⟨T, D⟩ w → K' ⟨T, D⟩ w) → Oper.wp P oj ⟨T, D⟩ w K' Q) : wpAnyH P .any ops Q S (fuel + 1) listed ⟨T, D⟩ w := by
  refine wpAnyH_ready hr (by simp) (AllReadyH.cons hi (fun K hK => ?_) (AllReadyH.cons hj (fun K hK => ?_) AllReadyH.nil))
  · rw [if_pos hwi]
    exact h K (fun T D w hS h => hK.out _ _ hS (fun _ => h))
  · rw [if_pos hwj]
    exact h2 K (fun T D w hS h => hK.out _ _ hS (fun _ => h))
end Tab
end Go.Proofs.Ytdcbbjlbfghpbaa

/-
  slices.DeleteFunc at routes. Conditions: those that each theorem names.
-/
namespace Go.Proofs.Ytdcbbjlbfghpbaa
open Go Go.RowKit H2
set_option linter.unusedVariables false
set_option linter.unusedSimpArgs false
namespace Tab
/-- the first that meets a test -/
def Fst (p : Rt → Bool) (L : List Rt) (e : Ending) : Prop := (e = .returned (.int .i64 (-1)) ∧ ∀ j (h : j < L.length), p L[j] = false) ∨ ∃ i : Nat, ∃ h : i < L.length, e = .returned (.int .i64 i) ∧ p L[i] = true ∧ ∀ j (h : j < L.length), j < i → p L[j] = false
set_option maxHeartbeats 4000000 in
theorem first_any (p : Rt → Bool) (g : Nat) (lb : Array Value) (eg : ∀ args w, (callFunc g args).run Try.prog w = .ok (.enter g args) w) (A : Option Addr) (cap : Nat) (L : List Rt) (hL : L.length ≤ 1000000) (w : World) (hr : Rd w A L)
    (hp : ∀ (W : World) (x : Rt), Below w.heap.size w W → Calls Try.prog g (#[.agg (encR x).toArray] ++ lb) W fun e w' => e = .returned (.bool (p x)) ∧ Below W.heap.size W w') :
    Calls Try.prog 65 #[.slice A L.length cap, .func (.func g) #[] lb] w fun e w' => Fst p L e ∧ Below w.heap.size w w' := by
  have HR := Lib.hid hr
  have HP := Lib.hid hp
  clear hr hp
  go_enter Try.func65, Try.ntmps65
  go_wp2
  go_loopw [8] (fun s8 wr => ∃ k : Nat, k ≤ L.length ∧ s8 = .int .i64 k ∧ (∀ j (h : j < L.length), j < k → p L[j] = false) ∧ Below w.heap.size w wr) (fun s8 _ => L.length - (intOf s8).toNat)
  case atStart => exact ⟨0, by omega, rfl, fun j h1 h2 => by omega, Below.refl _ _⟩
  case round =>
    obtain ⟨k, hk, rfl, hn, hb⟩ := hrel
    have HN := Lib.hid hn
    have HB := Lib.hid hb
    clear hn hb
    by_cases hlt : k < L.length
    · have hlt' : (k : Int) < (L.length : Int) := by omega
      have k0 : (0 : Int) ≤ (k : Int) := by omega
      obtain ⟨b, o, rfl, hra⟩ := HR.out k hlt
      have hld := (hra.below HB.out).all.load (k := n20) (encR_n _) Try.prog
      have hld2 : Sem.run Try.prog (loadCellsFrom ⟨b, o + k * n20, none⟩ 0 n20 #[]) wr = .ok (encR L[k]).toArray wr := hld
      have hcall := HP.out wr L[k] HB.out
      clear hra hld
      cases hq : p L[k]
      · rw [hq] at hcall
        have HQ := Lib.hid hq
        clear hq
        generalize L[k] = x at hld2 hcall
        go_wp2_with (go_at_fn g; refine hcall.mono ?_; rintro e w' ⟨rfl, hb'⟩; have HB2 := Lib.hid (HB.out.trans (hb'.mono HB.out.size)); clear hb')
        go_roundw
        case rel => exact ⟨k + 1, by omega, by go_num, fun j h1 h2 => by
          rcases Nat.lt_or_eq_of_le (Nat.lt_succ_iff.1 h2) with h | h
          · exact HN.out j h1 h
          · subst h; exact HQ.out, HB2.out⟩
        case measure => simp [intOf]; omega
      · rw [hq] at hcall
        have HQ := Lib.hid hq
        clear hq
        generalize L[k] = x at hld2 hcall
        go_wp2_with (go_at_fn g; refine hcall.mono ?_; rintro e w' ⟨rfl, hb'⟩; have HB2 := Lib.hid (HB.out.trans (hb'.mono HB.out.size)); clear hb')
        go_ret
        exact ⟨.inr ⟨k, hlt, rfl, HQ.out, HN.out⟩, HB2.out⟩
    · obtain rfl : k = L.length := by omega
      go_wp2
      go_ret
      exact ⟨.inl ⟨rfl, fun j h => HN.out j h h⟩, HB.out⟩
/-- what is left when the first i are kept, and j have been looked at -/
structure Kp (p : Rt → Bool) (L X : List Rt) (i j : Nat) : Prop where
  len : X.length = L.length
  lt : i < j
  le : j ≤ L.length
  fst : X.take i = (L.take j).filter fun r => !p r
  rest : ∀ m (h : m < X.length) (h' : m < L.length), j ≤ m → X[m] = L[m]
theorem kp_start {p : Rt → Bool} {L : List Rt} {i : Nat} (h : i < L.length) (hp : p L[i] = true) (hb : ∀ j (h : j < L.length), j < i → p L[j] = false) : Kp p L L i (i + 1) := by
  refine ⟨rfl, by omega, by omega, ?_, fun m _ _ _ => rfl⟩
  rw [← List.take_append_getElem h, List.filter_append, List.filter_eq_self.2 (fun r hr => ?_)]
  · simp [hp]
  · obtain ⟨j, hj, rfl⟩ := List.getElem_of_mem hr
    rw [List.length_take] at hj
    rw [List.getElem_take, hb j (by omega) (by omega)]
    rfl
theorem kp_drop {p : Rt → Bool} {L X : List Rt} {i j : Nat} (h : Kp p L X i j) (hj : j < L.length) (hp : p L[j] = true) : Kp p L X i (j + 1) := by
  refine ⟨h.len, by have := h.lt; omega, by omega, ?_, fun m a b c => h.rest m a b (by omega)⟩
  rw [← List.take_append_getElem hj, List.filter_append, h.fst]
  simp [hp]
theorem kp_keep {p : Rt → Bool} {L X : List Rt} {i j : Nat} (h : Kp p L X i j) (hj : j < L.length) (hp : p L[j] = false) : Kp p L (X.set i L[j]) (i + 1) (j + 1) := by
  have h1 := h.lt
  have h2 := h.len
  refine ⟨by rw [List.length_set]; exact h2, by omega, by omega, ?_, fun m a b c => ?_⟩
  · rw [← List.take_append_getElem hj, List.filter_append, ← h.fst]
    have e : (X.set i L[j]).take (i + 1) = X.take i ++ [L[j]] := by
      rw [← List.take_append_getElem (show i < (X.set i L[j]).length by rw [List.length_set]; omega), List.getElem_set_self, List.take_set_of_le (Nat.le_refl _)]
    rw [e]
    simp [hp]
  · rw [List.getElem_set_ne (by omega)]
    exact h.rest m (by rw [List.length_set] at a; exact a) b (by omega)
theorem kp_end {p : Rt → Bool} {L X : List Rt} {i : Nat} (h : Kp p L X i L.length) : X.take i = (L.filter fun r => !p r) ∧ (L.filter fun r => !p r).length = i := by
  have e := h.fst
  rw [List.take_length] at e
  refine ⟨e, ?_⟩
  rw [← e, List.length_take, h.len]
  have := h.lt
  omega
end Tab
end Go.Proofs.Ytdcbbjlbfghpbaa
