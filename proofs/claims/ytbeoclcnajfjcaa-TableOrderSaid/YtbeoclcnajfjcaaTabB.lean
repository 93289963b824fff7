/-
  Rows of routes that grow: append, Clone. Conditions: those that each theorem names.
-/
import Derived.Test.YtbeoclcnajfjcaaTabA
namespace Go.Proofs.Ytbeoclcnajfjcaa
open Go Go.RowKit H2
set_option linter.unusedVariables false
set_option linter.unusedSimpArgs false
namespace Tab
section
variable {P : Program}
theorem wpList_append_run {ops : Array Oper} {rest : List Oper} {o : Oper} {a : Act} {w w' : World} {Q : Exit → Act → World → Prop} (hgd : o.guard = none) (s x : Operand) (t : TypeId)
    (ho : o.op = .call { callee := .builtin .append, args := #[s, x], argTypes := #[t, t] }) (v u : Value) (hs : a.eval s = v) (hx : a.eval x = u) {v' : Value} (hr : (Builtin.append_ #[t, t] o.type #[v, u]).run P w = .ok v' w')
    (h : wpList P ops Q rest (a.put o.dst v') w') : wpList P ops Q (o :: rest) a w := by
  refine wpList_plain hgd fun K hK => ?_
  unfold Oper.wp execOp
  simp only [ho, resolve, invoke, builtin, Sem.run_bind, Sem.run_pure, Result.andThen_ok, List.map_toArray, List.map_cons, List.map_nil, hs, hx, hr]
  exact hK _ _ h
end
theorem run_app_none (w : World) {base size n : Nat} {t ty e : TypeId} {i : TypeInfo} (ht : Try.prog.underlying t = some (.slice e)) (hi : Try.prog.info? e = some i) {v : Value} {xs : List Value} (ho : w.ownsRow base e size v n xs) (c : Nat) : (Builtin.append_ #[t, t] ty #[v, .slice none 0 c]).run Try.prog w = .ok v w := by
  rcases ho.2 with ⟨rfl, rfl⟩ | ⟨g, cap, cur, rfl, _, _, hc, _⟩
  · simp [Builtin.append_, run_underlying ht, sizeOf, typeInfo, hi, Builtin.lenOf, Builtin.firstCells]
  · simp [Builtin.append_, run_underlying ht, sizeOf, typeInfo, hi, Builtin.lenOf, Builtin.firstCells, hc, storeCells]
theorem infoR' : ∃ i0 : TypeInfo, Try.prog.info? 34 = some i0 ∧ i0.zero = some (.agg (encR zR).toArray) ∧ i0.size = 20 ∧ i0.bytes = 48 := by
  obtain ⟨i0, h1, h2, h3, h4⟩ := info_parts infoR
  exact ⟨i0, h1, h2, h3, h4⟩
theorem Rd.flat {w : World} {b o : Nat} {M : List Rt} (h : Rd w (some ⟨b, o, none⟩) M) : At w b o (flat M) := fun j u hj => by
  have hj' : j < M.length * 20 := by
    have := (List.getElem?_eq_some_iff.1 hj).1
    rwa [flat_len] at this
  obtain ⟨b', o', e', hr'⟩ := h (j / 20) (by omega)
  cases e'
  have := hr'.all (j % 20) u (by rw [← flat_get M (j / 20) (j % 20) (by omega) (Nat.mod_lt _ (by omega)), show j / 20 * 20 + j % 20 = j by omega]; exact hj)
  rwa [show o + j / 20 * 20 + j % 20 = o + j by omega] at this
/-- append of routes -/
theorem app_run (w : World) (base : Nat) (v : Value) (L M : List Rt) (ty : TypeId) (ho : w.ownsRow base 34 20 v L.length (flat L)) (A : Option Addr) (c : Nat) (hr : Rd w A M) (hA : A = none → M = [])
    (hl : L.length + M.length ≤ 1000000) (hb : base ≤ w.heap.size) :
    ∃ v' w', (Builtin.append_ #[31, 31] ty #[v, .slice A M.length c]).run Try.prog w = .ok v' w' ∧ w'.ownsRow base 34 20 v' (L ++ M).length (flat (L ++ M)) ∧ w.grownBy w' v.ownBlock := by
  obtain ⟨i0, hi, hz0, hz1, hz2⟩ := infoR'
  cases A with
  | none =>
    obtain rfl := hA rfl
    exact ⟨v, w, run_app_none w Try.underlying31 hi ho c, by simpa using ho, World.grownBy.refl w _⟩
  | some ad =>
    have hnews : ∀ j u, (flat M)[j]? = some u → w.cell? (ad.add j) = some u := fun j u hj => by
      have hj' : j < M.length * 20 := by
        have := (List.getElem?_eq_some_iff.1 hj).1
        rwa [flat_len] at this
      obtain ⟨b, o, e, _⟩ := hr (j / 20) (by omega)
      cases e
      rw [Addr.add_lit]
      exact hr.flat j u hj
    obtain ⟨v', w', hrun, h2, h3, _⟩ := run_append_own (P := Try.prog) w base 31 ty 34 i0 _ 20 48 Try.underlying31 hi hz0 hz1 hz2 (by simp [Value.cells, encR_len]) (by omega) v L.length (flat L) ho ad M.length c (flat M) (flat_len M) hnews (flat_one' M) (by unfold maxLen; omega) (by omega) hb
    exact ⟨v', w', hrun, by rw [flat_app, List.length_append]; exact h2, h3⟩
theorem own_zero (w : World) : (w.alloc (.cells #[] 34 (0, 0))).ownsRow w.heap.size 34 20 (.slice (some ⟨w.heap.size, 0, none⟩) 0 0) 0 [] :=
  ⟨rfl, .inr ⟨w.heap.size, 0, #[], rfl, Nat.le_refl _, heap_alloc_new w _, Nat.le_refl _, by decide, rfl, rfl⟩⟩
theorem sl_none (w : World) (c : Nat) : (binOp .eql 31 (.slice none 0 c) (.slice none 0 0)).run Try.prog w = .ok (.bool true) w := by kernel_rfl
theorem sl_some (w : World) (ad : Addr) (n c : Nat) : (binOp .eql 31 (.slice (some ad) n c) (.slice none 0 0)).run Try.prog w = .ok (.bool false) w := by kernel_rfl
attribute [go_sem 10000] sl_none sl_some
theorem row_R0 (w : World) : (Instr.buildSlice 31 0 #[]).run Try.prog w = .ok (.slice (some ⟨w.heap.size, 0, none⟩) 0 0) (w.alloc (.cells #[] 34 (0, 0))) := by kernel_rfl
set_option maxRecDepth 1000000 in
set_option maxHeartbeats 4000000 in
theorem clone_any (A : Option Addr) (cap : Nat) (L : List Rt) (hL : L.length ≤ 1000000) (w : World) (hr : Rd w A L) (hA : A = none → L = [] ∧ cap = 0) :
    Calls Try.prog 46 #[.slice A L.length cap] w fun e w' => ∃ v, e = .returned v ∧ w'.ownsRow w.heap.size 34 20 v L.length (flat L) ∧ Below w.heap.size w w' := by
  have HLL := Lib.hid hL
  clear hL
  cases A with
  | none =>
    obtain ⟨rfl, rfl⟩ := hA rfl
    rw [List.length_nil]
    go_enter Try.func46, Try.ntmps46
    go_wp2
    go_ret
    exact ⟨_, rfl, World.ownsRow_nil _ _ _ _, Below.refl _ _⟩
  | some ad =>
    have HW := Lib.hid (own_zero w)
    have HB := Lib.hid ((Below.refl _ w).alloc (Nat.le_refl _) (.cells #[] 34 (0, 0)))
    have HR := Lib.hid (hr.below ((Below.refl _ w).alloc (Nat.le_refl _) (.cells #[] 34 (0, 0))))
    clear hr hA
    go_enter Try.func46, Try.ntmps46
    go_wp2_with (at_builtin; generalize w.alloc (.cells #[] 34) = W at HW HB HR ⊢; obtain ⟨v', w', hrun, h1, h2⟩ := app_run W w.heap.size _ [] L 31 HW.out (some ad) cap HR.out (fun e => by cases e) (by simpa using HLL.out) HB.out.size; have H1 := Lib.hid h1; have H2 := Lib.hid h2; clear h1 h2; refine wpList_append_run rfl (.tmp 5) (.tmp 6) 31 rfl _ _ rfl rfl hrun ?_; clear hrun)
    go_ret
    refine ⟨_, rfl, H1.out, HB.out.trans (((Only.refl (fun k => w.heap.size ≤ k) W).grown H2.out (fun k hk _ => by simp [Value.ownBlock] at hk; omega)).below HB.out.size (fun i h1 h2 => by omega))⟩
end Tab
end Go.Proofs.Ytbeoclcnajfjcaa
