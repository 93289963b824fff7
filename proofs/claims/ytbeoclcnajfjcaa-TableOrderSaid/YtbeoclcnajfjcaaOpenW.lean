/-
  A prefix that came in, with its length a whole number; the table beside a map. Conditions: those that each theorem names.
-/
import Derived.Test.YtbeoclcnajfjcaaOpenR
import Derived.Test.YtbeoclcnajfjcaaMapR
import Derived.Test.YtbeoclcnajfjcaaLawQ
namespace Go.Proofs.Ytbeoclcnajfjcaa
open Go Go.Deep Go.Joins Go.ChangeShapes Go.WideShapes Go.RowKit H2
set_option linter.unusedVariables false
set_option linter.unusedSimpArgs false
namespace Tab
section
variable {H : Type} {enc : TypeId × Value → H} {W : World} {fuel : Nat} {cs : List Value} {x : DataW H × List MemPlace}
set_option maxRecDepth 100000 in
theorem open_Pw (h : DataW.trod enc Try.prog W 0 (fun _ => true) true fuel 25 cs = some x) : ∃ p : Pf, cs = encP p ∧ MapR.Wf p := by
  obtain ⟨p, hp⟩ := open_P h
  refine ⟨p, hp, ?_⟩
  obtain ⟨xs, n, rfl, _, hl, hxl, hf⟩ := DataW.trod_struct Try.underlying25 h
  have hx3 : xs.length = 3 := hxl
  have g2 : DataW.trod enc Try.prog W 0 (fun _ => true) true n 3 ((cs.drop 17).take (Try.prog.cellsOf 3)) = xs[2]? := hf 2 _ rfl
  rw [co_i, List.getElem?_eq_getElem (show 2 < xs.length by omega)] at g2
  obtain ⟨l, e2, _, w2⟩ := DataW.trod_int Try.underlying3 g2
  have e3 : (encP p)[17]? = some (.int .i64 l) := by rw [← hp]; exact take_one e2
  rw [(encP_get p).2] at e3
  have e4 : p.len = l := (Value.int.inj (Option.some.inj e3)).2
  show (Lit.int .i64 p.len).wf = true
  rw [e4]
  exact w2
end
def IsPw (W : World) (v : Value) : Prop := ∃ p : Pf, v = .agg (encP p).toArray ∧ MapR.Wf p
set_option maxRecDepth 100000 in
theorem open_prefixw {H : Type} {enc : TypeId × Value → H} {W : World} {base : Nat} {v : Value} {d : DataW H} {p : List MemPlace} (hv : Value.okWide Try.prog W .any base 25 v)
    (h : DataW.Trod enc Try.prog W 0 (fun _ => true) true 25 v d p) : IsPw W v := by
  obtain ⟨cs, rfl, _⟩ := okWide_struct Try.underlying25 hv
  obtain ⟨fuel, hf⟩ := h
  obtain ⟨r, e, hw⟩ := open_Pw (cs := cs.toList) (fuel := fuel) hf
  exact ⟨r, by rw [← e, Array.toArray_toList], hw⟩
theorem wf_right {r : Rt} (h : right r = true) : MapR.Wf r.to := by
  have h1 : rightP r.to = true := by
    unfold right at h
    simp only [Bool.and_eq_true] at h
    exact h.1.1
  unfold rightP at h1
  simp only [Bool.and_eq_true, decide_eq_true_eq] at h1
  have h2 : most r.to.six ≤ 128 := by unfold most; split <;> omega
  unfold MapR.Wf
  simp [Lit.wf, IntKind.min, IntKind.max, IntKind.signed, IntKind.bits]
  omega
theorem mp_no {base : Nat} {w : World} {b bm n : Nat} {v : Value} {T T' : List Rt} (h : Tb base w b v T) (hm : MapR.Mp w bm n T') : ¬ (bm = b ∨ v.ownBlock = some bm) := fun e => by
  obtain ⟨es, clock, hb⟩ := hm.blk
  rcases e with rfl | e
  · rw [h.blk] at hb; cases hb
  · obtain ⟨cur, hc⟩ := own_typ h.own e
    rw [hc] at hb
    cases hb
theorem tb_apart {S : Nat → Prop} {base : Nat} {w w' : World} {b : Nat} {v : Value} {T : List Rt} (h : Tb base w b v T) (ho : Only S w w') (h1 : ¬ S b) (h2 : ∀ k, v.ownBlock = some k → ¬ S k) : Tb base w' b v T :=
  ⟨ho.obj h.blk h1, ho.own h.own h2, h.lo, h.tok⟩
/-- a map is written to: the table stays -/
theorem mp_tb {base : Nat} {w w' : World} {b bm n : Nat} {v : Value} {T T' : List Rt} (h : Tb base w b v T) (hm : MapR.Mp w bm n T') (hg : w.grownBy w' (some bm)) : Tb base w' b v T :=
  tb_apart (S := fun k => k = bm) h ((Only.refl (fun k => k = bm) w).grown hg (fun k hk _ => (Option.some.inj hk).symm)) (fun e => mp_no h hm (.inl e.symm)) (fun k hk e => mp_no h hm (.inr (e ▸ hk)))
theorem mp_bel {w0 w w' : World} {bm : Nat} (hb : Below w0.heap.size w0 w) (hg : w.grownBy w' (some bm)) (hl : w0.heap.size ≤ bm) : Below w0.heap.size w0 w' :=
  hb.trans (((Only.refl (fun k => k = bm) w).grown hg (fun k hk _ => (Option.some.inj hk).symm)).below hb.size (fun i h1 h2 => by omega))
theorem putT_zero {T : List Rt} {r : Rt} (h : putC T r = 0) : right r = true ∧ putT T r = ins T r := by
  unfold putC at h
  unfold putT
  by_cases h1 : right r = true
  · rw [if_pos h1] at h ⊢
    refine ⟨h1, ?_⟩
    by_cases h2 : has T r.to = true
    · rw [if_pos h2]
    · rw [if_neg h2] at h ⊢
      by_cases h3 : T.length < 300
      · rw [if_pos h3]
      · rw [if_neg h3] at h; omega
  · rw [if_neg h1] at h; omega
theorem putT_not {T : List Rt} {r : Rt} (h : putC T r ≠ 0) : putT T r = T := by
  unfold putC at h
  unfold putT
  by_cases h1 : right r = true
  · rw [if_pos h1] at h ⊢
    by_cases h2 : has T r.to = true
    · rw [if_pos h2] at h; exact absurd rfl h
    · rw [if_neg h2] at h ⊢
      by_cases h3 : T.length < 300
      · rw [if_pos h3] at h; exact absurd rfl h
      · rw [if_neg h3]
  · rw [if_neg h1]
section
variable {P : Program}
theorem wpList_len_run {ops : Array Oper} {rest : List Oper} {o : Oper} {a : Act} {w : World} {Q : Exit → Act → World → Prop} (hgd : o.guard = none) (x : Operand) (t : TypeId)
    (ho : o.op = .call { callee := .builtin .len, args := #[x], argTypes := #[t] }) (u : Value) (hx : a.eval x = u) {v' : Value} (hr : (Builtin.len_ #[t] o.type #[u]).run P w = .ok v' w)
    (h : wpList P ops Q rest (a.put o.dst v') w) : wpList P ops Q (o :: rest) a w := by
  refine wpList_plain hgd fun K hK => ?_
  unfold Oper.wp execOp
  simp only [ho, resolve, invoke, builtin, Sem.run_bind, Sem.run_pure, Result.andThen_ok, List.map_toArray, List.map_cons, List.map_nil, hx, hr]
  exact hK _ _ h
end
end Tab
end Go.Proofs.Ytbeoclcnajfjcaa
