/-
  Routes: operations whose run is known; Right, the closures of New, by. Conditions: those that each theorem names.
-/
import Derived.Test.YtbeoclcnajfjcaaPfxH
import Derived.Test.YtbeoclcnajfjcaaPfxI
namespace Go.Proofs.Ytbeoclcnajfjcaa
open Go Go.RowKit H2
set_option linter.unusedVariables false
set_option linter.unusedSimpArgs false
namespace Tab
variable {P : Program}
theorem wp_build_run {o : Oper} {a : Act} {w : World} {K : Act → World → Prop} {Q : Exit → Act → World → Prop} (t : TypeId) (parts : Array (Nat × Operand)) (ho : o.op = .build t parts) (vs : Array (Nat × Value)) (hv : (parts.map fun (i, x) => (i, a.eval x)) = vs) {v : Value}
    (hr : (Instr.build t vs).run P w = .ok v w) (h : K (a.put o.dst v) w) : o.wp P a w K Q := by
  unfold Oper.wp execOp
  subst hv
  simp only [ho, hr, Sem.run_bind, Result.andThen_ok, Sem.run_pure]
  exact h
theorem wpList_build_run {ops : Array Oper} {rest : List Oper} {o : Oper} {a : Act} {w : World} {Q : Exit → Act → World → Prop} (hgd : o.guard = none) (t : TypeId) (parts : Array (Nat × Operand)) (ho : o.op = .build t parts) (vs : Array (Nat × Value)) (hv : (parts.map fun (i, x) => (i, a.eval x)) = vs) {v : Value}
    (hr : (Instr.build t vs).run P w = .ok v w) (h : wpList P ops Q rest (a.put o.dst v) w) : wpList P ops Q (o :: rest) a w :=
  wpList_plain hgd fun _ hK => wp_build_run t parts ho vs hv hr (hK _ _ h)
theorem wp_row_run {o : Oper} {a : Act} {w w' : World} {K : Act → World → Prop} {Q : Exit → Act → World → Prop} (t : TypeId) (n : Nat) (parts : Array (Nat × Operand)) (ho : o.op = .buildSlice t n parts) (vs : Array (Nat × Value)) (hv : (parts.map fun (i, x) => (i, a.eval x)) = vs) {v : Value}
    (hr : (Instr.buildSlice t n vs).run P w = .ok v w') (h : K (a.put o.dst v) w') : o.wp P a w K Q := by
  unfold Oper.wp execOp
  subst hv
  simp only [ho, hr, Sem.run_bind, Result.andThen_ok, Sem.run_pure]
  exact h
theorem wpList_row_run {ops : Array Oper} {rest : List Oper} {o : Oper} {a : Act} {w w' : World} {Q : Exit → Act → World → Prop} (hgd : o.guard = none) (t : TypeId) (n : Nat) (parts : Array (Nat × Operand)) (ho : o.op = .buildSlice t n parts) (vs : Array (Nat × Value)) (hv : (parts.map fun (i, x) => (i, a.eval x)) = vs) {v : Value}
    (hr : (Instr.buildSlice t n vs).run P w = .ok v w') (h : wpList P ops Q rest (a.put o.dst v) w') : wpList P ops Q (o :: rest) a w :=
  wpList_plain hgd fun _ hK => wp_row_run t n parts ho vs hv hr (hK _ _ h)
/-- a route in memory -/
structure RAt (w : World) (B o : Nat) (r : Rt) : Prop where
  all : At w B o (encR r)
theorem RAt.below {w w' : World} {B o : Nat} {r : Rt} (h : RAt w B o r) (hb : Below w.heap.size w w') : RAt w' B o r := ⟨h.all.below hb⟩
theorem RAt.drew {w : World} {B o : Nat} {r : Rt} (h : RAt w B o r) : RAt w.drew B o r := ⟨h.all⟩
theorem RAt.drewN {w : World} {B o : Nat} {r : Rt} (h : RAt w B o r) (n : Nat) : RAt (w.drewN n) B o r := ⟨h.all⟩
theorem RAt.to {w : World} {B o : Nat} {r : Rt} (h : RAt w B o r) : PAt w B o r.to := ⟨h.all.sub.1⟩
theorem RAt.met {w : World} {B o : Nat} {r : Rt} (h : RAt w B o r) : w.cell? ⟨B, o + 18, none⟩ = some (.int .i64 r.metric) := by
  have := h.all.sub.2.cons.1
  rwa [encP_len] at this
theorem RAt.seq {w : World} {B o : Nat} {r : Rt} (h : RAt w B o r) : w.cell? ⟨B, o + 19, none⟩ = some (.int .u32 r.seq) := by
  have := h.all.sub.2.cons.2.one
  rwa [encP_len] at this
theorem rAt_new (w : World) (r : Rt) (T : TypeId) (fr : Nat × Nat) : RAt (w.alloc (.cells (encR r).toArray T fr)) w.heap.size 0 r := ⟨at_new w _ T fr⟩
/-- whether it may be a route -/
def right (r : Rt) : Bool := rightP r.to && decide (0 ≤ r.metric) && decide (r.metric < 65535)
set_option maxRecDepth 100000 in
set_option maxHeartbeats 4000000 in
theorem right_any (r : Rt) (w : World) : Calls Try.prog 26 #[.agg (encR r).toArray] w fun e w' => e = .returned (.bool (right r)) ∧ Below w.heap.size w w' := by
  cases hp : rightP r.to
  · have HV := Lib.hid hp
    have HR := Lib.hid (show right r = false by unfold right; rw [hp]; rfl)
    clear hp
    go_enter Try.func26, Try.ntmps26
    go_upto_region 1 with fail
    have H := Lib.hid (rAt_new w r 34 (0, 0))
    have hb := Lib.hid (show Below w.heap.size w (w.alloc (.cells (encR r).toArray 34 (0, 0))) from (Below.refl _ _).alloc (Nat.le_refl _) _)
    generalize w.alloc _ = W at H hb ⊢
    generalize w.heap.size = B at H ⊢
    have c0 := H.out.to.all.load (encP_n _) Try.prog
    go_wp2_with (go_at_call 44; (with_reducible refine (rightP_any _ _).mono ?_); rintro e w2 ⟨rfl, hb2⟩; rw [HV.out]; have hb := Lib.hid (hb.out.trans (hb2.mono hb.out.size)); have c1 := (H.out.below hb2).met; clear hb2 c0)
    go_ret
    rw [HR.out]
    exact ⟨rfl, hb.out⟩
  · have HV := Lib.hid hp
    by_cases h0 : 0 ≤ r.metric
    · have h0' : decide (0 ≤ r.metric) = true := decide_eq_true h0
      by_cases h1 : r.metric < 65535
      · have h1' : decide (r.metric < 65535) = true := decide_eq_true h1
        have HR := Lib.hid (show right r = true by unfold right; rw [hp, h0', h1']; rfl)
        clear hp
        go_enter Try.func26, Try.ntmps26
        go_upto_region 1 with fail
        have H := Lib.hid (rAt_new w r 34 (0, 0))
        have hb := Lib.hid (show Below w.heap.size w (w.alloc (.cells (encR r).toArray 34 (0, 0))) from (Below.refl _ _).alloc (Nat.le_refl _) _)
        generalize w.alloc _ = W at H hb ⊢
        generalize w.heap.size = B at H ⊢
        have c0 := H.out.to.all.load (encP_n _) Try.prog
        go_wp2_with (go_at_call 44; (with_reducible refine (rightP_any _ _).mono ?_); rintro e w2 ⟨rfl, hb2⟩; rw [HV.out]; have hb := Lib.hid (hb.out.trans (hb2.mono hb.out.size)); have c1 := (H.out.below hb2).met; clear hb2 c0)
        go_ret
        rw [HR.out]
        exact ⟨rfl, hb.out⟩
      · have h1' : decide (r.metric < 65535) = false := decide_eq_false h1
        have HR := Lib.hid (show right r = false by unfold right; rw [hp, h0', h1']; rfl)
        clear hp
        go_enter Try.func26, Try.ntmps26
        go_upto_region 1 with fail
        have H := Lib.hid (rAt_new w r 34 (0, 0))
        have hb := Lib.hid (show Below w.heap.size w (w.alloc (.cells (encR r).toArray 34 (0, 0))) from (Below.refl _ _).alloc (Nat.le_refl _) _)
        generalize w.alloc _ = W at H hb ⊢
        generalize w.heap.size = B at H ⊢
        have c0 := H.out.to.all.load (encP_n _) Try.prog
        go_wp2_with (go_at_call 44; (with_reducible refine (rightP_any _ _).mono ?_); rintro e w2 ⟨rfl, hb2⟩; rw [HV.out]; have hb := Lib.hid (hb.out.trans (hb2.mono hb.out.size)); have c1 := (H.out.below hb2).met; clear hb2 c0)
        go_ret
        rw [HR.out]
        exact ⟨rfl, hb.out⟩
    · have h0' : decide (0 ≤ r.metric) = false := decide_eq_false h0
      have HR := Lib.hid (show right r = false by unfold right; rw [hp, h0']; rfl)
      clear hp
      go_enter Try.func26, Try.ntmps26
      go_upto_region 1 with fail
      have H := Lib.hid (rAt_new w r 34 (0, 0))
      have hb := Lib.hid (show Below w.heap.size w (w.alloc (.cells (encR r).toArray 34 (0, 0))) from (Below.refl _ _).alloc (Nat.le_refl _) _)
      generalize w.alloc _ = W at H hb ⊢
      generalize w.heap.size = B at H ⊢
      have c0 := H.out.to.all.load (encP_n _) Try.prog
      go_wp2_with (go_at_call 44; (with_reducible refine (rightP_any _ _).mono ?_); rintro e w2 ⟨rfl, hb2⟩; rw [HV.out]; have hb := Lib.hid (hb.out.trans (hb2.mono hb.out.size)); have c1 := (H.out.below hb2).met; clear hb2 c0)
      go_ret
      rw [HR.out]
      exact ⟨rfl, hb.out⟩
set_option maxHeartbeats 4000000 in
theorem new1_any (r : Rt) (w : World) : Calls Try.prog 36 #[.agg (encR r).toArray] w fun e w' => e = .returned (.bool (!right r)) ∧ Below w.heap.size w w' := by
  go_enter Try.func36, Try.ntmps36
  go_upto_region 1 with fail
  have H := Lib.hid (rAt_new w r 34 (0, 0))
  have hb := Lib.hid (show Below w.heap.size w (w.alloc (.cells (encR r).toArray 34 (0, 0))) from (Below.refl _ _).alloc (Nat.le_refl _) _)
  generalize w.alloc _ = W at H hb ⊢
  generalize w.heap.size = B at H ⊢
  have c0 := H.out.all.load (encR_n _) Try.prog
  go_wp2_with (go_at_call 26; (with_reducible refine (right_any _ _).mono ?_); rintro e w2 ⟨rfl, hb2⟩; have hb := Lib.hid (hb.out.trans (hb2.mono hb.out.size)); clear hb2 c0)
  go_ret
  exact ⟨rfl, hb.out⟩
set_option maxHeartbeats 4000000 in
theorem new2_any (a b : Rt) (w : World) : Calls Try.prog 39 #[.agg (encR a).toArray, .agg (encR b).toArray] w fun e w' => e = .returned (.int .i64 (cmpP a.to b.to)) ∧ Grew w w' := by
  go_enter Try.func39, Try.ntmps39
  go_upto_region 1 with fail
  have H1 := Lib.hid ((rAt_new w a 34 (0, 0)).below ((Below.refl _ _).alloc (Nat.le_refl _) (.cells (encR b).toArray 34 (0, 0))))
  have H2 := Lib.hid (rAt_new (w.alloc (.cells (encR a).toArray 34 (0, 0))) b 34 (0, 0))
  rw [show (w.alloc (.cells (encR a).toArray 34 (0, 0))).heap.size = w.heap.size + 1 by simp] at H2
  have hb := Lib.hid (show Grew w ((w.alloc (.cells (encR a).toArray 34 (0, 0))).alloc (.cells (encR b).toArray 34 (0, 0))) from (((Grew.refl _).alloc _).alloc _))
  generalize (w.alloc _).alloc _ = W at H1 H2 hb ⊢
  obtain ⟨B2, hB2⟩ : ∃ b, w.heap.size + 1 = b := ⟨_, rfl⟩
  rw [hB2] at H2 ⊢
  obtain ⟨B, hB⟩ : ∃ b, w.heap.size = b := ⟨_, rfl⟩
  rw [hB] at H1 ⊢
  clear hB hB2
  have c0 := H1.out.to.all.load (encP_n _) Try.prog
  have d0 := H2.out.to.all.load (encP_n _) Try.prog
  go_wp2_with (go_at_call 40; (with_reducible refine (compare_grew _ _ _).mono ?_); rintro e w2 ⟨rfl, hb2⟩; have hb := Lib.hid (hb.out.trans hb2); clear hb2 c0 d0)
  go_ret
  exact ⟨rfl, hb.out⟩
set_option maxHeartbeats 4000000 in
theorem by_any (a : Rt) (p : Pf) (w : World) : Calls Try.prog 58 #[.agg (encR a).toArray, .agg (encP p).toArray] w fun e w' => e = .returned (.int .i64 (cmpP a.to p)) ∧ Below w.heap.size w w' := by
  go_enter Try.func58, Try.ntmps58
  go_upto_region 1 with fail
  have H1 := Lib.hid ((rAt_new w a 34 (0, 0)).below ((Below.refl _ _).alloc (Nat.le_refl _) (.cells (encP p).toArray 25 (0, 0))))
  have H2 := Lib.hid (PAt.mk (at_new (w.alloc (.cells (encR a).toArray 34 (0, 0))) (encP p) 25 (0, 0)))
  rw [show (w.alloc (.cells (encR a).toArray 34 (0, 0))).heap.size = w.heap.size + 1 by simp] at H2
  have hb := Lib.hid (show Below w.heap.size w ((w.alloc (.cells (encR a).toArray 34 (0, 0))).alloc (.cells (encP p).toArray 25 (0, 0))) from (((Below.refl _ _).alloc (Nat.le_refl _) _).alloc (by simp) _))
  generalize (w.alloc _).alloc _ = W at H1 H2 hb ⊢
  obtain ⟨B2, hB2⟩ : ∃ b, w.heap.size + 1 = b := ⟨_, rfl⟩
  rw [hB2] at H2 ⊢
  obtain ⟨B, hB⟩ : ∃ b, w.heap.size = b := ⟨_, rfl⟩
  rw [hB] at H1 ⊢
  clear hB hB2
  have c0 := H1.out.to.all.load (encP_n _) Try.prog
  have d0 := H2.out.all.load (encP_n _) Try.prog
  go_wp2_with (go_at_call 40; (with_reducible refine (compare_any _ _ _).mono ?_); rintro e w2 ⟨rfl, hb2⟩; have hb := Lib.hid (hb.out.trans (hb2.mono hb.out.size)); clear hb2 c0 d0)
  go_ret
  exact ⟨rfl, hb.out⟩
end Tab
end Go.Proofs.Ytbeoclcnajfjcaa
