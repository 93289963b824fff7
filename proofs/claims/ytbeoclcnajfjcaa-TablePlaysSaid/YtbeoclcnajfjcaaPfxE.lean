/-
  '==' at addresses, prefixes and routes. Conditions: those that each theorem names.
-/
import Derived.Test.YtbeoclcnajfjcaaTa
import Derived.Laws.StructEq
namespace Go.Proofs.Ytbeoclcnajfjcaa
open Go Go.RowKit
set_option linter.unusedVariables false
set_option linter.unusedSimpArgs false
namespace Tab
/-- are bytes s to s + n alike? -/
def sameB (a b : Vector UInt8 16) (s : Nat) : Nat → Bool
  | 0 => true
  | n + 1 => decide (a.toList.getD s 0 = b.toList.getD s 0) && sameB a b (s + 1) n
theorem sameB_iff (a b : Vector UInt8 16) : ∀ (n s : Nat), sameB a b s n = true ↔ ∀ i, s ≤ i → i < s + n → a.toList.getD i 0 = b.toList.getD i 0
  | 0, s => ⟨fun _ i h1 h2 => by omega, fun _ => rfl⟩
  | n + 1, s => by
    rw [sameB, Bool.and_eq_true, decide_eq_true_iff, sameB_iff a b n (s + 1)]
    constructor
    · rintro ⟨h1, h2⟩ i h3 h4
      rcases Nat.eq_or_lt_of_le h3 with rfl | h5
      · exact h1
      · exact h2 i h5 (by omega)
    · intro h
      exact ⟨h s (Nat.le_refl _) (by omega), fun i h1 h2 => h i (by omega) (by omega)⟩
theorem sameB_eq (a b : Vector UInt8 16) : sameB a b 0 16 = decide (a = b) := by
  rw [Bool.eq_iff_iff, decide_eq_true_iff, sameB_iff]
  constructor
  · intro h
    refine Vector.toList_inj.1 (List.ext_getElem (by simp) (fun i h1 h2 => ?_))
    have := h i (Nat.zero_le _) (by simpa using h1)
    rw [List.getD_eq_getElem?_getD, List.getD_eq_getElem?_getD, List.getElem?_eq_getElem h1, List.getElem?_eq_getElem h2] at this
    simpa using this
  · rintro rfl i _ _
    rfl
theorem part_byte (a : Vector UInt8 16) (i : Nat) (hi : i < 16) (w : World) : (part 5 (encA a).toArray (i * 1)).run Try.prog w = .ok (.int .u8 ((a.toList.getD i 0).toNat : Int)) w := by
  have h4 : (isAgg 5).run Try.prog w = .ok false w := Try.isAgg5 w
  have h2 : (Go.sizeOf 5).run Try.prog w = .ok 1 w := Try.sizeOf5 w
  have hg : (encA a)[i]? = some (.int .u8 ((a.toList.getD i 0).toNat : Int)) := by
    unfold encA
    rw [List.getElem?_map, List.getD_eq_getElem?_getD, List.getElem?_eq_getElem (by simpa using hi)]
    rfl
  simp [part, h4, h2, hg]
theorem run_eq_bytes (d : Nat) (w : World) (a b : Vector UInt8 16) : (Op.equalIn (d + 2) 23 (.agg (encA a).toArray) (.agg (encA b).toArray)).run Try.prog w = .ok (decide (a = b)) w := by
  have h1 : Try.prog.underlying 23 = some (.array 16 5) := Try.underlying23
  have h2 : (Go.sizeOf 5).run Try.prog w = .ok 1 w := Try.sizeOf5 w
  have h3 : Try.prog.underlying 5 = some (.int .u8) := Try.underlying5
  rw [Op.equalIn]
  simp only [Sem.run_bind, run_underlying h1, Result.andThen_ok, h2, Std.Legacy.Range.forIn_eq_forIn_range']
  have key : ∀ (n s : Nat), s + n ≤ 16 → (forIn (List.range' s n) ((none : Option Bool), ()) (fun i (__s : Option Bool × Unit) => do
            let x ← part 5 (encA a).toArray (i * 1)
            let y ← part 5 (encA b).toArray (i * 1)
            let r ← Op.equalIn (d + 1) 5 x y
            if (!r) = true then pure (ForInStep.done (some false, ())) else pure (ForInStep.yield (none, ()))) : Sem (Option Bool × Unit)).run Try.prog w = .ok (if sameB a b s n = true then (none, ()) else (some false, ())) w := by
    intro n
    induction n with
    | zero => intro s _; simp [sameB]
    | succ n ih =>
      intro s hs
      rw [List.range'_succ, List.forIn_cons]
      simp only [Sem.run_bind, part_byte _ s (by omega), Result.andThen_ok, run_equalIn_int w d _ .u8 .u8 _ _ h3]
      rw [sameB]
      by_cases e : a.toList.getD s 0 = b.toList.getD s 0
      · rw [e]
        simp only [beq_self_eq_true, Bool.not_true, Bool.false_eq_true, if_false, Sem.run_pure, Result.andThen_ok, decide_true, Bool.true_and]
        exact ih (s + 1) (by omega)
      · have e2 : (((a.toList.getD s 0).toNat : Int) == ((b.toList.getD s 0).toNat : Int)) = false := by
          rw [beq_eq_false_iff_ne]
          intro h
          exact e (UInt8.toNat_inj.1 (by omega))
        rw [e2, decide_eq_false e]
        simp
  have k16 := key 16 0 (by omega)
  rw [show ([:16] : Std.Legacy.Range).size = 16 from rfl]
  rw [k16, sameB_eq]
  by_cases e : a = b
  · simp [e]
  · simp [e]
theorem part_one {t : TypeId} {cs : List Value} {o : Nat} {v : Value} (h : cs[o]? = some v) (ha : ∀ w, (isAgg t).run Try.prog w = .ok false w) (w : World) : (part t cs.toArray o).run Try.prog w = .ok v w := by
  simp [part, ha w, h]
theorem part_agg {t : TypeId} {a b c : List Value} {o k : Nat} (hk : b.length = k) (hl : a.length = o) (ha : ∀ w, (isAgg t).run Try.prog w = .ok true w) (hz : ∀ w, (Go.sizeOf t).run Try.prog w = .ok k w) (w : World) : (part t (a ++ (b ++ c)).toArray o).run Try.prog w = .ok (.agg b.toArray) w := by
  subst hk hl
  have e : (a ++ (b ++ c)).toArray.extract a.length (a.length + b.length) = b.toArray := by
    simp [List.extract_eq_take_drop]
  simp [part, ha w, hz w]
theorem eqFields_cons {d : Nat} {xs ys : Array Value} {f : Field} {fs : List Field} {w : World} {x y : Value} {r : Bool} (hn : f.name ≠ "_") (hx : (part f.type xs f.offset).run Try.prog w = .ok x w) (hy : (part f.type ys f.offset).run Try.prog w = .ok y w) (hr : (Op.equalIn d f.type x y).run Try.prog w = .ok r w) :
    (Op.eqFields d xs ys (f :: fs)).run Try.prog w = if r = true then (Op.eqFields d xs ys fs).run Try.prog w else .ok false w := by
  rw [Op.eqFields, if_pos hn]
  simp only [Sem.run_bind, hx, hy, hr, Result.andThen_ok]
  cases r
  · simp
  · simp
theorem encP_get (p : Pf) : (encP p)[0]? = some (.bool p.six) ∧ (encP p)[17]? = some (.int .i64 p.len) := by
  refine ⟨rfl, ?_⟩
  unfold encP
  rw [List.getElem?_cons_succ, List.getElem?_append_right (Nat.le_of_eq (encA_len _)), encA_len]
  rfl
theorem run_eq_prefix (d : Nat) (w : World) (p q : Pf) : (Op.equalIn (d + 3) 25 (.agg (encP p).toArray) (.agg (encP q).toArray)).run Try.prog w = .ok (decide (p = q)) w := by
  have hS : Try.prog.underlying 25 = some (.struct (Try.prog.fieldsOf 25)) := by kernel_rfl
  have hp : Try.prog.stoodInHeld 25 = false := by kernel_rfl
  have hf : ∃ f0 f1 f2 : Field, (Try.prog.fieldsOf 25).toList = [f0, f1, f2] ∧ (f0.name ≠ "_" ∧ f0.type = 4 ∧ f0.offset = 0) ∧ (f1.name ≠ "_" ∧ f1.type = 23 ∧ f1.offset = 1) ∧ (f2.name ≠ "_" ∧ f2.type = 3 ∧ f2.offset = 17) := by
    simp only [Program.fieldsOf, Try.underlying25]
    exact ⟨_, _, _, rfl, ⟨by decide, rfl, rfl⟩, ⟨by decide, rfl, rfl⟩, ⟨by decide, rfl, rfl⟩⟩
  obtain ⟨f0, f1, f2, hl, ⟨n0, t0, o0⟩, ⟨n1, t1, o1⟩, ⟨n2, t2, o2⟩⟩ := hf
  rw [run_equalIn_agg w (d + 2) _ _ _ hS hp, hl]
  have b0 : ∀ w, (isAgg 4).run Try.prog w = .ok false w := fun w => Try.isAgg4 w
  have b2 : ∀ w, (isAgg 3).run Try.prog w = .ok false w := fun w => Try.isAgg3 w
  have b1 : ∀ w, (isAgg 23).run Try.prog w = .ok true w := fun w => Try.isAgg23 w
  have z1 : ∀ w, (Go.sizeOf 23).run Try.prog w = .ok 16 w := fun w => Try.sizeOf23 w
  have g1 : ∀ p : Pf, (part 23 (encP p).toArray 1).run Try.prog w = .ok (.agg (encA p.addr).toArray) w := fun p => part_agg (a := [.bool p.six]) (b := encA p.addr) (c := [.int .i64 p.len]) (encA_len _) rfl b1 z1 w
  rw [eqFields_cons (r := decide (p.six = q.six)) n0 (by rw [t0, o0]; exact part_one (encP_get p).1 b0 w) (by rw [t0, o0]; exact part_one (encP_get q).1 b0 w) (by rw [t0, run_equalIn_bool' w (d + 1) _ _ _ Try.underlying4]; congr 1)]
  rw [eqFields_cons (r := decide (p.addr = q.addr)) n1 (by rw [t1, o1]; exact g1 p) (by rw [t1, o1]; exact g1 q) (by rw [t1]; exact run_eq_bytes d w _ _)]
  rw [eqFields_cons (r := decide (p.len = q.len)) n2 (by rw [t2, o2]; exact part_one (encP_get p).2 b2 w) (by rw [t2, o2]; exact part_one (encP_get q).2 b2 w) (by rw [t2, run_equalIn_int w (d + 1) _ .i64 .i64 _ _ Try.underlying3]; congr 1)]
  obtain ⟨s1, a1, l1⟩ := p
  obtain ⟨s2, a2, l2⟩ := q
  by_cases h0 : s1 = s2 <;> by_cases h1 : a1 = a2 <;> by_cases h2 : l1 = l2 <;> simp [h0, h1, h2, Op.eqFields]
theorem encR_get (r : Rt) : (encR r)[18]? = some (.int .i64 r.metric) ∧ (encR r)[19]? = some (.int .u32 r.seq) := by
  unfold encR
  constructor
  · rw [List.getElem?_append_right (Nat.le_of_eq (encP_len _)), encP_len]
    rfl
  · rw [List.getElem?_append_right (by rw [encP_len]; omega), encP_len]
    rfl
theorem run_eq_route (d : Nat) (w : World) (p q : Rt) : (Op.equalIn (d + 4) 34 (.agg (encR p).toArray) (.agg (encR q).toArray)).run Try.prog w = .ok (decide (p = q)) w := by
  have hS : Try.prog.underlying 34 = some (.struct (Try.prog.fieldsOf 34)) := by kernel_rfl
  have hp : Try.prog.stoodInHeld 34 = false := by kernel_rfl
  have hf : ∃ f0 f1 f2 : Field, (Try.prog.fieldsOf 34).toList = [f0, f1, f2] ∧ (f0.name ≠ "_" ∧ f0.type = 25 ∧ f0.offset = 0) ∧ (f1.name ≠ "_" ∧ f1.type = 3 ∧ f1.offset = 18) ∧ (f2.name ≠ "_" ∧ f2.type = 32 ∧ f2.offset = 19) := by
    simp only [Program.fieldsOf, Try.underlying34]
    exact ⟨_, _, _, rfl, ⟨by decide, rfl, rfl⟩, ⟨by decide, rfl, rfl⟩, ⟨by decide, rfl, rfl⟩⟩
  obtain ⟨f0, f1, f2, hl, ⟨n0, t0, o0⟩, ⟨n1, t1, o1⟩, ⟨n2, t2, o2⟩⟩ := hf
  rw [run_equalIn_agg w (d + 3) _ _ _ hS hp, hl]
  have b1 : ∀ w, (isAgg 3).run Try.prog w = .ok false w := fun w => Try.isAgg3 w
  have b2 : ∀ w, (isAgg 32).run Try.prog w = .ok false w := fun w => Try.isAgg32 w
  have b0 : ∀ w, (isAgg 25).run Try.prog w = .ok true w := fun w => Try.isAgg25 w
  have z0 : ∀ w, (Go.sizeOf 25).run Try.prog w = .ok 18 w := fun w => Try.sizeOf25 w
  have g0 : ∀ p : Rt, (part 25 (encR p).toArray 0).run Try.prog w = .ok (.agg (encP p.to).toArray) w := fun p => part_agg (a := []) (b := encP p.to) (c := [.int .i64 p.metric, .int .u32 p.seq]) (encP_len _) rfl b0 z0 w
  rw [eqFields_cons (r := decide (p.to = q.to)) n0 (by rw [t0, o0]; exact g0 p) (by rw [t0, o0]; exact g0 q) (by rw [t0]; exact run_eq_prefix d w _ _)]
  rw [eqFields_cons (r := decide (p.metric = q.metric)) n1 (by rw [t1, o1]; exact part_one (encR_get p).1 b1 w) (by rw [t1, o1]; exact part_one (encR_get q).1 b1 w) (by rw [t1, run_equalIn_int w (d + 2) _ .i64 .i64 _ _ Try.underlying3]; congr 1)]
  rw [eqFields_cons (r := decide (p.seq = q.seq)) n2 (by rw [t2, o2]; exact part_one (encR_get p).2 b2 w) (by rw [t2, o2]; exact part_one (encR_get q).2 b2 w) (by rw [t2, run_equalIn_int w (d + 2) _ .u32 .u32 _ _ Try.underlying32]; congr 1)]
  obtain ⟨s1, a1, l1⟩ := p
  obtain ⟨s2, a2, l2⟩ := q
  by_cases h0 : s1 = s2 <;> by_cases h1 : a1 = a2 <;> by_cases h2 : l1 = l2 <;> simp [h0, h1, h2, Op.eqFields]
theorem eqA (a b : Vector UInt8 16) (w : World) : (binOp .eql 23 (.agg (encA a).toArray) (.agg (encA b).toArray)).run Try.prog w = .ok (.bool (decide (a = b))) w := by rw [run_eql_struct, run_eq_bytes]; rfl
theorem eqP (p q : Pf) (w : World) : (binOp .eql 25 (.agg (encP p).toArray) (.agg (encP q).toArray)).run Try.prog w = .ok (.bool (decide (p = q))) w := by rw [run_eql_struct, run_eq_prefix]; rfl
theorem neqP (p q : Pf) (w : World) : (binOp .neq 25 (.agg (encP p).toArray) (.agg (encP q).toArray)).run Try.prog w = .ok (.bool (!decide (p = q))) w := by rw [run_neq_struct, run_eq_prefix]; rfl
theorem eqR (p q : Rt) (w : World) : (binOp .eql 34 (.agg (encR p).toArray) (.agg (encR q).toArray)).run Try.prog w = .ok (.bool (decide (p = q))) w := by rw [run_eql_struct, run_eq_route]; rfl
theorem neqR (p q : Rt) (w : World) : (binOp .neq 34 (.agg (encR p).toArray) (.agg (encR q).toArray)).run Try.prog w = .ok (.bool (!decide (p = q))) w := by rw [run_neq_struct, run_eq_route]; rfl
attribute [go_sem 10000] eqA eqP neqP eqR neqR
end Tab
end Go.Proofs.Ytbeoclcnajfjcaa
