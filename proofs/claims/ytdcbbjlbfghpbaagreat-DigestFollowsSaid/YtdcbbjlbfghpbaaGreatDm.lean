/-
  Joined texts: IncA DigB. Conditions: those that each theorem names.
-/
import Derived.Test.YtdcbbjlbfghpbaaGreatDi
import Derived.Test.YtdcbbjlbfghpbaaGreatDl
import Derived.Test.YtdcbbjlbfghpbaaGreatDigD
import Derived.Laws.BitsAllLaws
/-
  Incs: values built, rows of them, append, '=='. Conditions: those that each theorem names.
-/
namespace Go.Proofs.YtdcbbjlbfghpbaaGreat
open Go Go.RowKit H2
set_option linter.unusedVariables false
set_option linter.unusedSimpArgs false
namespace Tab
def zI : In := ⟨0, zR⟩
theorem build_I (k : Int) (r : Rt) (w : World) : (Instr.build 38 #[(0, .int .i64 k), (1, .agg (encR r).toArray)]).run Tryz.prog w = .ok (.agg (encI ⟨k, r⟩).toArray) w := by
  obtain ⟨⟨s, a, n⟩, m, q⟩ := r
  obtain ⟨a0, a1, a2, a3, a4, a5, a6, a7, a8, a9, a10, a11, a12, a13, a14, a15, rfl⟩ := vec16 a
  kernel_rfl
theorem row_I1 (x : In) (w : World) : (Instr.buildSlice 23 1 #[(0, .agg (encI x).toArray)]).run Tryz.prog w = .ok (.slice (some ⟨w.heap.size, 0, none⟩) 1 1) (w.alloc (.cells (encI x).toArray 38 (0, 0))) := by
  obtain ⟨k, ⟨⟨s, a, n⟩, m, q⟩⟩ := x
  obtain ⟨a0, a1, a2, a3, a4, a5, a6, a7, a8, a9, a10, a11, a12, a13, a14, a15, rfl⟩ := vec16 a
  kernel_rfl
theorem infoI : (Tryz.prog.info? 38).map (fun i => (i.zero, i.size, i.bytes)) = some (some (.agg (encI zI).toArray), 21, 56) := by kernel_rfl
theorem infoI' : ∃ i0 : TypeInfo, Tryz.prog.info? 38 = some i0 ∧ i0.zero = some (.agg (encI zI).toArray) ∧ i0.size = 21 ∧ i0.bytes = 56 := by
  obtain ⟨i0, h1, h2, h3, h4⟩ := info_parts infoI
  exact ⟨i0, h1, h2, h3, h4⟩
def flatI (L : List In) : List Value := L.flatMap encI
theorem flatI_cons (r : In) (L : List In) : flatI (r :: L) = encI r ++ flatI L := rfl
theorem flatI_app (A B : List In) : flatI (A ++ B) = flatI A ++ flatI B := by simp [flatI]
theorem flatI_one (r : In) : flatI [r] = encI r := by simp [flatI]
theorem flatI_len : ∀ L : List In, (flatI L).length = L.length * 21
  | [] => rfl
  | r :: L => by rw [flatI_cons, List.length_append, encI_len, flatI_len L, List.length_cons]; omega
theorem flatI_get : ∀ (L : List In) (i j : Nat) (hi : i < L.length), j < 21 → (flatI L)[i * 21 + j]? = (encI L[i])[j]?
  | [], i, j, hi, _ => by simp at hi
  | r :: L, 0, j, _, hj => by rw [flatI_cons, Nat.zero_mul, Nat.zero_add, List.getElem?_append_left (by rw [encI_len]; exact hj)]; rfl
  | r :: L, i + 1, j, hi, hj => by
    rw [flatI_cons, List.getElem?_append_right (by rw [encI_len]; omega), encI_len, show (i + 1) * 21 + j - 21 = i * 21 + j by omega, flatI_get L i j (by simpa using hi) hj]
    rfl
theorem flatI_one' (L : List In) : ∀ v ∈ flatI L, v.oneCell' = true := fun v hv => by
  obtain ⟨r, _, h⟩ := List.mem_flatMap.1 hv
  exact encI_one r v h
/-- incs that are read -/
def RdI (W : World) (A : Option Addr) (L : List In) : Prop := ∀ i (h : i < L.length), ∃ b o, A = some ⟨b, o, none⟩ ∧ IAt W b (o + i * 21) L[i]
structure RvI (W : World) (v : Value) (A : Option Addr) (cap : Nat) (L : List In) : Prop where
  eq : v = .slice A L.length cap
  len : L.length ≤ cap
  capm : cap ≤ maxLen
  rd : RdI W A L
  nil : A = none → cap = 0
theorem RdI.below {w w' : World} {A : Option Addr} {L : List In} (h : RdI w A L) (hb : Below w.heap.size w w') : RdI w' A L := fun i hi => by
  obtain ⟨b, o, e, hr⟩ := h i hi
  exact ⟨b, o, e, hr.below hb⟩
theorem RdI.drewN {w : World} {A : Option Addr} {L : List In} (h : RdI w A L) (n : Nat) : RdI (w.drewN n) A L := fun i hi => by
  obtain ⟨b, o, e, hr⟩ := h i hi
  exact ⟨b, o, e, hr.drewN n⟩
theorem RvI.below {w w' : World} {v : Value} {A : Option Addr} {cap : Nat} {L : List In} (h : RvI w v A cap L) (hb : Below w.heap.size w w') : RvI w' v A cap L := ⟨h.eq, h.len, h.capm, h.rd.below hb, h.nil⟩
theorem ownI_rv {w : World} {base : Nat} {v : Value} {L : List In} (h : w.ownsRow base 38 21 v L.length (flatI L)) : ∃ A cap, RvI w v A cap L := by
  have h' := h
  rcases h.2 with ⟨rfl, h0⟩ | ⟨g, cap, cur, rfl, hb, hh, hn, hm, _⟩
  · exact ⟨none, 0, by rw [h0], by omega, by decide, fun i hi => by omega, fun _ => rfl⟩
  · exact ⟨some ⟨g, 0, none⟩, cap, rfl, hn, hm, fun i hi => ⟨g, 0, rfl, ⟨fun j u hj => by
      have hj20 : j < 21 := by
        have := (List.getElem?_eq_some_iff.1 hj).1
        rwa [encI_len] at this
      have := own_at h' (i * 21 + j) u (by rw [flatI_get L i j hi hj20]; exact hj)
      rwa [← Nat.add_assoc] at this⟩⟩, fun e => by cases e⟩
/-- append of one -/
theorem appI_run (w : World) (base : Nat) (v : Value) (L : List In) (x : In) (ty : TypeId) (ho : w.ownsRow base 38 21 v L.length (flatI L)) (bv c : Nat) (hx : w.heap[bv]? = some (.cells (encI x).toArray 38 (0, 0)))
    (hl : L.length ≤ 100000) (hb : base ≤ w.heap.size) :
    ∃ v' w', (Builtin.append_ #[23, 23] ty #[v, .slice (some ⟨bv, 0, none⟩) 1 c]).run Tryz.prog w = .ok v' w' ∧ w'.ownsRow base 38 21 v' (L ++ [x]).length (flatI (L ++ [x])) ∧ w.grownBy w' v.ownBlock := by
  obtain ⟨i0, hi, hz0, hz1, hz2⟩ := infoI'
  have hnews : ∀ j u, (flatI [x])[j]? = some u → w.cell? ((⟨bv, 0, none⟩ : Addr).add j) = some u := fun j u hj => by
    rw [flatI_one] at hj
    rw [Addr.add_lit]
    exact at_row hx j u hj
  obtain ⟨v', w', hrun, h2, h3, _⟩ := run_append_own (P := Tryz.prog) w base 23 ty 38 i0 _ 21 56 Tryz.underlying23 hi hz0 hz1 hz2 (by simp [Value.cells, encI_len]) (by omega) v L.length (flatI L) ho ⟨bv, 0, none⟩ 1 c (flatI [x]) (flatI_len [x]) hnews (flatI_one' [x]) (by unfold maxLen; omega) (by omega) hb
  exact ⟨v', w', hrun, by rw [flatI_app, List.length_append]; exact h2, h3⟩
theorem encI_get (x : In) : (encI x)[0]? = some (.int .i64 x.kind) := rfl
theorem run_eq_inc (d : Nat) (w : World) (p q : In) : (Op.equalIn (d + 5) 38 (.agg (encI p).toArray) (.agg (encI q).toArray)).run Tryz.prog w = .ok (decide (p = q)) w := by
  have hS : Tryz.prog.underlying 38 = some (.struct (Tryz.prog.fieldsOf 38)) := by kernel_rfl
  have hp : Tryz.prog.stoodInHeld 38 = false := by kernel_rfl
  have hf : ∃ f0 f1 : Field, (Tryz.prog.fieldsOf 38).toList = [f0, f1] ∧ (f0.name ≠ "_" ∧ f0.type = 3 ∧ f0.offset = 0) ∧ (f1.name ≠ "_" ∧ f1.type = 36 ∧ f1.offset = 1) := by
    simp only [Program.fieldsOf, Tryz.underlying38]
    exact ⟨_, _, rfl, ⟨by decide, rfl, rfl⟩, ⟨by decide, rfl, rfl⟩⟩
  obtain ⟨f0, f1, hl, ⟨n0, t0, o0⟩, ⟨n1, t1, o1⟩⟩ := hf
  rw [run_equalIn_agg w (d + 4) _ _ _ hS hp, hl]
  have b1 : ∀ w, (isAgg 3).run Tryz.prog w = .ok false w := fun w => Tryz.isAgg3 w
  have b0 : ∀ w, (isAgg 36).run Tryz.prog w = .ok true w := fun w => Tryz.isAgg36 w
  have z0 : ∀ w, (Go.sizeOf 36).run Tryz.prog w = .ok 20 w := fun w => Tryz.sizeOf36 w
  have g0 : ∀ p : In, (part 36 (encI p).toArray 1).run Tryz.prog w = .ok (.agg (encR p.rt).toArray) w := fun p => by
    have := part_agg (t := 36) (a := [.int .i64 p.kind]) (b := encR p.rt) (c := []) (encR_len _) rfl b0 z0 w
    rwa [List.append_nil] at this
  rw [eqFields_cons (r := decide (p.kind = q.kind)) n0 (by rw [t0, o0]; exact part_one (encI_get p) b1 w) (by rw [t0, o0]; exact part_one (encI_get q) b1 w) (by rw [t0, run_equalIn_int w (d + 3) _ .i64 .i64 _ _ Tryz.underlying3]; congr 1)]
  rw [eqFields_cons (r := decide (p.rt = q.rt)) n1 (by rw [t1, o1]; exact g0 p) (by rw [t1, o1]; exact g0 q) (by rw [t1]; exact run_eq_route d w _ _)]
  obtain ⟨s1, a1⟩ := p
  obtain ⟨s2, a2⟩ := q
  by_cases h0 : s1 = s2 <;> by_cases h1 : a1 = a2 <;> simp [h0, h1, Op.eqFields]
theorem neqI (p q : In) (w : World) : (binOp .neq 38 (.agg (encI p).toArray) (.agg (encI q).toArray)).run Tryz.prog w = .ok (.bool (!decide (p = q))) w := by rw [run_neq_struct, run_eq_inc]; rfl
attribute [go_sem 10000] neqI
end Tab
end Go.Proofs.YtdcbbjlbfghpbaaGreat

/-
  Digests behind a change and the change back: plain laws. Conditions: those that each theorem names.
-/
namespace Go.Proofs.YtdcbbjlbfghpbaaGreat
open Go Go.RowKit H2
set_option linter.unusedVariables false
set_option linter.unusedSimpArgs false
namespace Dig
open Tab Byt
theorem moreD1 (D : Dg) (r was : Rt) : moreD D ⟨1, r⟩ was = addF D (bk r.to) (mk r) := if_pos rfl
theorem moreD2 (D : Dg) (r was : Rt) : moreD D ⟨2, r⟩ was = addF (subF D (bk r.to) (mk was)) (bk r.to) (mk r) := (if_neg (show ¬ (2 : Int) = 1 by decide)).trans (if_pos rfl)
theorem moreD3 (D : Dg) (r was : Rt) : moreD D ⟨3, r⟩ was = subF D (bk r.to) (mk was) := (if_neg (show ¬ (3 : Int) = 1 by decide)).trans (if_neg (show ¬ (3 : Int) = 2 by decide))
theorem wr64 (x : Int) : IntKind.u64.wrap x = x % 18446744073709551616 := by simp [IntKind.wrap, IntKind.bits, IntKind.signed]
theorem mixI_range (x : Int) : 0 ≤ mixI x ∧ mixI x < 18446744073709551616 := by
  unfold mixI
  have h0 : 0 ≤ s3 (s2 (s1 x)) ∧ s3 (s2 (s1 x)) < 18446744073709551616 := by
    unfold s3
    rw [wr64]
    omega
  generalize s3 (s2 (s1 x)) = y at h0
  obtain ⟨Y, rfl⟩ := Int.eq_ofNat_of_zero_le h0.1
  have hY : Y < 18446744073709551616 := by omega
  have e : (Y : Int) / 2147483648 = ((Y / 2147483648 : Nat) : Int) := by omega
  rw [e, u64_xor_nat Y _ hY (by omega)]
  have := Nat.xor_lt_two_pow (n := 64) (x := Y) (y := Y / 2147483648) (by omega) (by omega)
  omega
theorem mixes_range (l : List UInt8) : 0 ≤ mixes l ∧ mixes l < 18446744073709551616 := by
  have key : ∀ (l : List UInt8) (x : Int), 0 ≤ x ∧ x < 18446744073709551616 → 0 ≤ l.foldl (fun x c => mixI (bits BinOp.xor IntKind.u64 x (c.toNat : Int))) x ∧ l.foldl (fun x c => mixI (bits BinOp.xor IntKind.u64 x (c.toNat : Int))) x < 18446744073709551616 := by
    intro l
    induction l with
    | nil => intro x h; exact h
    | cons c l ih => intro x _; exact ih _ (mixI_range _)
  exact key l 0 (by omega)
theorem mk_range (r : Rt) : 0 ≤ mk r ∧ mk r < 18446744073709551616 := mixes_range _
theorem subF_at (D : Dg) (q : Nat) (m : Int) (j : Nat) : subF D q m j = if j = q then (wrap64 ((D q).1 - 1), ((D q).2 - m) % 18446744073709551616) else D j := by
  unfold subF setS subN
  by_cases h : j = q
  · rw [if_pos h, if_pos h, if_pos h, wr64]
  · rw [if_neg h, if_neg h, if_neg h]
theorem addF_at (D : Dg) (q : Nat) (m : Int) (j : Nat) : addF D q m j = if j = q then (wrap64 ((D q).1 + 1), ((D q).2 + m) % 18446744073709551616) else D j := by
  unfold addF setS addN
  by_cases h : j = q
  · rw [if_pos h, if_pos h, if_pos h, wr64]
  · rw [if_neg h, if_neg h, if_neg h]
theorem wrap64_in {x : Int} (h : -1000000 ≤ x ∧ x ≤ 1000000) : wrap64 x = x := by
  unfold wrap64
  omega
/-- a digest of a table -/
structure InR (x : Int × Int) : Prop where
  n : 0 ≤ x.1 ∧ x.1 ≤ 1000
  s : 0 ≤ x.2 ∧ x.2 < 18446744073709551616
theorem back_add {D : Dg} {q : Nat} {m : Int} (h : InR (D q)) : subF (addF D q m) q m = D := by
  funext j
  rw [subF_at, addF_at, if_pos rfl]
  have h1 := h.n
  have h2 := h.s
  by_cases e : j = q
  · subst e
    rw [if_pos rfl]
    dsimp only
    rw [wrap64_in (x := (D j).1 + 1) (by omega), wrap64_in (x := (D j).1 + 1 - 1) (by omega)]
    apply Prod.ext
    · dsimp only; omega
    · dsimp only; omega
  · rw [if_neg e, addF_at, if_neg e]
theorem back_change {D : Dg} {q : Nat} {m k : Int} (h : InR (D q)) : addF (subF (addF (subF D q m) q k) q k) q m = D := by
  funext j
  have h1 := h.n
  have h2 := h.s
  rw [addF_at, subF_at, if_pos rfl, addF_at, if_pos rfl, subF_at, if_pos rfl]
  by_cases e : j = q
  · subst e
    rw [if_pos rfl]
    dsimp only
    rw [wrap64_in (x := (D j).1 - 1) (by omega), wrap64_in (x := (D j).1 - 1 + 1) (by omega), wrap64_in (x := (D j).1 - 1 + 1 - 1) (by omega), wrap64_in (x := (D j).1 - 1 + 1 - 1 + 1) (by omega)]
    apply Prod.ext
    · dsimp only; omega
    · dsimp only; omega
  · rw [if_neg e, subF_at, if_neg e, addF_at, if_neg e, subF_at, if_neg e]
theorem difs_zero (F G : Dg) : (difs 17 17 F G 17).length = 0 ↔ ∀ i, i < 17 → F i = G i := by
  unfold difs
  rw [List.length_map, List.length_eq_zero_iff, List.filter_eq_nil_iff]
  constructor
  · intro h i hi
    have := h i (List.mem_range.2 hi)
    simpa using this
  · intro h i hi
    have := h i (List.mem_range.1 hi)
    simp [this]
theorem add_ne {D : Dg} {q : Nat} {m : Int} (hq : q < 17) (h : InR (D q)) : (difs 17 17 D (addF D q m) 17).length ≠ 0 := fun e => by
  have h1 := h.n
  have := (difs_zero _ _).1 e q hq
  rw [addF_at, if_pos rfl, wrap64_in (by omega)] at this
  have := congrArg Prod.fst this
  dsimp only at this
  omega
theorem change_eq {D : Dg} {q : Nat} {m k : Int} (hq : q < 17) (h : InR (D q)) (hm : 0 ≤ m ∧ m < 18446744073709551616) (hk : 0 ≤ k ∧ k < 18446744073709551616) : (difs 17 17 D (addF (subF D q m) q k) 17).length = 0 ↔ m = k := by
  have h1 := h.n
  have h2 := h.s
  rw [difs_zero]
  have hat : ∀ j, addF (subF D q m) q k j = if j = q then ((D q).1, (((D q).2 - m) % 18446744073709551616 + k) % 18446744073709551616) else D j := by
    intro j
    rw [addF_at, subF_at, if_pos rfl]
    by_cases e : j = q
    · rw [if_pos e, if_pos e]
      dsimp only
      rw [wrap64_in (x := (D q).1 - 1) (by omega), wrap64_in (x := (D q).1 - 1 + 1) (by omega), show (D q).1 - 1 + 1 = (D q).1 by omega]
    · rw [if_neg e, if_neg e, subF_at, if_neg e]
  constructor
  · intro e
    have := e q hq
    rw [hat, if_pos rfl] at this
    have := congrArg Prod.snd this
    dsimp only at this
    omega
  · rintro rfl j hj
    rw [hat]
    split
    · rename_i e
      subst e
      apply Prod.ext
      · rfl
      · dsimp only; omega
    · rfl
theorem fold_s : ∀ (T : List Rt) (D : Dg), (∀ j, 0 ≤ (D j).2 ∧ (D j).2 < 18446744073709551616) → ∀ k, 0 ≤ (T.foldl dgAdd D k).2 ∧ (T.foldl dgAdd D k).2 < 18446744073709551616
  | [], D, h, k => h k
  | r :: T, D, h, k => fold_s T (dgAdd D r) (fun j => by
    unfold dgAdd
    split
    · dsimp only; rw [wr64]; omega
    · exact h j) k
theorem ms_range : ∀ (l : List Rt) (s : Int), 0 ≤ s ∧ s < 18446744073709551616 → 0 ≤ l.foldl (fun s r => IntKind.u64.wrap (s + mk r)) s ∧ l.foldl (fun s r => IntKind.u64.wrap (s + mk r)) s < 18446744073709551616
  | [], s, h => h
  | r :: l, s, _ => ms_range l _ (by dsimp only; rw [wr64]; omega)
theorem inr_dgs (T : List Rt) (hT : T.length ≤ 300) (k : Nat) : InR (dgs T k) := by
  refine ⟨?_, ?_⟩
  · have := dgs_bound T k
    omega
  · have h := fold_s T dg0 (fun j => by simp [dg0]) k
    exact h
end Dig
end Go.Proofs.YtdcbbjlbfghpbaaGreat
