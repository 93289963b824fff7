/-
  Incs: values built, rows of them, append, '=='. Conditions: those that each theorem names.
-/
import Derived.Test.YtbeoclcnajfjcaaDropA
namespace Go.Proofs.Ytbeoclcnajfjcaa
open Go Go.RowKit H2
set_option linter.unusedVariables false
set_option linter.unusedSimpArgs false
namespace Tab
def zI : In := ⟨0, zR⟩
theorem build_I (k : Int) (r : Rt) (w : World) : (Instr.build 43 #[(0, .int .i64 k), (1, .agg (encR r).toArray)]).run Try.prog w = .ok (.agg (encI ⟨k, r⟩).toArray) w := by
  obtain ⟨⟨s, a, n⟩, m, q⟩ := r
  obtain ⟨a0, a1, a2, a3, a4, a5, a6, a7, a8, a9, a10, a11, a12, a13, a14, a15, rfl⟩ := vec16 a
  kernel_rfl
theorem row_I1 (x : In) (w : World) : (Instr.buildSlice 58 1 #[(0, .agg (encI x).toArray)]).run Try.prog w = .ok (.slice (some ⟨w.heap.size, 0, none⟩) 1 1) (w.alloc (.cells (encI x).toArray 43 (0, 0))) := by
  obtain ⟨k, ⟨⟨s, a, n⟩, m, q⟩⟩ := x
  obtain ⟨a0, a1, a2, a3, a4, a5, a6, a7, a8, a9, a10, a11, a12, a13, a14, a15, rfl⟩ := vec16 a
  kernel_rfl
theorem infoI : (Try.prog.info? 43).map (fun i => (i.zero, i.size, i.bytes)) = some (some (.agg (encI zI).toArray), 21, 56) := by kernel_rfl
theorem infoI' : ∃ i0 : TypeInfo, Try.prog.info? 43 = some i0 ∧ i0.zero = some (.agg (encI zI).toArray) ∧ i0.size = 21 ∧ i0.bytes = 56 := by
  obtain ⟨i0, h1, h2, h3, h4⟩ := info_parts infoI
  exact ⟨i0, h1, h2, h3, h4⟩
def flatI (L : List In) : List Value := L.flatMap encI
theorem flatI_cons (r : In) (L : List In) : flatI (r :: L) = encI r ++ flatI L := rfl
theorem flatI_app (A B : List In) : flatI (A ++ B) = flatI A ++ flatI B := by simp [flatI]
theorem flatI_one (r : In) : flatI [r] = encI r := by simp [flatI]
theorem flatI_len : ∀ L : List In, (flatI L).length = L.length * 21
  | [] => rfl
  | r :: L => by rw [flatI_cons, List.length_append, encI_len, flatI_len L, List.length_cons]; omega
theorem flatI_get : ∀ (L : List In) (i j : Nat) (hi : i < L.length), j < 21 → (flatI L)[i * 21 + j]? = (encI L[i])[j]?
  | [], i, j, hi, _ => by simp at hi
  | r :: L, 0, j, _, hj => by rw [flatI_cons, Nat.zero_mul, Nat.zero_add, List.getElem?_append_left (by rw [encI_len]; exact hj)]; rfl
  | r :: L, i + 1, j, hi, hj => by
    rw [flatI_cons, List.getElem?_append_right (by rw [encI_len]; omega), encI_len, show (i + 1) * 21 + j - 21 = i * 21 + j by omega, flatI_get L i j (by simpa using hi) hj]
    rfl
theorem flatI_one' (L : List In) : ∀ v ∈ flatI L, v.oneCell' = true := fun v hv => by
  obtain ⟨r, _, h⟩ := List.mem_flatMap.1 hv
  exact encI_one r v h
/-- incs that are read -/
def RdI (W : World) (A : Option Addr) (L : List In) : Prop := ∀ i (h : i < L.length), ∃ b o, A = some ⟨b, o, none⟩ ∧ IAt W b (o + i * 21) L[i]
structure RvI (W : World) (v : Value) (A : Option Addr) (cap : Nat) (L : List In) : Prop where
  eq : v = .slice A L.length cap
  len : L.length ≤ cap
  capm : cap ≤ maxLen
  rd : RdI W A L
  nil : A = none → cap = 0
theorem RdI.below {w w' : World} {A : Option Addr} {L : List In} (h : RdI w A L) (hb : Below w.heap.size w w') : RdI w' A L := fun i hi => by
  obtain ⟨b, o, e, hr⟩ := h i hi
  exact ⟨b, o, e, hr.below hb⟩
theorem RdI.drewN {w : World} {A : Option Addr} {L : List In} (h : RdI w A L) (n : Nat) : RdI (w.drewN n) A L := fun i hi => by
  obtain ⟨b, o, e, hr⟩ := h i hi
  exact ⟨b, o, e, hr.drewN n⟩
theorem RvI.below {w w' : World} {v : Value} {A : Option Addr} {cap : Nat} {L : List In} (h : RvI w v A cap L) (hb : Below w.heap.size w w') : RvI w' v A cap L := ⟨h.eq, h.len, h.capm, h.rd.below hb, h.nil⟩
theorem ownI_rv {w : World} {base : Nat} {v : Value} {L : List In} (h : w.ownsRow base 43 21 v L.length (flatI L)) : ∃ A cap, RvI w v A cap L := by
  have h' := h
  rcases h.2 with ⟨rfl, h0⟩ | ⟨g, cap, cur, rfl, hb, hh, hn, hm, _⟩
  · exact ⟨none, 0, by rw [h0], by omega, by decide, fun i hi => by omega, fun _ => rfl⟩
  · exact ⟨some ⟨g, 0, none⟩, cap, rfl, hn, hm, fun i hi => ⟨g, 0, rfl, ⟨fun j u hj => by
      have hj20 : j < 21 := by
        have := (List.getElem?_eq_some_iff.1 hj).1
        rwa [encI_len] at this
      have := own_at h' (i * 21 + j) u (by rw [flatI_get L i j hi hj20]; exact hj)
      rwa [← Nat.add_assoc] at this⟩⟩, fun e => by cases e⟩
/-- append of one -/
theorem appI_run (w : World) (base : Nat) (v : Value) (L : List In) (x : In) (ty : TypeId) (ho : w.ownsRow base 43 21 v L.length (flatI L)) (bv c : Nat) (hx : w.heap[bv]? = some (.cells (encI x).toArray 43 (0, 0)))
    (hl : L.length ≤ 100000) (hb : base ≤ w.heap.size) :
    ∃ v' w', (Builtin.append_ #[58, 58] ty #[v, .slice (some ⟨bv, 0, none⟩) 1 c]).run Try.prog w = .ok v' w' ∧ w'.ownsRow base 43 21 v' (L ++ [x]).length (flatI (L ++ [x])) ∧ w.grownBy w' v.ownBlock := by
  obtain ⟨i0, hi, hz0, hz1, hz2⟩ := infoI'
  have hnews : ∀ j u, (flatI [x])[j]? = some u → w.cell? ((⟨bv, 0, none⟩ : Addr).add j) = some u := fun j u hj => by
    rw [flatI_one] at hj
    rw [Addr.add_lit]
    exact at_row hx j u hj
  obtain ⟨v', w', hrun, h2, h3, _⟩ := run_append_own (P := Try.prog) w base 58 ty 43 i0 _ 21 56 Try.underlying58 hi hz0 hz1 hz2 (by simp [Value.cells, encI_len]) (by omega) v L.length (flatI L) ho ⟨bv, 0, none⟩ 1 c (flatI [x]) (flatI_len [x]) hnews (flatI_one' [x]) (by unfold maxLen; omega) (by omega) hb
  exact ⟨v', w', hrun, by rw [flatI_app, List.length_append]; exact h2, h3⟩
theorem encI_get (x : In) : (encI x)[0]? = some (.int .i64 x.kind) := rfl
theorem run_eq_inc (d : Nat) (w : World) (p q : In) : (Op.equalIn (d + 5) 43 (.agg (encI p).toArray) (.agg (encI q).toArray)).run Try.prog w = .ok (decide (p = q)) w := by
  have hS : Try.prog.underlying 43 = some (.struct (Try.prog.fieldsOf 43)) := by kernel_rfl
  have hp : Try.prog.stoodInHeld 43 = false := by kernel_rfl
  have hf : ∃ f0 f1 : Field, (Try.prog.fieldsOf 43).toList = [f0, f1] ∧ (f0.name ≠ "_" ∧ f0.type = 3 ∧ f0.offset = 0) ∧ (f1.name ≠ "_" ∧ f1.type = 34 ∧ f1.offset = 1) := by
    simp only [Program.fieldsOf, Try.underlying43]
    exact ⟨_, _, rfl, ⟨by decide, rfl, rfl⟩, ⟨by decide, rfl, rfl⟩⟩
  obtain ⟨f0, f1, hl, ⟨n0, t0, o0⟩, ⟨n1, t1, o1⟩⟩ := hf
  rw [run_equalIn_agg w (d + 4) _ _ _ hS hp, hl]
  have b1 : ∀ w, (isAgg 3).run Try.prog w = .ok false w := fun w => Try.isAgg3 w
  have b0 : ∀ w, (isAgg 34).run Try.prog w = .ok true w := fun w => Try.isAgg34 w
  have z0 : ∀ w, (Go.sizeOf 34).run Try.prog w = .ok 20 w := fun w => Try.sizeOf34 w
  have g0 : ∀ p : In, (part 34 (encI p).toArray 1).run Try.prog w = .ok (.agg (encR p.rt).toArray) w := fun p => by
    have := part_agg (t := 34) (a := [.int .i64 p.kind]) (b := encR p.rt) (c := []) (encR_len _) rfl b0 z0 w
    rwa [List.append_nil] at this
  rw [eqFields_cons (r := decide (p.kind = q.kind)) n0 (by rw [t0, o0]; exact part_one (encI_get p) b1 w) (by rw [t0, o0]; exact part_one (encI_get q) b1 w) (by rw [t0, run_equalIn_int w (d + 3) _ .i64 .i64 _ _ Try.underlying3]; congr 1)]
  rw [eqFields_cons (r := decide (p.rt = q.rt)) n1 (by rw [t1, o1]; exact g0 p) (by rw [t1, o1]; exact g0 q) (by rw [t1]; exact run_eq_route d w _ _)]
  obtain ⟨s1, a1⟩ := p
  obtain ⟨s2, a2⟩ := q
  by_cases h0 : s1 = s2 <;> by_cases h1 : a1 = a2 <;> simp [h0, h1, Op.eqFields]
theorem neqI (p q : In) (w : World) : (binOp .neq 43 (.agg (encI p).toArray) (.agg (encI q).toArray)).run Try.prog w = .ok (.bool (!decide (p = q))) w := by rw [run_neq_struct, run_eq_inc]; rfl
attribute [go_sem 10000] neqI
end Tab
end Go.Proofs.Ytbeoclcnajfjcaa
