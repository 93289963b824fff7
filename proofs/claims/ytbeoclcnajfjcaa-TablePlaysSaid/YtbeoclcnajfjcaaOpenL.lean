/-
  Lists of routes, lists of calls that came in, opened. Conditions: those that each theorem names.
-/
import Derived.Test.YtbeoclcnajfjcaaOpenR
import Derived.Test.YtbeoclcnajfjcaaTabA
namespace Go.Proofs.Ytbeoclcnajfjcaa
open Go Go.Deep Go.Joins Go.ChangeShapes Go.WideShapes Go.RowKit
set_option linter.unusedVariables false
set_option linter.unusedSimpArgs false
namespace Tab
instance : Inhabited Pf := ⟨⟨false, Vector.replicate 16 0, 0⟩⟩
instance : Inhabited Rt := ⟨⟨default, 0, 0⟩⟩
/-- a slice's cells, element by element -/
theorem open_rows {H : Type} {enc : TypeId × Value → H} {W : World} {fuel k : Nat} {t e : TypeId} {v : Value} {x : DataW H × List MemPlace} {α : Type} [Inhabited α] (enc' : α → List Value)
    (ht : Try.prog.underlying t = some (.slice e)) (ce : Try.prog.cellsOf e = k) (hk : 0 < k) (hlen : ∀ a, (enc' a).length = k)
    (hop : ∀ {cs n y}, DataW.trod enc Try.prog W 0 (fun _ => true) true n e cs = some y → ∃ a, cs = enc' a)
    (h : DataW.trod enc Try.prog W 0 (fun _ => true) true fuel t [v] = some x) :
    ∃ (A : Option Addr) (cap : Nat) (L : List α), v = .slice A L.length cap ∧ (L.length ≤ cap ∧ cap ≤ maxLen) ∧ ∀ i (h : i < L.length), ∃ b o, A = some ⟨b, o, none⟩ ∧ At W b (o + i * k) (enc' L[i]) := by
  rcases open_slice ht h with h0 | ⟨a, len, cap, m, n, D, Pl, hv, hb, hl, hm, hmm, rfl, hx⟩
  · have := h0.1
    simp at this
    exact ⟨none, 0, [], this, ⟨by simp, by decide⟩, fun i hi => by simp at hi⟩
  · simp at hv
    subst hv
    have hlm : len ≤ m := by rw [hmm]; split <;> omega
    have each : ∀ i, i < len → ∃ r : α, ∃ b o, a = ⟨b, o, none⟩ ∧ At W b (o + i * k) (enc' r) := by
      intro i hi
      obtain ⟨cs', h1, h2⟩ := hx i (by omega)
      rw [ce] at h1
      obtain ⟨_, hlen', hcell⟩ := World.cells?_some h1
      obtain ⟨r, rfl⟩ := hop h2
      have hs0 : a.spot = none := by
        obtain ⟨cs0, k1, k2⟩ := hx 0 (by omega)
        rw [ce] at k1
        obtain ⟨_, hlen0, hcell0⟩ := World.cells?_some k1
        obtain ⟨r0, rfl⟩ := hop k2
        have e0 := hcell0 0 hk
        have hl0 : 0 < (enc' r0).length := by rw [hlen]; exact hk
        rw [add_add, List.getElem?_eq_getElem hl0] at e0
        simpa [Addr.add] using World.cell?_spot e0
      obtain ⟨ab, ao, sp⟩ := a
      have hs : sp = none := hs0
      subst hs
      refine ⟨r, ab, ao, rfl, fun j u hj => ?_⟩
      have hj' : j < k := by have := (List.getElem?_eq_some_iff.1 hj).1; rw [hlen] at this; exact this
      have := hcell j hj'
      rw [add_add, Addr.add_lit, hj] at this
      rw [Nat.add_assoc]
      exact this
    obtain ⟨f, hf⟩ := choose_lt each
    refine ⟨some a, cap, (List.range len).map f, by simp, ⟨by simpa using hl, hm⟩, fun i hi => ?_⟩
    have hi' : i < len := by simpa using hi
    obtain ⟨b, o, rfl, h3⟩ := hf i hi'
    exact ⟨b, o, rfl, by simpa using h3⟩
/-- routes that came in -/
def IsRs (W : World) (v : Value) : Prop := ∃ (A : Option Addr) (cap : Nat) (L : List Rt), v = .slice A L.length cap ∧ (L.length ≤ cap ∧ cap ≤ maxLen) ∧ Rd W A L
set_option maxRecDepth 100000 in
theorem open_routes {H : Type} {enc : TypeId × Value → H} {W : World} {base : Nat} {v : Value} {d : DataW H} {p : List MemPlace} (hv : Value.okWide Try.prog W .any base 31 v)
    (h : DataW.Trod enc Try.prog W 0 (fun _ => true) true 31 v d p) : IsRs W v := by
  obtain ⟨a1, len, cap, rfl⟩ := okWide_slice Try.underlying31 hv
  obtain ⟨fuel, hf⟩ := h
  obtain ⟨A, cap', L, e, hl, hr⟩ := open_rows encR Try.underlying31 co_R (by decide) encR_len open_R (fuel := fuel) (v := .slice a1 len cap) (by simpa [Value.cells] using hf)
  exact ⟨A, cap', L, e, hl, fun i hi => by obtain ⟨b, o, e, h⟩ := hr i hi; exact ⟨b, o, e, ⟨h⟩⟩⟩
/-- one call of a law's list -/
structure OpL where
  kind : Int
  inc : Int
  rt : Rt
  deriving Inhabited
def encO (x : OpL) : List Value := .int .i64 x.kind :: .int .i64 x.inc :: encR x.rt
theorem encO_len (x : OpL) : (encO x).length = 22 := by simp [encO, encR_len]
theorem co_O : Try.prog.cellsOf 36 = 22 := by kernel_rfl
theorem open_O {H : Type} {enc : TypeId × Value → H} {W : World} {fuel : Nat} {cs : List Value} {x : DataW H × List MemPlace} (h : DataW.trod enc Try.prog W 0 (fun _ => true) true fuel 36 cs = some x) : ∃ r : OpL, cs = encO r := by
  obtain ⟨xs, n, rfl, _, hl, hxl, hf⟩ := DataW.trod_struct Try.underlying36 h
  rw [co_O] at hl
  have hx3 : xs.length = 3 := hxl
  have g0 : DataW.trod enc Try.prog W 0 (fun _ => true) true n 3 ((cs.drop 0).take (Try.prog.cellsOf 3)) = xs[0]? := hf 0 _ rfl
  have g1 : DataW.trod enc Try.prog W 0 (fun _ => true) true n 3 ((cs.drop 1).take (Try.prog.cellsOf 3)) = xs[1]? := hf 1 _ rfl
  have g2 : DataW.trod enc Try.prog W 0 (fun _ => true) true n 34 ((cs.drop 2).take (Try.prog.cellsOf 34)) = xs[2]? := hf 2 _ rfl
  rw [co_i, List.getElem?_eq_getElem (show 0 < xs.length by omega)] at g0
  rw [co_i, List.getElem?_eq_getElem (show 1 < xs.length by omega)] at g1
  rw [co_R, List.getElem?_eq_getElem (show 2 < xs.length by omega)] at g2
  obtain ⟨k, e0, _, _⟩ := DataW.trod_int Try.underlying3 g0
  obtain ⟨m, e1, _, _⟩ := DataW.trod_int Try.underlying3 g1
  obtain ⟨r, e2⟩ := open_R g2
  refine ⟨⟨k, m, r⟩, ?_⟩
  have d1 : cs = cs.take 1 ++ ((cs.drop 1).take 1 ++ (cs.drop 2).take 20) := by
    rw [List.take_of_length_le (l := cs.drop 2) (by simp; omega), show cs.drop 2 = (cs.drop 1).drop 1 by rw [List.drop_drop], List.take_append_drop, List.take_append_drop]
  rw [List.drop_zero] at e0
  rw [d1, e0, e1, e2]
  rfl
def n22 : Nat := 22
theorem sz22 (w : World) : Sem.run Try.prog (Go.sizeOf 36) w = .ok n22 w := Try.sizeOf36 w
theorem encO_n (x : OpL) : (encO x).length = n22 := encO_len x
theorem n22_ne : (n22 = 0) = False := by unfold n22; simp
def zO : OpL := ⟨0, 0, zR⟩
theorem zvO (w : World) : Sem.run Try.prog (zeroValue 36) w = .ok (.agg (encO zO).toArray) w := Try.zeroValue36 w
attribute [simp 10000] sz22 zvO
attribute [go_sem] encO_n n22_ne
theorem encO_one (r : OpL) : ∀ v ∈ encO r, v.oneCell' = true := fun v hv => by
  rcases List.mem_cons.1 hv with rfl | h
  · rfl
  · rcases List.mem_cons.1 h with rfl | h
    · rfl
    · exact encR_one _ v h
structure OAt (w : World) (B o : Nat) (x : OpL) : Prop where
  all : At w B o (encO x)
theorem OAt.below {w w' : World} {B o : Nat} {x : OpL} (h : OAt w B o x) (hb : Below w.heap.size w w') : OAt w' B o x := ⟨h.all.below hb⟩
theorem OAt.drew {w : World} {B o : Nat} {x : OpL} (h : OAt w B o x) : OAt w.drew B o x := ⟨h.all⟩
theorem OAt.kind {w : World} {B o : Nat} {x : OpL} (h : OAt w B o x) : w.cell? ⟨B, o, none⟩ = some (.int .i64 x.kind) := h.all.cons.1
theorem OAt.inc {w : World} {B o : Nat} {x : OpL} (h : OAt w B o x) : w.cell? ⟨B, o + 1, none⟩ = some (.int .i64 x.inc) := h.all.cons.2.cons.1
theorem OAt.rt {w : World} {B o : Nat} {x : OpL} (h : OAt w B o x) : RAt w B (o + 2) x.rt := ⟨h.all.cons.2.cons.2⟩
/-- calls behind an address -/
def RdP (W : World) (A : Option Addr) (L : List OpL) : Prop := ∀ i (h : i < L.length), ∃ b o, A = some ⟨b, o, none⟩ ∧ OAt W b (o + i * 22) L[i]
theorem RdP.below {w w' : World} {A : Option Addr} {L : List OpL} (h : RdP w A L) (hb : Below w.heap.size w w') : RdP w' A L := fun i hi => by
  obtain ⟨b, o, e, hr⟩ := h i hi
  exact ⟨b, o, e, hr.below hb⟩
/-- calls that came in -/
def IsOs (W : World) (v : Value) : Prop := ∃ (A : Option Addr) (cap : Nat) (L : List OpL), v = .slice A L.length cap ∧ (L.length ≤ cap ∧ cap ≤ maxLen) ∧ RdP W A L
set_option maxRecDepth 100000 in
theorem open_ops {H : Type} {enc : TypeId × Value → H} {W : World} {base : Nat} {v : Value} {d : DataW H} {p : List MemPlace} (hv : Value.okWide Try.prog W .any base 22 v)
    (h : DataW.Trod enc Try.prog W 0 (fun _ => true) true 22 v d p) : IsOs W v := by
  obtain ⟨a1, len, cap, rfl⟩ := okWide_slice Try.underlying22 hv
  obtain ⟨fuel, hf⟩ := h
  obtain ⟨A, cap', L, e, hl, hr⟩ := open_rows encO Try.underlying22 co_O (by decide) encO_len open_O (fuel := fuel) (v := .slice a1 len cap) (by simpa [Value.cells] using hf)
  exact ⟨A, cap', L, e, hl, fun i hi => by obtain ⟨b, o, e, h⟩ := hr i hi; exact ⟨b, o, e, ⟨h⟩⟩⟩
end Tab
end Go.Proofs.Ytbeoclcnajfjcaa
