/-
  What came into the laws of layer 20, opened: acts, offers. Conditions: those that each theorem names.
-/
import Derived.Test.YtebkpjefdaieaaaAwake20
import Derived.Test.YtebkpjefdaieaaaOpenF
import Derived.ChangeSlices
import Derived.ProofKit
import Derived.Lib.SmallJoins
import Derived.OpenShut
import Derived.Deep.Fields
namespace Go.Proofs.Ytebkpjefdaieaaa
open Go Go.Deep Go.Joins Go.ChangeShapes Go.WideShapes Go.RowKit FR FP
set_option linter.unusedVariables false
set_option linter.unusedSimpArgs false
namespace Net
open Eng
theorem cellsOO : Try.prog.cellsOf 99 = 3 := by kernel_rfl
theorem sm_of {a : Int} (h : (Lit.int .u32 a).wf = true) : Sm a := by
  simp [Lit.wf, IntKind.min, IntKind.max, IntKind.signed, IntKind.bits] at h
  exact ⟨h.1, by omega⟩
/-- offers that came in -/
def IsOf (W : World) (v : Value) : Prop := ∃ (A : Option Addr) (n cap : Nat) (f : Nat → Int × Int × Int), v = .slice A n cap ∧ n ≤ maxLen ∧ RdO W A n f ∧ SmO f n
set_option maxRecDepth 1000000 in
theorem open_of' {H : Type} {enc : TypeId × Value → H} {W : World} {fuel : Nat} {v : Value} {x : DataW H × List MemPlace}
    (h : DataW.trod enc Try.prog W 0 (fun _ => true) true fuel 42 [v] = some x) : IsOf W v := by
  rcases open_slice_three Try.underlying42 Try.underlying99 cellsOO rfl rfl rfl (by kernel_rfl) (by kernel_rfl) (by kernel_rfl) h with hcs | ⟨b, o, len, cap, ⟨s, hcs, hs⟩, hl, hx⟩
  · cases hcs
    exact ⟨none, 0, 0, fun _ => (0, 0, 0), rfl, by decide, fun i hi => by omega, fun i hi => by omega⟩
  · cases hcs
    have each : ∀ i, i < len → ∃ q : Int × Int × Int, Sm q.2.2 ∧ W.cell? ⟨b, o + i * 3, none⟩ = some (.int .i64 q.1) ∧ W.cell? ⟨b, o + i * 3 + 1, none⟩ = some (.int .i64 q.2.1) ∧ W.cell? ⟨b, o + i * 3 + 2, none⟩ = some (.int .u32 q.2.2) := by
      intro i hi
      obtain ⟨v0, v1, v2, n, y0, y1, y2, h0, h1, h2, t0, t1, t2⟩ := hx i hi
      obtain ⟨a, e0, _, wa⟩ := DataW.trod_int Try.underlying3 t0
      obtain ⟨b, e1, _, wb⟩ := DataW.trod_int Try.underlying3 t1
      obtain ⟨c, e2, _, wc⟩ := DataW.trod_int Try.underlying75 t2
      simp at e0 e1 e2
      subst e0 e1 e2
      exact ⟨(a, b, c), sm_of wc, h0, h1, h2⟩
    obtain ⟨q, hq⟩ := choose_lt each
    refine ⟨some ⟨b, o, s⟩, len, cap, q, rfl, hl, fun i hi => ?_, fun i hi => (hq i hi).1⟩
    have hs0 := hs (by omega)
    subst hs0
    obtain ⟨_, h2, h3, h4⟩ := hq i hi
    exact ⟨b, o, rfl, World.block_lt_of_cell? _ _ h2, h2, h3, h4⟩
set_option maxRecDepth 1000000 in
theorem open_Of {H : Type} {enc : TypeId × Value → H} {W : World} {base : Nat} {v : Value} {d : DataW H} {p : List MemPlace} (hv : Value.okWide Try.prog W .any base 42 v)
    (h : DataW.Trod enc Try.prog W 0 (fun _ => true) true 42 v d p) : IsOf W v := by
  obtain ⟨a1, len, cap, rfl⟩ := okWide_slice Try.underlying42 hv
  obtain ⟨fuel, hf⟩ := h
  exact open_of' (fuel := fuel) (by simpa [Value.cells] using hf)
theorem cellsA : Try.prog.cellsOf 33 = 4 := by kernel_rfl
/-- an act: what, A, B, N -/
structure ActV where
  k : Int
  a : Int
  b : Int
  n : Int
instance : Inhabited ActV := ⟨⟨0, 0, 0, 0⟩⟩
def RdA (W : World) (A : Option Addr) (n : Nat) (f : Nat → ActV) : Prop := ∀ i, i < n → ∃ g o, A = some ⟨g, o, none⟩ ∧ g < W.heap.size ∧ W.cell? ⟨g, o + i * 4, none⟩ = some (.int .i64 (f i).k) ∧ W.cell? ⟨g, o + i * 4 + 1, none⟩ = some (.int .i64 (f i).a) ∧ W.cell? ⟨g, o + i * 4 + 2, none⟩ = some (.int .i64 (f i).b) ∧ W.cell? ⟨g, o + i * 4 + 3, none⟩ = some (.int .i64 (f i).n)
theorem RdA.below {W W' : World} {A : Option Addr} {n : Nat} {f : Nat → ActV} (h : RdA W A n f) (hb : Below W.heap.size W W') : RdA W' A n f := fun i hi => by
  obtain ⟨g, o, e, hl, h0, h1, h2, h3⟩ := h i hi
  exact ⟨g, o, e, Nat.lt_of_lt_of_le hl hb.size, later hb h0, later hb h1, later hb h2, later hb h3⟩
def IsActs (W : World) (v : Value) : Prop := ∃ (A : Option Addr) (n cap : Nat) (f : Nat → ActV), v = .slice A n cap ∧ n ≤ maxLen ∧ RdA W A n f
def IsAct (W : World) (v : Value) : Prop := ∃ k a b n : Int, v = .agg #[.int .i64 k, .int .i64 a, .int .i64 b, .int .i64 n]
set_option maxRecDepth 1000000 in
theorem open_Act {H : Type} {enc : TypeId × Value → H} {W : World} {base : Nat} {v : Value} {d : DataW H} {p : List MemPlace} (hv : Value.okWide Try.prog W .any base 33 v)
    (h : DataW.Trod enc Try.prog W 0 (fun _ => true) true 33 v d p) : IsAct W v := by
  obtain ⟨c0, c1, c2, c3, y0, y1, y2, y3, m, rfl, rfl, rfl, hy0, hy1, hy2, hy3⟩ := open_agg4 Try.underlying33 (by kernel_rfl) cellsA hv h
  obtain ⟨a, e0, _, wa⟩ := DataW.trod_int Try.underlying3 hy0
  obtain ⟨b, e1, _, wb⟩ := DataW.trod_int Try.underlying3 hy1
  obtain ⟨c, e2, _, wc⟩ := DataW.trod_int Try.underlying3 hy2
  obtain ⟨d, e3, _, wd⟩ := DataW.trod_int Try.underlying3 hy3
  simp at e0 e1 e2 e3
  subst e0 e1 e2 e3
  exact ⟨a, b, c, d, rfl⟩
set_option maxRecDepth 1000000 in
theorem open_Acts {H : Type} {enc : TypeId × Value → H} {W : World} {base : Nat} {v : Value} {d : DataW H} {p : List MemPlace} (hv : Value.okWide Try.prog W .any base 22 v)
    (h : DataW.Trod enc Try.prog W 0 (fun _ => true) true 22 v d p) : IsActs W v := by
  obtain ⟨a1, len, cap, rfl⟩ := okWide_slice Try.underlying22 hv
  obtain ⟨fuel, hf⟩ := h
  rcases open_slice_four Try.underlying22 Try.underlying33 cellsA rfl rfl rfl rfl (by kernel_rfl) (by kernel_rfl) (by kernel_rfl) (by kernel_rfl) hf with hcs | ⟨b, o, len', cap', ⟨s, hcs, hs⟩, hl, hx⟩
  · simp [Value.cells] at hcs
    obtain ⟨rfl, rfl, rfl⟩ := hcs
    exact ⟨none, 0, 0, fun _ => ⟨0, 0, 0, 0⟩, rfl, by decide, fun i hi => by omega⟩
  · simp [Value.cells] at hcs
    obtain ⟨rfl, rfl, rfl⟩ := hcs
    have each : ∀ i, i < len → ∃ q : ActV, W.cell? ⟨b, o + i * 4, none⟩ = some (.int .i64 q.k) ∧ W.cell? ⟨b, o + i * 4 + 1, none⟩ = some (.int .i64 q.a) ∧ W.cell? ⟨b, o + i * 4 + 2, none⟩ = some (.int .i64 q.b) ∧ W.cell? ⟨b, o + i * 4 + 3, none⟩ = some (.int .i64 q.n) := by
      intro i hi
      obtain ⟨v0, v1, v2, v3, n, y0, y1, y2, y3, h0, h1, h2, h3, t0, t1, t2, t3⟩ := hx i hi
      obtain ⟨a, e0, _, wa⟩ := DataW.trod_int Try.underlying3 t0
      obtain ⟨b, e1, _, wb⟩ := DataW.trod_int Try.underlying3 t1
      obtain ⟨c, e2, _, wc⟩ := DataW.trod_int Try.underlying3 t2
      obtain ⟨d, e3, _, wd⟩ := DataW.trod_int Try.underlying3 t3
      simp at e0 e1 e2 e3
      subst e0 e1 e2 e3
      exact ⟨⟨a, b, c, d⟩, h0, h1, h2, h3⟩
    obtain ⟨q, hq⟩ := choose_lt each
    refine ⟨some ⟨b, o, s⟩, len, cap, q, rfl, hl, fun i hi => ?_⟩
    have hs0 := hs (by omega)
    subst hs0
    obtain ⟨h1, h2, h3, h4⟩ := hq i hi
    exact ⟨b, o, rfl, World.block_lt_of_cell? _ _ h2, h1, h2, h3, h4⟩
end Net
end Go.Proofs.Ytebkpjefdaieaaa
