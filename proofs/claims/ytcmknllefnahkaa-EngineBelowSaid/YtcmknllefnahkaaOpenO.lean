/-
  Offers that came into the laws of layer 19, opened. Conditions: those that each theorem names.
-/
import Derived.Test.YtcmknllefnahkaaEngA
import Derived.Test.YtcmknllefnahkaaOpenF
import Derived.ChangeSlices
import Derived.ProofKit
import Derived.Lib.SmallJoins
import Derived.OpenShut
import Derived.Deep.Fields
namespace Go.Proofs.Ytcmknllefnahkaa
open Go Go.Deep Go.Joins Go.ChangeShapes Go.WideShapes Go.RowKit FR FP
set_option linter.unusedVariables false
set_option linter.unusedSimpArgs false
namespace Eng
theorem cellsOO : Try.prog.cellsOf 71 = 3 := by kernel_rfl
theorem sm_of {a : Int} (h : (Lit.int .u32 a).wf = true) : Sm a := by
  simp [Lit.wf, IntKind.min, IntKind.max, IntKind.signed, IntKind.bits] at h
  exact ⟨h.1, by omega⟩
/-- offers that came in -/
def IsOf (W : World) (v : Value) : Prop := ∃ (A : Option Addr) (n cap : Nat) (f : Nat → Int × Int × Int), v = .slice A n cap ∧ n ≤ maxLen ∧ RdO W A n f ∧ SmO f n
theorem open_of' {H : Type} {enc : TypeId × Value → H} {W : World} {fuel : Nat} {v : Value} {x : DataW H × List MemPlace}
    (h : DataW.trod enc Try.prog W 0 (fun _ => true) true fuel 31 [v] = some x) : IsOf W v := by
  rcases open_slice_three Try.underlying31 Try.underlying71 cellsOO rfl rfl rfl (by kernel_rfl) (by kernel_rfl) (by kernel_rfl) h with hcs | ⟨b, o, len, cap, ⟨s, hcs, hs⟩, hl, hx⟩
  · cases hcs
    exact ⟨none, 0, 0, fun _ => (0, 0, 0), rfl, by decide, fun i hi => by omega, fun i hi => by omega⟩
  · cases hcs
    have each : ∀ i, i < len → ∃ q : Int × Int × Int, Sm q.2.2 ∧ W.cell? ⟨b, o + i * 3, none⟩ = some (.int .i64 q.1) ∧ W.cell? ⟨b, o + i * 3 + 1, none⟩ = some (.int .i64 q.2.1) ∧ W.cell? ⟨b, o + i * 3 + 2, none⟩ = some (.int .u32 q.2.2) := by
      intro i hi
      obtain ⟨v0, v1, v2, n, y0, y1, y2, h0, h1, h2, t0, t1, t2⟩ := hx i hi
      obtain ⟨a, e0, _, wa⟩ := DataW.trod_int Try.underlying3 t0
      obtain ⟨b, e1, _, wb⟩ := DataW.trod_int Try.underlying3 t1
      obtain ⟨c, e2, _, wc⟩ := DataW.trod_int Try.underlying47 t2
      simp at e0 e1 e2
      subst e0 e1 e2
      exact ⟨(a, b, c), sm_of wc, h0, h1, h2⟩
    obtain ⟨q, hq⟩ := choose_lt each
    refine ⟨some ⟨b, o, s⟩, len, cap, q, rfl, hl, fun i hi => ?_, fun i hi => (hq i hi).1⟩
    have hs0 := hs (by omega)
    subst hs0
    obtain ⟨_, h2, h3, h4⟩ := hq i hi
    exact ⟨b, o, rfl, World.block_lt_of_cell? _ _ h2, h2, h3, h4⟩
theorem open_Of {H : Type} {enc : TypeId × Value → H} {W : World} {base : Nat} {v : Value} {d : DataW H} {p : List MemPlace} (hv : Value.okWide Try.prog W .any base 31 v)
    (h : DataW.Trod enc Try.prog W 0 (fun _ => true) true 31 v d p) : IsOf W v := by
  obtain ⟨a1, len, cap, rfl⟩ := okWide_slice Try.underlying31 hv
  obtain ⟨fuel, hf⟩ := h
  exact open_of' (fuel := fuel) (by simpa [Value.cells] using hf)
theorem cellsOp : Try.prog.cellsOf 33 = 4 := by kernel_rfl
/-- one call of a law's list: what, A, B, and offers -/
structure OpV where
  k : Int
  a : Int
  b : Int
  A : Option Addr
  n : Nat
  cap : Nat
  f : Nat → Int × Int × Int
instance : Inhabited OpV := ⟨⟨0, 0, 0, none, 0, 0, fun _ => (0, 0, 0)⟩⟩
def RdOp (W : World) (A : Option Addr) (n : Nat) (f : Nat → OpV) : Prop := ∀ i, i < n → ∃ g o, A = some ⟨g, o, none⟩ ∧ g < W.heap.size ∧ W.cell? ⟨g, o + i * 4, none⟩ = some (.int .i64 (f i).k) ∧ W.cell? ⟨g, o + i * 4 + 1, none⟩ = some (.int .i64 (f i).a) ∧ W.cell? ⟨g, o + i * 4 + 2, none⟩ = some (.int .i64 (f i).b) ∧ W.cell? ⟨g, o + i * 4 + 3, none⟩ = some (.slice (f i).A (f i).n (f i).cap) ∧
  (f i).n ≤ maxLen ∧ RdO W (f i).A (f i).n (f i).f ∧ SmO (f i).f (f i).n
def IsOps (W : World) (v : Value) : Prop := ∃ (A : Option Addr) (n cap : Nat) (f : Nat → OpV), v = .slice A n cap ∧ n ≤ maxLen ∧ RdOp W A n f
theorem open_Ops {H : Type} {enc : TypeId × Value → H} {W : World} {base : Nat} {v : Value} {d : DataW H} {p : List MemPlace} (hv : Value.okWide Try.prog W .any base 22 v)
    (h : DataW.Trod enc Try.prog W 0 (fun _ => true) true 22 v d p) : IsOps W v := by
  obtain ⟨a1, len, cap, rfl⟩ := okWide_slice Try.underlying22 hv
  obtain ⟨fuel, hf⟩ := h
  rcases open_slice_four Try.underlying22 Try.underlying33 cellsOp rfl rfl rfl rfl (by kernel_rfl) (by kernel_rfl) (by kernel_rfl) (by kernel_rfl) hf with hcs | ⟨b, o, len', cap', ⟨s, hcs, hs⟩, hl, hx⟩
  · simp [Value.cells] at hcs
    obtain ⟨rfl, rfl, rfl⟩ := hcs
    exact ⟨none, 0, 0, fun _ => ⟨0, 0, 0, none, 0, 0, fun _ => (0, 0, 0)⟩, rfl, by decide, fun i hi => by omega⟩
  · simp [Value.cells] at hcs
    obtain ⟨rfl, rfl, rfl⟩ := hcs
    have each : ∀ i, i < len → ∃ q : OpV, (q.n ≤ maxLen ∧ RdO W q.A q.n q.f ∧ SmO q.f q.n) ∧ W.cell? ⟨b, o + i * 4, none⟩ = some (.int .i64 q.k) ∧ W.cell? ⟨b, o + i * 4 + 1, none⟩ = some (.int .i64 q.a) ∧ W.cell? ⟨b, o + i * 4 + 2, none⟩ = some (.int .i64 q.b) ∧ W.cell? ⟨b, o + i * 4 + 3, none⟩ = some (.slice q.A q.n q.cap) := by
      intro i hi
      obtain ⟨v0, v1, v2, v3, n, y0, y1, y2, y3, h0, h1, h2, h3, t0, t1, t2, t3⟩ := hx i hi
      obtain ⟨a, e0, _, wa⟩ := DataW.trod_int Try.underlying3 t0
      obtain ⟨b, e1, _, wb⟩ := DataW.trod_int Try.underlying3 t1
      obtain ⟨c, e2, _, wc⟩ := DataW.trod_int Try.underlying3 t2
      obtain ⟨A', n', cap', f', rfl, q1, q2, q3⟩ := open_of' t3
      simp at e0 e1 e2
      subst e0 e1 e2
      exact ⟨⟨a, b, c, A', n', cap', f'⟩, ⟨q1, q2, q3⟩, h0, h1, h2, h3⟩
    obtain ⟨q, hq⟩ := choose_lt each
    refine ⟨some ⟨b, o, s⟩, len, cap, q, rfl, hl, fun i hi => ?_⟩
    have hs0 := hs (by omega)
    subst hs0
    obtain ⟨⟨h5, h6, h7⟩, h1, h2, h3, h4⟩ := hq i hi
    exact ⟨b, o, rfl, World.block_lt_of_cell? _ _ h2, h1, h2, h3, h4, h5, h6, h7⟩
end Eng
end Go.Proofs.Ytcmknllefnahkaa
