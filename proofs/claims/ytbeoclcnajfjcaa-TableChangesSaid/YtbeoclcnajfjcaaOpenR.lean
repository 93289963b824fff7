/-
  A prefix, a route that came in, opened. Conditions: those that each theorem names.
-/
import Derived.Test.YtbeoclcnajfjcaaTb
import Derived.Deep.SlicePairs
import Derived.ProofKit
import Derived.OpenShut
import Derived.Deep.Fields
import Derived.Lib.SmallJoins
namespace Go.Proofs.Ytbeoclcnajfjcaa
open Go Go.Deep Go.Joins Go.ChangeShapes Go.WideShapes Go.RowKit
set_option linter.unusedVariables false
set_option linter.unusedSimpArgs false
namespace Tab
theorem co_b : Try.prog.cellsOf 4 = 1 := by kernel_rfl
theorem co_u8 : Try.prog.cellsOf 5 = 1 := by kernel_rfl
theorem co_i : Try.prog.cellsOf 3 = 1 := by kernel_rfl
theorem co_u32 : Try.prog.cellsOf 32 = 1 := by kernel_rfl
theorem co_A : Try.prog.cellsOf 23 = 16 := by kernel_rfl
theorem co_P : Try.prog.cellsOf 25 = 18 := by kernel_rfl
theorem co_R : Try.prog.cellsOf 34 = 20 := by kernel_rfl
section
variable {H : Type} {enc : TypeId × Value → H} {W : World} {fuel : Nat} {cs : List Value} {x : DataW H × List MemPlace}
theorem open_A (h : DataW.trod enc Try.prog W 0 (fun _ => true) true fuel 23 cs = some x) : ∃ a : Vector UInt8 16, cs = encA a := by
  obtain ⟨xs, m, rfl, _, hl, hx, hi⟩ := DataW.trod_array Try.underlying23 h
  rw [co_A] at hl
  have each : ∀ i : Fin 16, ∃ b : UInt8, cs[i.val]? = some (.int .u8 (b.toNat : Int)) := fun ⟨i, hi'⟩ => by
    have h1 := hi i hi'
    rw [co_u8, List.getElem?_eq_getElem (show i < xs.length by omega)] at h1
    obtain ⟨a, e, _, wa⟩ := DataW.trod_int Try.underlying5 h1
    have e' : cs[i]? = some (.int .u8 a) := by
      have : ((cs.drop (i * 1)).take 1)[0]? = some (.int .u8 a) := by rw [e]; rfl
      rw [List.getElem?_take, if_pos (by omega), List.getElem?_drop] at this
      simpa using this
    simp [Lit.wf, IntKind.min, IntKind.max, IntKind.signed, IntKind.bits] at wa
    refine ⟨UInt8.ofNat a.toNat, ?_⟩
    show cs[i]? = _
    rw [e', UInt8.toNat_ofNat', show ((a.toNat % 2 ^ 8 : Nat) : Int) = a by omega]
  obtain ⟨f, hf⟩ := Classical.axiomOfChoice each
  refine ⟨Vector.ofFn f, List.ext_getElem? fun i => ?_⟩
  by_cases hi' : i < 16
  · have hfi : cs[i]? = _ := hf ⟨i, hi'⟩
    rw [hfi]
    unfold encA
    rw [List.getElem?_map, List.getElem?_eq_getElem (by simpa using hi')]
    simp
  · rw [List.getElem?_eq_none (by omega), List.getElem?_eq_none (by rw [encA_len]; omega)]
theorem take_one {l : List Value} {k : Nat} {v : Value} (h : (l.drop k).take 1 = [v]) : l[k]? = some v := by
  have : ((l.drop k).take 1)[0]? = some v := by rw [h]; rfl
  rw [List.getElem?_take, if_pos (by omega), List.getElem?_drop] at this
  simpa using this
theorem open_P (h : DataW.trod enc Try.prog W 0 (fun _ => true) true fuel 25 cs = some x) : ∃ p : Pf, cs = encP p := by
  obtain ⟨xs, n, rfl, _, hl, hxl, hf⟩ := DataW.trod_struct Try.underlying25 h
  rw [co_P] at hl
  have hx3 : xs.length = 3 := hxl
  have g0 : DataW.trod enc Try.prog W 0 (fun _ => true) true n 4 ((cs.drop 0).take (Try.prog.cellsOf 4)) = xs[0]? := hf 0 _ rfl
  have g1 : DataW.trod enc Try.prog W 0 (fun _ => true) true n 23 ((cs.drop 1).take (Try.prog.cellsOf 23)) = xs[1]? := hf 1 _ rfl
  have g2 : DataW.trod enc Try.prog W 0 (fun _ => true) true n 3 ((cs.drop 17).take (Try.prog.cellsOf 3)) = xs[2]? := hf 2 _ rfl
  rw [co_b, List.getElem?_eq_getElem (show 0 < xs.length by omega)] at g0
  rw [co_A, List.getElem?_eq_getElem (show 1 < xs.length by omega)] at g1
  rw [co_i, List.getElem?_eq_getElem (show 2 < xs.length by omega)] at g2
  obtain ⟨s, e0, _⟩ := DataW.trod_bool Try.underlying4 g0
  obtain ⟨a, e1⟩ := open_A g1
  obtain ⟨l, e2, _, _⟩ := DataW.trod_int Try.underlying3 g2
  refine ⟨⟨s, a, l⟩, ?_⟩
  have d1 : cs = cs.take 1 ++ ((cs.drop 1).take 16 ++ (cs.drop 17).take 1) := by
    rw [List.take_of_length_le (l := cs.drop 17) (by simp; omega), show cs.drop 17 = (cs.drop 1).drop 16 by rw [List.drop_drop], List.take_append_drop, List.take_append_drop]
  rw [d1, e1]
  rw [List.drop_zero] at e0
  rw [e0, e2]
  rfl
theorem open_R (h : DataW.trod enc Try.prog W 0 (fun _ => true) true fuel 34 cs = some x) : ∃ r : Rt, cs = encR r := by
  obtain ⟨xs, n, rfl, _, hl, hxl, hf⟩ := DataW.trod_struct Try.underlying34 h
  rw [co_R] at hl
  have hx3 : xs.length = 3 := hxl
  have g0 : DataW.trod enc Try.prog W 0 (fun _ => true) true n 25 ((cs.drop 0).take (Try.prog.cellsOf 25)) = xs[0]? := hf 0 _ rfl
  have g1 : DataW.trod enc Try.prog W 0 (fun _ => true) true n 3 ((cs.drop 18).take (Try.prog.cellsOf 3)) = xs[1]? := hf 1 _ rfl
  have g2 : DataW.trod enc Try.prog W 0 (fun _ => true) true n 32 ((cs.drop 19).take (Try.prog.cellsOf 32)) = xs[2]? := hf 2 _ rfl
  rw [co_P, List.getElem?_eq_getElem (show 0 < xs.length by omega)] at g0
  rw [co_i, List.getElem?_eq_getElem (show 1 < xs.length by omega)] at g1
  rw [co_u32, List.getElem?_eq_getElem (show 2 < xs.length by omega)] at g2
  obtain ⟨p, e0⟩ := open_P g0
  obtain ⟨m, e1, _, _⟩ := DataW.trod_int Try.underlying3 g1
  obtain ⟨q, e2, _, _⟩ := DataW.trod_int Try.underlying32 g2
  refine ⟨⟨p, m, q⟩, ?_⟩
  have d1 : cs = cs.take 18 ++ ((cs.drop 18).take 1 ++ (cs.drop 19).take 1) := by
    rw [List.take_of_length_le (l := cs.drop 19) (by simp; omega), show cs.drop 19 = (cs.drop 18).drop 1 by rw [List.drop_drop], List.take_append_drop, List.take_append_drop]
  rw [List.drop_zero] at e0
  rw [d1, e0, e1, e2]
  rfl
end
/-- a route that came in -/
def IsR (W : World) (v : Value) : Prop := ∃ r : Rt, v = .agg (encR r).toArray
def IsP (W : World) (v : Value) : Prop := ∃ p : Pf, v = .agg (encP p).toArray
set_option maxRecDepth 100000 in
theorem open_route {H : Type} {enc : TypeId × Value → H} {W : World} {base : Nat} {v : Value} {d : DataW H} {p : List MemPlace} (hv : Value.okWide Try.prog W .any base 34 v)
    (h : DataW.Trod enc Try.prog W 0 (fun _ => true) true 34 v d p) : IsR W v := by
  obtain ⟨cs, rfl, _⟩ := okWide_struct Try.underlying34 hv
  obtain ⟨fuel, hf⟩ := h
  obtain ⟨r, e⟩ := open_R (cs := cs.toList) (fuel := fuel) hf
  exact ⟨r, by rw [← e, Array.toArray_toList]⟩
set_option maxRecDepth 100000 in
theorem open_prefix {H : Type} {enc : TypeId × Value → H} {W : World} {base : Nat} {v : Value} {d : DataW H} {p : List MemPlace} (hv : Value.okWide Try.prog W .any base 25 v)
    (h : DataW.Trod enc Try.prog W 0 (fun _ => true) true 25 v d p) : IsP W v := by
  obtain ⟨cs, rfl, _⟩ := okWide_struct Try.underlying25 hv
  obtain ⟨fuel, hf⟩ := h
  obtain ⟨r, e⟩ := open_P (cs := cs.toList) (fuel := fuel) hf
  exact ⟨r, by rw [← e, Array.toArray_toList]⟩
end Tab
end Go.Proofs.Ytbeoclcnajfjcaa
