/-
  Prefixes and routes: zero values, values built, slices built. Conditions: those that each theorem names.
-/
import Derived.Test.YtbeoclcnajfjcaaPfxA
namespace Go.Proofs.Ytbeoclcnajfjcaa
open Go Go.RowKit
set_option linter.unusedVariables false
set_option linter.unusedSimpArgs false
namespace Tab
theorem vec16 (v : Vector UInt8 16) : ∃ a0 a1 a2 a3 a4 a5 a6 a7 a8 a9 a10 a11 a12 a13 a14 a15 : UInt8, v = #v[a0, a1, a2, a3, a4, a5, a6, a7, a8, a9, a10, a11, a12, a13, a14, a15] := by
  obtain ⟨⟨l⟩, h⟩ := v
  match l, h with
  | [a0, a1, a2, a3, a4, a5, a6, a7, a8, a9, a10, a11, a12, a13, a14, a15], h => exact ⟨a0, a1, a2, a3, a4, a5, a6, a7, a8, a9, a10, a11, a12, a13, a14, a15, rfl⟩
def zA : Vector UInt8 16 := Vector.replicate 16 0
def zP : Pf := ⟨false, zA, 0⟩
def zR : Rt := ⟨zP, 0, 0⟩
theorem zvA (w : World) : Sem.run Try.prog (zeroValue 23) w = .ok (.agg (encA zA).toArray) w := Try.zeroValue23 w
theorem zvP (w : World) : Sem.run Try.prog (zeroValue 25) w = .ok (.agg (encP zP).toArray) w := Try.zeroValue25 w
theorem zvR (w : World) : Sem.run Try.prog (zeroValue 34) w = .ok (.agg (encR zR).toArray) w := Try.zeroValue34 w
attribute [simp 10000] zvA zvP zvR
theorem build_P0 (w : World) : (Instr.build 25 #[]).run Try.prog w = .ok (.agg (encP zP).toArray) w := by kernel_rfl
theorem build_P2 (b : Bool) (n : Int) (w : World) : (Instr.build 25 #[(0, .bool b), (2, .int .i64 n)]).run Try.prog w = .ok (.agg (encP ⟨b, zA, n⟩).toArray) w := by kernel_rfl
theorem build_R0 (w : World) : (Instr.build 34 #[]).run Try.prog w = .ok (.agg (encR zR).toArray) w := by kernel_rfl
theorem build_R1 (p : Pf) (w : World) : (Instr.build 34 #[(0, .agg (encP p).toArray)]).run Try.prog w = .ok (.agg (encR ⟨p, 0, 0⟩).toArray) w := by
  obtain ⟨s, a, n⟩ := p
  obtain ⟨a0, a1, a2, a3, a4, a5, a6, a7, a8, a9, a10, a11, a12, a13, a14, a15, rfl⟩ := vec16 a
  kernel_rfl
theorem build_R2 (p : Pf) (m : Int) (w : World) : (Instr.build 34 #[(0, .agg (encP p).toArray), (1, .int .i64 m)]).run Try.prog w = .ok (.agg (encR ⟨p, m, 0⟩).toArray) w := by
  obtain ⟨s, a, n⟩ := p
  obtain ⟨a0, a1, a2, a3, a4, a5, a6, a7, a8, a9, a10, a11, a12, a13, a14, a15, rfl⟩ := vec16 a
  kernel_rfl
theorem build_Rm (m : Int) (w : World) : (Instr.build 34 #[(1, .int .i64 m)]).run Try.prog w = .ok (.agg (encR ⟨zP, m, 0⟩).toArray) w := by kernel_rfl
theorem row_R1 (r : Rt) (w : World) : (Instr.buildSlice 31 1 #[(0, .agg (encR r).toArray)]).run Try.prog w = .ok (.slice (some ⟨w.heap.size, 0, none⟩) 1 1) (w.alloc (.cells (encR r).toArray 34 (0, 0))) := by
  obtain ⟨⟨s, a, n⟩, m, q⟩ := r
  obtain ⟨a0, a1, a2, a3, a4, a5, a6, a7, a8, a9, a10, a11, a12, a13, a14, a15, rfl⟩ := vec16 a
  kernel_rfl
theorem row_R2 (r r2 : Rt) (w : World) : (Instr.buildSlice 31 2 #[(0, .agg (encR r).toArray), (1, .agg (encR r2).toArray)]).run Try.prog w = .ok (.slice (some ⟨w.heap.size, 0, none⟩) 2 2) (w.alloc (.cells (encR r ++ encR r2).toArray 34 (0, 0))) := by
  obtain ⟨⟨s, a, n⟩, m, q⟩ := r
  obtain ⟨⟨s2, b, n2⟩, m2, q2⟩ := r2
  obtain ⟨a0, a1, a2, a3, a4, a5, a6, a7, a8, a9, a10, a11, a12, a13, a14, a15, rfl⟩ := vec16 a
  obtain ⟨b0, b1, b2, b3, b4, b5, b6, b7, b8, b9, b10, b11, b12, b13, b14, b15, rfl⟩ := vec16 b
  kernel_rfl
end Tab
end Go.Proofs.Ytbeoclcnajfjcaa
