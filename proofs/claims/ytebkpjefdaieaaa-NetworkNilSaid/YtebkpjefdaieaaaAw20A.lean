/-
  The walk of the laws' awake of layer 20, part one: what is reckoned. No program. Conditions: none.
-/
import Derived.Test.YtebkpjefdaieaaaNetE
namespace Go.Proofs.Ytebkpjefdaieaaa
namespace Net
open Eng GG
def j0 : NetV := NetV.new 3
def j1 : NetV := j0.link 0 1 1
def j2 : NetV := j1.link 1 2 2
def j3 : NetV := { j2 with x := fun i => if i = 1 then tlAll (j2.x 1) [0, 2] else j2.x i }
def j4 : NetV := j3.upd 2 ((j3.x 2).hear 1 ((tl (j2.x 1) 0).offer 2) 3)
def j5 : NetV := j4.settle
theorem b1 : nbl j2.c 1 3 = [0, 2] := by decide +kernel
theorem b2 : (((j4.x 0).route 1).2.1.1, ((j4.x 1).route 1).2.1.1, ((j4.x 2).route 1).2.1.1) = (65535, 0, 2) := by decide +kernel
theorem b3 : j4.n * heard j4.c j4.n j4.n = 12 := by decide +kernel
theorem b4 : (((j5.x 0).route 2).2.1.1, ((j5.x 1).route 2).2.1.1, ((j5.x 2).route 2).2.1.1) = (3, 2, 0) := by decide +kernel
theorem b5 : (((j5.x 0).route 2).1, ((j5.x 1).route 2).1, ((j5.x 2).route 2).1) = (1, 2, -1) := by decide +kernel
end Net
end Go.Proofs.Ytebkpjefdaieaaa
