/-
  A table that is none: Put, Drop, Do. Conditions: those that each theorem names.
-/
import Derived.Test.YtbeoclcnajfjcaaDoA
import Derived.Test.YtbeoclcnajfjcaaTabF
namespace Go.Proofs.Ytbeoclcnajfjcaa
open Go Go.RowKit H2
set_option linter.unusedVariables false
set_option linter.unusedSimpArgs false
namespace Tab
theorem put_nil (r : Rt) (w : World) : Calls Try.prog 12 #[.pointer none, .agg (encR r).toArray] w fun e w' => e = .returned (.int .i64 10) ∧ Below w.heap.size w w' := by
  go_enter Try.func12, Try.ntmps12
  go_upto_region 1 with fail
  have H := Lib.hid (rAt_new w r 34 (0, 0))
  have hb := Lib.hid (show Below w.heap.size w (w.alloc (.cells (encR r).toArray 34 (0, 0))) from (Below.refl _ _).alloc (Nat.le_refl _) _)
  generalize w.alloc _ = W at H hb ⊢
  generalize w.heap.size = B at H ⊢
  have c0 := H.out.to.all.load (k := n18) (encP_n _) Try.prog
  go_wp2_with (go_at_call 41; (with_reducible refine (find_nil _ _).mono ?_); rintro e w2 ⟨rfl, hb2⟩; have hb := Lib.hid (hb.out.trans (hb2.mono hb.out.size)); clear hb2 c0)
  go_ret
  exact ⟨rfl, hb.out⟩
theorem drop_nil (p : Pf) (w : World) : Calls Try.prog 14 #[.pointer none, .agg (encP p).toArray] w fun e w' => e = .returned (.int .i64 10) ∧ Below w.heap.size w w' := by
  go_enter Try.func14, Try.ntmps14
  go_upto_region 1 with fail
  have H := Lib.hid (PAt.mk (at_new w (encP p) 25 (0, 0)))
  have hb := Lib.hid (show Below w.heap.size w (w.alloc (.cells (encP p).toArray 25 (0, 0))) from (Below.refl _ _).alloc (Nat.le_refl _) _)
  generalize w.alloc _ = W at H hb ⊢
  generalize w.heap.size = B at H ⊢
  have c0 := H.out.all.load (k := n18) (encP_n _) Try.prog
  go_wp2_with (go_at_call 41; (with_reducible refine (find_nil _ _).mono ?_); rintro e w2 ⟨rfl, hb2⟩; have hb := Lib.hid (hb.out.trans (hb2.mono hb.out.size)); clear hb2 c0)
  go_ret
  exact ⟨rfl, hb.out⟩
theorem do_nil (x : In) (w : World) : Calls Try.prog 16 #[.pointer none, .agg (encI x).toArray] w fun e w' => e = .returned (.int .i64 10) ∧ Below w.heap.size w w' := by
  go_enter Try.func16, Try.ntmps16
  go_upto_region 1 with fail
  have H := Lib.hid (iAt_new w x 43 (0, 0))
  have hb := Lib.hid (show Below w.heap.size w (w.alloc (.cells (encI x).toArray 43 (0, 0))) from (Below.refl _ _).alloc (Nat.le_refl _) _)
  generalize w.alloc _ = W at H hb ⊢
  generalize w.heap.size = B at H ⊢
  have c0 : Sem.run Try.prog (loadCellsFrom ⟨B, 1, none⟩ 0 n18 #[]) W = .ok (encP x.rt.to).toArray W := H.out.rt.to.all.load (k := n18) (encP_n _) Try.prog
  go_wp2_with (go_at_call 41; (with_reducible refine (find_nil _ _).mono ?_); rintro e w2 ⟨rfl, hb2⟩; have hb := Lib.hid (hb.out.trans (hb2.mono hb.out.size)); clear hb2 c0)
  go_ret
  exact ⟨rfl, hb.out⟩
end Tab
end Go.Proofs.Ytbeoclcnajfjcaa
