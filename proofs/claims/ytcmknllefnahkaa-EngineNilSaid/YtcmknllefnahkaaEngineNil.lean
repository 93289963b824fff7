/-
  EngineNil: the walk. Conditions: none.
-/
import Derived.Test.YtcmknllefnahkaaOpenO
namespace Go.Proofs.Ytcmknllefnahkaa
open Go.RowKit FR FP H2 OW
set_option linter.unusedVariables false
set_option linter.unusedSimpArgs false
namespace EngineNil
open Feas Eng
attribute [local go_sem] order_sm cmp_eq
set_option maxRecDepth 1000000 in
set_option maxHeartbeats 8000000 in
theorem walk (a b : Int) (v : Value) (w : World) (wa : (Lit.int .i64 a).wf = true) (wb : (Lit.int .i64 b).wf = true) (wv : IsOf w v) : Calls Try.prog 6 #[.int .i64 a, .int .i64 b, v] w fun e w' => e = .returned (.bool true) ∧ Below w.heap.size w w' := by
  have s6 : Sm 65535 := ⟨by decide, by decide⟩
  have s0 := sm0
  clear wa wb wv
  go_enter Try.func6, Try.ntmps6
  go_wp2_with (first
    | (go_at_call 23; with_reducible refine (restart_nil _).mono ?_; rintro e w' ⟨rfl, rfl⟩)
    | (go_at_call 18; with_reducible refine (tell_nil a _).mono ?_; rintro e w' ⟨rfl, rfl⟩)
    | (go_at_call 26; with_reducible refine (route_nil a _).mono ?_; rintro e w' ⟨rfl, rfl⟩)
    | (go_at_call 9; with_reducible refine (awake_any _).mono ?_; rintro e w1 ⟨rfl, hb⟩; have HB := Lib.hid hb; clear hb)
    | (go_at_call 13; with_reducible refine (link_nil a b _).mono ?_; rintro e w' ⟨rfl, rfl⟩)
    | (go_at_call 15; with_reducible refine (hear_nil a v _).mono ?_; rintro e w' ⟨rfl, rfl⟩)
    | (go_at_call 21; with_reducible refine (fresh_nil _).mono ?_; rintro e w' ⟨rfl, rfl⟩)
    | (go_at_call 35; with_reducible refine (none_any _).mono ?_; rintro e w' ⟨rfl, rfl⟩)
    | (go_at_call 30; with_reducible refine (told_nil a _).mono ?_; rintro e w' ⟨rfl, rfl⟩)
    | (go_at_call 25; with_reducible refine (Eng.seq_nil _).mono ?_; rintro e w' ⟨rfl, rfl⟩))
  go_ret
  exact ⟨rfl, HB.out⟩
end EngineNil
end Go.Proofs.Ytcmknllefnahkaa
