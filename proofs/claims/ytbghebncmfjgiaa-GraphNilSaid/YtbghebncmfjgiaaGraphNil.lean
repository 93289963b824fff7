/-
  The walk of the law GraphNil. Conditions: none.
-/
import Derived.Test.YtbghebncmfjgiaaOpenI
namespace Go.Proofs.Ytbghebncmfjgiaa
open Go.RowKit
set_option linter.unusedVariables false
set_option linter.unusedSimpArgs false
namespace GraphNil
open GG
theorem none_ints (w : World) (V : Nat → Int) : Ints w none 0 V := fun i hi => by omega
theorem acy0 : acy 0 (fun _ => 0) = true := by decide
theorem way0 (f : Int) : way 0 (fun _ => 0) [] f = [] := way_out (Fine.nil 0) (by omega)
theorem nilac (w : World) : Calls Try.prog 18 #[.slice none 0 0] w fun e w' => e = .returned (.bool true) ∧ Below w.heap.size w w' :=
  (acyclic_any none 0 0 (fun _ => 0) w (by omega) (none_ints w _)).mono fun e w' ⟨he, hb⟩ => ⟨by rw [he, acy0], hb⟩
theorem nilway (f : Int) (w : World) : Calls Try.prog 17 #[.slice none 0 0, .int .i64 f] w fun e w' => (∃ A cap, e = .returned (.slice A 0 cap)) ∧ Below w.heap.size w w' :=
  (way_any none 0 0 (fun _ => 0) f w (by omega) (none_ints w _)).mono fun e w' ⟨⟨v, he, ho, hl⟩, hb⟩ => by
    rw [way0] at ho
    rcases ho.2 with ⟨rfl, h2⟩ | ⟨g, c2, cur, rfl, _⟩
    · exact ⟨⟨none, 0, he⟩, hb⟩
    · exact ⟨⟨some ⟨g, 0, none⟩, c2, he⟩, hb⟩
set_option maxRecDepth 100000 in
set_option maxHeartbeats 8000000 in
theorem walk (a b : Int) (w : World) (h0 : (Lit.int .i64 a).wf = true) (h1 : (Lit.int .i64 b).wf = true) : Calls Try.prog 6 #[.int .i64 a, .int .i64 b] w fun e w' => e = .returned (.bool true) ∧ Below w.heap.size w w' := by
  clear h0 h1
  go_enter Try.func6, Try.ntmps6
  go_wp2_with (first
    | (go_at_call 9; refine (awake_any w).mono ?_; rintro e w1 ⟨rfl, hb1⟩; have B1 := Lib.hid hb1; clear hb1)
    | (go_at_call 12; refine (link_nil a b 1 w1).mono ?_; rintro e w2 ⟨rfl, rfl⟩)
    | (go_at_call 13; refine (cost_nil a b w1).mono ?_; rintro e w2 ⟨rfl, rfl⟩)
    | (go_at_call 21; refine (len_nil w1).mono ?_; rintro e w2 ⟨rfl, rfl⟩)
    | (go_at_call 14; refine (far_nil a w1).mono ?_; rintro e w2 ⟨rfl, rfl⟩)
    | (go_at_call 18; refine (nilac w1).mono ?_; rintro e w3 ⟨rfl, hb⟩; have B3 := Lib.hid (B1.out.trans (hb.mono B1.out.size)); clear hb)
    | (go_at_call 17; refine (nilway a w3).mono ?_; rintro e w4 ⟨⟨A, cap, rfl⟩, hb⟩; have B4 := Lib.hid (B3.out.trans (hb.mono B3.out.size)); clear hb))
  go_ret
  exact ⟨rfl, B4.out⟩
end GraphNil
end Go.Proofs.Ytbghebncmfjgiaa
