/-
  The walk of the law GraphWays. Conditions: none.
-/
import Derived.Test.YtbghebncmfjgiaaOpenI
namespace Go.Proofs.Ytbghebncmfjgiaa
open Go.RowKit
set_option linter.unusedVariables false
set_option linter.unusedSimpArgs false
namespace GraphWays
open GG
theorem same_self (L : List Int) : sam L.length L.length (fun i => L.getD i 0) (fun i => L.getD i 0) = true := sam_yes (fun j hj => rfl)
attribute [local irreducible] acy tw twi way sam
set_option maxRecDepth 100000 in
set_option maxHeartbeats 8000000 in
theorem walk (v0 : Value) (f0 : Int) (w : World) (h0 : IsIs w v0) (h1 : (Lit.int .i64 f0).wf = true) : Calls Try.prog 5 #[v0, .int .i64 f0] w fun e w' => e = .returned (.bool true) ∧ Below w.heap.size w w' := by
  obtain ⟨A, n, cap, V, rfl, hn, hV⟩ := h0
  have HV := Lib.hid hV
  clear hV h1
  unfold maxLen at hn
  by_cases hbig : (100 : Int) < (n : Int)
  · go_enter Try.func5, Try.ntmps5
    go_upto_region 2 with (go_at_call 9; refine (awake_any _).mono ?_; rintro e w1 ⟨rfl, hb1⟩)
    go_wp2_with (go_at_call 9; refine (awake_any _).mono ?_; rintro e w2 ⟨rfl, hb2⟩)
    go_ret
    exact ⟨rfl, hb1.trans (hb2.mono hb1.size)⟩
  · have hlen := way_len (n := n) (N := V) f0
    have hways : ∀ w1, Below w.heap.size w w1 → Calls Try.prog 17 #[.slice A n cap, .int .i64 f0] w1 fun e w' => (∃ A' cap', e = .returned (.slice A' (way n V [] f0).length cap') ∧ Ints w' A' (way n V [] f0).length (fun i => (way n V [] f0).getD i 0)) ∧ Below w1.heap.size w1 w' := fun w1 hb =>
      (way_any A n cap V f0 w1 (by omega) (HV.out.keep hb)).mono fun e w' ⟨⟨v, he, ho, hl⟩, hb⟩ => by
        rcases ho.2 with ⟨rfl, h2⟩ | ⟨g, c2, cur, rfl, _⟩
        · refine ⟨⟨none, 0, by rw [he]; rw [h2], Ints.own (by rw [h2] at ho ⊢; exact ho)⟩, hb⟩
        · exact ⟨⟨some ⟨g, 0, none⟩, c2, he, Ints.own ho⟩, hb⟩
    have hwayr : ∀ w1, Below w.heap.size w w1 → Calls Try.prog 20 #[.slice A n cap, .int .i64 f0] w1 fun e w' => (∃ A' cap', e = .returned (.slice A' (way n V [] f0).length cap') ∧ Ints w' A' (way n V [] f0).length (fun i => (way n V [] f0).getD i 0)) ∧ Below w1.heap.size w1 w' := fun w1 hb =>
      (refway_any A n cap V f0 w1 (by omega) (HV.out.keep hb)).mono fun e w' ⟨⟨v, he, ho, hl⟩, hb⟩ => by
        rcases ho.2 with ⟨rfl, h2⟩ | ⟨g, c2, cur, rfl, _⟩
        · refine ⟨⟨none, 0, by rw [he]; rw [h2], Ints.own (by rw [h2] at ho ⊢; exact ho)⟩, hb⟩
        · exact ⟨⟨some ⟨g, 0, none⟩, c2, he, Ints.own ho⟩, hb⟩
    have hs := same_self (way n V [] f0)
    obtain ⟨L, hL⟩ : ∃ L, way n V [] f0 = L := ⟨_, rfl⟩
    rw [hL] at hlen hways hwayr hs
    have hlen' : (L.length : Int) ≤ (n : Int) + 1 := by omega
    have HW := Lib.hid hways
    have HWR := Lib.hid hwayr
    have HS := Lib.hid hs
    clear hways hwayr hs hL hlen
    go_enter Try.func5, Try.ntmps5
    go_wp2_with (first
      | (go_at_call 9; refine (awake_any w).mono ?_; rintro e w1 ⟨rfl, hb1⟩; have B1 := Lib.hid hb1; clear hb1)
      | (go_at_call 17; refine (HW.out w1 B1.out).mono ?_; rintro e w2 ⟨⟨A1, cap1, rfl, hi1⟩, hb⟩; have I1 := Lib.hid hi1; have B2 := Lib.hid (B1.out.trans (hb.mono B1.out.size)); clear hi1 hb)
      | (go_at_call 18; refine (acyclic_any A n cap V w2 (by omega) (HV.out.keep B2.out)).mono ?_; rintro e w3 ⟨rfl, hb⟩; have I2 := Lib.hid (I1.out.keep hb); have B3 := Lib.hid (B2.out.trans (hb.mono B2.out.size)); clear hb)
      | (go_at_call 19; refine (refacyclic_any A n cap V w3 (by omega) (HV.out.keep B3.out)).mono ?_; rintro e w4 ⟨rfl, hb⟩; have I3 := Lib.hid (I2.out.keep hb); have B4 := Lib.hid (B3.out.trans (hb.mono B3.out.size)); clear hb)
      | (go_at_call 20; refine (HWR.out w4 B4.out).mono ?_; rintro e w5 ⟨⟨A2, cap2, rfl, hi2⟩, hb⟩; have J1 := Lib.hid hi2; have I4 := Lib.hid (I3.out.keep hb); have B5 := Lib.hid (B4.out.trans (hb.mono B4.out.size)); clear hi2 hb)
      | (go_at_call 15; refine (same_any A1 L.length cap1 _ A2 L.length cap2 _ w5 (by omega) I4.out J1.out).mono ?_; rw [HS.out]; rintro e w6 ⟨rfl, hb⟩; have B6 := Lib.hid (B5.out.trans (hb.mono B5.out.size)); clear hb))
    go_ret
    exact ⟨rfl, B6.out⟩
end GraphWays
end Go.Proofs.Ytbghebncmfjgiaa
