/-
  The document's Acyclic. Conditions: those that each theorem names.
-/
import Derived.Test.YtebkpjefdaieaaaAcyc
namespace Go.Proofs.Ytebkpjefdaieaaa
open Go.RowKit
set_option linter.unusedVariables false
set_option linter.unusedSimpArgs false
namespace GG
attribute [local irreducible] acy tw twi way
set_option maxRecDepth 100000 in
set_option maxHeartbeats 4000000 in
theorem refacyclic_any (A : Option Addr) (n cap : Nat) (N : Nat → Int) (w : World) (hn : n ≤ 1000000) (hI : Ints w A n N) :
    Calls Try.prog 45 #[.slice A n cap] w fun e w' => e = .returned (.bool (acy n N)) ∧ Below w.heap.size w w' := by
  have H := Lib.hid hI
  clear hI
  go_enter Try.func45, Try.ntmps45
  go_upto_region 2 with fail
  go_loopw [3] (fun s3 wr => ∃ i : Nat, i ≤ n ∧ s3 = .int .i64 i ∧ Calm n N i ∧ Below w.heap.size w wr) (fun s3 _ => n - (intOf s3).toNat)
  case atStart => exact ⟨0, by omega, rfl, fun j hj => by omega, Below.refl _ _⟩
  case round =>
    obtain ⟨i, hi, rfl, hne, hb⟩ := hrel
    have HNE := Lib.hid hne
    have HB := Lib.hid hb
    clear hne hb
    by_cases hlt : i < n
    · have hlt2 : (i : Int) < (n : Int) := by omega
      have i00 : (0 : Int) ≤ (i : Int) := by omega
      have HIr := Lib.hid (H.out.keep HB.out)
      have hpos := way_pos (N := N) (show (0 : Int) ≤ (i : Int) ∧ (i : Int) < (n : Int) from ⟨i00, hlt2⟩)
      have hlen := way_len (n := n) (N := N) (i : Int)
      have htl := fun h => tw_long (n := n) (N := N) (f := (i : Int)) h
      have hw1 := refway_any A n cap N i wr hn HIr.out
      have hw2 : ∀ w1, Below wr.heap.size wr w1 → Calls Try.prog 62 #[.slice A n cap, .int .i64 i] w1 fun e w' => (∃ v, e = .returned v ∧ w'.ownsRow w1.heap.size 3 1 v (way n N [] i).length (nums (way n N [] i)) ∧ lenOf v = (way n N [] i).length) ∧ Below w1.heap.size w1 w' := fun w1 hb => refway_any A n cap N i w1 hn (HIr.out.keep hb)
      obtain ⟨L, hL⟩ : ∃ L, way n N [] (i : Int) = L := ⟨_, rfl⟩
      rw [hL] at hpos hlen htl hw1 hw2
      have HW1 := Lib.hid hw1
      have HW2 := Lib.hid hw2
      have HL := Lib.hid hL
      have HTL := Lib.hid htl
      clear hw1 hw2 hL htl
      by_cases hbig : n < L.length
      · have hbig' : (n : Int) < (L.length : Int) := by omega
        have HTW := Lib.hid (HTL.out hbig)
        go_wp2_with (go_at_call 62; refine (HW1.out).mono ?_; rintro e w1 ⟨⟨v, rfl, hown, hlv⟩, hb1⟩; obtain ⟨g, c2, rfl, hbg, hnc, hgl⟩ := own_form hown hpos; have HO := Lib.hid hown; have HB1 := Lib.hid hb1; clear hown hlv hb1)
        go_ret
        exact ⟨by rw [acy_no hlt (by rw [HL.out]; exact HTW.out)]; rfl, HB.out.trans (HB1.out.mono HB.out.size)⟩
      · have hbig' : ¬ (n : Int) < (L.length : Int) := by omega
        cases htw : tw L
        · have HTW := Lib.hid htw
          clear htw
          go_wp2_with (first
            | (go_at_call 62; with_reducible refine (HW1.out).mono ?_; rintro e w1 ⟨⟨v, rfl, hown, hlv⟩, hb1⟩; obtain ⟨g, c2, rfl, hbg, hnc, hgl⟩ := own_form hown hpos; have HO := Lib.hid hown; have HB1 := Lib.hid hb1; clear hown hlv hb1)
            | (go_at_call 62; with_reducible refine (HW2.out w1 HB1.out).mono ?_; rintro e w2 ⟨⟨v, rfl, hown, hlv⟩, hb1⟩; obtain ⟨g3, c3, rfl, hbg3, hnc3, hgl3⟩ := own_form hown hpos; have HII := Lib.hid (Ints.own hown); have HB2 := Lib.hid (HB1.out.trans (hb1.mono HB1.out.size)); clear hown hlv hb1)
            | (go_at_call 63; refine (twice_any _ L.length c3 (fun i => L.getD i 0) w2 (by omega) HII.out).mono ?_; rw [tw_twi, HTW.out]; rintro e w3 ⟨rfl, hb3⟩; have HB3 := Lib.hid (HB2.out.trans (hb3.mono HB2.out.size)); clear hb3))
          go_roundw
          case rel => exact ⟨i + 1, by omega, by go_num, HNE.out.next (by rw [HL.out]; exact HTW.out), HB.out.trans (HB3.out.mono HB.out.size)⟩
          case measure => simp [intOf]; omega
        · have HTW := Lib.hid htw
          clear htw
          go_wp2_with (first
            | (go_at_call 62; with_reducible refine (HW1.out).mono ?_; rintro e w1 ⟨⟨v, rfl, hown, hlv⟩, hb1⟩; obtain ⟨g, c2, rfl, hbg, hnc, hgl⟩ := own_form hown hpos; have HO := Lib.hid hown; have HB1 := Lib.hid hb1; clear hown hlv hb1)
            | (go_at_call 62; with_reducible refine (HW2.out w1 HB1.out).mono ?_; rintro e w2 ⟨⟨v, rfl, hown, hlv⟩, hb1⟩; obtain ⟨g3, c3, rfl, hbg3, hnc3, hgl3⟩ := own_form hown hpos; have HII := Lib.hid (Ints.own hown); have HB2 := Lib.hid (HB1.out.trans (hb1.mono HB1.out.size)); clear hown hlv hb1)
            | (go_at_call 63; refine (twice_any _ L.length c3 (fun i => L.getD i 0) w2 (by omega) HII.out).mono ?_; rw [tw_twi, HTW.out]; rintro e w3 ⟨rfl, hb3⟩; have HB3 := Lib.hid (HB2.out.trans (hb3.mono HB2.out.size)); clear hb3))
          go_ret
          exact ⟨by rw [acy_no hlt (by rw [HL.out]; exact HTW.out)]; rfl, HB.out.trans (HB3.out.mono HB.out.size)⟩
    · obtain rfl : i = n := by omega
      go_wp2
      go_ret
      exact ⟨by rw [acy_yes HNE.out]; rfl, HB.out⟩
end GG
end Go.Proofs.Ytebkpjefdaieaaa
