/-
  The walk of the laws' awake of layer 17. Conditions: none.
-/
import Derived.Test.YtbghebncmfjgiaaAw17
namespace Go.Proofs.Ytbghebncmfjgiaa
open Go Go.RowKit
set_option linter.unusedVariables false
set_option linter.unusedSimpArgs false
namespace GG
theorem lk1 (g : Nat) (w : World) (h : IsG w g 3 (fun _ _ => 0)) : Calls Try.prog 12 #[.pointer (some ⟨g, 0, none⟩), .int .i64 0, .int .i64 1, .int .i64 1] w fun e w' => e = .returned (.int .i64 0) ∧ IsG w' g 3 c1 ∧ Only (fun i => i = g) w w' :=
  link_ok g 3 (fun _ _ => 0) 0 1 1 w h (by omega) (by omega) (by omega) (by omega) (by omega)
theorem lk2 (g : Nat) (w : World) (h : IsG w g 3 c1) : Calls Try.prog 12 #[.pointer (some ⟨g, 0, none⟩), .int .i64 1, .int .i64 2, .int .i64 2] w fun e w' => e = .returned (.int .i64 0) ∧ IsG w' g 3 c2 ∧ Only (fun i => i = g) w w' :=
  link_ok g 3 c1 1 2 2 w h (by omega) (by omega) (by omega) (by omega) (by omega)
theorem lk3 (g : Nat) (w : World) (h : IsG w g 3 c2) : Calls Try.prog 12 #[.pointer (some ⟨g, 0, none⟩), .int .i64 0, .int .i64 2, .int .i64 5] w fun e w' => e = .returned (.int .i64 0) ∧ IsG w' g 3 c3 ∧ Only (fun i => i = g) w w' :=
  link_ok g 3 c2 0 2 5 w h (by omega) (by omega) (by omega) (by omega) (by omega)
theorem fr3 (g : Nat) (w : World) (h : IsG w g 3 c3) : Calls Try.prog 14 #[.pointer (some ⟨g, 0, none⟩), .int .i64 2] w fun e w' => (∃ gf F, e = .returned (.slice (some ⟨gf, 0, none⟩) 3 3) ∧ Far w' gf 3 F ∧ sam 3 3 F (fun i => ([3, 2, 0] : List Int).getD i 0) = true) ∧ Below w.heap.size w w' :=
  (far_ok g 3 c3 2 w h (by omega) good3.sym good3.low good3.high).mono fun e w' ⟨⟨gf, F, he, _, hf, hi⟩, hb⟩ => ⟨⟨gf, F, he, hf, same_a F (hi.unique far3)⟩, hb⟩
theorem cs3 (g : Nat) (w : World) (h : IsG w g 3 c3) : Calls Try.prog 13 #[.pointer (some ⟨g, 0, none⟩), .int .i64 2, .int .i64 1] w fun e w' => e = .returned (.int .i64 2) ∧ w = w' :=
  (cost_any g 3 c3 2 1 w h).mono fun e w' ⟨he, hw⟩ => ⟨by rw [he, cst3], hw⟩
theorem lb1 (g : Nat) (w : World) (h : IsG w g 3 c3) : Calls Try.prog 12 #[.pointer (some ⟨g, 0, none⟩), .int .i64 0, .int .i64 0, .int .i64 1] w fun e w' => e = .returned (.int .i64 2) ∧ w = w' :=
  (link_bad g 3 c3 0 0 1 w h (by decide)).mono fun e w' ⟨he, hw⟩ => ⟨by rw [he, lnk_a], hw⟩
theorem lb2 (g : Nat) (w : World) (h : IsG w g 3 c3) : Calls Try.prog 12 #[.pointer (some ⟨g, 0, none⟩), .int .i64 0, .int .i64 1, .int .i64 1001] w fun e w' => e = .returned (.int .i64 1) ∧ w = w' :=
  (link_bad g 3 c3 0 1 1001 w h (by decide)).mono fun e w' ⟨he, hw⟩ => ⟨by rw [he, lnk_b], hw⟩
theorem ac1 (w : World) : Calls Try.prog 18 #[.slice (some ⟨w.heap.size, 0, none⟩) 3 3] (w.alloc (.cells #[.int .i64 1, .int .i64 (-1), .int .i64 1] 3)) fun e w' => e = .returned (.bool true) ∧ Below w.heap.size w w' :=
  (acyclic_any _ 3 3 _ _ (by omega) (lit_ints w [1, -1, 1])).mono fun e w' ⟨he, hb⟩ => ⟨by rw [he, acy_a], ((Below.refl _ _).alloc (Nat.le_refl _) _).trans (hb.mono (by simp))⟩
theorem ac2 (w : World) : Calls Try.prog 18 #[.slice (some ⟨w.heap.size, 0, none⟩) 3 3] (w.alloc (.cells #[.int .i64 1, .int .i64 2, .int .i64 0] 3)) fun e w' => e = .returned (.bool false) ∧ Below w.heap.size w w' :=
  (acyclic_any _ 3 3 _ _ (by omega) (lit_ints w [1, 2, 0])).mono fun e w' ⟨he, hb⟩ => ⟨by rw [he, acy_b], ((Below.refl _ _).alloc (Nat.le_refl _) _).trans (hb.mono (by simp))⟩
theorem wa1 (w : World) : Calls Try.prog 17 #[.slice (some ⟨w.heap.size, 0, none⟩) 3 3, .int .i64 0] (w.alloc (.cells #[.int .i64 1, .int .i64 2, .int .i64 1] 3)) fun e w' => (∃ gg cap, e = .returned (.slice (some ⟨gg, 0, none⟩) 4 cap) ∧ Ints w' (some ⟨gg, 0, none⟩) 4 (fun i => ([0, 1, 2, 1] : List Int).getD i 0)) ∧ Below w.heap.size w w' :=
  (way_any _ 3 3 _ 0 _ (by omega) (lit_ints w [1, 2, 1])).mono fun e w' ⟨⟨v, he, ho, _⟩, hb⟩ => by
    have hway : way 3 (fun i => ([1, 2, 1] : List Int).getD i 0) [] 0 = [0, 1, 2, 1] := way_a
    rw [hway] at ho
    obtain ⟨gg, cap, rfl, _⟩ := own_form ho (by simp)
    exact ⟨⟨gg, cap, he, Ints.own ho⟩, ((Below.refl _ _).alloc (Nat.le_refl _) _).trans (hb.mono (by simp))⟩
theorem sa1 (gf : Nat) (F : Nat → Int) (w : World) (h : Far w gf 3 F) (hs : sam 3 3 F (fun i => ([3, 2, 0] : List Int).getD i 0) = true) : Calls Try.prog 15 #[.slice (some ⟨gf, 0, none⟩) 3 3, .slice (some ⟨w.heap.size, 0, none⟩) 3 3] (w.alloc (.cells #[.int .i64 3, .int .i64 2, .int .i64 0] 3)) fun e w' => e = .returned (.bool true) ∧ Below w.heap.size w w' :=
  (same_any _ 3 3 F _ 3 3 _ _ (by omega) (h.ints.keep ((Below.refl _ _).alloc (Nat.le_refl _) _)) (lit_ints w [3, 2, 0])).mono fun e w' ⟨he, hb⟩ => ⟨by rw [he]; exact congrArg _ (congrArg _ hs), ((Below.refl _ _).alloc (Nat.le_refl _) _).trans (hb.mono (by simp))⟩
theorem sa2 (gg cap : Nat) (w : World) (h : Ints w (some ⟨gg, 0, none⟩) 4 (fun i => ([0, 1, 2, 1] : List Int).getD i 0)) : Calls Try.prog 15 #[.slice (some ⟨gg, 0, none⟩) 4 cap, .slice (some ⟨w.heap.size, 0, none⟩) 4 4] (w.alloc (.cells #[.int .i64 0, .int .i64 1, .int .i64 2, .int .i64 1] 3)) fun e w' => e = .returned (.bool true) ∧ Below w.heap.size w w' :=
  (same_any _ 4 cap _ _ 4 4 _ _ (by omega) (h.keep ((Below.refl _ _).alloc (Nat.le_refl _) _)) (lit_ints w [0, 1, 2, 1])).mono fun e w' ⟨he, hb⟩ => ⟨by rw [he]; exact congrArg _ (congrArg _ same_b), ((Below.refl _ _).alloc (Nat.le_refl _) _).trans (hb.mono (by simp))⟩
attribute [local irreducible] acy tw twi way sam cst lnk Far Row
set_option maxRecDepth 1000000 in
set_option maxHeartbeats 8000000 in
theorem awake_any (w : World) : Calls Try.prog 9 #[] w fun e w' => e = .returned (.bool true) ∧ Below w.heap.size w w' := by
  have HG0 := Lib.hid (show IsG (w.alloc (.cells (#[Value.int .i64 3] ++ Array.replicate 36 (.int .i64 0)) 50)) w.heap.size 3 (fun _ _ => 0) from new_isG w 3 (by omega) (by omega))
  have HB0 := Lib.hid ((Below.refl w.heap.size w).alloc (Nat.le_refl _) (.cells (#[Value.int .i64 3] ++ Array.replicate 36 (.int .i64 0)) 50))
  go_enter Try.func9, Try.ntmps9
  go_upto_region 5 with (first
    | (go_at_call 10; with_reducible refine (new_any 3 w (by omega) (by omega)).mono ?_; rintro e w1 ⟨rfl, hw1⟩; have HG := Lib.hid (show IsG w1 w.heap.size 3 (fun _ _ => 0) from hw1 ▸ HG0.out); have HB := Lib.hid (show Below w.heap.size w w1 from hw1 ▸ HB0.out); clear hw1)
    | (go_at_call 10; with_reducible refine (new_bad 7 w1 (by omega)).mono ?_; rintro e w2 ⟨rfl, rfl⟩))
  go_upto_region 6 with (first
    | (go_at_call 12; with_reducible refine (lk1 w.heap.size w1 HG.out).mono ?_; rintro e w3 ⟨rfl, hg, ho⟩; have HG1 := Lib.hid hg; have HB1 := Lib.hid (below_only HB.out (Nat.le_refl _) ho); clear hg ho)
    | (go_at_call 12; with_reducible refine (lk2 w.heap.size w3 HG1.out).mono ?_; rintro e w4 ⟨rfl, hg, ho⟩; have HG2 := Lib.hid hg; have HB2 := Lib.hid (below_only HB1.out (Nat.le_refl _) ho); clear hg ho)
    | (go_at_call 12; with_reducible refine (lk3 w.heap.size w4 HG2.out).mono ?_; rintro e w5 ⟨rfl, hg, ho⟩; have HG3 := Lib.hid hg; have HB3 := Lib.hid (below_only HB2.out (Nat.le_refl _) ho); clear hg ho))
  go_wp2_with (first
    | (go_at_call 14; with_reducible refine (fr3 w.heap.size w5 HG3.out).mono ?_; rintro e w6 ⟨⟨gf, F, rfl, hf, hsm⟩, hb⟩; have HF := Lib.hid hf; have HS := Lib.hid hsm; have HG4 := Lib.hid (HG3.out.keep hb); have HB4 := Lib.hid (HB3.out.trans (hb.mono HB3.out.size)); clear hf hsm hb)
    | (go_at_call 15; with_reducible refine (sa1 gf F w6 HF.out HS.out).mono ?_; rintro e w7 ⟨rfl, hb⟩; have HG5 := Lib.hid (HG4.out.keep hb); have HB5 := Lib.hid (HB4.out.trans (hb.mono HB4.out.size)); clear hb)
    | (go_at_call 13; with_reducible refine (cs3 w.heap.size w7 HG5.out).mono ?_; rintro e w8 ⟨rfl, rfl⟩)
    | (go_at_call 12; with_reducible refine (lb1 w.heap.size w7 HG5.out).mono ?_; rintro e w8 ⟨rfl, rfl⟩)
    | (go_at_call 12; with_reducible refine (lb2 w.heap.size w7 HG5.out).mono ?_; rintro e w8 ⟨rfl, rfl⟩)
    | (go_at_call 18; with_reducible refine (ac1 w7).mono ?_; rintro e w8 ⟨rfl, hb⟩; have HG6 := Lib.hid (HG5.out.keep hb); have HB6 := Lib.hid (HB5.out.trans (hb.mono HB5.out.size)); clear hb)
    | (go_at_call 18; with_reducible refine (ac2 w8).mono ?_; rintro e w9 ⟨rfl, hb⟩; have HG7 := Lib.hid (HG6.out.keep hb); have HB7 := Lib.hid (HB6.out.trans (hb.mono HB6.out.size)); clear hb)
    | (go_at_call 17; with_reducible refine (wa1 w9).mono ?_; rintro e w10 ⟨⟨gg, cap, rfl, hi⟩, hb⟩; have HI := Lib.hid hi; have HG8 := Lib.hid (HG7.out.keep hb); have HB8 := Lib.hid (HB7.out.trans (hb.mono HB7.out.size)); clear hb hi)
    | (go_at_call 15; with_reducible refine (sa2 gg cap w10 HI.out).mono ?_; rintro e w11 ⟨rfl, hb⟩; have HG9 := Lib.hid (HG8.out.keep hb); have HB9 := Lib.hid (HB8.out.trans (hb.mono HB8.out.size)); clear hb)
    | (go_at_call 21; with_reducible refine (len_any w.heap.size 3 c3 w11 HG9.out).mono ?_; rintro e w12 ⟨rfl, rfl⟩))
  go_ret
  exact ⟨rfl, HB9.out⟩
end GG
end Go.Proofs.Ytbghebncmfjgiaa
