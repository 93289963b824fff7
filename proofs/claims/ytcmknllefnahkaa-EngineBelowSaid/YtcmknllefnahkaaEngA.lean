/-
  The walk of the laws' awake of layer 19. Conditions: none.
-/
import Derived.Test.YtcmknllefnahkaaEng9
namespace Go.Proofs.Ytcmknllefnahkaa
open Go.RowKit FR FP H2 OW
set_option linter.unusedVariables false
set_option linter.unusedSimpArgs false
namespace Eng
open Feas
def f1 : Nat → Int × Int × Int := fun _ => (2, 4, 1)
def f2 : Nat → Int × Int × Int := fun _ => (2, 6, 1)
def k0 : St := new 0 3
def k1 : St := k0.link 1 1
def k2 : St := k1.hear 1 f1 1
def k3 : St := k2.tells 1 3
def k4 : St := k3.link 2 3
def k5 : St := k4.tells 2 3
def k6 : St := k5.hear 1 f2 1
def k7 : St := { k6 with seq := k6.seq + 1 }
theorem a1 : hea k0 1 f1 0 = 8 ∧ k0.hear 1 f1 0 = k0 := ⟨by decide +kernel, rfl⟩
theorem a2 : lnk k0 1 1 = 0 := by decide +kernel
theorem a3 : hea k1 1 f1 1 = 0 := by decide +kernel
theorem a4 : k2.route 2 = (1, (5, 1), true) := by decide +kernel
theorem a5 : upv k2 1 = 0 ∧ k2.n = 3 := by decide +kernel
theorem a6 : k2.offer 1 0 = (0, 0, 1) ∧ k2.offer 1 2 = (2, 65535, 0) := by decide +kernel
theorem a7 : lnk k3 2 3 = 0 := by decide +kernel
theorem a8 : upv k4 2 = 0 ∧ k4.n = 3 := by decide +kernel
theorem a9 : k4.offer 2 2 = (2, 5, 1) := by decide +kernel
theorem a10 : hea k5 1 f2 1 = 0 := by decide +kernel
theorem a11 : k6.route 2 = (-1, (65535, 0), false) := by decide +kernel
theorem a12 : k6.seq = 1 ∧ k7.seq = 2 ∧ k7.told 2 = (5, 1) ∧ k7.n = 3 := by decide +kernel
theorem rdO_none (w : World) (f : Nat → Int × Int × Int) : RdO w none 0 f := fun i hi => by omega
theorem rdO_one (w : World) (x y z : Int) : RdO (w.alloc (.cells #[.int .i64 x, .int .i64 y, .int .u32 z] 71)) (some ⟨w.heap.size, 0, none⟩) 1 (fun _ => (x, y, z)) := fun i hi => by
  obtain rfl : i = 0 := by omega
  exact ⟨w.heap.size, 0, rfl, by simp, by simp, by simp, by simp⟩
theorem Nd.fresh {w0 w : World} {b : Nat} {s : St} (h : Nd w0 w b s) (ht : s.seq ≠ 4294967295) : Calls Try.prog 21 #[.pointer (some ⟨b, 0, none⟩)] w fun e w' => e = .returned (.int .i64 0) ∧ Nd w0 w' b { s with seq := s.seq + 1 } ∧ Only (fun i => i = b) w w' :=
  (fresh_any b s w h.isn h.wf.seq ht).mono fun e w' ⟨he, hi, ho⟩ => ⟨he, h.only hi (wf_fresh h.wf ht) ho, ho⟩
theorem step1 {w0 w : World} {b : Nat} (h : Nd w0 w b k0) : Calls Try.prog 15 #[.pointer (some ⟨b, 0, none⟩), .int .i64 1, .slice none 0 0] w fun e w' => e = .returned (.int .i64 8) ∧ Nd w0 w' b k0 :=
  (nd_hear h 1 none 0 0 f1 (by decide) (rdO_none w f1) (fun i hi => by omega) (fun _ g o e => by cases e)).mono fun e w' ⟨he, hi, _⟩ => ⟨by rw [he, a1.1], by rw [a1.2] at hi; exact hi⟩
theorem step2 {w0 w : World} {b : Nat} (h : Nd w0 w b k0) : Calls Try.prog 13 #[.pointer (some ⟨b, 0, none⟩), .int .i64 1, .int .i64 1] w fun e w' => e = .returned (.int .i64 0) ∧ Nd w0 w' b k1 :=
  (nd_link h 1 1).mono fun e w' ⟨he, hi, _⟩ => ⟨by rw [he, a2], hi⟩
theorem step3 {w0 w : World} {b : Nat} (h : Nd w0 w b k1) : Calls Try.prog 15 #[.pointer (some ⟨b, 0, none⟩), .int .i64 1, .slice (some ⟨w.heap.size, 0, none⟩) 1 1] (w.alloc (.cells #[.int .i64 2, .int .i64 4, .int .u32 1] 71)) fun e w' => e = .returned (.int .i64 0) ∧ Nd w0 w' b k2 :=
  (nd_hear (h.alloc _) 1 _ 1 1 f1 (by decide) (rdO_one w 2 4 1) (fun i hi => sm1) (fun _ g o e => by cases e; have := h.lt; omega)).mono fun e w' ⟨he, hi, _⟩ => ⟨by rw [he, a3], hi⟩
theorem step4 {w0 w : World} {b : Nat} (h : Nd w0 w b k2) : Calls Try.prog 26 #[.pointer (some ⟨b, 0, none⟩), .int .i64 2] w fun e w' => e = .returned (.tuple #[.int .i64 1, dv 5 1, .bool true]) ∧ Nd w0 w' b k2 :=
  (nd_route h 2).mono fun e w' ⟨he, q, hw⟩ => ⟨by rw [he, a4], hw ▸ h.drewN q⟩
theorem step5 {w0 w : World} {b : Nat} (h : Nd w0 w b k2) : Calls Try.prog 18 #[.pointer (some ⟨b, 0, none⟩), .int .i64 1] w fun e w' => (∃ g cap, e = .returned (.tuple #[.slice (some ⟨g, 0, none⟩) 3 cap, .int .i64 0]) ∧ w'.cell? ⟨g, 1, none⟩ = some (.int .i64 0) ∧ w'.cell? ⟨g, 2, none⟩ = some (.int .u32 1) ∧ w'.cell? ⟨g, 7, none⟩ = some (.int .i64 65535) ∧ w.heap.size ≤ g ∧ g < w'.heap.size) ∧ Nd w0 w' b k3 :=
  (nd_tell h 1 a5.1).mono fun e w' ⟨⟨v, he, hv⟩, hi, ho⟩ => by
    rw [a5.2] at hv hi
    obtain ⟨g, cap, rfl, hg, _, hl⟩ := own_form hv (by omega)
    obtain ⟨A, cap', e2, _, hr, _⟩ := rdO_own hv
    cases e2
    obtain ⟨g0, o0, e0, _, x0, x1, x2⟩ := hr 0 (by omega)
    cases e0
    obtain ⟨g1, o1, e1, _, y0, y1, y2⟩ := hr 2 (by omega)
    cases e1
    rw [a6.1] at x1 x2
    rw [a6.2] at y1
    exact ⟨⟨g, cap, he, x1, x2, y1, hg, hl⟩, hi⟩
theorem step6 {w0 w : World} {b : Nat} (h : Nd w0 w b k3) : Calls Try.prog 13 #[.pointer (some ⟨b, 0, none⟩), .int .i64 2, .int .i64 3] w fun e w' => e = .returned (.int .i64 0) ∧ Nd w0 w' b k4 ∧ Only (fun i => i = b) w w' :=
  (nd_link h 2 3).mono fun e w' ⟨he, hi, ho⟩ => ⟨by rw [he, a7], hi, ho⟩
theorem step7 {w0 w : World} {b : Nat} (h : Nd w0 w b k4) : Calls Try.prog 18 #[.pointer (some ⟨b, 0, none⟩), .int .i64 2] w fun e w' => (∃ g cap, e = .returned (.tuple #[.slice (some ⟨g, 0, none⟩) 3 cap, .int .i64 0]) ∧ w'.cell? ⟨g, 7, none⟩ = some (.int .i64 5) ∧ w.heap.size ≤ g ∧ g < w'.heap.size) ∧ Nd w0 w' b k5 ∧ Only (fun i => i = b) w w' :=
  (nd_tell h 2 a8.1).mono fun e w' ⟨⟨v, he, hv⟩, hi, ho⟩ => by
    rw [a8.2] at hv hi
    obtain ⟨g, cap, rfl, hg, _, hl⟩ := own_form hv (by omega)
    obtain ⟨A, cap', e2, _, hr, _⟩ := rdO_own hv
    cases e2
    obtain ⟨g1, o1, e1, _, y0, y1, y2⟩ := hr 2 (by omega)
    cases e1
    rw [a9] at y1
    exact ⟨⟨g, cap, he, y1, hg, hl⟩, hi, ho⟩
theorem step8 {w0 w : World} {b : Nat} (h : Nd w0 w b k5) : Calls Try.prog 15 #[.pointer (some ⟨b, 0, none⟩), .int .i64 1, .slice (some ⟨w.heap.size, 0, none⟩) 1 1] (w.alloc (.cells #[.int .i64 2, .int .i64 6, .int .u32 1] 71)) fun e w' => e = .returned (.int .i64 0) ∧ Nd w0 w' b k6 ∧ Only (fun i => i = b) w w' :=
  (nd_hear (h.alloc _) 1 _ 1 1 f2 (by decide) (rdO_one w 2 6 1) (fun i hi => sm1) (fun _ g o e => by cases e; have := h.lt; omega)).mono fun e w' ⟨he, hi, ho⟩ => ⟨by rw [he, a10], hi, ((Only.refl _ _).alloc _).trans ho (fun _ _ h => h)⟩
theorem step9 {w0 w : World} {b : Nat} (h : Nd w0 w b k6) : Calls Try.prog 26 #[.pointer (some ⟨b, 0, none⟩), .int .i64 2] w fun e w' => e = .returned (.tuple #[.int .i64 (-1), dv 65535 0, .bool false]) ∧ Nd w0 w' b k6 ∧ Only (fun i => i = b) w w' :=
  (nd_route h 2).mono fun e w' ⟨he, q, hw⟩ => ⟨by rw [he, a11], hw ▸ h.drewN q, hw ▸ (Only.refl _ _).drewN q⟩
theorem step10 {w0 w : World} {b : Nat} (h : Nd w0 w b k6) : Calls Try.prog 21 #[.pointer (some ⟨b, 0, none⟩)] w fun e w' => e = .returned (.int .i64 0) ∧ Nd w0 w' b k7 ∧ Only (fun i => i = b) w w' :=
  h.fresh (by rw [a12.1]; decide)
theorem step11 {w0 w : World} {b : Nat} (h : Nd w0 w b k7) : Calls Try.prog 30 #[.pointer (some ⟨b, 0, none⟩), .int .i64 2] w fun e w' => e = .returned (dv 5 1) ∧ w = w' :=
  (told_any b k7 2 w h.isn (by rw [a12.2.2.2]; decide)).mono fun e w' ⟨he, hw⟩ => ⟨by rw [he, a12.2.2.1], hw⟩
theorem step12 {w0 w : World} {b : Nat} (h : Nd w0 w b k7) : Calls Try.prog 25 #[.pointer (some ⟨b, 0, none⟩)] w fun e w' => e = .returned (.int .u32 2) ∧ w = w' :=
  (seq_any b k7 w h.isn).mono fun e w' ⟨he, hw⟩ => ⟨by rw [he, a12.2.1], hw⟩
attribute [local go_sem] order_sm cmp_eq
attribute [local irreducible] k0 k1 k2 k3 k4 k5 k6 k7
set_option maxRecDepth 1000000 in
set_option maxHeartbeats 8000000 in
theorem awake_any (w : World) : Calls Try.prog 9 #[] w fun e w' => e = .returned (.bool true) ∧ Below w.heap.size w w' := by
  have hn0 : Calls Try.prog 11 #[.int .i64 0, .int .i64 3] w fun e w' => ∃ b, e = .returned (.tuple #[.pointer (some ⟨b, 0, none⟩), .int .i64 0]) ∧ Nd w w' b k0 := (nd_new 0 3 w w (Below.refl _ _) (by omega) (by omega)).mono fun e w' ⟨b, he, hi, _⟩ => ⟨b, he, by unfold k0; exact hi⟩
  have HN0 := Lib.hid hn0
  clear hn0
  have q1 : (5 : Int) < 65535 := by decide
  have hcl : cl 5 = 5 := by decide
  have HCL := Lib.hid hcl
  have s5 : Sm 5 := ⟨by decide, by decide⟩
  have s1 := sm1
  clear hcl
  go_enter Try.func9, Try.ntmps9
  go_upto_region 5 with (first
    | (go_at_call 11; with_reducible refine (HN0.out).mono ?_; rintro e w1 ⟨b, rfl, hi⟩; have N1 := Lib.hid hi; clear hi)
    | (go_at_call 11; with_reducible refine (new_bad 3 3 w1 (by omega)).mono ?_; rintro e w2 ⟨rfl, rfl⟩))
  go_upto_region 6 with (go_at_call 15; with_reducible refine (step1 N1.out).mono ?_; rintro e w2 ⟨rfl, hi⟩; have N2 := Lib.hid hi; clear hi)
  go_upto_region 7 with (go_at_call 13; with_reducible refine (step2 N2.out).mono ?_; rintro e w3 ⟨rfl, hi⟩; have N3 := Lib.hid hi; clear hi)
  go_upto_region 8 with (go_at_call 15; with_reducible refine (step3 N3.out).mono ?_; rintro e w4 ⟨rfl, hi⟩; have N4 := Lib.hid hi; clear hi)
  go_upto_region 9 with (go_at_call 26; with_reducible refine (step4 N4.out).mono ?_; rintro e w5 ⟨rfl, hi⟩; have N5 := Lib.hid hi; clear hi)
  go_upto_region 10 with (go_at_call 18; with_reducible refine (step5 N5.out).mono ?_; rintro e w6 ⟨⟨g1, cap1, rfl, x1, x2, x3, hg1, hl1⟩, hi⟩; have X := Lib.hid (And.intro x1 (And.intro x2 x3)); have hbg1 : g1 ≠ b := (by have := N5.out.lt; omega); have N6 := Lib.hid hi; clear hi x1 x2 x3 hg1)
  go_upto_region 11 with (go_at_call 13; with_reducible refine (step6 N6.out).mono ?_; rintro e w7 ⟨rfl, hi, ho⟩; have N7 := Lib.hid hi; have X7 := Lib.hid (And.intro (ho.cell X.out.1 hbg1) (And.intro (ho.cell X.out.2.1 hbg1) (ho.cell X.out.2.2 hbg1))); have hl7 : g1 < w7.heap.size := Nat.lt_of_lt_of_le hl1 ho.size; clear hi ho X hl1)
  go_upto_region 12 with (go_at_call 18; with_reducible refine (step7 N7.out).mono ?_; rintro e w8 ⟨⟨g2, cap2, rfl, y1, hg2, hl2⟩, hi, ho⟩; have Y := Lib.hid y1; have X8 := Lib.hid (And.intro (ho.cell X7.out.1 hbg1) (And.intro (ho.cell X7.out.2.1 hbg1) (ho.cell X7.out.2.2 hbg1))); have hbg2 : g2 ≠ b := (by have := N7.out.lt; omega); have N8 := Lib.hid hi; clear hi ho X7 y1 hg2)
  go_upto_region 13 with (go_at_call 15; with_reducible refine (step8 N8.out).mono ?_; rintro e w9 ⟨rfl, hi, ho⟩; have N9 := Lib.hid hi; have X9 := Lib.hid (And.intro (ho.cell X8.out.1 hbg1) (And.intro (ho.cell X8.out.2.1 hbg1) (ho.cell X8.out.2.2 hbg1))); have Y9 := Lib.hid (ho.cell Y.out hbg2); clear hi ho X8 Y)
  go_upto_region 14 with (go_at_call 26; with_reducible refine (step9 N9.out).mono ?_; rintro e w10 ⟨rfl, hi, ho⟩; have N10 := Lib.hid hi; have X10 := Lib.hid (And.intro (ho.cell X9.out.1 hbg1) (And.intro (ho.cell X9.out.2.1 hbg1) (ho.cell X9.out.2.2 hbg1))); have Y10 := Lib.hid (ho.cell Y9.out hbg2); clear hi ho X9 Y9)
  go_upto_region 15 with (go_at_call 21; with_reducible refine (step10 N10.out).mono ?_; rintro e w11 ⟨rfl, hi, ho⟩; have N11 := Lib.hid hi; have x1 := ho.cell X10.out.1 hbg1; have x2 := ho.cell X10.out.2.1 hbg1; have x3 := ho.cell X10.out.2.2 hbg1; have y1 := ho.cell Y10.out hbg2; clear hi ho X10 Y10)
  go_wp2_with (first
    | (go_at_call 31; refine (make_any _ _ _).mono ?_; rw [HCL.out]; rintro e w' ⟨rfl, rfl⟩)
    | (go_at_call 30; with_reducible refine (step11 N11.out).mono ?_; rintro e w' ⟨rfl, rfl⟩)
    | (go_at_call 25; with_reducible refine (step12 N11.out).mono ?_; rintro e w' ⟨rfl, rfl⟩))
  go_ret
  exact ⟨rfl, N11.out.bel⟩
end Eng
end Go.Proofs.Ytcmknllefnahkaa
