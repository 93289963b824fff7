/-
  Acyclic, and the document's. Conditions: those that each theorem names.
-/
import Derived.Test.YtebkpjefdaieaaaTwice
import Derived.Test.YtebkpjefdaieaaaHeld
namespace Go.Proofs.Ytebkpjefdaieaaa
open Go.RowKit
set_option linter.unusedVariables false
set_option linter.unusedSimpArgs false
namespace GG
theorem tw_twi (L : List Int) : twi L.length (fun i => L.getD i 0) = tw L := rfl
/-- no way from the first i ones comes back -/
def Calm (n : Nat) (N : Nat → Int) (i : Nat) : Prop := ∀ j, j < i → tw (way n N [] (j : Int)) = false
theorem acy_no {n : Nat} {N : Nat → Int} {i : Nat} (hi : i < n) (h : tw (way n N [] (i : Int)) = true) : acy n N = false := decide_eq_false (fun hh => by rw [hh i hi] at h; cases h)
theorem acy_yes {n : Nat} {N : Nat → Int} (h : Calm n N n) : acy n N = true := decide_eq_true h
theorem Calm.next {n : Nat} {N : Nat → Int} {i : Nat} (h : Calm n N i) (h2 : tw (way n N [] (i : Int)) = false) : Calm n N (i + 1) := fun j hj => by
  by_cases e : j = i
  · subst e; exact h2
  · exact h j (by omega)
theorem tw_at {L : List Int} {m : Nat} (h : L.length = m + 1) : tw L = decide (∃ i, i < m ∧ L.getD i 0 = L.getD m 0) := by unfold tw; rw [h]; rfl
theorem contains_last (g m cap : Nat) (L : List Int) (w : World) (hl : L.length = m + 1) (hm : m ≤ 9223372036854775807) (h : Ints w (some ⟨g, 0, none⟩) L.length (fun i => L.getD i 0)) :
    Calls Try.prog 61 #[.slice (some ⟨g, 0, none⟩) m cap, .int .i64 (L.getD m 0)] w fun e w' => e = .returned (.bool (tw L)) ∧ w = w' := by
  rw [tw_at hl]
  exact contains_any _ m cap (fun i => L.getD i 0) _ w hm (fun i hi => h i (by omega))
attribute [local irreducible] acy tw twi way
set_option maxRecDepth 100000 in
set_option maxHeartbeats 4000000 in
theorem acyclic_any (A : Option Addr) (n cap : Nat) (N : Nat → Int) (w : World) (hn : n ≤ 1000000) (hI : Ints w A n N) :
    Calls Try.prog 44 #[.slice A n cap] w fun e w' => e = .returned (.bool (acy n N)) ∧ Below w.heap.size w w' := by
  have H := Lib.hid hI
  clear hI
  go_enter Try.func44, Try.ntmps44
  go_upto_region 2 with fail
  go_loopw [7] (fun s7 wr => ∃ i : Nat, i ≤ n ∧ s7 = .int .i64 i ∧ Calm n N i ∧ Below w.heap.size w wr) (fun s7 _ => n - (intOf s7).toNat)
  case atStart => exact ⟨0, by omega, rfl, fun j hj => by omega, Below.refl _ _⟩
  case round =>
    obtain ⟨i, hi, rfl, hne, hb⟩ := hrel
    have HNE := Lib.hid hne
    have HB := Lib.hid hb
    clear hne hb
    by_cases hlt : i < n
    · have hlt2 : (i : Int) < (n : Int) := by omega
      have i00 : (0 : Int) ≤ (i : Int) := by omega
      have hIr := H.out.keep HB.out
      have hpos := way_pos (N := N) (show (0 : Int) ≤ (i : Int) ∧ (i : Int) < (n : Int) from ⟨i00, hlt2⟩)
      have hlen := way_len (n := n) (N := N) (i : Int)
      go_upto_region 5 with (go_at_call 60; refine (way_any A n cap N i wr hn hIr).mono ?_; rintro e w1 ⟨⟨v, rfl, hown, hlv⟩, hb1⟩; have HO := Lib.hid hown; have HLV := Lib.hid hlv; have HB1 := Lib.hid hb1; clear hown hlv hb1)
      obtain ⟨g, c2, rfl, hbg, hnc, hgl⟩ := own_form HO.out hpos
      have hII := Ints.own HO.out
      obtain ⟨L, hL⟩ : ∃ L, way n N [] (i : Int) = L := ⟨_, rfl⟩
      rw [hL] at hII hpos hlen hnc
      have HL := Lib.hid hL
      rw [hL]
      obtain ⟨m, hm⟩ : ∃ m, L.length - 1 = m := ⟨_, rfl⟩
      have hlm : L.length = m + 1 := by omega
      -- GEN
      obtain ⟨b', o', he, _, hc⟩ := hII m (by omega)
      simp only [Option.some.injEq, Addr.mk.injEq] at he
      obtain ⟨rfl, rfl, _⟩ := he
      rw [Nat.zero_add] at hc
      have hc : w1.drew.cell? ⟨g, m, none⟩ = some (.int .i64 (L.getD m 0)) := hc
      have hct := contains_last g m c2 L w1.drew hlm (by omega) hII
      obtain ⟨x, hx⟩ : ∃ x, L.getD m 0 = x := ⟨_, rfl⟩
      rw [hx] at hc hct
      obtain ⟨q, hq⟩ : ∃ q, L.length = q := ⟨_, rfl⟩
      rw [hq] at hlm hnc hlen ⊢
      have hm0 : IntKind.i64.wrap ((q : Int) - 1) = (m : Int) := by rw [IntWalk.i64_in _ (by omega)]; omega
      have hm1 : (q : Int) - 1 = (m : Int) := by omega
      have hm5 : IntKind.i64.wrap (m : Int) = (m : Int) := IntWalk.i64_in _ (by omega)
      have hm2 : (0 : Int) ≤ (m : Int) := by omega
      have hm3 : (m : Int) < (q : Int) := by omega
      have hm4 : (m : Int) ≤ (c2 : Int) := by omega
      have hm6 : m ≤ c2 := by omega
      have HCT := Lib.hid hct
      clear hct hII hx hq hm hIr hlen hnc hlm
      cases htw : tw L
      · have HTW := Lib.hid htw
        rw [htw] at HCT
        refine wp_region_held_drew (S := (fun w' => w'.cell? ⟨g, m, none⟩ = some (.int .i64 x))) (by kernel_rfl) hc (fun _ => ?_)
        refine held_take 0 13 (v := ?_) rfl rfl (by kernel_rfl) (by kernel_rfl) (by kernel_rfl) (fun _ _ _ h => h) (by rfl) ?_ hc ?_
        rotate_left
        · (intro w hSw; (try dsimp only at hSw); try simp only [List.getElem_toArray, List.getElem_cons_zero, List.getElem_cons_succ]; go_simp; try (with_reducible rfl))
        try simp only [List.setIfInBounds_toArray, List.set_cons_zero, List.set_cons_succ]
        refine held_take 1 14 (v := ?_) rfl rfl (by kernel_rfl) (by kernel_rfl) (by kernel_rfl) (fun _ _ _ h => h) (by rfl) ?_ hc ?_
        rotate_left
        · (intro w hSw; (try dsimp only at hSw); try simp only [List.getElem_toArray, List.getElem_cons_zero, List.getElem_cons_succ]; go_simp; try (with_reducible rfl))
        try simp only [List.setIfInBounds_toArray, List.set_cons_zero, List.set_cons_succ]
        refine held_take 2 15 (v := ?_) rfl rfl (by kernel_rfl) (by kernel_rfl) (by kernel_rfl) (fun _ _ _ h => h) (by rfl) ?_ hc ?_
        rotate_left
        · (intro w hSw; (try dsimp only at hSw); try simp only [List.getElem_toArray, List.getElem_cons_zero, List.getElem_cons_succ]; go_simp; try (with_reducible rfl))
        try simp only [List.setIfInBounds_toArray, List.set_cons_zero, List.set_cons_succ]
        refine held_take 3 16 (v := ?_) rfl rfl (by kernel_rfl) (by kernel_rfl) (by kernel_rfl) (fun _ _ _ h => h) (by rfl) ?_ hc ?_
        rotate_left
        · (intro w hSw; (try dsimp only at hSw); try simp only [List.getElem_toArray, List.getElem_cons_zero, List.getElem_cons_succ]; go_simp; try (with_reducible rfl))
        try simp only [List.setIfInBounds_toArray, List.set_cons_zero, List.set_cons_succ]
        refine held_take 4 17 (v := ?_) rfl rfl (by kernel_rfl) (by kernel_rfl) (by kernel_rfl) (fun _ _ _ h => h) (by rfl) ?_ hc ?_
        rotate_left
        · (intro w hSw; (try dsimp only at hSw); try simp only [List.getElem_toArray, List.getElem_cons_zero, List.getElem_cons_succ]; go_simp; try (with_reducible rfl))
        try simp only [List.setIfInBounds_toArray, List.set_cons_zero, List.set_cons_succ]
        refine held_take 5 18 (v := ?_) rfl rfl (by kernel_rfl) (by kernel_rfl) (by kernel_rfl) (fun _ _ _ h => h) (by rfl) ?_ hc ?_
        rotate_left
        · (intro w hSw; (try dsimp only at hSw); try simp only [List.getElem_toArray, List.getElem_cons_zero, List.getElem_cons_succ]; go_simp; try (with_reducible rfl))
        try simp only [List.setIfInBounds_toArray, List.set_cons_zero, List.set_cons_succ]
        refine held_take 6 19 (v := ?_) rfl rfl (by kernel_rfl) (by kernel_rfl) (by kernel_rfl) (fun _ _ _ h => h) (by rfl) ?_ hc ?_
        rotate_left
        · (intro w hSw; (try dsimp only at hSw); try simp only [List.getElem_toArray, List.getElem_cons_zero, List.getElem_cons_succ]; go_simp; try (with_reducible rfl))
        try simp only [List.setIfInBounds_toArray, List.set_cons_zero, List.set_cons_succ]
        refine held_take 7 20 (v := ?_) rfl rfl (by kernel_rfl) (by kernel_rfl) (by kernel_rfl) (fun _ _ _ h => h) (by rfl) ?_ hc ?_
        rotate_left
        · (intro w hSw; (try dsimp only at hSw); try simp only [List.getElem_toArray, List.getElem_cons_zero, List.getElem_cons_succ]; go_simp; try (with_reducible rfl))
        try simp only [List.setIfInBounds_toArray, List.set_cons_zero, List.set_cons_succ]
        refine held_take 8 21 (v := ?_) rfl rfl (by kernel_rfl) (by kernel_rfl) (by kernel_rfl) (fun _ _ _ h => h) (by rfl) ?_ hc ?_
        rotate_left
        · (intro w hSw; (try dsimp only at hSw); try simp only [List.getElem_toArray, List.getElem_cons_zero, List.getElem_cons_succ]; go_simp; try (with_reducible rfl))
        try simp only [List.setIfInBounds_toArray, List.set_cons_zero, List.set_cons_succ]
        refine held_take 9 22 (v := ?_) rfl rfl (by kernel_rfl) (by kernel_rfl) (by kernel_rfl) (fun _ _ _ h => h) (by rfl) ?_ hc ?_
        rotate_left
        · (intro w hSw; (try dsimp only at hSw); try simp only [List.getElem_toArray, List.getElem_cons_zero, List.getElem_cons_succ]; go_simp; try (with_reducible rfl))
        try simp only [List.setIfInBounds_toArray, List.set_cons_zero, List.set_cons_succ]
        refine held_take 10 23 (v := ?_) rfl rfl (by kernel_rfl) (by kernel_rfl) (by kernel_rfl) (fun _ _ _ h => h) (by rfl) ?_ hc ?_
        rotate_left
        · (intro w hSw; (try dsimp only at hSw); try simp only [List.getElem_toArray, List.getElem_cons_zero, List.getElem_cons_succ]; go_simp; try (with_reducible rfl))
        try simp only [List.setIfInBounds_toArray, List.set_cons_zero, List.set_cons_succ]
        refine held_call 11 24 rfl rfl (by kernel_rfl) (by rfl) (fun K hK => ?_)
        try simp only [List.getElem_toArray, List.getElem_cons_zero, List.getElem_cons_succ]
        go_simp
        (go_at_call 61; refine (HCT.out).mono ?_; rintro e w5 ⟨rfl, rfl⟩)
        try go_wp2_with fail
        try simp only [Act.put, List.setIfInBounds_toArray, List.set_cons_zero, List.set_cons_succ]
        refine hK.out _ _ _ hc ?_
        clear hK K
        refine wpAnyH_done (by kernel_rfl) ?_ _
        go_wp2
        go_roundw
        case rel => exact ⟨i + 1, by omega, by go_num, HNE.out.next (by rw [HL.out]; exact HTW.out), below_drew (HB.out.trans (HB1.out.mono HB.out.size))⟩
        case measure => simp [intOf]; omega
      · have HTW := Lib.hid htw
        rw [htw] at HCT
        refine wp_region_held_drew (S := (fun w' => w'.cell? ⟨g, m, none⟩ = some (.int .i64 x))) (by kernel_rfl) hc (fun _ => ?_)
        refine held_take 0 13 (v := ?_) rfl rfl (by kernel_rfl) (by kernel_rfl) (by kernel_rfl) (fun _ _ _ h => h) (by rfl) ?_ hc ?_
        rotate_left
        · (intro w hSw; (try dsimp only at hSw); try simp only [List.getElem_toArray, List.getElem_cons_zero, List.getElem_cons_succ]; go_simp; try (with_reducible rfl))
        try simp only [List.setIfInBounds_toArray, List.set_cons_zero, List.set_cons_succ]
        refine held_take 1 14 (v := ?_) rfl rfl (by kernel_rfl) (by kernel_rfl) (by kernel_rfl) (fun _ _ _ h => h) (by rfl) ?_ hc ?_
        rotate_left
        · (intro w hSw; (try dsimp only at hSw); try simp only [List.getElem_toArray, List.getElem_cons_zero, List.getElem_cons_succ]; go_simp; try (with_reducible rfl))
        try simp only [List.setIfInBounds_toArray, List.set_cons_zero, List.set_cons_succ]
        refine held_take 2 15 (v := ?_) rfl rfl (by kernel_rfl) (by kernel_rfl) (by kernel_rfl) (fun _ _ _ h => h) (by rfl) ?_ hc ?_
        rotate_left
        · (intro w hSw; (try dsimp only at hSw); try simp only [List.getElem_toArray, List.getElem_cons_zero, List.getElem_cons_succ]; go_simp; try (with_reducible rfl))
        try simp only [List.setIfInBounds_toArray, List.set_cons_zero, List.set_cons_succ]
        refine held_take 3 16 (v := ?_) rfl rfl (by kernel_rfl) (by kernel_rfl) (by kernel_rfl) (fun _ _ _ h => h) (by rfl) ?_ hc ?_
        rotate_left
        · (intro w hSw; (try dsimp only at hSw); try simp only [List.getElem_toArray, List.getElem_cons_zero, List.getElem_cons_succ]; go_simp; try (with_reducible rfl))
        try simp only [List.setIfInBounds_toArray, List.set_cons_zero, List.set_cons_succ]
        refine held_take 4 17 (v := ?_) rfl rfl (by kernel_rfl) (by kernel_rfl) (by kernel_rfl) (fun _ _ _ h => h) (by rfl) ?_ hc ?_
        rotate_left
        · (intro w hSw; (try dsimp only at hSw); try simp only [List.getElem_toArray, List.getElem_cons_zero, List.getElem_cons_succ]; go_simp; try (with_reducible rfl))
        try simp only [List.setIfInBounds_toArray, List.set_cons_zero, List.set_cons_succ]
        refine held_take 5 18 (v := ?_) rfl rfl (by kernel_rfl) (by kernel_rfl) (by kernel_rfl) (fun _ _ _ h => h) (by rfl) ?_ hc ?_
        rotate_left
        · (intro w hSw; (try dsimp only at hSw); try simp only [List.getElem_toArray, List.getElem_cons_zero, List.getElem_cons_succ]; go_simp; try (with_reducible rfl))
        try simp only [List.setIfInBounds_toArray, List.set_cons_zero, List.set_cons_succ]
        refine held_take 6 19 (v := ?_) rfl rfl (by kernel_rfl) (by kernel_rfl) (by kernel_rfl) (fun _ _ _ h => h) (by rfl) ?_ hc ?_
        rotate_left
        · (intro w hSw; (try dsimp only at hSw); try simp only [List.getElem_toArray, List.getElem_cons_zero, List.getElem_cons_succ]; go_simp; try (with_reducible rfl))
        try simp only [List.setIfInBounds_toArray, List.set_cons_zero, List.set_cons_succ]
        refine held_take 7 20 (v := ?_) rfl rfl (by kernel_rfl) (by kernel_rfl) (by kernel_rfl) (fun _ _ _ h => h) (by rfl) ?_ hc ?_
        rotate_left
        · (intro w hSw; (try dsimp only at hSw); try simp only [List.getElem_toArray, List.getElem_cons_zero, List.getElem_cons_succ]; go_simp; try (with_reducible rfl))
        try simp only [List.setIfInBounds_toArray, List.set_cons_zero, List.set_cons_succ]
        refine held_take 8 21 (v := ?_) rfl rfl (by kernel_rfl) (by kernel_rfl) (by kernel_rfl) (fun _ _ _ h => h) (by rfl) ?_ hc ?_
        rotate_left
        · (intro w hSw; (try dsimp only at hSw); try simp only [List.getElem_toArray, List.getElem_cons_zero, List.getElem_cons_succ]; go_simp; try (with_reducible rfl))
        try simp only [List.setIfInBounds_toArray, List.set_cons_zero, List.set_cons_succ]
        refine held_take 9 22 (v := ?_) rfl rfl (by kernel_rfl) (by kernel_rfl) (by kernel_rfl) (fun _ _ _ h => h) (by rfl) ?_ hc ?_
        rotate_left
        · (intro w hSw; (try dsimp only at hSw); try simp only [List.getElem_toArray, List.getElem_cons_zero, List.getElem_cons_succ]; go_simp; try (with_reducible rfl))
        try simp only [List.setIfInBounds_toArray, List.set_cons_zero, List.set_cons_succ]
        refine held_take 10 23 (v := ?_) rfl rfl (by kernel_rfl) (by kernel_rfl) (by kernel_rfl) (fun _ _ _ h => h) (by rfl) ?_ hc ?_
        rotate_left
        · (intro w hSw; (try dsimp only at hSw); try simp only [List.getElem_toArray, List.getElem_cons_zero, List.getElem_cons_succ]; go_simp; try (with_reducible rfl))
        try simp only [List.setIfInBounds_toArray, List.set_cons_zero, List.set_cons_succ]
        refine held_call 11 24 rfl rfl (by kernel_rfl) (by rfl) (fun K hK => ?_)
        try simp only [List.getElem_toArray, List.getElem_cons_zero, List.getElem_cons_succ]
        go_simp
        (go_at_call 61; refine (HCT.out).mono ?_; rintro e w5 ⟨rfl, rfl⟩)
        try go_wp2_with fail
        try simp only [Act.put, List.setIfInBounds_toArray, List.set_cons_zero, List.set_cons_succ]
        refine hK.out _ _ _ hc ?_
        clear hK K
        refine wpAnyH_done (by kernel_rfl) ?_ _
        go_wp2
        go_ret
        exact ⟨by rw [acy_no hlt (by rw [HL.out]; exact HTW.out)]; rfl, below_drew (HB.out.trans (HB1.out.mono HB.out.size))⟩
    · obtain rfl : i = n := by omega
      go_wp2
      go_ret
      exact ⟨by rw [acy_yes HNE.out]; rfl, HB.out⟩
end GG
end Go.Proofs.Ytebkpjefdaieaaa
