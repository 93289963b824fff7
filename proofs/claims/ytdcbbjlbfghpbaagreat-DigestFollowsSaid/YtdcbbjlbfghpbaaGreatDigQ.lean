/-
  Digest: the laws' same. Conditions: those that each theorem names.
-/
import Derived.Test.YtdcbbjlbfghpbaaGreatDigA
namespace Go.Proofs.YtdcbbjlbfghpbaaGreat
open Go Go.RowKit H2
set_option linter.unusedVariables false
set_option linter.unusedSimpArgs false
namespace Dig
open Tab Byt
/-- digests behind an address -/
def RdG (w : World) (A : Option Addr) (n : Nat) (F : Dg) : Prop := ∀ i, i < n → ∃ b o, A = some ⟨b, o, none⟩ ∧ w.cell? ⟨b, o + i * 2, none⟩ = some (.int .i64 (F i).1) ∧ w.cell? ⟨b, o + i * 2 + 1, none⟩ = some (.int .u64 (F i).2)
theorem RdG.below {w w' : World} {A : Option Addr} {n : Nat} {F : Dg} (h : RdG w A n F) (hb : Below w.heap.size w w') : RdG w' A n F := fun i hi => by
  obtain ⟨b, o, e, h1, h2⟩ := h i hi
  exact ⟨b, o, e, later hb h1, later hb h2⟩
theorem DAt.rd {w : World} {g : Nat} {D : Dg} (h : DAt w g D) : RdG w (some ⟨g, 0, none⟩) 17 D := fun i hi => ⟨g, 0, rfl, by rw [Nat.zero_add]; exact (h.n hi).1, by rw [Nat.zero_add]; exact (h.s hi).1⟩
/-- whether two lists of digests are the same -/
def smD (n m : Nat) (F G : Dg) : Bool := decide (n = m ∧ ∀ i, i < n → F i = G i)
set_option maxRecDepth 100000 in
set_option maxHeartbeats 8000000 in
theorem same_dig (A B : Option Addr) (n m cap cap' : Nat) (F G : Dg) (hn : n ≤ 100000) (w : World) (ha : RdG w A n F) (hb : RdG w B m G) :
    Calls Tryz.prog 10 #[.slice A n cap, .slice B m cap'] w fun e w' => e = .returned (.bool (smD n m F G)) ∧ Below w.heap.size w w' := by
  have HA := Lib.hid ha
  have HG := Lib.hid hb
  clear ha hb
  by_cases hnm : n = m
  · subst hnm
    go_enter Tryz.func10, Tryz.ntmps10
    go_wp2
    go_loopw [13] (fun s13 wr => ∃ i : Nat, i ≤ n ∧ s13 = .int .i64 i ∧ (∀ j, j < i → F j = G j) ∧ Below w.heap.size w wr) (fun s13 _ => n - (intOf s13).toNat)
    case atStart => exact ⟨0, by omega, rfl, fun j h => by omega, Below.refl _ _⟩
    case round =>
      obtain ⟨i, hi, rfl, heq, hbb⟩ := hrel
      have HQ := Lib.hid heq
      have HB := Lib.hid hbb
      clear heq hbb
      by_cases hlt : i < n
      · have hlt' : (i : Int) < (n : Int) := by omega
        have i0 : (0 : Int) ≤ (i : Int) := by omega
        obtain ⟨b1, o1, rfl, x1, x2⟩ := HA.out i hlt
        obtain ⟨b2, o2, rfl, y1, y2⟩ := HG.out i hlt
        have HX := Lib.hid (And.intro (later HB.out.drew x1) (And.intro (later HB.out.drew x2) (And.intro (later HB.out.drew y1) (later HB.out.drew y2))))
        clear x1 x2 y1 y2
        obtain ⟨a, ha⟩ : ∃ a, (F i).1 = a := ⟨_, rfl⟩
        obtain ⟨s, hs⟩ : ∃ a, (F i).2 = a := ⟨_, rfl⟩
        obtain ⟨c, hc⟩ : ∃ a, (G i).1 = a := ⟨_, rfl⟩
        obtain ⟨d, hd⟩ : ∃ a, (G i).2 = a := ⟨_, rfl⟩
        have HE := Lib.hid (show F i = G i ↔ a = c ∧ s = d by rw [← ha, ← hs, ← hc, ← hd]; exact Prod.ext_iff)
        rw [ha, hs, hc, hd] at HX
        clear ha hs hc hd
        by_cases h1 : a = c
        · subst h1
          by_cases h2 : s = d
          · subst h2
            go_upto_region 6 with fail
            refine wp_region_held_drew (S := (fun w' => w'.cell? ⟨b1, o1 + i * 2, none⟩ = some (.int .i64 a) ∧ w'.cell? ⟨b1, o1 + i * 2 + 1, none⟩ = some (.int .u64 s) ∧ w'.cell? ⟨b2, o2 + i * 2, none⟩ = some (.int .i64 a) ∧ w'.cell? ⟨b2, o2 + i * 2 + 1, none⟩ = some (.int .u64 s))) (by kernel_rfl) HX.out (fun _ => ?_)
            refine held_take 0 16 (v := ?_) rfl rfl (by kernel_rfl) (by kernel_rfl) (by kernel_rfl) (fun _ _ _ h => h) (by rfl) ?_ HX.out ?_
            rotate_left
            · (intro w hSw; (try dsimp only at hSw); obtain ⟨q1, q2, q3, q4⟩ := hSw;try simp only [List.getElem_toArray, List.getElem_cons_zero, List.getElem_cons_succ]; go_simp; try (with_reducible rfl))
            try simp only [List.setIfInBounds_toArray, List.set_cons_zero, List.set_cons_succ]
            refine held_take 1 17 (v := ?_) rfl rfl (by kernel_rfl) (by kernel_rfl) (by kernel_rfl) (fun _ _ _ h => h) (by rfl) ?_ HX.out ?_
            rotate_left
            · (intro w hSw; (try dsimp only at hSw); obtain ⟨q1, q2, q3, q4⟩ := hSw;try simp only [List.getElem_toArray, List.getElem_cons_zero, List.getElem_cons_succ]; go_simp; try (with_reducible rfl))
            try simp only [List.setIfInBounds_toArray, List.set_cons_zero, List.set_cons_succ]
            refine held_take 2 18 (v := ?_) rfl rfl (by kernel_rfl) (by kernel_rfl) (by kernel_rfl) (fun _ _ _ h => h) (by rfl) ?_ HX.out ?_
            rotate_left
            · (intro w hSw; (try dsimp only at hSw); obtain ⟨q1, q2, q3, q4⟩ := hSw;try simp only [List.getElem_toArray, List.getElem_cons_zero, List.getElem_cons_succ]; go_simp; try (with_reducible rfl))
            try simp only [List.setIfInBounds_toArray, List.set_cons_zero, List.set_cons_succ]
            refine held_take 3 19 (v := ?_) rfl rfl (by kernel_rfl) (by kernel_rfl) (by kernel_rfl) (fun _ _ _ h => h) (by rfl) ?_ HX.out ?_
            rotate_left
            · (intro w hSw; (try dsimp only at hSw); obtain ⟨q1, q2, q3, q4⟩ := hSw;try simp only [List.getElem_toArray, List.getElem_cons_zero, List.getElem_cons_succ]; go_simp; try (with_reducible rfl))
            try simp only [List.setIfInBounds_toArray, List.set_cons_zero, List.set_cons_succ]
            refine held_take 4 20 (v := ?_) rfl rfl (by kernel_rfl) (by kernel_rfl) (by kernel_rfl) (fun _ _ _ h => h) (by rfl) ?_ HX.out ?_
            rotate_left
            · (intro w hSw; (try dsimp only at hSw); obtain ⟨q1, q2, q3, q4⟩ := hSw;try simp only [List.getElem_toArray, List.getElem_cons_zero, List.getElem_cons_succ]; go_simp; try (with_reducible rfl))
            try simp only [List.setIfInBounds_toArray, List.set_cons_zero, List.set_cons_succ]
            refine held_take 5 21 (v := ?_) rfl rfl (by kernel_rfl) (by kernel_rfl) (by kernel_rfl) (fun _ _ _ h => h) (by rfl) ?_ HX.out ?_
            rotate_left
            · (intro w hSw; (try dsimp only at hSw); obtain ⟨q1, q2, q3, q4⟩ := hSw;try simp only [List.getElem_toArray, List.getElem_cons_zero, List.getElem_cons_succ]; go_simp; try (with_reducible rfl))
            try simp only [List.setIfInBounds_toArray, List.set_cons_zero, List.set_cons_succ]
            refine held_take 6 22 (v := ?_) rfl rfl (by kernel_rfl) (by kernel_rfl) (by kernel_rfl) (fun _ _ _ h => h) (by rfl) ?_ HX.out ?_
            rotate_left
            · (intro w hSw; (try dsimp only at hSw); obtain ⟨q1, q2, q3, q4⟩ := hSw;try simp only [List.getElem_toArray, List.getElem_cons_zero, List.getElem_cons_succ]; go_simp; try (with_reducible rfl))
            try simp only [List.setIfInBounds_toArray, List.set_cons_zero, List.set_cons_succ]
            refine held_take 7 23 (v := ?_) rfl rfl (by kernel_rfl) (by kernel_rfl) (by kernel_rfl) (fun _ _ _ h => h) (by rfl) ?_ HX.out ?_
            rotate_left
            · (intro w hSw; (try dsimp only at hSw); obtain ⟨q1, q2, q3, q4⟩ := hSw;try simp only [List.getElem_toArray, List.getElem_cons_zero, List.getElem_cons_succ]; go_simp; try (with_reducible rfl))
            try simp only [List.setIfInBounds_toArray, List.set_cons_zero, List.set_cons_succ]
            refine held_take 8 24 (v := ?_) rfl rfl (by kernel_rfl) (by kernel_rfl) (by kernel_rfl) (fun _ _ _ h => h) (by rfl) ?_ HX.out ?_
            rotate_left
            · (intro w hSw; (try dsimp only at hSw); obtain ⟨q1, q2, q3, q4⟩ := hSw;try simp only [List.getElem_toArray, List.getElem_cons_zero, List.getElem_cons_succ]; go_simp; try (with_reducible rfl))
            try simp only [List.setIfInBounds_toArray, List.set_cons_zero, List.set_cons_succ]
            refine held_take 9 25 (v := ?_) rfl rfl (by kernel_rfl) (by kernel_rfl) (by kernel_rfl) (fun _ _ _ h => h) (by rfl) ?_ HX.out ?_
            rotate_left
            · (intro w hSw; (try dsimp only at hSw); obtain ⟨q1, q2, q3, q4⟩ := hSw;try simp only [List.getElem_toArray, List.getElem_cons_zero, List.getElem_cons_succ]; go_simp; try (with_reducible rfl))
            try simp only [List.setIfInBounds_toArray, List.set_cons_zero, List.set_cons_succ]
            refine held_take 10 26 (v := ?_) rfl rfl (by kernel_rfl) (by kernel_rfl) (by kernel_rfl) (fun _ _ _ h => h) (by rfl) ?_ HX.out ?_
            rotate_left
            · (intro w hSw; (try dsimp only at hSw); obtain ⟨q1, q2, q3, q4⟩ := hSw;try simp only [List.getElem_toArray, List.getElem_cons_zero, List.getElem_cons_succ]; go_simp; try (with_reducible rfl))
            try simp only [List.setIfInBounds_toArray, List.set_cons_zero, List.set_cons_succ]
            refine held_take 11 27 (v := ?_) rfl rfl (by kernel_rfl) (by kernel_rfl) (by kernel_rfl) (fun _ _ _ h => h) (by rfl) ?_ HX.out ?_
            rotate_left
            · (intro w hSw; (try dsimp only at hSw); obtain ⟨q1, q2, q3, q4⟩ := hSw;try simp only [List.getElem_toArray, List.getElem_cons_zero, List.getElem_cons_succ]; go_simp; try (with_reducible rfl))
            try simp only [List.setIfInBounds_toArray, List.set_cons_zero, List.set_cons_succ]
            refine held_take 12 28 (v := ?_) rfl rfl (by kernel_rfl) (by kernel_rfl) (by kernel_rfl) (fun _ _ _ h => h) (by rfl) ?_ HX.out ?_
            rotate_left
            · (intro w hSw; (try dsimp only at hSw); obtain ⟨q1, q2, q3, q4⟩ := hSw;try simp only [List.getElem_toArray, List.getElem_cons_zero, List.getElem_cons_succ]; go_simp; try (with_reducible rfl))
            try simp only [List.setIfInBounds_toArray, List.set_cons_zero, List.set_cons_succ]
            refine held_take 13 29 (v := ?_) rfl rfl (by kernel_rfl) (by kernel_rfl) (by kernel_rfl) (fun _ _ _ h => h) (by rfl) ?_ HX.out ?_
            rotate_left
            · (intro w hSw; (try dsimp only at hSw); obtain ⟨q1, q2, q3, q4⟩ := hSw;try simp only [List.getElem_toArray, List.getElem_cons_zero, List.getElem_cons_succ]; go_simp; try (with_reducible rfl))
            try simp only [List.setIfInBounds_toArray, List.set_cons_zero, List.set_cons_succ]
            refine held_take 14 30 (v := ?_) rfl rfl (by kernel_rfl) (by kernel_rfl) (by kernel_rfl) (fun _ _ _ h => h) (by rfl) ?_ HX.out ?_
            rotate_left
            · (intro w hSw; (try dsimp only at hSw); obtain ⟨q1, q2, q3, q4⟩ := hSw;try simp only [List.getElem_toArray, List.getElem_cons_zero, List.getElem_cons_succ]; go_simp; try (with_reducible rfl))
            try simp only [List.setIfInBounds_toArray, List.set_cons_zero, List.set_cons_succ]
            refine held_take 15 31 (v := ?_) rfl rfl (by kernel_rfl) (by kernel_rfl) (by kernel_rfl) (fun _ _ _ h => h) (by rfl) ?_ HX.out ?_
            rotate_left
            · (intro w hSw; (try dsimp only at hSw); obtain ⟨q1, q2, q3, q4⟩ := hSw;try simp only [List.getElem_toArray, List.getElem_cons_zero, List.getElem_cons_succ]; go_simp; try (with_reducible rfl))
            try simp only [List.setIfInBounds_toArray, List.set_cons_zero, List.set_cons_succ]
            refine held_take 16 32 (v := ?_) rfl rfl (by kernel_rfl) (by kernel_rfl) (by kernel_rfl) (fun _ _ _ h => h) (by rfl) ?_ HX.out ?_
            rotate_left
            · (intro w hSw; (try dsimp only at hSw); obtain ⟨q1, q2, q3, q4⟩ := hSw;try simp only [List.getElem_toArray, List.getElem_cons_zero, List.getElem_cons_succ]; go_simp; try (with_reducible rfl))
            try simp only [List.setIfInBounds_toArray, List.set_cons_zero, List.set_cons_succ]
            refine held_take 17 33 (v := ?_) rfl rfl (by kernel_rfl) (by kernel_rfl) (by kernel_rfl) (fun _ _ _ h => h) (by rfl) ?_ HX.out ?_
            rotate_left
            · (intro w hSw; (try dsimp only at hSw); obtain ⟨q1, q2, q3, q4⟩ := hSw;try simp only [List.getElem_toArray, List.getElem_cons_zero, List.getElem_cons_succ]; go_simp; try (with_reducible rfl))
            try simp only [List.setIfInBounds_toArray, List.set_cons_zero, List.set_cons_succ]
            refine held_take 18 34 (v := ?_) rfl rfl (by kernel_rfl) (by kernel_rfl) (by kernel_rfl) (fun _ _ _ h => h) (by rfl) ?_ HX.out ?_
            rotate_left
            · (intro w hSw; (try dsimp only at hSw); obtain ⟨q1, q2, q3, q4⟩ := hSw;try simp only [List.getElem_toArray, List.getElem_cons_zero, List.getElem_cons_succ]; go_simp; try (with_reducible rfl))
            try simp only [List.setIfInBounds_toArray, List.set_cons_zero, List.set_cons_succ]
            refine held_take 19 35 (v := ?_) rfl rfl (by kernel_rfl) (by kernel_rfl) (by kernel_rfl) (fun _ _ _ h => h) (by rfl) ?_ HX.out ?_
            rotate_left
            · (intro w hSw; (try dsimp only at hSw); obtain ⟨q1, q2, q3, q4⟩ := hSw;try simp only [List.getElem_toArray, List.getElem_cons_zero, List.getElem_cons_succ]; go_simp; try (with_reducible rfl))
            try simp only [List.setIfInBounds_toArray, List.set_cons_zero, List.set_cons_succ]
            refine held_take 20 36 (v := ?_) rfl rfl (by kernel_rfl) (by kernel_rfl) (by kernel_rfl) (fun _ _ _ h => h) (by rfl) ?_ HX.out ?_
            rotate_left
            · (intro w hSw; (try dsimp only at hSw); obtain ⟨q1, q2, q3, q4⟩ := hSw;try simp only [List.getElem_toArray, List.getElem_cons_zero, List.getElem_cons_succ]; go_simp; try (with_reducible rfl))
            try simp only [List.setIfInBounds_toArray, List.set_cons_zero, List.set_cons_succ]
            refine held_take 21 37 (v := ?_) rfl rfl (by kernel_rfl) (by kernel_rfl) (by kernel_rfl) (fun _ _ _ h => h) (by rfl) ?_ HX.out ?_
            rotate_left
            · (intro w hSw; (try dsimp only at hSw); obtain ⟨q1, q2, q3, q4⟩ := hSw;try simp only [List.getElem_toArray, List.getElem_cons_zero, List.getElem_cons_succ]; go_simp; try (with_reducible rfl))
            try simp only [List.setIfInBounds_toArray, List.set_cons_zero, List.set_cons_succ]
            refine held_take 22 38 (v := ?_) rfl rfl (by kernel_rfl) (by kernel_rfl) (by kernel_rfl) (fun _ _ _ h => h) (by rfl) ?_ HX.out ?_
            rotate_left
            · (intro w hSw; (try dsimp only at hSw); obtain ⟨q1, q2, q3, q4⟩ := hSw;try simp only [List.getElem_toArray, List.getElem_cons_zero, List.getElem_cons_succ]; go_simp; try (with_reducible rfl))
            try simp only [List.setIfInBounds_toArray, List.set_cons_zero, List.set_cons_succ]
            refine held_take 23 39 (v := ?_) rfl rfl (by kernel_rfl) (by kernel_rfl) (by kernel_rfl) (fun _ _ _ h => h) (by rfl) ?_ HX.out ?_
            rotate_left
            · (intro w hSw; (try dsimp only at hSw); obtain ⟨q1, q2, q3, q4⟩ := hSw;try simp only [List.getElem_toArray, List.getElem_cons_zero, List.getElem_cons_succ]; go_simp; try (with_reducible rfl))
            try simp only [List.setIfInBounds_toArray, List.set_cons_zero, List.set_cons_succ]
            refine wpAnyH_done (by kernel_rfl) ?_ _
            go_wp2
            go_roundw
            case rel => exact ⟨i + 1, by omega, by go_num, fun j h => by
              rcases Nat.lt_succ_iff_lt_or_eq.1 h with h | rfl
              · exact HQ.out j h
              · exact HE.out.2 ⟨rfl, rfl⟩, HB.out.drew⟩
            case measure => simp [intOf]; omega
          · have hd2 : decide (s = d) = false := decide_eq_false h2
            have hd3 : (s == d) = false := by simpa using h2
            have HF := Lib.hid (show smD n n F G = false from decide_eq_false (fun e => h2 (HE.out.1 (e.2 i hlt)).2))
            go_upto_region 6 with fail
            refine wp_region_held_drew (S := (fun w' => w'.cell? ⟨b1, o1 + i * 2, none⟩ = some (.int .i64 a) ∧ w'.cell? ⟨b1, o1 + i * 2 + 1, none⟩ = some (.int .u64 s) ∧ w'.cell? ⟨b2, o2 + i * 2, none⟩ = some (.int .i64 a) ∧ w'.cell? ⟨b2, o2 + i * 2 + 1, none⟩ = some (.int .u64 d))) (by kernel_rfl) HX.out (fun _ => ?_)
            refine held_take 0 16 (v := ?_) rfl rfl (by kernel_rfl) (by kernel_rfl) (by kernel_rfl) (fun _ _ _ h => h) (by rfl) ?_ HX.out ?_
            rotate_left
            · (intro w hSw; (try dsimp only at hSw); obtain ⟨q1, q2, q3, q4⟩ := hSw;try simp only [List.getElem_toArray, List.getElem_cons_zero, List.getElem_cons_succ]; go_simp; try (with_reducible rfl))
            try simp only [List.setIfInBounds_toArray, List.set_cons_zero, List.set_cons_succ]
            refine held_take 1 17 (v := ?_) rfl rfl (by kernel_rfl) (by kernel_rfl) (by kernel_rfl) (fun _ _ _ h => h) (by rfl) ?_ HX.out ?_
            rotate_left
            · (intro w hSw; (try dsimp only at hSw); obtain ⟨q1, q2, q3, q4⟩ := hSw;try simp only [List.getElem_toArray, List.getElem_cons_zero, List.getElem_cons_succ]; go_simp; try (with_reducible rfl))
            try simp only [List.setIfInBounds_toArray, List.set_cons_zero, List.set_cons_succ]
            refine held_take 2 18 (v := ?_) rfl rfl (by kernel_rfl) (by kernel_rfl) (by kernel_rfl) (fun _ _ _ h => h) (by rfl) ?_ HX.out ?_
            rotate_left
            · (intro w hSw; (try dsimp only at hSw); obtain ⟨q1, q2, q3, q4⟩ := hSw;try simp only [List.getElem_toArray, List.getElem_cons_zero, List.getElem_cons_succ]; go_simp; try (with_reducible rfl))
            try simp only [List.setIfInBounds_toArray, List.set_cons_zero, List.set_cons_succ]
            refine held_take 3 19 (v := ?_) rfl rfl (by kernel_rfl) (by kernel_rfl) (by kernel_rfl) (fun _ _ _ h => h) (by rfl) ?_ HX.out ?_
            rotate_left
            · (intro w hSw; (try dsimp only at hSw); obtain ⟨q1, q2, q3, q4⟩ := hSw;try simp only [List.getElem_toArray, List.getElem_cons_zero, List.getElem_cons_succ]; go_simp; try (with_reducible rfl))
            try simp only [List.setIfInBounds_toArray, List.set_cons_zero, List.set_cons_succ]
            refine held_take 4 20 (v := ?_) rfl rfl (by kernel_rfl) (by kernel_rfl) (by kernel_rfl) (fun _ _ _ h => h) (by rfl) ?_ HX.out ?_
            rotate_left
            · (intro w hSw; (try dsimp only at hSw); obtain ⟨q1, q2, q3, q4⟩ := hSw;try simp only [List.getElem_toArray, List.getElem_cons_zero, List.getElem_cons_succ]; go_simp; try (with_reducible rfl))
            try simp only [List.setIfInBounds_toArray, List.set_cons_zero, List.set_cons_succ]
            refine held_take 5 21 (v := ?_) rfl rfl (by kernel_rfl) (by kernel_rfl) (by kernel_rfl) (fun _ _ _ h => h) (by rfl) ?_ HX.out ?_
            rotate_left
            · (intro w hSw; (try dsimp only at hSw); obtain ⟨q1, q2, q3, q4⟩ := hSw;try simp only [List.getElem_toArray, List.getElem_cons_zero, List.getElem_cons_succ]; go_simp; try (with_reducible rfl))
            try simp only [List.setIfInBounds_toArray, List.set_cons_zero, List.set_cons_succ]
            refine held_take 6 22 (v := ?_) rfl rfl (by kernel_rfl) (by kernel_rfl) (by kernel_rfl) (fun _ _ _ h => h) (by rfl) ?_ HX.out ?_
            rotate_left
            · (intro w hSw; (try dsimp only at hSw); obtain ⟨q1, q2, q3, q4⟩ := hSw;try simp only [List.getElem_toArray, List.getElem_cons_zero, List.getElem_cons_succ]; go_simp; try (with_reducible rfl))
            try simp only [List.setIfInBounds_toArray, List.set_cons_zero, List.set_cons_succ]
            refine held_take 7 23 (v := ?_) rfl rfl (by kernel_rfl) (by kernel_rfl) (by kernel_rfl) (fun _ _ _ h => h) (by rfl) ?_ HX.out ?_
            rotate_left
            · (intro w hSw; (try dsimp only at hSw); obtain ⟨q1, q2, q3, q4⟩ := hSw;try simp only [List.getElem_toArray, List.getElem_cons_zero, List.getElem_cons_succ]; go_simp; try (with_reducible rfl))
            try simp only [List.setIfInBounds_toArray, List.set_cons_zero, List.set_cons_succ]
            refine held_take 8 24 (v := ?_) rfl rfl (by kernel_rfl) (by kernel_rfl) (by kernel_rfl) (fun _ _ _ h => h) (by rfl) ?_ HX.out ?_
            rotate_left
            · (intro w hSw; (try dsimp only at hSw); obtain ⟨q1, q2, q3, q4⟩ := hSw;try simp only [List.getElem_toArray, List.getElem_cons_zero, List.getElem_cons_succ]; go_simp; try (with_reducible rfl))
            try simp only [List.setIfInBounds_toArray, List.set_cons_zero, List.set_cons_succ]
            refine held_take 9 25 (v := ?_) rfl rfl (by kernel_rfl) (by kernel_rfl) (by kernel_rfl) (fun _ _ _ h => h) (by rfl) ?_ HX.out ?_
            rotate_left
            · (intro w hSw; (try dsimp only at hSw); obtain ⟨q1, q2, q3, q4⟩ := hSw;try simp only [List.getElem_toArray, List.getElem_cons_zero, List.getElem_cons_succ]; go_simp; try (with_reducible rfl))
            try simp only [List.setIfInBounds_toArray, List.set_cons_zero, List.set_cons_succ]
            refine held_take 10 26 (v := ?_) rfl rfl (by kernel_rfl) (by kernel_rfl) (by kernel_rfl) (fun _ _ _ h => h) (by rfl) ?_ HX.out ?_
            rotate_left
            · (intro w hSw; (try dsimp only at hSw); obtain ⟨q1, q2, q3, q4⟩ := hSw;try simp only [List.getElem_toArray, List.getElem_cons_zero, List.getElem_cons_succ]; go_simp; try (with_reducible rfl))
            try simp only [List.setIfInBounds_toArray, List.set_cons_zero, List.set_cons_succ]
            refine held_take 11 27 (v := ?_) rfl rfl (by kernel_rfl) (by kernel_rfl) (by kernel_rfl) (fun _ _ _ h => h) (by rfl) ?_ HX.out ?_
            rotate_left
            · (intro w hSw; (try dsimp only at hSw); obtain ⟨q1, q2, q3, q4⟩ := hSw;try simp only [List.getElem_toArray, List.getElem_cons_zero, List.getElem_cons_succ]; go_simp; try (with_reducible rfl))
            try simp only [List.setIfInBounds_toArray, List.set_cons_zero, List.set_cons_succ]
            refine held_take 12 28 (v := ?_) rfl rfl (by kernel_rfl) (by kernel_rfl) (by kernel_rfl) (fun _ _ _ h => h) (by rfl) ?_ HX.out ?_
            rotate_left
            · (intro w hSw; (try dsimp only at hSw); obtain ⟨q1, q2, q3, q4⟩ := hSw;try simp only [List.getElem_toArray, List.getElem_cons_zero, List.getElem_cons_succ]; go_simp; try (with_reducible rfl))
            try simp only [List.setIfInBounds_toArray, List.set_cons_zero, List.set_cons_succ]
            refine held_take 13 29 (v := ?_) rfl rfl (by kernel_rfl) (by kernel_rfl) (by kernel_rfl) (fun _ _ _ h => h) (by rfl) ?_ HX.out ?_
            rotate_left
            · (intro w hSw; (try dsimp only at hSw); obtain ⟨q1, q2, q3, q4⟩ := hSw;try simp only [List.getElem_toArray, List.getElem_cons_zero, List.getElem_cons_succ]; go_simp; try (with_reducible rfl))
            try simp only [List.setIfInBounds_toArray, List.set_cons_zero, List.set_cons_succ]
            refine held_take 14 30 (v := ?_) rfl rfl (by kernel_rfl) (by kernel_rfl) (by kernel_rfl) (fun _ _ _ h => h) (by rfl) ?_ HX.out ?_
            rotate_left
            · (intro w hSw; (try dsimp only at hSw); obtain ⟨q1, q2, q3, q4⟩ := hSw;try simp only [List.getElem_toArray, List.getElem_cons_zero, List.getElem_cons_succ]; go_simp; try (with_reducible rfl))
            try simp only [List.setIfInBounds_toArray, List.set_cons_zero, List.set_cons_succ]
            refine held_take 15 31 (v := ?_) rfl rfl (by kernel_rfl) (by kernel_rfl) (by kernel_rfl) (fun _ _ _ h => h) (by rfl) ?_ HX.out ?_
            rotate_left
            · (intro w hSw; (try dsimp only at hSw); obtain ⟨q1, q2, q3, q4⟩ := hSw;try simp only [List.getElem_toArray, List.getElem_cons_zero, List.getElem_cons_succ]; go_simp; try (with_reducible rfl))
            try simp only [List.setIfInBounds_toArray, List.set_cons_zero, List.set_cons_succ]
            refine held_take 16 32 (v := ?_) rfl rfl (by kernel_rfl) (by kernel_rfl) (by kernel_rfl) (fun _ _ _ h => h) (by rfl) ?_ HX.out ?_
            rotate_left
            · (intro w hSw; (try dsimp only at hSw); obtain ⟨q1, q2, q3, q4⟩ := hSw;try simp only [List.getElem_toArray, List.getElem_cons_zero, List.getElem_cons_succ]; go_simp; try (with_reducible rfl))
            try simp only [List.setIfInBounds_toArray, List.set_cons_zero, List.set_cons_succ]
            refine held_take 17 33 (v := ?_) rfl rfl (by kernel_rfl) (by kernel_rfl) (by kernel_rfl) (fun _ _ _ h => h) (by rfl) ?_ HX.out ?_
            rotate_left
            · (intro w hSw; (try dsimp only at hSw); obtain ⟨q1, q2, q3, q4⟩ := hSw;try simp only [List.getElem_toArray, List.getElem_cons_zero, List.getElem_cons_succ]; go_simp; try (with_reducible rfl))
            try simp only [List.setIfInBounds_toArray, List.set_cons_zero, List.set_cons_succ]
            refine held_take 18 34 (v := ?_) rfl rfl (by kernel_rfl) (by kernel_rfl) (by kernel_rfl) (fun _ _ _ h => h) (by rfl) ?_ HX.out ?_
            rotate_left
            · (intro w hSw; (try dsimp only at hSw); obtain ⟨q1, q2, q3, q4⟩ := hSw;try simp only [List.getElem_toArray, List.getElem_cons_zero, List.getElem_cons_succ]; go_simp; try (with_reducible rfl))
            try simp only [List.setIfInBounds_toArray, List.set_cons_zero, List.set_cons_succ]
            refine held_take 19 35 (v := ?_) rfl rfl (by kernel_rfl) (by kernel_rfl) (by kernel_rfl) (fun _ _ _ h => h) (by rfl) ?_ HX.out ?_
            rotate_left
            · (intro w hSw; (try dsimp only at hSw); obtain ⟨q1, q2, q3, q4⟩ := hSw;try simp only [List.getElem_toArray, List.getElem_cons_zero, List.getElem_cons_succ]; go_simp; try (with_reducible rfl))
            try simp only [List.setIfInBounds_toArray, List.set_cons_zero, List.set_cons_succ]
            refine held_take 20 36 (v := ?_) rfl rfl (by kernel_rfl) (by kernel_rfl) (by kernel_rfl) (fun _ _ _ h => h) (by rfl) ?_ HX.out ?_
            rotate_left
            · (intro w hSw; (try dsimp only at hSw); obtain ⟨q1, q2, q3, q4⟩ := hSw;try simp only [List.getElem_toArray, List.getElem_cons_zero, List.getElem_cons_succ]; go_simp; try (with_reducible rfl))
            try simp only [List.setIfInBounds_toArray, List.set_cons_zero, List.set_cons_succ]
            refine held_take 21 37 (v := ?_) rfl rfl (by kernel_rfl) (by kernel_rfl) (by kernel_rfl) (fun _ _ _ h => h) (by rfl) ?_ HX.out ?_
            rotate_left
            · (intro w hSw; (try dsimp only at hSw); obtain ⟨q1, q2, q3, q4⟩ := hSw;try simp only [List.getElem_toArray, List.getElem_cons_zero, List.getElem_cons_succ]; go_simp; try (with_reducible rfl))
            try simp only [List.setIfInBounds_toArray, List.set_cons_zero, List.set_cons_succ]
            refine held_take 22 38 (v := ?_) rfl rfl (by kernel_rfl) (by kernel_rfl) (by kernel_rfl) (fun _ _ _ h => h) (by rfl) ?_ HX.out ?_
            rotate_left
            · (intro w hSw; (try dsimp only at hSw); obtain ⟨q1, q2, q3, q4⟩ := hSw;try simp only [List.getElem_toArray, List.getElem_cons_zero, List.getElem_cons_succ]; go_simp; try (with_reducible rfl))
            try simp only [List.setIfInBounds_toArray, List.set_cons_zero, List.set_cons_succ]
            refine held_take 23 39 (v := ?_) rfl rfl (by kernel_rfl) (by kernel_rfl) (by kernel_rfl) (fun _ _ _ h => h) (by rfl) ?_ HX.out ?_
            rotate_left
            · (intro w hSw; (try dsimp only at hSw); obtain ⟨q1, q2, q3, q4⟩ := hSw;try simp only [List.getElem_toArray, List.getElem_cons_zero, List.getElem_cons_succ]; go_simp; try (with_reducible rfl))
            try simp only [List.setIfInBounds_toArray, List.set_cons_zero, List.set_cons_succ]
            refine wpAnyH_done (by kernel_rfl) ?_ _
            go_wp2
            go_ret
            rw [HF.out]
            exact ⟨rfl, HB.out.drew⟩
        · have hd2 : decide (a = c) = false := decide_eq_false h1
          have hd3 : (a == c) = false := by simpa using h1
          have hd4 : (a != c) = true := by simpa [bne] using h1
          have hd5 : decide (¬ a = c) = true := decide_eq_true h1
          have HF := Lib.hid (show smD n n F G = false from decide_eq_false (fun e => h1 (HE.out.1 (e.2 i hlt)).1))
          go_upto_region 6 with fail
          refine wp_region_held_drew (S := (fun w' => w'.cell? ⟨b1, o1 + i * 2, none⟩ = some (.int .i64 a) ∧ w'.cell? ⟨b1, o1 + i * 2 + 1, none⟩ = some (.int .u64 s) ∧ w'.cell? ⟨b2, o2 + i * 2, none⟩ = some (.int .i64 c) ∧ w'.cell? ⟨b2, o2 + i * 2 + 1, none⟩ = some (.int .u64 d))) (by kernel_rfl) HX.out (fun _ => ?_)
          refine held_take 0 16 (v := ?_) rfl rfl (by kernel_rfl) (by kernel_rfl) (by kernel_rfl) (fun _ _ _ h => h) (by rfl) ?_ HX.out ?_
          rotate_left
          · (intro w hSw; (try dsimp only at hSw); obtain ⟨q1, q2, q3, q4⟩ := hSw;try simp only [List.getElem_toArray, List.getElem_cons_zero, List.getElem_cons_succ]; go_simp; try (with_reducible rfl))
          try simp only [List.setIfInBounds_toArray, List.set_cons_zero, List.set_cons_succ]
          refine held_take 1 17 (v := ?_) rfl rfl (by kernel_rfl) (by kernel_rfl) (by kernel_rfl) (fun _ _ _ h => h) (by rfl) ?_ HX.out ?_
          rotate_left
          · (intro w hSw; (try dsimp only at hSw); obtain ⟨q1, q2, q3, q4⟩ := hSw;try simp only [List.getElem_toArray, List.getElem_cons_zero, List.getElem_cons_succ]; go_simp; try (with_reducible rfl))
          try simp only [List.setIfInBounds_toArray, List.set_cons_zero, List.set_cons_succ]
          refine held_take 2 18 (v := ?_) rfl rfl (by kernel_rfl) (by kernel_rfl) (by kernel_rfl) (fun _ _ _ h => h) (by rfl) ?_ HX.out ?_
          rotate_left
          · (intro w hSw; (try dsimp only at hSw); obtain ⟨q1, q2, q3, q4⟩ := hSw;try simp only [List.getElem_toArray, List.getElem_cons_zero, List.getElem_cons_succ]; go_simp; try (with_reducible rfl))
          try simp only [List.setIfInBounds_toArray, List.set_cons_zero, List.set_cons_succ]
          refine held_take 3 19 (v := ?_) rfl rfl (by kernel_rfl) (by kernel_rfl) (by kernel_rfl) (fun _ _ _ h => h) (by rfl) ?_ HX.out ?_
          rotate_left
          · (intro w hSw; (try dsimp only at hSw); obtain ⟨q1, q2, q3, q4⟩ := hSw;try simp only [List.getElem_toArray, List.getElem_cons_zero, List.getElem_cons_succ]; go_simp; try (with_reducible rfl))
          try simp only [List.setIfInBounds_toArray, List.set_cons_zero, List.set_cons_succ]
          refine held_take 4 20 (v := ?_) rfl rfl (by kernel_rfl) (by kernel_rfl) (by kernel_rfl) (fun _ _ _ h => h) (by rfl) ?_ HX.out ?_
          rotate_left
          · (intro w hSw; (try dsimp only at hSw); obtain ⟨q1, q2, q3, q4⟩ := hSw;try simp only [List.getElem_toArray, List.getElem_cons_zero, List.getElem_cons_succ]; go_simp; try (with_reducible rfl))
          try simp only [List.setIfInBounds_toArray, List.set_cons_zero, List.set_cons_succ]
          refine held_take 5 21 (v := ?_) rfl rfl (by kernel_rfl) (by kernel_rfl) (by kernel_rfl) (fun _ _ _ h => h) (by rfl) ?_ HX.out ?_
          rotate_left
          · (intro w hSw; (try dsimp only at hSw); obtain ⟨q1, q2, q3, q4⟩ := hSw;try simp only [List.getElem_toArray, List.getElem_cons_zero, List.getElem_cons_succ]; go_simp; try (with_reducible rfl))
          try simp only [List.setIfInBounds_toArray, List.set_cons_zero, List.set_cons_succ]
          refine held_take 6 22 (v := ?_) rfl rfl (by kernel_rfl) (by kernel_rfl) (by kernel_rfl) (fun _ _ _ h => h) (by rfl) ?_ HX.out ?_
          rotate_left
          · (intro w hSw; (try dsimp only at hSw); obtain ⟨q1, q2, q3, q4⟩ := hSw;try simp only [List.getElem_toArray, List.getElem_cons_zero, List.getElem_cons_succ]; go_simp; try (with_reducible rfl))
          try simp only [List.setIfInBounds_toArray, List.set_cons_zero, List.set_cons_succ]
          refine held_take 7 23 (v := ?_) rfl rfl (by kernel_rfl) (by kernel_rfl) (by kernel_rfl) (fun _ _ _ h => h) (by rfl) ?_ HX.out ?_
          rotate_left
          · (intro w hSw; (try dsimp only at hSw); obtain ⟨q1, q2, q3, q4⟩ := hSw;try simp only [List.getElem_toArray, List.getElem_cons_zero, List.getElem_cons_succ]; go_simp; try (with_reducible rfl))
          try simp only [List.setIfInBounds_toArray, List.set_cons_zero, List.set_cons_succ]
          refine held_take 8 24 (v := ?_) rfl rfl (by kernel_rfl) (by kernel_rfl) (by kernel_rfl) (fun _ _ _ h => h) (by rfl) ?_ HX.out ?_
          rotate_left
          · (intro w hSw; (try dsimp only at hSw); obtain ⟨q1, q2, q3, q4⟩ := hSw;try simp only [List.getElem_toArray, List.getElem_cons_zero, List.getElem_cons_succ]; go_simp; try (with_reducible rfl))
          try simp only [List.setIfInBounds_toArray, List.set_cons_zero, List.set_cons_succ]
          refine held_take 9 25 (v := ?_) rfl rfl (by kernel_rfl) (by kernel_rfl) (by kernel_rfl) (fun _ _ _ h => h) (by rfl) ?_ HX.out ?_
          rotate_left
          · (intro w hSw; (try dsimp only at hSw); obtain ⟨q1, q2, q3, q4⟩ := hSw;try simp only [List.getElem_toArray, List.getElem_cons_zero, List.getElem_cons_succ]; go_simp; try (with_reducible rfl))
          try simp only [List.setIfInBounds_toArray, List.set_cons_zero, List.set_cons_succ]
          refine held_take 10 26 (v := ?_) rfl rfl (by kernel_rfl) (by kernel_rfl) (by kernel_rfl) (fun _ _ _ h => h) (by rfl) ?_ HX.out ?_
          rotate_left
          · (intro w hSw; (try dsimp only at hSw); obtain ⟨q1, q2, q3, q4⟩ := hSw;try simp only [List.getElem_toArray, List.getElem_cons_zero, List.getElem_cons_succ]; go_simp; try (with_reducible rfl))
          try simp only [List.setIfInBounds_toArray, List.set_cons_zero, List.set_cons_succ]
          refine held_take 11 27 (v := ?_) rfl rfl (by kernel_rfl) (by kernel_rfl) (by kernel_rfl) (fun _ _ _ h => h) (by rfl) ?_ HX.out ?_
          rotate_left
          · (intro w hSw; (try dsimp only at hSw); obtain ⟨q1, q2, q3, q4⟩ := hSw;try simp only [List.getElem_toArray, List.getElem_cons_zero, List.getElem_cons_succ]; go_simp; try (with_reducible rfl))
          try simp only [List.setIfInBounds_toArray, List.set_cons_zero, List.set_cons_succ]
          refine held_skip 12 28 rfl rfl (by kernel_rfl) (by kernel_rfl) (by kernel_rfl) (fun _ _ _ h => h) (by rfl) HX.out ?_
          try simp only [List.setIfInBounds_toArray, List.set_cons_zero, List.set_cons_succ]
          refine held_skip 13 29 rfl rfl (by kernel_rfl) (by kernel_rfl) (by kernel_rfl) (fun _ _ _ h => h) (by rfl) HX.out ?_
          try simp only [List.setIfInBounds_toArray, List.set_cons_zero, List.set_cons_succ]
          refine held_skip 14 30 rfl rfl (by kernel_rfl) (by kernel_rfl) (by kernel_rfl) (fun _ _ _ h => h) (by rfl) HX.out ?_
          try simp only [List.setIfInBounds_toArray, List.set_cons_zero, List.set_cons_succ]
          refine held_skip 15 31 rfl rfl (by kernel_rfl) (by kernel_rfl) (by kernel_rfl) (fun _ _ _ h => h) (by rfl) HX.out ?_
          try simp only [List.setIfInBounds_toArray, List.set_cons_zero, List.set_cons_succ]
          refine held_skip 16 32 rfl rfl (by kernel_rfl) (by kernel_rfl) (by kernel_rfl) (fun _ _ _ h => h) (by rfl) HX.out ?_
          try simp only [List.setIfInBounds_toArray, List.set_cons_zero, List.set_cons_succ]
          refine held_skip 17 33 rfl rfl (by kernel_rfl) (by kernel_rfl) (by kernel_rfl) (fun _ _ _ h => h) (by rfl) HX.out ?_
          try simp only [List.setIfInBounds_toArray, List.set_cons_zero, List.set_cons_succ]
          refine held_skip 18 34 rfl rfl (by kernel_rfl) (by kernel_rfl) (by kernel_rfl) (fun _ _ _ h => h) (by rfl) HX.out ?_
          try simp only [List.setIfInBounds_toArray, List.set_cons_zero, List.set_cons_succ]
          refine held_skip 19 35 rfl rfl (by kernel_rfl) (by kernel_rfl) (by kernel_rfl) (fun _ _ _ h => h) (by rfl) HX.out ?_
          try simp only [List.setIfInBounds_toArray, List.set_cons_zero, List.set_cons_succ]
          refine held_skip 20 36 rfl rfl (by kernel_rfl) (by kernel_rfl) (by kernel_rfl) (fun _ _ _ h => h) (by rfl) HX.out ?_
          try simp only [List.setIfInBounds_toArray, List.set_cons_zero, List.set_cons_succ]
          refine held_skip 21 37 rfl rfl (by kernel_rfl) (by kernel_rfl) (by kernel_rfl) (fun _ _ _ h => h) (by rfl) HX.out ?_
          try simp only [List.setIfInBounds_toArray, List.set_cons_zero, List.set_cons_succ]
          refine held_skip 22 38 rfl rfl (by kernel_rfl) (by kernel_rfl) (by kernel_rfl) (fun _ _ _ h => h) (by rfl) HX.out ?_
          try simp only [List.setIfInBounds_toArray, List.set_cons_zero, List.set_cons_succ]
          refine held_take 23 39 (v := ?_) rfl rfl (by kernel_rfl) (by kernel_rfl) (by kernel_rfl) (fun _ _ _ h => h) (by rfl) ?_ HX.out ?_
          rotate_left
          · (intro w hSw; (try dsimp only at hSw); obtain ⟨q1, q2, q3, q4⟩ := hSw;try simp only [List.getElem_toArray, List.getElem_cons_zero, List.getElem_cons_succ]; go_simp; try (with_reducible rfl))
          try simp only [List.setIfInBounds_toArray, List.set_cons_zero, List.set_cons_succ]
          refine wpAnyH_done (by kernel_rfl) ?_ _
          go_wp2
          go_ret
          rw [HF.out]
          exact ⟨rfl, HB.out.drew⟩
      · obtain rfl : i = n := by omega
        have hii : ¬ (i : Int) < (i : Int) := by omega
        have HF := Lib.hid (show smD i i F G = true from decide_eq_true ⟨rfl, HQ.out⟩)
        go_wp2
        go_ret
        rw [HF.out]
        exact ⟨rfl, HB.out⟩
  · have h1 : ¬ (n : Int) = (m : Int) := by omega
    have h2 : ((n : Int) == (m : Int)) = false := by simpa using h1
    have h3 : decide ((n : Int) = (m : Int)) = false := decide_eq_false h1
    have HF := Lib.hid (show smD n m F G = false from decide_eq_false (fun e => hnm e.1))
    go_enter Tryz.func10, Tryz.ntmps10
    go_wp2
    go_ret
    rw [HF.out]
    exact ⟨rfl, Below.refl _ _⟩
end Dig
end Go.Proofs.YtdcbbjlbfghpbaaGreat
