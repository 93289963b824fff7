/-
  The walk of the law GraphTriangle. Conditions: none.
-/
import Derived.Test.YtbghebncmfjgiaaLinks
import Derived.Test.YtbghebncmfjgiaaHeld
namespace Go.Proofs.Ytbghebncmfjgiaa
open Go Go.RowKit
set_option linter.unusedVariables false
set_option linter.unusedSimpArgs false
namespace GraphTriangle
open GG
theorem isg_drew {w : World} {g n : Nat} {c : Nat → Nat → Int} (h : IsG w g n c) : IsG w.drew g n c := ⟨h.blk, h.n1, h.n6⟩
theorem cst_nat {n : Nat} {c : Nat → Nat → Int} {a b : Nat} (ha : a < n) (hb : b < n) : cst n c (a : Int) (b : Int) = c a b := by
  unfold cst
  rw [if_pos ⟨by simp [ok]; omega, by simp [ok]; omega⟩]
  rfl
attribute [local irreducible] lnk lnc Far Row cst
set_option maxRecDepth 100000 in
set_option maxHeartbeats 16000000 in
theorem walk (n0 : Int) (v1 : Value) (w : World) (_ : (Lit.int .i64 n0).wf = true) (h1 : IsLs w v1) : Calls Try.prog 4 #[.int .i64 n0, v1] w fun e w' => e = .returned (.bool true) ∧ Below w.heap.size w w' := by
  obtain ⟨A, m, cap, LA, LB, LC, rfl, hm, hL⟩ := h1
  have HL := Lib.hid hL
  clear hL
  unfold maxLen at hm
  obtain ⟨n, hn1, hn6, hn⟩ := rem6 n0
  have hn' : IntKind.i64.wrap (1 + (IntKind.u64.wrap n0).tmod 6) = (n : Int) := by rw [← hn]; exact IntWalk.i64_in _ (by omega)
  have hnr : IntKind.i64.wrap ((IntKind.u64.wrap n0).tmod 6) = (IntKind.u64.wrap n0).tmod 6 := IntWalk.i64_in _ (by omega)
  have hn0 : (0 : Int) ≤ (n : Int) := by omega
  have hn2 := hn.symm
  have HG0 := Lib.hid (new_isG w n hn1 hn6)
  have HB0 := Lib.hid ((Below.refl w.heap.size w).alloc (Nat.le_refl _) (.cells (#[Value.int .i64 n] ++ Array.replicate 36 (.int .i64 0)) 50))
  clear hn
  by_cases hbig : (100 : Int) < (m : Int)
  · go_enter Try.func4, Try.ntmps4
    go_wp2_with (first
      | (go_at_call 10; refine (new_any n w (by omega) (by omega)).mono ?_; rintro e w1 ⟨rfl, hw1⟩; have HG := Lib.hid (show IsG w1 w.heap.size n (fun _ _ => 0) from hw1 ▸ HG0.out); have HB := Lib.hid (show Below w.heap.size w w1 from hw1 ▸ HB0.out); clear hw1)
      | (go_at_call 9; with_reducible refine (awake_any w1).mono ?_; rintro e w2 ⟨rfl, hb⟩; have HG2 := Lib.hid (HG.out.keep hb); have HB2 := Lib.hid (HB.out.trans (hb.mono HB.out.size)); clear hb)
      | (go_at_call 9; with_reducible refine (awake_any w2).mono ?_; rintro e w3 ⟨rfl, hb⟩; have HB3 := Lib.hid (HB2.out.trans (hb.mono HB2.out.size)); clear hb))
    go_ret
    exact ⟨rfl, HB3.out⟩
  · go_enter Try.func4, Try.ntmps4
    go_upto_region 6 with (first
      | (go_at_call 10; refine (new_any n w (by omega) (by omega)).mono ?_; rintro e w1 ⟨rfl, hw1⟩; have HG := Lib.hid (show IsG w1 w.heap.size n (fun _ _ => 0) from hw1 ▸ HG0.out); have HB := Lib.hid (show Below w.heap.size w w1 from hw1 ▸ HB0.out); clear hw1)
      | (go_at_call 9; with_reducible refine (awake_any w1).mono ?_; rintro e w2 ⟨rfl, hb⟩; have HG2 := Lib.hid (HG.out.keep hb); have HB2 := Lib.hid (HB.out.trans (hb.mono HB.out.size)); clear hb))
    go_loopw [42] (fun s42 wr => ∃ (k : Nat) (c : Nat → Nat → Int), k ≤ m ∧ s42 = .int .i64 k ∧ GG.Good c ∧ IsG wr w.heap.size n c ∧ Below w.heap.size w wr) (fun s42 _ => m - (intOf s42).toNat)
    case atStart => exact ⟨0, _, by omega, rfl, good_zero, HG2.out, HB2.out⟩
    case round =>
      obtain ⟨k, c, hk, rfl, hgood, hg, hb⟩ := hrel
      have HGC := Lib.hid hgood
      have HGG := Lib.hid hg
      have HBB := Lib.hid hb
      clear hgood hg hb
      by_cases hlt : k < m
      · have hlt' : (k : Int) < (m : Int) := by omega
        have k00 : (0 : Int) ≤ (k : Int) := by omega
        obtain ⟨bo, oo, rfl, _, hc0, hc1, hc2⟩ := HL.out k hlt
        have x0 := later HBB.out hc0
        have x1 := later HBB.out hc1
        have x2 := later HBB.out hc2
        clear hc0 hc1 hc2
        have bal : Below wr.heap.size wr (wr.alloc (.cells #[.int .i64 (LA k), .int .i64 (LB k), .int .i64 (LC k)] 31)) := (Below.refl _ _).alloc (Nat.le_refl _) _
        have HGo := Lib.hid (HGG.out.keep bal)
        have HBo := Lib.hid (HBB.out.trans (bal.mono HBB.out.size))
        clear bal
        go_wp2_with (go_at_call 12; refine (link_any w.heap.size n c (LA k) (LB k) (LC k) (wr.alloc (.cells #[.int .i64 (LA k), .int .i64 (LB k), .int .i64 (LC k)] 31)) HGo.out).mono ?_; rintro e w3 ⟨rfl, hg3, ho3⟩; have HG3 := Lib.hid hg3; have HB3 := Lib.hid (below_only HBo.out (Nat.le_refl _) ho3); clear hg3 ho3)
        go_roundw
        case rel => exact ⟨k + 1, _, by omega, by go_num, good_lnc HGC.out _ _ _, HG3.out, HB3.out⟩
        case measure => simp [intOf]; omega
      · obtain rfl : k = m := by omega
        obtain ⟨W, hW⟩ : ∃ W, W = wr := ⟨_, rfl⟩
        subst hW
        go_upto_region 11 with fail
        go_loopw [56] (fun s56 wr => ∃ a : Nat, a ≤ n ∧ s56 = .int .i64 a ∧ Below W.heap.size W wr) (fun s56 _ => n - (intOf s56).toNat)
        case atStart => exact ⟨0, by omega, rfl, Below.refl _ _⟩
        case round =>
          obtain ⟨a, ha, rfl, hba⟩ := hrel
          have HBA := Lib.hid hba
          clear hba
          by_cases hla : a < n
          · have hla' : (a : Int) < (n : Int) := by omega
            have a00 : (0 : Int) ≤ (a : Int) := by omega
            have HGA := Lib.hid (HGG.out.keep HBA.out)
            go_upto_region 15 with (go_at_call 14; refine (far_ok w.heap.size n c a wr HGA.out hla HGC.out.sym HGC.out.low HGC.out.high).mono ?_; rintro e w3 ⟨⟨ga, Fa, rfl, _, hfa, hia⟩, hb⟩; have HFA := Lib.hid hfa; have HIA := Lib.hid hia; have HB3 := Lib.hid (HBA.out.trans (hb.mono HBA.out.size)); have HG3 := Lib.hid (HGA.out.keep hb); clear hfa hia hb)
            go_loopw [63] (fun s63 wr => ∃ b : Nat, b ≤ n ∧ s63 = .int .i64 b ∧ Below w3.heap.size w3 wr) (fun s63 _ => n - (intOf s63).toNat)
            case atStart => exact ⟨0, by omega, rfl, Below.refl _ _⟩
            case round =>
              obtain ⟨b, hb, rfl, hbb⟩ := hrel
              have HBW := Lib.hid hbb
              clear hbb
              by_cases hlb : b < n
              · have hlb' : (b : Int) < (n : Int) := by omega
                have b00 : (0 : Int) ≤ (b : Int) := by omega
                go_upto_region 17 with fail
                have HW := Lib.hid (below_drew HBW.out)
                have HGW := Lib.hid (show IsG wr.drew w.heap.size n c from (HG3.out.keep HW.out))
                have y1 : wr.drew.cell? ⟨ga, b, none⟩ = some (.int .i64 (Fa b)) := later HW.out (HFA.out.cell b hlb)
                obtain ⟨e0, he0, he1⟩ : ∃ e : Bool, (Fa b == 0) = e ∧ ((a : Int) == (b : Int)) = e := by
                  by_cases e : a = b
                  · subst e; exact ⟨true, by rw [HIA.out.zero]; rfl, by simp⟩
                  · exact ⟨false, by have := HIA.out.pos b hlb (fun h => e h.symm); simp only [beq_eq_false_iff_ne, ne_eq]; omega, by simp only [beq_eq_false_iff_ne, ne_eq]; omega⟩
                have hby : (Fa b == 65535) = false → e0 = false → ∃ k, k < n ∧ 0 < c b k ∧ Fa b = Fa k + c b k := by
                  intro h1 h2
                  have hne : b ≠ a := fun e => by subst e; rw [← he1] at h2; simp at h2
                  rcases HIA.out.by_ b hlb hne with h | h
                  · rw [h] at h1; cases h1
                  · exact h
                have HBY := Lib.hid hby
                have hxl := HIA.out.low b hlb
                have hxh := HIA.out.high b hlb
                obtain ⟨x, hx⟩ : ∃ x, Fa b = x := ⟨_, rfl⟩
                rw [hx] at y1 he0 hxl hxh
                have HXX := Lib.hid hx
                clear hby hx
                refine wp_region_held_drew (S := (fun w' => w'.cell? ⟨ga, b, none⟩ = some (.int .i64 x))) (by kernel_rfl) y1 (fun _ => ?_)
                refine held_take 0 66 (v := ?_) rfl rfl (by kernel_rfl) (by kernel_rfl) (by kernel_rfl) (fun _ _ _ h => h) (by rfl) ?_ y1 ?_
                rotate_left
                · (intro w hSw; (try dsimp only at hSw); try simp only [List.getElem_toArray, List.getElem_cons_zero, List.getElem_cons_succ]; go_simp; try (with_reducible rfl))
                try simp only [List.setIfInBounds_toArray, List.set_cons_zero, List.set_cons_succ]
                refine held_take 1 67 (v := ?_) rfl rfl (by kernel_rfl) (by kernel_rfl) (by kernel_rfl) (fun _ _ _ h => h) (by rfl) ?_ y1 ?_
                rotate_left
                · (intro w hSw; (try dsimp only at hSw); try simp only [List.getElem_toArray, List.getElem_cons_zero, List.getElem_cons_succ]; go_simp; try (with_reducible rfl))
                try simp only [List.setIfInBounds_toArray, List.set_cons_zero, List.set_cons_succ]
                refine held_take 2 68 (v := ?_) rfl rfl (by kernel_rfl) (by kernel_rfl) (by kernel_rfl) (fun _ _ _ h => h) (by rfl) ?_ y1 ?_
                rotate_left
                · (intro w hSw; (try dsimp only at hSw); try simp only [List.getElem_toArray, List.getElem_cons_zero, List.getElem_cons_succ]; go_simp; try (with_reducible rfl))
                try simp only [List.setIfInBounds_toArray, List.set_cons_zero, List.set_cons_succ]
                refine held_take 3 69 (v := ?_) rfl rfl (by kernel_rfl) (by kernel_rfl) (by kernel_rfl) (fun _ _ _ h => h) (by rfl) ?_ y1 ?_
                rotate_left
                · (intro w hSw; (try dsimp only at hSw); try simp only [List.getElem_toArray, List.getElem_cons_zero, List.getElem_cons_succ]; go_simp; try (with_reducible rfl))
                try simp only [List.setIfInBounds_toArray, List.set_cons_zero, List.set_cons_succ]
                refine held_take 4 70 (v := ?_) rfl rfl (by kernel_rfl) (by kernel_rfl) (by kernel_rfl) (fun _ _ _ h => h) (by rfl) ?_ y1 ?_
                rotate_left
                · (intro w hSw; (try dsimp only at hSw); try simp only [List.getElem_toArray, List.getElem_cons_zero, List.getElem_cons_succ]; go_simp; try (with_reducible rfl))
                try simp only [List.setIfInBounds_toArray, List.set_cons_zero, List.set_cons_succ]
                refine held_take 5 71 (v := ?_) rfl rfl (by kernel_rfl) (by kernel_rfl) (by kernel_rfl) (fun _ _ _ h => h) (by rfl) ?_ y1 ?_
                rotate_left
                · (intro w hSw; (try dsimp only at hSw); try simp only [List.getElem_toArray, List.getElem_cons_zero, List.getElem_cons_succ]; go_simp; try (with_reducible rfl))
                try simp only [List.setIfInBounds_toArray, List.set_cons_zero, List.set_cons_succ]
                refine held_take 7 73 (v := ?_) rfl rfl (by kernel_rfl) (by kernel_rfl) (by kernel_rfl) (fun _ _ _ h => h) (by rfl) ?_ y1 ?_
                rotate_left
                · (intro w hSw; (try dsimp only at hSw); try simp only [List.getElem_toArray, List.getElem_cons_zero, List.getElem_cons_succ]; go_simp; try (with_reducible rfl))
                try simp only [List.setIfInBounds_toArray, List.set_cons_zero, List.set_cons_succ]
                refine held_call 6 72 rfl rfl (by kernel_rfl) (by rfl) (fun K hK => ?_)
                try simp only [List.getElem_toArray, List.getElem_cons_zero, List.getElem_cons_succ]
                go_simp
                (go_at_call 14; refine (far_ok w.heap.size n c b wr.drew HGW.out hlb HGC.out.sym HGC.out.low HGC.out.high).mono ?_; rintro e w5 ⟨⟨gb, Fb, rfl, _, hfb, hib⟩, hbz⟩; have y1 := later hbz y1; have HW := Lib.hid (HW.out.trans (hbz.mono HW.out.size)); have HGW := Lib.hid (HGW.out.keep hbz); have z1 : w5.cell? ⟨gb, a, none⟩ = some (.int .i64 x) := (by (have h := hfb.cell a hla; rw [← HIA.out.sym HGC.out.sym hib hla hlb, HXX.out] at h; exact h)); clear hfb hbz)
                try go_wp2_with fail
                try simp only [Act.put, List.setIfInBounds_toArray, List.set_cons_zero, List.set_cons_succ]
                refine hK.out _ _ _ y1 ?_
                clear hK K
                refine held_mono (S' := (fun w' => w'.cell? ⟨gb, a, none⟩ = some (.int .i64 x) ∧ w'.cell? ⟨ga, b, none⟩ = some (.int .i64 x))) (fun _ h => h.2) _ _ _ _ ?_
                refine held_take 8 74 (v := ?_) rfl rfl (by kernel_rfl) (by kernel_rfl) (by kernel_rfl) (fun _ _ _ h => h) (by rfl) ?_ ⟨z1, y1⟩ ?_
                rotate_left
                · (intro w hSw; (try dsimp only at hSw); try simp only [List.getElem_toArray, List.getElem_cons_zero, List.getElem_cons_succ]; go_simp; try (with_reducible rfl))
                try simp only [List.setIfInBounds_toArray, List.set_cons_zero, List.set_cons_succ]
                refine held_take 9 75 (v := ?_) rfl rfl (by kernel_rfl) (by kernel_rfl) (by kernel_rfl) (fun _ _ _ h => h) (by rfl) ?_ ⟨z1, y1⟩ ?_
                rotate_left
                · (intro w hSw; (try dsimp only at hSw); try simp only [List.getElem_toArray, List.getElem_cons_zero, List.getElem_cons_succ]; go_simp; try (with_reducible rfl))
                try simp only [List.setIfInBounds_toArray, List.set_cons_zero, List.set_cons_succ]
                refine held_take 10 76 (v := ?_) rfl rfl (by kernel_rfl) (by kernel_rfl) (by kernel_rfl) (fun _ _ _ h => h) (by rfl) ?_ ⟨z1, y1⟩ ?_
                rotate_left
                · (intro w hSw; (try dsimp only at hSw); try simp only [List.getElem_toArray, List.getElem_cons_zero, List.getElem_cons_succ]; go_simp; try (with_reducible rfl))
                try simp only [List.setIfInBounds_toArray, List.set_cons_zero, List.set_cons_succ]
                refine held_take 11 77 (v := ?_) rfl rfl (by kernel_rfl) (by kernel_rfl) (by kernel_rfl) (fun _ _ _ h => h) (by rfl) ?_ ⟨z1, y1⟩ ?_
                rotate_left
                · (intro w hSw; (try dsimp only at hSw); try simp only [List.getElem_toArray, List.getElem_cons_zero, List.getElem_cons_succ]; go_simp; try (with_reducible rfl))
                try simp only [List.setIfInBounds_toArray, List.set_cons_zero, List.set_cons_succ]
                refine held_take 12 78 (v := ?_) rfl rfl (by kernel_rfl) (by kernel_rfl) (by kernel_rfl) (fun _ _ _ h => h) (by rfl) ?_ ⟨z1, y1⟩ ?_
                rotate_left
                · (intro w hSw; (try dsimp only at hSw); try simp only [List.getElem_toArray, List.getElem_cons_zero, List.getElem_cons_succ]; go_simp; try (with_reducible rfl))
                try simp only [List.setIfInBounds_toArray, List.set_cons_zero, List.set_cons_succ]
                refine held_take 13 79 (v := ?_) rfl rfl (by kernel_rfl) (by kernel_rfl) (by kernel_rfl) (fun _ _ _ h => h) (by rfl) ?_ ⟨z1, y1⟩ ?_
                rotate_left
                · (intro w hSw; (try dsimp only at hSw); try simp only [List.getElem_toArray, List.getElem_cons_zero, List.getElem_cons_succ]; go_simp; try (with_reducible rfl))
                try simp only [List.setIfInBounds_toArray, List.set_cons_zero, List.set_cons_succ]
                refine held_take 14 80 (v := ?_) rfl rfl (by kernel_rfl) (by kernel_rfl) (by kernel_rfl) (fun _ _ _ h => h) (by rfl) ?_ ⟨z1, y1⟩ ?_
                rotate_left
                · (intro w hSw; (try dsimp only at hSw); try simp only [List.getElem_toArray, List.getElem_cons_zero, List.getElem_cons_succ]; go_simp; try (with_reducible rfl))
                try simp only [List.setIfInBounds_toArray, List.set_cons_zero, List.set_cons_succ]
                refine held_take 15 81 (v := ?_) rfl rfl (by kernel_rfl) (by kernel_rfl) (by kernel_rfl) (fun _ _ _ h => h) (by rfl) ?_ ⟨z1, y1⟩ ?_
                rotate_left
                · (intro w hSw; (try dsimp only at hSw); try simp only [List.getElem_toArray, List.getElem_cons_zero, List.getElem_cons_succ]; go_simp; try (with_reducible rfl))
                try simp only [List.setIfInBounds_toArray, List.set_cons_zero, List.set_cons_succ]
                refine held_take 16 82 (v := ?_) rfl rfl (by kernel_rfl) (by kernel_rfl) (by kernel_rfl) (fun _ _ _ h => h) (by rfl) ?_ ⟨z1, y1⟩ ?_
                rotate_left
                · (intro w hSw; (try dsimp only at hSw); try simp only [List.getElem_toArray, List.getElem_cons_zero, List.getElem_cons_succ]; go_simp; try (with_reducible rfl))
                try simp only [List.setIfInBounds_toArray, List.set_cons_zero, List.set_cons_succ]
                refine held_take 17 83 (v := ?_) rfl rfl (by kernel_rfl) (by kernel_rfl) (by kernel_rfl) (fun _ _ _ h => h) (by rfl) ?_ ⟨z1, y1⟩ ?_
                rotate_left
                · (intro w hSw; (try dsimp only at hSw); try simp only [List.getElem_toArray, List.getElem_cons_zero, List.getElem_cons_succ]; go_simp; try (with_reducible rfl))
                try simp only [List.setIfInBounds_toArray, List.set_cons_zero, List.set_cons_succ]
                refine held_take 18 84 (v := ?_) rfl rfl (by kernel_rfl) (by kernel_rfl) (by kernel_rfl) (fun _ _ _ h => h) (by rfl) ?_ ⟨z1, y1⟩ ?_
                rotate_left
                · (intro w hSw; (try dsimp only at hSw); try simp only [List.getElem_toArray, List.getElem_cons_zero, List.getElem_cons_succ]; go_simp; try (with_reducible rfl))
                try simp only [List.setIfInBounds_toArray, List.set_cons_zero, List.set_cons_succ]
                refine held_take 19 85 (v := ?_) rfl rfl (by kernel_rfl) (by kernel_rfl) (by kernel_rfl) (fun _ _ _ h => h) (by rfl) ?_ ⟨z1, y1⟩ ?_
                rotate_left
                · (intro w hSw; (try dsimp only at hSw); try simp only [List.getElem_toArray, List.getElem_cons_zero, List.getElem_cons_succ]; go_simp; try (with_reducible rfl))
                try simp only [List.setIfInBounds_toArray, List.set_cons_zero, List.set_cons_succ]
                refine held_take 20 86 (v := ?_) rfl rfl (by kernel_rfl) (by kernel_rfl) (by kernel_rfl) (fun _ _ _ h => h) (by rfl) ?_ ⟨z1, y1⟩ ?_
                rotate_left
                · (intro w hSw; (try dsimp only at hSw); try simp only [List.getElem_toArray, List.getElem_cons_zero, List.getElem_cons_succ]; go_simp; try (with_reducible rfl))
                try simp only [List.setIfInBounds_toArray, List.set_cons_zero, List.set_cons_succ]
                refine held_take 21 87 (v := ?_) rfl rfl (by kernel_rfl) (by kernel_rfl) (by kernel_rfl) (fun _ _ _ h => h) (by rfl) ?_ ⟨z1, y1⟩ ?_
                rotate_left
                · (intro w hSw; (try dsimp only at hSw); try simp only [List.getElem_toArray, List.getElem_cons_zero, List.getElem_cons_succ]; go_simp; try (with_reducible rfl))
                try simp only [List.setIfInBounds_toArray, List.set_cons_zero, List.set_cons_succ]
                refine wpAnyH_done (by kernel_rfl) ?_ _
                have HFB := Lib.hid hib
                clear hib z1 y1
                go_upto_region 19 with fail
                have y1 := later HW.out (HFA.out.cell b hlb)
                rw [HXX.out] at y1
                go_cut [12] from 88 to 97 (fun s12 wx => wx = w5 ∧ ∃ f : Bool, s12 = .bool f ∧ (f = false → (x == 65535) = false ∧ e0 = false))
                case first =>
                  cases h65 : (x == 65535)
                  · cases e0
                    · go_wp2_with fail
                      go_meet
                      exact ⟨rfl, false, rfl, fun _ => ⟨h65, by trivial⟩⟩
                    · go_wp2_with fail
                      go_meet
                      exact ⟨rfl, true, rfl, fun h => by cases h⟩
                  · go_wp2_with fail
                    go_meet
                    exact ⟨rfl, true, rfl, fun h => by cases h⟩
                case rest =>
                  obtain ⟨rfl, f0, rfl, hf0⟩ := hcut
                  have HF0 := Lib.hid hf0
                  clear hf0 he0 he1
                  go_upto_region 21 with fail
                  go_loopw [12, 99] (fun s12 s99 wr => ∃ (d : Nat) (f : Bool), d ≤ n ∧ s99 = .int .i64 d ∧ s12 = .bool f ∧ (f0 = true → f = true) ∧ (∀ j, j < d → 0 < c b j → x = Fa j + c b j → f = true) ∧ Below wc.heap.size wc wr) (fun _ s99 _ => n - (intOf s99).toNat)
                  case atStart => exact ⟨0, f0, by omega, rfl, rfl, fun h => h, fun j hj => by omega, Below.refl _ _⟩
                  case round =>
                    obtain ⟨d, f, hd, rfl, rfl, hff, hfj, hbd⟩ := hrel
                    have HFF := Lib.hid hff
                    have HFJ := Lib.hid hfj
                    have HBD := Lib.hid hbd
                    clear hff hfj hbd
                    by_cases hld : d < n
                    · have hld' : (d : Int) < (n : Int) := by omega
                      have d00 : (0 : Int) ≤ (d : Int) := by omega
                      have HD := Lib.hid (below_drew HBD.out)
                      have HGD := Lib.hid (show IsG wr.drew w.heap.size n c from HGW.out.keep HD.out)
                      have hWd := HW.out.trans (HD.out.mono HW.out.size)
                      have y1 : wr.drew.cell? ⟨ga, b, none⟩ = some (.int .i64 x) := by
                        have h := later hWd (HFA.out.cell b hlb)
                        rw [HXX.out] at h
                        exact h
                      have z1 : wr.drew.cell? ⟨ga, d, none⟩ = some (.int .i64 (Fa d)) := later hWd (HFA.out.cell d hld)
                      have hcst : cst n c (b : Int) (d : Int) = c b d := cst_nat hlb hld
                      have hc0 := HGC.out.low b d
                      have hc1 := HGC.out.high b d
                      have hzl := HIA.out.low d hld
                      have hzh := HIA.out.high d hld
                      have hlk := HIA.out.link b d hlb hld
                      have hfjn := HFJ.out
                      rw [HXX.out] at hlk
                      obtain ⟨y, hy⟩ : ∃ y, c b d = y := ⟨_, rfl⟩
                      obtain ⟨z, hz⟩ : ∃ z, Fa d = z := ⟨_, rfl⟩
                      rw [hy] at hcst hc0 hc1 hlk
                      rw [hz] at z1 hzl hzh hlk
                      have HYY := Lib.hid (And.intro hy hz)
                      have HCS := Lib.hid hcst
                      have HFN := Lib.hid hfjn
                      have HLK := Lib.hid hlk
                      have hzy : IntKind.i64.wrap (z + y) = z + y := IntWalk.i64_in _ (by omega)
                      clear hy hz hcst hfjn hWd hlk
                      go_upto_region 23 with fail
                      by_cases hpos : 0 < y
                      · have hng : ¬ z + y < x := by have := HLK.out hpos; omega
                        refine wp_region_held_drew (S := (fun w' => w'.cell? ⟨ga, b, none⟩ = some (.int .i64 x) ∧ w'.cell? ⟨ga, d, none⟩ = some (.int .i64 z))) (by kernel_rfl) ⟨y1, z1⟩ (fun _ => ?_)
                        refine held_take 0 102 (v := ?_) rfl rfl (by kernel_rfl) (by kernel_rfl) (by kernel_rfl) (fun _ _ _ h => h) (by rfl) ?_ ⟨y1, z1⟩ ?_
                        rotate_left
                        · (intro w hSw; (try dsimp only at hSw); try simp only [List.getElem_toArray, List.getElem_cons_zero, List.getElem_cons_succ]; go_simp; try (with_reducible rfl))
                        try simp only [List.setIfInBounds_toArray, List.set_cons_zero, List.set_cons_succ]
                        refine held_take 1 103 (v := ?_) rfl rfl (by kernel_rfl) (by kernel_rfl) (by kernel_rfl) (fun _ _ _ h => h) (by rfl) ?_ ⟨y1, z1⟩ ?_
                        rotate_left
                        · (intro w hSw; (try dsimp only at hSw); try simp only [List.getElem_toArray, List.getElem_cons_zero, List.getElem_cons_succ]; go_simp; try (with_reducible rfl))
                        try simp only [List.setIfInBounds_toArray, List.set_cons_zero, List.set_cons_succ]
                        refine held_take 2 104 (v := ?_) rfl rfl (by kernel_rfl) (by kernel_rfl) (by kernel_rfl) (fun _ _ _ h => h) (by rfl) ?_ ⟨y1, z1⟩ ?_
                        rotate_left
                        · (intro w hSw; (try dsimp only at hSw); try simp only [List.getElem_toArray, List.getElem_cons_zero, List.getElem_cons_succ]; go_simp; try (with_reducible rfl))
                        try simp only [List.setIfInBounds_toArray, List.set_cons_zero, List.set_cons_succ]
                        refine held_call 3 105 rfl rfl (by kernel_rfl) (by rfl) (fun K hK => ?_)
                        try simp only [List.getElem_toArray, List.getElem_cons_zero, List.getElem_cons_succ]
                        go_simp
                        (go_at_call 13; refine (cost_any w.heap.size n c b d _ HGD.out).mono ?_; rw [HCS.out]; rintro e w7 ⟨rfl, rfl⟩)
                        try go_wp2_with fail
                        try simp only [Act.put, List.setIfInBounds_toArray, List.set_cons_zero, List.set_cons_succ]
                        refine hK.out _ _ _ ⟨y1, z1⟩ ?_
                        clear hK K
                        refine held_take 4 106 (v := ?_) rfl rfl (by kernel_rfl) (by kernel_rfl) (by kernel_rfl) (fun _ _ _ h => h) (by rfl) ?_ ⟨y1, z1⟩ ?_
                        rotate_left
                        · (intro w hSw; (try dsimp only at hSw); try simp only [List.getElem_toArray, List.getElem_cons_zero, List.getElem_cons_succ]; go_simp; try (with_reducible rfl))
                        try simp only [List.setIfInBounds_toArray, List.set_cons_zero, List.set_cons_succ]
                        refine held_take 5 107 (v := ?_) rfl rfl (by kernel_rfl) (by kernel_rfl) (by kernel_rfl) (fun _ _ _ h => h) (by rfl) ?_ ⟨y1, z1⟩ ?_
                        rotate_left
                        · (intro w hSw; (try dsimp only at hSw); try simp only [List.getElem_toArray, List.getElem_cons_zero, List.getElem_cons_succ]; go_simp; try (with_reducible rfl))
                        try simp only [List.setIfInBounds_toArray, List.set_cons_zero, List.set_cons_succ]
                        refine held_take 6 108 (v := ?_) rfl rfl (by kernel_rfl) (by kernel_rfl) (by kernel_rfl) (fun _ _ _ h => h) (by rfl) ?_ ⟨y1, z1⟩ ?_
                        rotate_left
                        · (intro w hSw; (try dsimp only at hSw); try simp only [List.getElem_toArray, List.getElem_cons_zero, List.getElem_cons_succ]; go_simp; try (with_reducible rfl))
                        try simp only [List.setIfInBounds_toArray, List.set_cons_zero, List.set_cons_succ]
                        refine held_take 7 109 (v := ?_) rfl rfl (by kernel_rfl) (by kernel_rfl) (by kernel_rfl) (fun _ _ _ h => h) (by rfl) ?_ ⟨y1, z1⟩ ?_
                        rotate_left
                        · (intro w hSw; (try dsimp only at hSw); try simp only [List.getElem_toArray, List.getElem_cons_zero, List.getElem_cons_succ]; go_simp; try (with_reducible rfl))
                        try simp only [List.setIfInBounds_toArray, List.set_cons_zero, List.set_cons_succ]
                        refine held_take 8 110 (v := ?_) rfl rfl (by kernel_rfl) (by kernel_rfl) (by kernel_rfl) (fun _ _ _ h => h) (by rfl) ?_ ⟨y1, z1⟩ ?_
                        rotate_left
                        · (intro w hSw; (try dsimp only at hSw); try simp only [List.getElem_toArray, List.getElem_cons_zero, List.getElem_cons_succ]; go_simp; try (with_reducible rfl))
                        try simp only [List.setIfInBounds_toArray, List.set_cons_zero, List.set_cons_succ]
                        refine held_take 9 111 (v := ?_) rfl rfl (by kernel_rfl) (by kernel_rfl) (by kernel_rfl) (fun _ _ _ h => h) (by rfl) ?_ ⟨y1, z1⟩ ?_
                        rotate_left
                        · (intro w hSw; (try dsimp only at hSw); try simp only [List.getElem_toArray, List.getElem_cons_zero, List.getElem_cons_succ]; go_simp; try (with_reducible rfl))
                        try simp only [List.setIfInBounds_toArray, List.set_cons_zero, List.set_cons_succ]
                        refine held_take 10 112 (v := ?_) rfl rfl (by kernel_rfl) (by kernel_rfl) (by kernel_rfl) (fun _ _ _ h => h) (by rfl) ?_ ⟨y1, z1⟩ ?_
                        rotate_left
                        · (intro w hSw; (try dsimp only at hSw); try simp only [List.getElem_toArray, List.getElem_cons_zero, List.getElem_cons_succ]; go_simp; try (with_reducible rfl))
                        try simp only [List.setIfInBounds_toArray, List.set_cons_zero, List.set_cons_succ]
                        refine held_take 11 113 (v := ?_) rfl rfl (by kernel_rfl) (by kernel_rfl) (by kernel_rfl) (fun _ _ _ h => h) (by rfl) ?_ ⟨y1, z1⟩ ?_
                        rotate_left
                        · (intro w hSw; (try dsimp only at hSw); try simp only [List.getElem_toArray, List.getElem_cons_zero, List.getElem_cons_succ]; go_simp; try (with_reducible rfl))
                        try simp only [List.setIfInBounds_toArray, List.set_cons_zero, List.set_cons_succ]
                        refine held_take 12 114 (v := ?_) rfl rfl (by kernel_rfl) (by kernel_rfl) (by kernel_rfl) (fun _ _ _ h => h) (by rfl) ?_ ⟨y1, z1⟩ ?_
                        rotate_left
                        · (intro w hSw; (try dsimp only at hSw); try simp only [List.getElem_toArray, List.getElem_cons_zero, List.getElem_cons_succ]; go_simp; try (with_reducible rfl))
                        try simp only [List.setIfInBounds_toArray, List.set_cons_zero, List.set_cons_succ]
                        refine held_take 13 115 (v := ?_) rfl rfl (by kernel_rfl) (by kernel_rfl) (by kernel_rfl) (fun _ _ _ h => h) (by rfl) ?_ ⟨y1, z1⟩ ?_
                        rotate_left
                        · (intro w hSw; (try dsimp only at hSw); try simp only [List.getElem_toArray, List.getElem_cons_zero, List.getElem_cons_succ]; go_simp; try (with_reducible rfl))
                        try simp only [List.setIfInBounds_toArray, List.set_cons_zero, List.set_cons_succ]
                        refine held_take 14 116 (v := ?_) rfl rfl (by kernel_rfl) (by kernel_rfl) (by kernel_rfl) (fun _ _ _ h => h) (by rfl) ?_ ⟨y1, z1⟩ ?_
                        rotate_left
                        · (intro w hSw; (try dsimp only at hSw); try simp only [List.getElem_toArray, List.getElem_cons_zero, List.getElem_cons_succ]; go_simp; try (with_reducible rfl))
                        try simp only [List.setIfInBounds_toArray, List.set_cons_zero, List.set_cons_succ]
                        refine held_take 15 117 (v := ?_) rfl rfl (by kernel_rfl) (by kernel_rfl) (by kernel_rfl) (fun _ _ _ h => h) (by rfl) ?_ ⟨y1, z1⟩ ?_
                        rotate_left
                        · (intro w hSw; (try dsimp only at hSw); try simp only [List.getElem_toArray, List.getElem_cons_zero, List.getElem_cons_succ]; go_simp; try (with_reducible rfl))
                        try simp only [List.setIfInBounds_toArray, List.set_cons_zero, List.set_cons_succ]
                        refine held_take 16 118 (v := ?_) rfl rfl (by kernel_rfl) (by kernel_rfl) (by kernel_rfl) (fun _ _ _ h => h) (by rfl) ?_ ⟨y1, z1⟩ ?_
                        rotate_left
                        · (intro w hSw; (try dsimp only at hSw); try simp only [List.getElem_toArray, List.getElem_cons_zero, List.getElem_cons_succ]; go_simp; try (with_reducible rfl))
                        try simp only [List.setIfInBounds_toArray, List.set_cons_zero, List.set_cons_succ]
                        refine held_call 17 119 rfl rfl (by kernel_rfl) (by rfl) (fun K hK => ?_)
                        try simp only [List.getElem_toArray, List.getElem_cons_zero, List.getElem_cons_succ]
                        go_simp
                        (go_at_call 13; refine (cost_any w.heap.size n c b d _ HGD.out).mono ?_; rw [HCS.out]; rintro e w7 ⟨rfl, rfl⟩)
                        try go_wp2_with fail
                        try simp only [Act.put, List.setIfInBounds_toArray, List.set_cons_zero, List.set_cons_succ]
                        refine hK.out _ _ _ ⟨y1, z1⟩ ?_
                        clear hK K
                        refine held_take 18 120 (v := ?_) rfl rfl (by kernel_rfl) (by kernel_rfl) (by kernel_rfl) (fun _ _ _ h => h) (by rfl) ?_ ⟨y1, z1⟩ ?_
                        rotate_left
                        · (intro w hSw; (try dsimp only at hSw); try simp only [List.getElem_toArray, List.getElem_cons_zero, List.getElem_cons_succ]; go_simp; try (with_reducible rfl))
                        try simp only [List.setIfInBounds_toArray, List.set_cons_zero, List.set_cons_succ]
                        refine held_take 19 121 (v := ?_) rfl rfl (by kernel_rfl) (by kernel_rfl) (by kernel_rfl) (fun _ _ _ h => h) (by rfl) ?_ ⟨y1, z1⟩ ?_
                        rotate_left
                        · (intro w hSw; (try dsimp only at hSw); try simp only [List.getElem_toArray, List.getElem_cons_zero, List.getElem_cons_succ]; go_simp; try (with_reducible rfl))
                        try simp only [List.setIfInBounds_toArray, List.set_cons_zero, List.set_cons_succ]
                        refine held_take 20 122 (v := ?_) rfl rfl (by kernel_rfl) (by kernel_rfl) (by kernel_rfl) (fun _ _ _ h => h) (by rfl) ?_ ⟨y1, z1⟩ ?_
                        rotate_left
                        · (intro w hSw; (try dsimp only at hSw); try simp only [List.getElem_toArray, List.getElem_cons_zero, List.getElem_cons_succ]; go_simp; try (with_reducible rfl))
                        try simp only [List.setIfInBounds_toArray, List.set_cons_zero, List.set_cons_succ]
                        refine wpAnyH_done (by kernel_rfl) ?_ _
                        go_upto_region 25 with fail
                        have HD := Lib.hid (below_drew HD.out)
                        have HGD := Lib.hid (show IsG wr.drew.drew w.heap.size n c from isg_drew HGD.out)
                        have y1 : wr.drew.drew.cell? ⟨ga, b, none⟩ = some (.int .i64 x) := y1
                        have z1 : wr.drew.drew.cell? ⟨ga, d, none⟩ = some (.int .i64 z) := z1
                        cases f
                        · cases heq : (x == z + y)
                          · have HNX := Lib.hid (show ∀ j, j < d + 1 → 0 < c b j → x = Fa j + c b j → false = true by
                              intro j hj h1 h2
                              by_cases e : j = d
                              · subst e; rw [HYY.out.1, HYY.out.2] at h2; rw [h2] at heq; simp at heq
                              · exact HFN.out j (by omega) h1 h2)
                            refine wp_region_held_drew (S := (fun w' => w'.cell? ⟨ga, b, none⟩ = some (.int .i64 x) ∧ w'.cell? ⟨ga, d, none⟩ = some (.int .i64 z))) (by kernel_rfl) ⟨y1, z1⟩ (fun _ => ?_)
                            refine held_take 0 123 (v := ?_) rfl rfl (by kernel_rfl) (by kernel_rfl) (by kernel_rfl) (fun _ _ _ h => h) (by rfl) ?_ ⟨y1, z1⟩ ?_
                            rotate_left
                            · (intro w hSw; (try dsimp only at hSw); try simp only [List.getElem_toArray, List.getElem_cons_zero, List.getElem_cons_succ]; go_simp; try (with_reducible rfl))
                            try simp only [List.setIfInBounds_toArray, List.set_cons_zero, List.set_cons_succ]
                            refine held_take 1 124 (v := ?_) rfl rfl (by kernel_rfl) (by kernel_rfl) (by kernel_rfl) (fun _ _ _ h => h) (by rfl) ?_ ⟨y1, z1⟩ ?_
                            rotate_left
                            · (intro w hSw; (try dsimp only at hSw); try simp only [List.getElem_toArray, List.getElem_cons_zero, List.getElem_cons_succ]; go_simp; try (with_reducible rfl))
                            try simp only [List.setIfInBounds_toArray, List.set_cons_zero, List.set_cons_succ]
                            refine held_take 2 125 (v := ?_) rfl rfl (by kernel_rfl) (by kernel_rfl) (by kernel_rfl) (fun _ _ _ h => h) (by rfl) ?_ ⟨y1, z1⟩ ?_
                            rotate_left
                            · (intro w hSw; (try dsimp only at hSw); try simp only [List.getElem_toArray, List.getElem_cons_zero, List.getElem_cons_succ]; go_simp; try (with_reducible rfl))
                            try simp only [List.setIfInBounds_toArray, List.set_cons_zero, List.set_cons_succ]
                            refine held_take 3 126 (v := ?_) rfl rfl (by kernel_rfl) (by kernel_rfl) (by kernel_rfl) (fun _ _ _ h => h) (by rfl) ?_ ⟨y1, z1⟩ ?_
                            rotate_left
                            · (intro w hSw; (try dsimp only at hSw); try simp only [List.getElem_toArray, List.getElem_cons_zero, List.getElem_cons_succ]; go_simp; try (with_reducible rfl))
                            try simp only [List.setIfInBounds_toArray, List.set_cons_zero, List.set_cons_succ]
                            refine held_take 4 127 (v := ?_) rfl rfl (by kernel_rfl) (by kernel_rfl) (by kernel_rfl) (fun _ _ _ h => h) (by rfl) ?_ ⟨y1, z1⟩ ?_
                            rotate_left
                            · (intro w hSw; (try dsimp only at hSw); try simp only [List.getElem_toArray, List.getElem_cons_zero, List.getElem_cons_succ]; go_simp; try (with_reducible rfl))
                            try simp only [List.setIfInBounds_toArray, List.set_cons_zero, List.set_cons_succ]
                            refine held_call 5 128 rfl rfl (by kernel_rfl) (by rfl) (fun K hK => ?_)
                            try simp only [List.getElem_toArray, List.getElem_cons_zero, List.getElem_cons_succ]
                            go_simp
                            (go_at_call 13; refine (cost_any w.heap.size n c b d _ HGD.out).mono ?_; rw [HCS.out]; rintro e w7 ⟨rfl, rfl⟩)
                            try go_wp2_with fail
                            try simp only [Act.put, List.setIfInBounds_toArray, List.set_cons_zero, List.set_cons_succ]
                            refine hK.out _ _ _ ⟨y1, z1⟩ ?_
                            clear hK K
                            refine held_take 6 129 (v := ?_) rfl rfl (by kernel_rfl) (by kernel_rfl) (by kernel_rfl) (fun _ _ _ h => h) (by rfl) ?_ ⟨y1, z1⟩ ?_
                            rotate_left
                            · (intro w hSw; (try dsimp only at hSw); try simp only [List.getElem_toArray, List.getElem_cons_zero, List.getElem_cons_succ]; go_simp; try (with_reducible rfl))
                            try simp only [List.setIfInBounds_toArray, List.set_cons_zero, List.set_cons_succ]
                            refine held_take 7 130 (v := ?_) rfl rfl (by kernel_rfl) (by kernel_rfl) (by kernel_rfl) (fun _ _ _ h => h) (by rfl) ?_ ⟨y1, z1⟩ ?_
                            rotate_left
                            · (intro w hSw; (try dsimp only at hSw); try simp only [List.getElem_toArray, List.getElem_cons_zero, List.getElem_cons_succ]; go_simp; try (with_reducible rfl))
                            try simp only [List.setIfInBounds_toArray, List.set_cons_zero, List.set_cons_succ]
                            refine held_take 8 131 (v := ?_) rfl rfl (by kernel_rfl) (by kernel_rfl) (by kernel_rfl) (fun _ _ _ h => h) (by rfl) ?_ ⟨y1, z1⟩ ?_
                            rotate_left
                            · (intro w hSw; (try dsimp only at hSw); try simp only [List.getElem_toArray, List.getElem_cons_zero, List.getElem_cons_succ]; go_simp; try (with_reducible rfl))
                            try simp only [List.setIfInBounds_toArray, List.set_cons_zero, List.set_cons_succ]
                            refine held_take 9 132 (v := ?_) rfl rfl (by kernel_rfl) (by kernel_rfl) (by kernel_rfl) (fun _ _ _ h => h) (by rfl) ?_ ⟨y1, z1⟩ ?_
                            rotate_left
                            · (intro w hSw; (try dsimp only at hSw); try simp only [List.getElem_toArray, List.getElem_cons_zero, List.getElem_cons_succ]; go_simp; try (with_reducible rfl))
                            try simp only [List.setIfInBounds_toArray, List.set_cons_zero, List.set_cons_succ]
                            refine held_take 10 133 (v := ?_) rfl rfl (by kernel_rfl) (by kernel_rfl) (by kernel_rfl) (fun _ _ _ h => h) (by rfl) ?_ ⟨y1, z1⟩ ?_
                            rotate_left
                            · (intro w hSw; (try dsimp only at hSw); try simp only [List.getElem_toArray, List.getElem_cons_zero, List.getElem_cons_succ]; go_simp; try (with_reducible rfl))
                            try simp only [List.setIfInBounds_toArray, List.set_cons_zero, List.set_cons_succ]
                            refine held_take 11 134 (v := ?_) rfl rfl (by kernel_rfl) (by kernel_rfl) (by kernel_rfl) (fun _ _ _ h => h) (by rfl) ?_ ⟨y1, z1⟩ ?_
                            rotate_left
                            · (intro w hSw; (try dsimp only at hSw); try simp only [List.getElem_toArray, List.getElem_cons_zero, List.getElem_cons_succ]; go_simp; try (with_reducible rfl))
                            try simp only [List.setIfInBounds_toArray, List.set_cons_zero, List.set_cons_succ]
                            refine held_take 12 135 (v := ?_) rfl rfl (by kernel_rfl) (by kernel_rfl) (by kernel_rfl) (fun _ _ _ h => h) (by rfl) ?_ ⟨y1, z1⟩ ?_
                            rotate_left
                            · (intro w hSw; (try dsimp only at hSw); try simp only [List.getElem_toArray, List.getElem_cons_zero, List.getElem_cons_succ]; go_simp; try (with_reducible rfl))
                            try simp only [List.setIfInBounds_toArray, List.set_cons_zero, List.set_cons_succ]
                            refine held_take 13 136 (v := ?_) rfl rfl (by kernel_rfl) (by kernel_rfl) (by kernel_rfl) (fun _ _ _ h => h) (by rfl) ?_ ⟨y1, z1⟩ ?_
                            rotate_left
                            · (intro w hSw; (try dsimp only at hSw); try simp only [List.getElem_toArray, List.getElem_cons_zero, List.getElem_cons_succ]; go_simp; try (with_reducible rfl))
                            try simp only [List.setIfInBounds_toArray, List.set_cons_zero, List.set_cons_succ]
                            refine held_take 14 137 (v := ?_) rfl rfl (by kernel_rfl) (by kernel_rfl) (by kernel_rfl) (fun _ _ _ h => h) (by rfl) ?_ ⟨y1, z1⟩ ?_
                            rotate_left
                            · (intro w hSw; (try dsimp only at hSw); try simp only [List.getElem_toArray, List.getElem_cons_zero, List.getElem_cons_succ]; go_simp; try (with_reducible rfl))
                            try simp only [List.setIfInBounds_toArray, List.set_cons_zero, List.set_cons_succ]
                            refine held_take 15 138 (v := ?_) rfl rfl (by kernel_rfl) (by kernel_rfl) (by kernel_rfl) (fun _ _ _ h => h) (by rfl) ?_ ⟨y1, z1⟩ ?_
                            rotate_left
                            · (intro w hSw; (try dsimp only at hSw); try simp only [List.getElem_toArray, List.getElem_cons_zero, List.getElem_cons_succ]; go_simp; try (with_reducible rfl))
                            try simp only [List.setIfInBounds_toArray, List.set_cons_zero, List.set_cons_succ]
                            refine held_take 16 139 (v := ?_) rfl rfl (by kernel_rfl) (by kernel_rfl) (by kernel_rfl) (fun _ _ _ h => h) (by rfl) ?_ ⟨y1, z1⟩ ?_
                            rotate_left
                            · (intro w hSw; (try dsimp only at hSw); try simp only [List.getElem_toArray, List.getElem_cons_zero, List.getElem_cons_succ]; go_simp; try (with_reducible rfl))
                            try simp only [List.setIfInBounds_toArray, List.set_cons_zero, List.set_cons_succ]
                            refine held_take 17 140 (v := ?_) rfl rfl (by kernel_rfl) (by kernel_rfl) (by kernel_rfl) (fun _ _ _ h => h) (by rfl) ?_ ⟨y1, z1⟩ ?_
                            rotate_left
                            · (intro w hSw; (try dsimp only at hSw); try simp only [List.getElem_toArray, List.getElem_cons_zero, List.getElem_cons_succ]; go_simp; try (with_reducible rfl))
                            try simp only [List.setIfInBounds_toArray, List.set_cons_zero, List.set_cons_succ]
                            refine held_take 18 141 (v := ?_) rfl rfl (by kernel_rfl) (by kernel_rfl) (by kernel_rfl) (fun _ _ _ h => h) (by rfl) ?_ ⟨y1, z1⟩ ?_
                            rotate_left
                            · (intro w hSw; (try dsimp only at hSw); try simp only [List.getElem_toArray, List.getElem_cons_zero, List.getElem_cons_succ]; go_simp; try (with_reducible rfl))
                            try simp only [List.setIfInBounds_toArray, List.set_cons_zero, List.set_cons_succ]
                            refine held_call 19 142 rfl rfl (by kernel_rfl) (by rfl) (fun K hK => ?_)
                            try simp only [List.getElem_toArray, List.getElem_cons_zero, List.getElem_cons_succ]
                            go_simp
                            (go_at_call 13; refine (cost_any w.heap.size n c b d _ HGD.out).mono ?_; rw [HCS.out]; rintro e w7 ⟨rfl, rfl⟩)
                            try go_wp2_with fail
                            try simp only [Act.put, List.setIfInBounds_toArray, List.set_cons_zero, List.set_cons_succ]
                            refine hK.out _ _ _ ⟨y1, z1⟩ ?_
                            clear hK K
                            refine held_take 20 143 (v := ?_) rfl rfl (by kernel_rfl) (by kernel_rfl) (by kernel_rfl) (fun _ _ _ h => h) (by rfl) ?_ ⟨y1, z1⟩ ?_
                            rotate_left
                            · (intro w hSw; (try dsimp only at hSw); try simp only [List.getElem_toArray, List.getElem_cons_zero, List.getElem_cons_succ]; go_simp; try (with_reducible rfl))
                            try simp only [List.setIfInBounds_toArray, List.set_cons_zero, List.set_cons_succ]
                            refine held_take 21 144 (v := ?_) rfl rfl (by kernel_rfl) (by kernel_rfl) (by kernel_rfl) (fun _ _ _ h => h) (by rfl) ?_ ⟨y1, z1⟩ ?_
                            rotate_left
                            · (intro w hSw; (try dsimp only at hSw); try simp only [List.getElem_toArray, List.getElem_cons_zero, List.getElem_cons_succ]; go_simp; try (with_reducible rfl))
                            try simp only [List.setIfInBounds_toArray, List.set_cons_zero, List.set_cons_succ]
                            refine held_take 22 145 (v := ?_) rfl rfl (by kernel_rfl) (by kernel_rfl) (by kernel_rfl) (fun _ _ _ h => h) (by rfl) ?_ ⟨y1, z1⟩ ?_
                            rotate_left
                            · (intro w hSw; (try dsimp only at hSw); try simp only [List.getElem_toArray, List.getElem_cons_zero, List.getElem_cons_succ]; go_simp; try (with_reducible rfl))
                            try simp only [List.setIfInBounds_toArray, List.set_cons_zero, List.set_cons_succ]
                            refine held_take 23 146 (v := ?_) rfl rfl (by kernel_rfl) (by kernel_rfl) (by kernel_rfl) (fun _ _ _ h => h) (by rfl) ?_ ⟨y1, z1⟩ ?_
                            rotate_left
                            · (intro w hSw; (try dsimp only at hSw); try simp only [List.getElem_toArray, List.getElem_cons_zero, List.getElem_cons_succ]; go_simp; try (with_reducible rfl))
                            try simp only [List.setIfInBounds_toArray, List.set_cons_zero, List.set_cons_succ]
                            refine held_take 24 12 (v := ?_) rfl rfl (by kernel_rfl) (by kernel_rfl) (by kernel_rfl) (fun _ _ _ h => h) (by rfl) ?_ ⟨y1, z1⟩ ?_
                            rotate_left
                            · (intro w hSw; (try dsimp only at hSw); try simp only [List.getElem_toArray, List.getElem_cons_zero, List.getElem_cons_succ]; go_simp; try (with_reducible rfl))
                            try simp only [List.setIfInBounds_toArray, List.set_cons_zero, List.set_cons_succ]
                            refine wpAnyH_done (by kernel_rfl) ?_ _
                            go_upto_region 26 with fail
                            have HD := Lib.hid (below_drew HD.out)
                            have HGD := Lib.hid (show IsG wr.drew.drew.drew w.heap.size n c from isg_drew HGD.out)
                            have y1 : wr.drew.drew.drew.cell? ⟨ga, b, none⟩ = some (.int .i64 x) := y1
                            have z1 : wr.drew.drew.drew.cell? ⟨ga, d, none⟩ = some (.int .i64 z) := z1
                            refine wp_region_held_drew (S := (fun w' => w'.cell? ⟨ga, b, none⟩ = some (.int .i64 x) ∧ w'.cell? ⟨ga, d, none⟩ = some (.int .i64 z))) (by kernel_rfl) ⟨y1, z1⟩ (fun _ => ?_)
                            refine held_take 0 147 (v := ?_) rfl rfl (by kernel_rfl) (by kernel_rfl) (by kernel_rfl) (fun _ _ _ h => h) (by rfl) ?_ ⟨y1, z1⟩ ?_
                            rotate_left
                            · (intro w hSw; (try dsimp only at hSw); try simp only [List.getElem_toArray, List.getElem_cons_zero, List.getElem_cons_succ]; go_simp; try (with_reducible rfl))
                            try simp only [List.setIfInBounds_toArray, List.set_cons_zero, List.set_cons_succ]
                            refine held_take 1 148 (v := ?_) rfl rfl (by kernel_rfl) (by kernel_rfl) (by kernel_rfl) (fun _ _ _ h => h) (by rfl) ?_ ⟨y1, z1⟩ ?_
                            rotate_left
                            · (intro w hSw; (try dsimp only at hSw); try simp only [List.getElem_toArray, List.getElem_cons_zero, List.getElem_cons_succ]; go_simp; try (with_reducible rfl))
                            try simp only [List.setIfInBounds_toArray, List.set_cons_zero, List.set_cons_succ]
                            refine held_take 3 150 (v := ?_) rfl rfl (by kernel_rfl) (by kernel_rfl) (by kernel_rfl) (fun _ _ _ h => h) (by rfl) ?_ ⟨y1, z1⟩ ?_
                            rotate_left
                            · (intro w hSw; (try dsimp only at hSw); try simp only [List.getElem_toArray, List.getElem_cons_zero, List.getElem_cons_succ]; go_simp; try (with_reducible rfl))
                            try simp only [List.setIfInBounds_toArray, List.set_cons_zero, List.set_cons_succ]
                            refine held_take 6 153 (v := ?_) rfl rfl (by kernel_rfl) (by kernel_rfl) (by kernel_rfl) (fun _ _ _ h => h) (by rfl) ?_ ⟨y1, z1⟩ ?_
                            rotate_left
                            · (intro w hSw; (try dsimp only at hSw); try simp only [List.getElem_toArray, List.getElem_cons_zero, List.getElem_cons_succ]; go_simp; try (with_reducible rfl))
                            try simp only [List.setIfInBounds_toArray, List.set_cons_zero, List.set_cons_succ]
                            refine held_take 7 154 (v := ?_) rfl rfl (by kernel_rfl) (by kernel_rfl) (by kernel_rfl) (fun _ _ _ h => h) (by rfl) ?_ ⟨y1, z1⟩ ?_
                            rotate_left
                            · (intro w hSw; (try dsimp only at hSw); try simp only [List.getElem_toArray, List.getElem_cons_zero, List.getElem_cons_succ]; go_simp; try (with_reducible rfl))
                            try simp only [List.setIfInBounds_toArray, List.set_cons_zero, List.set_cons_succ]
                            refine held_take 8 155 (v := ?_) rfl rfl (by kernel_rfl) (by kernel_rfl) (by kernel_rfl) (fun _ _ _ h => h) (by rfl) ?_ ⟨y1, z1⟩ ?_
                            rotate_left
                            · (intro w hSw; (try dsimp only at hSw); try simp only [List.getElem_toArray, List.getElem_cons_zero, List.getElem_cons_succ]; go_simp; try (with_reducible rfl))
                            try simp only [List.setIfInBounds_toArray, List.set_cons_zero, List.set_cons_succ]
                            refine held_take 9 156 (v := ?_) rfl rfl (by kernel_rfl) (by kernel_rfl) (by kernel_rfl) (fun _ _ _ h => h) (by rfl) ?_ ⟨y1, z1⟩ ?_
                            rotate_left
                            · (intro w hSw; (try dsimp only at hSw); try simp only [List.getElem_toArray, List.getElem_cons_zero, List.getElem_cons_succ]; go_simp; try (with_reducible rfl))
                            try simp only [List.setIfInBounds_toArray, List.set_cons_zero, List.set_cons_succ]
                            refine held_take 11 158 (v := ?_) rfl rfl (by kernel_rfl) (by kernel_rfl) (by kernel_rfl) (fun _ _ _ h => h) (by rfl) ?_ ⟨y1, z1⟩ ?_
                            rotate_left
                            · (intro w hSw; (try dsimp only at hSw); try simp only [List.getElem_toArray, List.getElem_cons_zero, List.getElem_cons_succ]; go_simp; try (with_reducible rfl))
                            try simp only [List.setIfInBounds_toArray, List.set_cons_zero, List.set_cons_succ]
                            refine held_take 12 159 (v := ?_) rfl rfl (by kernel_rfl) (by kernel_rfl) (by kernel_rfl) (fun _ _ _ h => h) (by rfl) ?_ ⟨y1, z1⟩ ?_
                            rotate_left
                            · (intro w hSw; (try dsimp only at hSw); try simp only [List.getElem_toArray, List.getElem_cons_zero, List.getElem_cons_succ]; go_simp; try (with_reducible rfl))
                            try simp only [List.setIfInBounds_toArray, List.set_cons_zero, List.set_cons_succ]
                            refine held_take 13 160 (v := ?_) rfl rfl (by kernel_rfl) (by kernel_rfl) (by kernel_rfl) (fun _ _ _ h => h) (by rfl) ?_ ⟨y1, z1⟩ ?_
                            rotate_left
                            · (intro w hSw; (try dsimp only at hSw); try simp only [List.getElem_toArray, List.getElem_cons_zero, List.getElem_cons_succ]; go_simp; try (with_reducible rfl))
                            try simp only [List.setIfInBounds_toArray, List.set_cons_zero, List.set_cons_succ]
                            refine held_take 14 161 (v := ?_) rfl rfl (by kernel_rfl) (by kernel_rfl) (by kernel_rfl) (fun _ _ _ h => h) (by rfl) ?_ ⟨y1, z1⟩ ?_
                            rotate_left
                            · (intro w hSw; (try dsimp only at hSw); try simp only [List.getElem_toArray, List.getElem_cons_zero, List.getElem_cons_succ]; go_simp; try (with_reducible rfl))
                            try simp only [List.setIfInBounds_toArray, List.set_cons_zero, List.set_cons_succ]
                            refine held_call 2 149 rfl rfl (by kernel_rfl) (by rfl) (fun K hK => ?_)
                            try simp only [List.getElem_toArray, List.getElem_cons_zero, List.getElem_cons_succ]
                            go_simp
                            (go_at_call 14; refine (far_ok w.heap.size n c d wr.drew.drew.drew HGD.out hld HGC.out.sym HGC.out.low HGC.out.high).mono ?_; rintro e w8 ⟨⟨gd, Fd, rfl, _, hfd, hid⟩, hbz⟩; have y1 := later hbz y1; have z1 := later hbz z1; have HD := Lib.hid (HD.out.trans (hbz.mono HD.out.size)); have v1 := hfd.cell b hlb; have hvl := hid.low b hlb; have hvh := hid.high b hlb; have htri := HIA.out.third HGC.out.sym HFB.out hlb d hld; rw [HFB.out.sym HGC.out.sym hid hlb hld, HXX.out, HYY.out.2] at htri; obtain ⟨v, hv⟩ : ∃ v, Fd b = v := ⟨_, rfl⟩; rw [hv] at v1 htri hvl hvh; have hvz : IntKind.i64.wrap (v + z) = v + z := IntWalk.i64_in _ (by omega); have hnl : ¬ v + z < x := (by omega); clear hfd hbz hid hv htri hvl hvh)
                            try go_wp2_with fail
                            try simp only [Act.put, List.setIfInBounds_toArray, List.set_cons_zero, List.set_cons_succ]
                            refine hK.out _ _ _ ⟨y1, z1⟩ ?_
                            clear hK K
                            refine held_mono (S' := (fun w' => w'.cell? ⟨gd, b, none⟩ = some (.int .i64 v) ∧ (w'.cell? ⟨ga, b, none⟩ = some (.int .i64 x) ∧ w'.cell? ⟨ga, d, none⟩ = some (.int .i64 z)))) (fun _ h => h.2) _ _ _ _ ?_
                            refine held_take 4 151 (v := ?_) rfl rfl (by kernel_rfl) (by kernel_rfl) (by kernel_rfl) (fun _ _ _ h => h) (by rfl) ?_ ⟨v1, y1, z1⟩ ?_
                            rotate_left
                            · (intro w hSw; (try dsimp only at hSw); try simp only [List.getElem_toArray, List.getElem_cons_zero, List.getElem_cons_succ]; go_simp; try (with_reducible rfl))
                            try simp only [List.setIfInBounds_toArray, List.set_cons_zero, List.set_cons_succ]
                            refine held_take 5 152 (v := ?_) rfl rfl (by kernel_rfl) (by kernel_rfl) (by kernel_rfl) (fun _ _ _ h => h) (by rfl) ?_ ⟨v1, y1, z1⟩ ?_
                            rotate_left
                            · (intro w hSw; (try dsimp only at hSw); try simp only [List.getElem_toArray, List.getElem_cons_zero, List.getElem_cons_succ]; go_simp; try (with_reducible rfl))
                            try simp only [List.setIfInBounds_toArray, List.set_cons_zero, List.set_cons_succ]
                            refine held_take 10 157 (v := ?_) rfl rfl (by kernel_rfl) (by kernel_rfl) (by kernel_rfl) (fun _ _ _ h => h) (by rfl) ?_ ⟨v1, y1, z1⟩ ?_
                            rotate_left
                            · (intro w hSw; (try dsimp only at hSw); try simp only [List.getElem_toArray, List.getElem_cons_zero, List.getElem_cons_succ]; go_simp; try (with_reducible rfl))
                            try simp only [List.setIfInBounds_toArray, List.set_cons_zero, List.set_cons_succ]
                            refine held_take 15 162 (v := ?_) rfl rfl (by kernel_rfl) (by kernel_rfl) (by kernel_rfl) (fun _ _ _ h => h) (by rfl) ?_ ⟨v1, y1, z1⟩ ?_
                            rotate_left
                            · (intro w hSw; (try dsimp only at hSw); try simp only [List.getElem_toArray, List.getElem_cons_zero, List.getElem_cons_succ]; go_simp; try (with_reducible rfl))
                            try simp only [List.setIfInBounds_toArray, List.set_cons_zero, List.set_cons_succ]
                            refine wpAnyH_done (by kernel_rfl) ?_ _
                            go_wp2
                            go_roundw
                            case rel => exact ⟨d + 1, false, by omega, by go_num, rfl, fun h => (HFF.out h), HNX.out, HD.out⟩
                            case measure => simp [intOf]; omega
                          · have _hx := rfl (a := 0)
                            refine wp_region_held_drew (S := (fun w' => w'.cell? ⟨ga, b, none⟩ = some (.int .i64 x) ∧ w'.cell? ⟨ga, d, none⟩ = some (.int .i64 z))) (by kernel_rfl) ⟨y1, z1⟩ (fun _ => ?_)
                            refine held_take 0 123 (v := ?_) rfl rfl (by kernel_rfl) (by kernel_rfl) (by kernel_rfl) (fun _ _ _ h => h) (by rfl) ?_ ⟨y1, z1⟩ ?_
                            rotate_left
                            · (intro w hSw; (try dsimp only at hSw); try simp only [List.getElem_toArray, List.getElem_cons_zero, List.getElem_cons_succ]; go_simp; try (with_reducible rfl))
                            try simp only [List.setIfInBounds_toArray, List.set_cons_zero, List.set_cons_succ]
                            refine held_take 1 124 (v := ?_) rfl rfl (by kernel_rfl) (by kernel_rfl) (by kernel_rfl) (fun _ _ _ h => h) (by rfl) ?_ ⟨y1, z1⟩ ?_
                            rotate_left
                            · (intro w hSw; (try dsimp only at hSw); try simp only [List.getElem_toArray, List.getElem_cons_zero, List.getElem_cons_succ]; go_simp; try (with_reducible rfl))
                            try simp only [List.setIfInBounds_toArray, List.set_cons_zero, List.set_cons_succ]
                            refine held_take 2 125 (v := ?_) rfl rfl (by kernel_rfl) (by kernel_rfl) (by kernel_rfl) (fun _ _ _ h => h) (by rfl) ?_ ⟨y1, z1⟩ ?_
                            rotate_left
                            · (intro w hSw; (try dsimp only at hSw); try simp only [List.getElem_toArray, List.getElem_cons_zero, List.getElem_cons_succ]; go_simp; try (with_reducible rfl))
                            try simp only [List.setIfInBounds_toArray, List.set_cons_zero, List.set_cons_succ]
                            refine held_take 3 126 (v := ?_) rfl rfl (by kernel_rfl) (by kernel_rfl) (by kernel_rfl) (fun _ _ _ h => h) (by rfl) ?_ ⟨y1, z1⟩ ?_
                            rotate_left
                            · (intro w hSw; (try dsimp only at hSw); try simp only [List.getElem_toArray, List.getElem_cons_zero, List.getElem_cons_succ]; go_simp; try (with_reducible rfl))
                            try simp only [List.setIfInBounds_toArray, List.set_cons_zero, List.set_cons_succ]
                            refine held_take 4 127 (v := ?_) rfl rfl (by kernel_rfl) (by kernel_rfl) (by kernel_rfl) (fun _ _ _ h => h) (by rfl) ?_ ⟨y1, z1⟩ ?_
                            rotate_left
                            · (intro w hSw; (try dsimp only at hSw); try simp only [List.getElem_toArray, List.getElem_cons_zero, List.getElem_cons_succ]; go_simp; try (with_reducible rfl))
                            try simp only [List.setIfInBounds_toArray, List.set_cons_zero, List.set_cons_succ]
                            refine held_call 5 128 rfl rfl (by kernel_rfl) (by rfl) (fun K hK => ?_)
                            try simp only [List.getElem_toArray, List.getElem_cons_zero, List.getElem_cons_succ]
                            go_simp
                            (go_at_call 13; refine (cost_any w.heap.size n c b d _ HGD.out).mono ?_; rw [HCS.out]; rintro e w7 ⟨rfl, rfl⟩)
                            try go_wp2_with fail
                            try simp only [Act.put, List.setIfInBounds_toArray, List.set_cons_zero, List.set_cons_succ]
                            refine hK.out _ _ _ ⟨y1, z1⟩ ?_
                            clear hK K
                            refine held_take 6 129 (v := ?_) rfl rfl (by kernel_rfl) (by kernel_rfl) (by kernel_rfl) (fun _ _ _ h => h) (by rfl) ?_ ⟨y1, z1⟩ ?_
                            rotate_left
                            · (intro w hSw; (try dsimp only at hSw); try simp only [List.getElem_toArray, List.getElem_cons_zero, List.getElem_cons_succ]; go_simp; try (with_reducible rfl))
                            try simp only [List.setIfInBounds_toArray, List.set_cons_zero, List.set_cons_succ]
                            refine held_take 7 130 (v := ?_) rfl rfl (by kernel_rfl) (by kernel_rfl) (by kernel_rfl) (fun _ _ _ h => h) (by rfl) ?_ ⟨y1, z1⟩ ?_
                            rotate_left
                            · (intro w hSw; (try dsimp only at hSw); try simp only [List.getElem_toArray, List.getElem_cons_zero, List.getElem_cons_succ]; go_simp; try (with_reducible rfl))
                            try simp only [List.setIfInBounds_toArray, List.set_cons_zero, List.set_cons_succ]
                            refine held_take 8 131 (v := ?_) rfl rfl (by kernel_rfl) (by kernel_rfl) (by kernel_rfl) (fun _ _ _ h => h) (by rfl) ?_ ⟨y1, z1⟩ ?_
                            rotate_left
                            · (intro w hSw; (try dsimp only at hSw); try simp only [List.getElem_toArray, List.getElem_cons_zero, List.getElem_cons_succ]; go_simp; try (with_reducible rfl))
                            try simp only [List.setIfInBounds_toArray, List.set_cons_zero, List.set_cons_succ]
                            refine held_take 9 132 (v := ?_) rfl rfl (by kernel_rfl) (by kernel_rfl) (by kernel_rfl) (fun _ _ _ h => h) (by rfl) ?_ ⟨y1, z1⟩ ?_
                            rotate_left
                            · (intro w hSw; (try dsimp only at hSw); try simp only [List.getElem_toArray, List.getElem_cons_zero, List.getElem_cons_succ]; go_simp; try (with_reducible rfl))
                            try simp only [List.setIfInBounds_toArray, List.set_cons_zero, List.set_cons_succ]
                            refine held_take 10 133 (v := ?_) rfl rfl (by kernel_rfl) (by kernel_rfl) (by kernel_rfl) (fun _ _ _ h => h) (by rfl) ?_ ⟨y1, z1⟩ ?_
                            rotate_left
                            · (intro w hSw; (try dsimp only at hSw); try simp only [List.getElem_toArray, List.getElem_cons_zero, List.getElem_cons_succ]; go_simp; try (with_reducible rfl))
                            try simp only [List.setIfInBounds_toArray, List.set_cons_zero, List.set_cons_succ]
                            refine held_take 11 134 (v := ?_) rfl rfl (by kernel_rfl) (by kernel_rfl) (by kernel_rfl) (fun _ _ _ h => h) (by rfl) ?_ ⟨y1, z1⟩ ?_
                            rotate_left
                            · (intro w hSw; (try dsimp only at hSw); try simp only [List.getElem_toArray, List.getElem_cons_zero, List.getElem_cons_succ]; go_simp; try (with_reducible rfl))
                            try simp only [List.setIfInBounds_toArray, List.set_cons_zero, List.set_cons_succ]
                            refine held_take 12 135 (v := ?_) rfl rfl (by kernel_rfl) (by kernel_rfl) (by kernel_rfl) (fun _ _ _ h => h) (by rfl) ?_ ⟨y1, z1⟩ ?_
                            rotate_left
                            · (intro w hSw; (try dsimp only at hSw); try simp only [List.getElem_toArray, List.getElem_cons_zero, List.getElem_cons_succ]; go_simp; try (with_reducible rfl))
                            try simp only [List.setIfInBounds_toArray, List.set_cons_zero, List.set_cons_succ]
                            refine held_take 13 136 (v := ?_) rfl rfl (by kernel_rfl) (by kernel_rfl) (by kernel_rfl) (fun _ _ _ h => h) (by rfl) ?_ ⟨y1, z1⟩ ?_
                            rotate_left
                            · (intro w hSw; (try dsimp only at hSw); try simp only [List.getElem_toArray, List.getElem_cons_zero, List.getElem_cons_succ]; go_simp; try (with_reducible rfl))
                            try simp only [List.setIfInBounds_toArray, List.set_cons_zero, List.set_cons_succ]
                            refine held_take 14 137 (v := ?_) rfl rfl (by kernel_rfl) (by kernel_rfl) (by kernel_rfl) (fun _ _ _ h => h) (by rfl) ?_ ⟨y1, z1⟩ ?_
                            rotate_left
                            · (intro w hSw; (try dsimp only at hSw); try simp only [List.getElem_toArray, List.getElem_cons_zero, List.getElem_cons_succ]; go_simp; try (with_reducible rfl))
                            try simp only [List.setIfInBounds_toArray, List.set_cons_zero, List.set_cons_succ]
                            refine held_take 15 138 (v := ?_) rfl rfl (by kernel_rfl) (by kernel_rfl) (by kernel_rfl) (fun _ _ _ h => h) (by rfl) ?_ ⟨y1, z1⟩ ?_
                            rotate_left
                            · (intro w hSw; (try dsimp only at hSw); try simp only [List.getElem_toArray, List.getElem_cons_zero, List.getElem_cons_succ]; go_simp; try (with_reducible rfl))
                            try simp only [List.setIfInBounds_toArray, List.set_cons_zero, List.set_cons_succ]
                            refine held_take 16 139 (v := ?_) rfl rfl (by kernel_rfl) (by kernel_rfl) (by kernel_rfl) (fun _ _ _ h => h) (by rfl) ?_ ⟨y1, z1⟩ ?_
                            rotate_left
                            · (intro w hSw; (try dsimp only at hSw); try simp only [List.getElem_toArray, List.getElem_cons_zero, List.getElem_cons_succ]; go_simp; try (with_reducible rfl))
                            try simp only [List.setIfInBounds_toArray, List.set_cons_zero, List.set_cons_succ]
                            refine held_take 17 140 (v := ?_) rfl rfl (by kernel_rfl) (by kernel_rfl) (by kernel_rfl) (fun _ _ _ h => h) (by rfl) ?_ ⟨y1, z1⟩ ?_
                            rotate_left
                            · (intro w hSw; (try dsimp only at hSw); try simp only [List.getElem_toArray, List.getElem_cons_zero, List.getElem_cons_succ]; go_simp; try (with_reducible rfl))
                            try simp only [List.setIfInBounds_toArray, List.set_cons_zero, List.set_cons_succ]
                            refine held_take 18 141 (v := ?_) rfl rfl (by kernel_rfl) (by kernel_rfl) (by kernel_rfl) (fun _ _ _ h => h) (by rfl) ?_ ⟨y1, z1⟩ ?_
                            rotate_left
                            · (intro w hSw; (try dsimp only at hSw); try simp only [List.getElem_toArray, List.getElem_cons_zero, List.getElem_cons_succ]; go_simp; try (with_reducible rfl))
                            try simp only [List.setIfInBounds_toArray, List.set_cons_zero, List.set_cons_succ]
                            refine held_call 19 142 rfl rfl (by kernel_rfl) (by rfl) (fun K hK => ?_)
                            try simp only [List.getElem_toArray, List.getElem_cons_zero, List.getElem_cons_succ]
                            go_simp
                            (go_at_call 13; refine (cost_any w.heap.size n c b d _ HGD.out).mono ?_; rw [HCS.out]; rintro e w7 ⟨rfl, rfl⟩)
                            try go_wp2_with fail
                            try simp only [Act.put, List.setIfInBounds_toArray, List.set_cons_zero, List.set_cons_succ]
                            refine hK.out _ _ _ ⟨y1, z1⟩ ?_
                            clear hK K
                            refine held_take 20 143 (v := ?_) rfl rfl (by kernel_rfl) (by kernel_rfl) (by kernel_rfl) (fun _ _ _ h => h) (by rfl) ?_ ⟨y1, z1⟩ ?_
                            rotate_left
                            · (intro w hSw; (try dsimp only at hSw); try simp only [List.getElem_toArray, List.getElem_cons_zero, List.getElem_cons_succ]; go_simp; try (with_reducible rfl))
                            try simp only [List.setIfInBounds_toArray, List.set_cons_zero, List.set_cons_succ]
                            refine held_take 21 144 (v := ?_) rfl rfl (by kernel_rfl) (by kernel_rfl) (by kernel_rfl) (fun _ _ _ h => h) (by rfl) ?_ ⟨y1, z1⟩ ?_
                            rotate_left
                            · (intro w hSw; (try dsimp only at hSw); try simp only [List.getElem_toArray, List.getElem_cons_zero, List.getElem_cons_succ]; go_simp; try (with_reducible rfl))
                            try simp only [List.setIfInBounds_toArray, List.set_cons_zero, List.set_cons_succ]
                            refine held_take 22 145 (v := ?_) rfl rfl (by kernel_rfl) (by kernel_rfl) (by kernel_rfl) (fun _ _ _ h => h) (by rfl) ?_ ⟨y1, z1⟩ ?_
                            rotate_left
                            · (intro w hSw; (try dsimp only at hSw); try simp only [List.getElem_toArray, List.getElem_cons_zero, List.getElem_cons_succ]; go_simp; try (with_reducible rfl))
                            try simp only [List.setIfInBounds_toArray, List.set_cons_zero, List.set_cons_succ]
                            refine held_take 23 146 (v := ?_) rfl rfl (by kernel_rfl) (by kernel_rfl) (by kernel_rfl) (fun _ _ _ h => h) (by rfl) ?_ ⟨y1, z1⟩ ?_
                            rotate_left
                            · (intro w hSw; (try dsimp only at hSw); try simp only [List.getElem_toArray, List.getElem_cons_zero, List.getElem_cons_succ]; go_simp; try (with_reducible rfl))
                            try simp only [List.setIfInBounds_toArray, List.set_cons_zero, List.set_cons_succ]
                            refine held_take 24 12 (v := ?_) rfl rfl (by kernel_rfl) (by kernel_rfl) (by kernel_rfl) (fun _ _ _ h => h) (by rfl) ?_ ⟨y1, z1⟩ ?_
                            rotate_left
                            · (intro w hSw; (try dsimp only at hSw); try simp only [List.getElem_toArray, List.getElem_cons_zero, List.getElem_cons_succ]; go_simp; try (with_reducible rfl))
                            try simp only [List.setIfInBounds_toArray, List.set_cons_zero, List.set_cons_succ]
                            refine wpAnyH_done (by kernel_rfl) ?_ _
                            go_upto_region 26 with fail
                            have HD := Lib.hid (below_drew HD.out)
                            have HGD := Lib.hid (show IsG wr.drew.drew.drew w.heap.size n c from isg_drew HGD.out)
                            have y1 : wr.drew.drew.drew.cell? ⟨ga, b, none⟩ = some (.int .i64 x) := y1
                            have z1 : wr.drew.drew.drew.cell? ⟨ga, d, none⟩ = some (.int .i64 z) := z1
                            refine wp_region_held_drew (S := (fun w' => w'.cell? ⟨ga, b, none⟩ = some (.int .i64 x) ∧ w'.cell? ⟨ga, d, none⟩ = some (.int .i64 z))) (by kernel_rfl) ⟨y1, z1⟩ (fun _ => ?_)
                            refine held_take 0 147 (v := ?_) rfl rfl (by kernel_rfl) (by kernel_rfl) (by kernel_rfl) (fun _ _ _ h => h) (by rfl) ?_ ⟨y1, z1⟩ ?_
                            rotate_left
                            · (intro w hSw; (try dsimp only at hSw); try simp only [List.getElem_toArray, List.getElem_cons_zero, List.getElem_cons_succ]; go_simp; try (with_reducible rfl))
                            try simp only [List.setIfInBounds_toArray, List.set_cons_zero, List.set_cons_succ]
                            refine held_take 1 148 (v := ?_) rfl rfl (by kernel_rfl) (by kernel_rfl) (by kernel_rfl) (fun _ _ _ h => h) (by rfl) ?_ ⟨y1, z1⟩ ?_
                            rotate_left
                            · (intro w hSw; (try dsimp only at hSw); try simp only [List.getElem_toArray, List.getElem_cons_zero, List.getElem_cons_succ]; go_simp; try (with_reducible rfl))
                            try simp only [List.setIfInBounds_toArray, List.set_cons_zero, List.set_cons_succ]
                            refine held_take 3 150 (v := ?_) rfl rfl (by kernel_rfl) (by kernel_rfl) (by kernel_rfl) (fun _ _ _ h => h) (by rfl) ?_ ⟨y1, z1⟩ ?_
                            rotate_left
                            · (intro w hSw; (try dsimp only at hSw); try simp only [List.getElem_toArray, List.getElem_cons_zero, List.getElem_cons_succ]; go_simp; try (with_reducible rfl))
                            try simp only [List.setIfInBounds_toArray, List.set_cons_zero, List.set_cons_succ]
                            refine held_take 6 153 (v := ?_) rfl rfl (by kernel_rfl) (by kernel_rfl) (by kernel_rfl) (fun _ _ _ h => h) (by rfl) ?_ ⟨y1, z1⟩ ?_
                            rotate_left
                            · (intro w hSw; (try dsimp only at hSw); try simp only [List.getElem_toArray, List.getElem_cons_zero, List.getElem_cons_succ]; go_simp; try (with_reducible rfl))
                            try simp only [List.setIfInBounds_toArray, List.set_cons_zero, List.set_cons_succ]
                            refine held_take 7 154 (v := ?_) rfl rfl (by kernel_rfl) (by kernel_rfl) (by kernel_rfl) (fun _ _ _ h => h) (by rfl) ?_ ⟨y1, z1⟩ ?_
                            rotate_left
                            · (intro w hSw; (try dsimp only at hSw); try simp only [List.getElem_toArray, List.getElem_cons_zero, List.getElem_cons_succ]; go_simp; try (with_reducible rfl))
                            try simp only [List.setIfInBounds_toArray, List.set_cons_zero, List.set_cons_succ]
                            refine held_take 8 155 (v := ?_) rfl rfl (by kernel_rfl) (by kernel_rfl) (by kernel_rfl) (fun _ _ _ h => h) (by rfl) ?_ ⟨y1, z1⟩ ?_
                            rotate_left
                            · (intro w hSw; (try dsimp only at hSw); try simp only [List.getElem_toArray, List.getElem_cons_zero, List.getElem_cons_succ]; go_simp; try (with_reducible rfl))
                            try simp only [List.setIfInBounds_toArray, List.set_cons_zero, List.set_cons_succ]
                            refine held_take 9 156 (v := ?_) rfl rfl (by kernel_rfl) (by kernel_rfl) (by kernel_rfl) (fun _ _ _ h => h) (by rfl) ?_ ⟨y1, z1⟩ ?_
                            rotate_left
                            · (intro w hSw; (try dsimp only at hSw); try simp only [List.getElem_toArray, List.getElem_cons_zero, List.getElem_cons_succ]; go_simp; try (with_reducible rfl))
                            try simp only [List.setIfInBounds_toArray, List.set_cons_zero, List.set_cons_succ]
                            refine held_take 11 158 (v := ?_) rfl rfl (by kernel_rfl) (by kernel_rfl) (by kernel_rfl) (fun _ _ _ h => h) (by rfl) ?_ ⟨y1, z1⟩ ?_
                            rotate_left
                            · (intro w hSw; (try dsimp only at hSw); try simp only [List.getElem_toArray, List.getElem_cons_zero, List.getElem_cons_succ]; go_simp; try (with_reducible rfl))
                            try simp only [List.setIfInBounds_toArray, List.set_cons_zero, List.set_cons_succ]
                            refine held_take 12 159 (v := ?_) rfl rfl (by kernel_rfl) (by kernel_rfl) (by kernel_rfl) (fun _ _ _ h => h) (by rfl) ?_ ⟨y1, z1⟩ ?_
                            rotate_left
                            · (intro w hSw; (try dsimp only at hSw); try simp only [List.getElem_toArray, List.getElem_cons_zero, List.getElem_cons_succ]; go_simp; try (with_reducible rfl))
                            try simp only [List.setIfInBounds_toArray, List.set_cons_zero, List.set_cons_succ]
                            refine held_take 13 160 (v := ?_) rfl rfl (by kernel_rfl) (by kernel_rfl) (by kernel_rfl) (fun _ _ _ h => h) (by rfl) ?_ ⟨y1, z1⟩ ?_
                            rotate_left
                            · (intro w hSw; (try dsimp only at hSw); try simp only [List.getElem_toArray, List.getElem_cons_zero, List.getElem_cons_succ]; go_simp; try (with_reducible rfl))
                            try simp only [List.setIfInBounds_toArray, List.set_cons_zero, List.set_cons_succ]
                            refine held_take 14 161 (v := ?_) rfl rfl (by kernel_rfl) (by kernel_rfl) (by kernel_rfl) (fun _ _ _ h => h) (by rfl) ?_ ⟨y1, z1⟩ ?_
                            rotate_left
                            · (intro w hSw; (try dsimp only at hSw); try simp only [List.getElem_toArray, List.getElem_cons_zero, List.getElem_cons_succ]; go_simp; try (with_reducible rfl))
                            try simp only [List.setIfInBounds_toArray, List.set_cons_zero, List.set_cons_succ]
                            refine held_call 2 149 rfl rfl (by kernel_rfl) (by rfl) (fun K hK => ?_)
                            try simp only [List.getElem_toArray, List.getElem_cons_zero, List.getElem_cons_succ]
                            go_simp
                            (go_at_call 14; refine (far_ok w.heap.size n c d wr.drew.drew.drew HGD.out hld HGC.out.sym HGC.out.low HGC.out.high).mono ?_; rintro e w8 ⟨⟨gd, Fd, rfl, _, hfd, hid⟩, hbz⟩; have y1 := later hbz y1; have z1 := later hbz z1; have HD := Lib.hid (HD.out.trans (hbz.mono HD.out.size)); have v1 := hfd.cell b hlb; have hvl := hid.low b hlb; have hvh := hid.high b hlb; have htri := HIA.out.third HGC.out.sym HFB.out hlb d hld; rw [HFB.out.sym HGC.out.sym hid hlb hld, HXX.out, HYY.out.2] at htri; obtain ⟨v, hv⟩ : ∃ v, Fd b = v := ⟨_, rfl⟩; rw [hv] at v1 htri hvl hvh; have hvz : IntKind.i64.wrap (v + z) = v + z := IntWalk.i64_in _ (by omega); have hnl : ¬ v + z < x := (by omega); clear hfd hbz hid hv htri hvl hvh)
                            try go_wp2_with fail
                            try simp only [Act.put, List.setIfInBounds_toArray, List.set_cons_zero, List.set_cons_succ]
                            refine hK.out _ _ _ ⟨y1, z1⟩ ?_
                            clear hK K
                            refine held_mono (S' := (fun w' => w'.cell? ⟨gd, b, none⟩ = some (.int .i64 v) ∧ (w'.cell? ⟨ga, b, none⟩ = some (.int .i64 x) ∧ w'.cell? ⟨ga, d, none⟩ = some (.int .i64 z)))) (fun _ h => h.2) _ _ _ _ ?_
                            refine held_take 4 151 (v := ?_) rfl rfl (by kernel_rfl) (by kernel_rfl) (by kernel_rfl) (fun _ _ _ h => h) (by rfl) ?_ ⟨v1, y1, z1⟩ ?_
                            rotate_left
                            · (intro w hSw; (try dsimp only at hSw); try simp only [List.getElem_toArray, List.getElem_cons_zero, List.getElem_cons_succ]; go_simp; try (with_reducible rfl))
                            try simp only [List.setIfInBounds_toArray, List.set_cons_zero, List.set_cons_succ]
                            refine held_take 5 152 (v := ?_) rfl rfl (by kernel_rfl) (by kernel_rfl) (by kernel_rfl) (fun _ _ _ h => h) (by rfl) ?_ ⟨v1, y1, z1⟩ ?_
                            rotate_left
                            · (intro w hSw; (try dsimp only at hSw); try simp only [List.getElem_toArray, List.getElem_cons_zero, List.getElem_cons_succ]; go_simp; try (with_reducible rfl))
                            try simp only [List.setIfInBounds_toArray, List.set_cons_zero, List.set_cons_succ]
                            refine held_take 10 157 (v := ?_) rfl rfl (by kernel_rfl) (by kernel_rfl) (by kernel_rfl) (fun _ _ _ h => h) (by rfl) ?_ ⟨v1, y1, z1⟩ ?_
                            rotate_left
                            · (intro w hSw; (try dsimp only at hSw); try simp only [List.getElem_toArray, List.getElem_cons_zero, List.getElem_cons_succ]; go_simp; try (with_reducible rfl))
                            try simp only [List.setIfInBounds_toArray, List.set_cons_zero, List.set_cons_succ]
                            refine held_take 15 162 (v := ?_) rfl rfl (by kernel_rfl) (by kernel_rfl) (by kernel_rfl) (fun _ _ _ h => h) (by rfl) ?_ ⟨v1, y1, z1⟩ ?_
                            rotate_left
                            · (intro w hSw; (try dsimp only at hSw); try simp only [List.getElem_toArray, List.getElem_cons_zero, List.getElem_cons_succ]; go_simp; try (with_reducible rfl))
                            try simp only [List.setIfInBounds_toArray, List.set_cons_zero, List.set_cons_succ]
                            refine wpAnyH_done (by kernel_rfl) ?_ _
                            go_wp2
                            go_roundw
                            case rel => exact ⟨d + 1, true, by omega, by go_num, rfl, fun _ => rfl, fun _ _ _ _ => rfl, HD.out⟩
                            case measure => simp [intOf]; omega
                        · have _hx := rfl (a := 0)
                          refine wp_region_held_drew (S := (fun w' => w'.cell? ⟨ga, b, none⟩ = some (.int .i64 x) ∧ w'.cell? ⟨ga, d, none⟩ = some (.int .i64 z))) (by kernel_rfl) ⟨y1, z1⟩ (fun _ => ?_)
                          refine held_take 0 123 (v := ?_) rfl rfl (by kernel_rfl) (by kernel_rfl) (by kernel_rfl) (fun _ _ _ h => h) (by rfl) ?_ ⟨y1, z1⟩ ?_
                          rotate_left
                          · (intro w hSw; (try dsimp only at hSw); try simp only [List.getElem_toArray, List.getElem_cons_zero, List.getElem_cons_succ]; go_simp; try (with_reducible rfl))
                          try simp only [List.setIfInBounds_toArray, List.set_cons_zero, List.set_cons_succ]
                          refine held_take 1 124 (v := ?_) rfl rfl (by kernel_rfl) (by kernel_rfl) (by kernel_rfl) (fun _ _ _ h => h) (by rfl) ?_ ⟨y1, z1⟩ ?_
                          rotate_left
                          · (intro w hSw; (try dsimp only at hSw); try simp only [List.getElem_toArray, List.getElem_cons_zero, List.getElem_cons_succ]; go_simp; try (with_reducible rfl))
                          try simp only [List.setIfInBounds_toArray, List.set_cons_zero, List.set_cons_succ]
                          refine held_skip 2 125 rfl rfl (by kernel_rfl) (by kernel_rfl) (by kernel_rfl) (fun _ _ _ h => h) (by rfl) ⟨y1, z1⟩ ?_
                          try simp only [List.setIfInBounds_toArray, List.set_cons_zero, List.set_cons_succ]
                          refine held_skip 3 126 rfl rfl (by kernel_rfl) (by kernel_rfl) (by kernel_rfl) (fun _ _ _ h => h) (by rfl) ⟨y1, z1⟩ ?_
                          try simp only [List.setIfInBounds_toArray, List.set_cons_zero, List.set_cons_succ]
                          refine held_skip 4 127 rfl rfl (by kernel_rfl) (by kernel_rfl) (by kernel_rfl) (fun _ _ _ h => h) (by rfl) ⟨y1, z1⟩ ?_
                          try simp only [List.setIfInBounds_toArray, List.set_cons_zero, List.set_cons_succ]
                          refine held_pass 5 128 rfl rfl (by kernel_rfl) (by rfl) ⟨y1, z1⟩ ?_
                          try simp only [List.setIfInBounds_toArray, List.set_cons_zero, List.set_cons_succ]
                          refine held_skip 6 129 rfl rfl (by kernel_rfl) (by kernel_rfl) (by kernel_rfl) (fun _ _ _ h => h) (by rfl) ⟨y1, z1⟩ ?_
                          try simp only [List.setIfInBounds_toArray, List.set_cons_zero, List.set_cons_succ]
                          refine held_skip 7 130 rfl rfl (by kernel_rfl) (by kernel_rfl) (by kernel_rfl) (fun _ _ _ h => h) (by rfl) ⟨y1, z1⟩ ?_
                          try simp only [List.setIfInBounds_toArray, List.set_cons_zero, List.set_cons_succ]
                          refine held_skip 8 131 rfl rfl (by kernel_rfl) (by kernel_rfl) (by kernel_rfl) (fun _ _ _ h => h) (by rfl) ⟨y1, z1⟩ ?_
                          try simp only [List.setIfInBounds_toArray, List.set_cons_zero, List.set_cons_succ]
                          refine held_skip 9 132 rfl rfl (by kernel_rfl) (by kernel_rfl) (by kernel_rfl) (fun _ _ _ h => h) (by rfl) ⟨y1, z1⟩ ?_
                          try simp only [List.setIfInBounds_toArray, List.set_cons_zero, List.set_cons_succ]
                          refine held_skip 10 133 rfl rfl (by kernel_rfl) (by kernel_rfl) (by kernel_rfl) (fun _ _ _ h => h) (by rfl) ⟨y1, z1⟩ ?_
                          try simp only [List.setIfInBounds_toArray, List.set_cons_zero, List.set_cons_succ]
                          refine held_skip 11 134 rfl rfl (by kernel_rfl) (by kernel_rfl) (by kernel_rfl) (fun _ _ _ h => h) (by rfl) ⟨y1, z1⟩ ?_
                          try simp only [List.setIfInBounds_toArray, List.set_cons_zero, List.set_cons_succ]
                          refine held_skip 12 135 rfl rfl (by kernel_rfl) (by kernel_rfl) (by kernel_rfl) (fun _ _ _ h => h) (by rfl) ⟨y1, z1⟩ ?_
                          try simp only [List.setIfInBounds_toArray, List.set_cons_zero, List.set_cons_succ]
                          refine held_skip 13 136 rfl rfl (by kernel_rfl) (by kernel_rfl) (by kernel_rfl) (fun _ _ _ h => h) (by rfl) ⟨y1, z1⟩ ?_
                          try simp only [List.setIfInBounds_toArray, List.set_cons_zero, List.set_cons_succ]
                          refine held_skip 14 137 rfl rfl (by kernel_rfl) (by kernel_rfl) (by kernel_rfl) (fun _ _ _ h => h) (by rfl) ⟨y1, z1⟩ ?_
                          try simp only [List.setIfInBounds_toArray, List.set_cons_zero, List.set_cons_succ]
                          refine held_skip 15 138 rfl rfl (by kernel_rfl) (by kernel_rfl) (by kernel_rfl) (fun _ _ _ h => h) (by rfl) ⟨y1, z1⟩ ?_
                          try simp only [List.setIfInBounds_toArray, List.set_cons_zero, List.set_cons_succ]
                          refine held_skip 16 139 rfl rfl (by kernel_rfl) (by kernel_rfl) (by kernel_rfl) (fun _ _ _ h => h) (by rfl) ⟨y1, z1⟩ ?_
                          try simp only [List.setIfInBounds_toArray, List.set_cons_zero, List.set_cons_succ]
                          refine held_skip 17 140 rfl rfl (by kernel_rfl) (by kernel_rfl) (by kernel_rfl) (fun _ _ _ h => h) (by rfl) ⟨y1, z1⟩ ?_
                          try simp only [List.setIfInBounds_toArray, List.set_cons_zero, List.set_cons_succ]
                          refine held_skip 18 141 rfl rfl (by kernel_rfl) (by kernel_rfl) (by kernel_rfl) (fun _ _ _ h => h) (by rfl) ⟨y1, z1⟩ ?_
                          try simp only [List.setIfInBounds_toArray, List.set_cons_zero, List.set_cons_succ]
                          refine held_pass 19 142 rfl rfl (by kernel_rfl) (by rfl) ⟨y1, z1⟩ ?_
                          try simp only [List.setIfInBounds_toArray, List.set_cons_zero, List.set_cons_succ]
                          refine held_skip 20 143 rfl rfl (by kernel_rfl) (by kernel_rfl) (by kernel_rfl) (fun _ _ _ h => h) (by rfl) ⟨y1, z1⟩ ?_
                          try simp only [List.setIfInBounds_toArray, List.set_cons_zero, List.set_cons_succ]
                          refine held_skip 21 144 rfl rfl (by kernel_rfl) (by kernel_rfl) (by kernel_rfl) (fun _ _ _ h => h) (by rfl) ⟨y1, z1⟩ ?_
                          try simp only [List.setIfInBounds_toArray, List.set_cons_zero, List.set_cons_succ]
                          refine held_skip 22 145 rfl rfl (by kernel_rfl) (by kernel_rfl) (by kernel_rfl) (fun _ _ _ h => h) (by rfl) ⟨y1, z1⟩ ?_
                          try simp only [List.setIfInBounds_toArray, List.set_cons_zero, List.set_cons_succ]
                          refine held_take 23 146 (v := ?_) rfl rfl (by kernel_rfl) (by kernel_rfl) (by kernel_rfl) (fun _ _ _ h => h) (by rfl) ?_ ⟨y1, z1⟩ ?_
                          rotate_left
                          · (intro w hSw; (try dsimp only at hSw); try simp only [List.getElem_toArray, List.getElem_cons_zero, List.getElem_cons_succ]; go_simp; try (with_reducible rfl))
                          try simp only [List.setIfInBounds_toArray, List.set_cons_zero, List.set_cons_succ]
                          refine held_take 24 12 (v := ?_) rfl rfl (by kernel_rfl) (by kernel_rfl) (by kernel_rfl) (fun _ _ _ h => h) (by rfl) ?_ ⟨y1, z1⟩ ?_
                          rotate_left
                          · (intro w hSw; (try dsimp only at hSw); try simp only [List.getElem_toArray, List.getElem_cons_zero, List.getElem_cons_succ]; go_simp; try (with_reducible rfl))
                          try simp only [List.setIfInBounds_toArray, List.set_cons_zero, List.set_cons_succ]
                          refine wpAnyH_done (by kernel_rfl) ?_ _
                          go_upto_region 26 with fail
                          have HD := Lib.hid (below_drew HD.out)
                          have HGD := Lib.hid (show IsG wr.drew.drew.drew w.heap.size n c from isg_drew HGD.out)
                          have y1 : wr.drew.drew.drew.cell? ⟨ga, b, none⟩ = some (.int .i64 x) := y1
                          have z1 : wr.drew.drew.drew.cell? ⟨ga, d, none⟩ = some (.int .i64 z) := z1
                          refine wp_region_held_drew (S := (fun w' => w'.cell? ⟨ga, b, none⟩ = some (.int .i64 x) ∧ w'.cell? ⟨ga, d, none⟩ = some (.int .i64 z))) (by kernel_rfl) ⟨y1, z1⟩ (fun _ => ?_)
                          refine held_take 0 147 (v := ?_) rfl rfl (by kernel_rfl) (by kernel_rfl) (by kernel_rfl) (fun _ _ _ h => h) (by rfl) ?_ ⟨y1, z1⟩ ?_
                          rotate_left
                          · (intro w hSw; (try dsimp only at hSw); try simp only [List.getElem_toArray, List.getElem_cons_zero, List.getElem_cons_succ]; go_simp; try (with_reducible rfl))
                          try simp only [List.setIfInBounds_toArray, List.set_cons_zero, List.set_cons_succ]
                          refine held_take 1 148 (v := ?_) rfl rfl (by kernel_rfl) (by kernel_rfl) (by kernel_rfl) (fun _ _ _ h => h) (by rfl) ?_ ⟨y1, z1⟩ ?_
                          rotate_left
                          · (intro w hSw; (try dsimp only at hSw); try simp only [List.getElem_toArray, List.getElem_cons_zero, List.getElem_cons_succ]; go_simp; try (with_reducible rfl))
                          try simp only [List.setIfInBounds_toArray, List.set_cons_zero, List.set_cons_succ]
                          refine held_take 3 150 (v := ?_) rfl rfl (by kernel_rfl) (by kernel_rfl) (by kernel_rfl) (fun _ _ _ h => h) (by rfl) ?_ ⟨y1, z1⟩ ?_
                          rotate_left
                          · (intro w hSw; (try dsimp only at hSw); try simp only [List.getElem_toArray, List.getElem_cons_zero, List.getElem_cons_succ]; go_simp; try (with_reducible rfl))
                          try simp only [List.setIfInBounds_toArray, List.set_cons_zero, List.set_cons_succ]
                          refine held_take 6 153 (v := ?_) rfl rfl (by kernel_rfl) (by kernel_rfl) (by kernel_rfl) (fun _ _ _ h => h) (by rfl) ?_ ⟨y1, z1⟩ ?_
                          rotate_left
                          · (intro w hSw; (try dsimp only at hSw); try simp only [List.getElem_toArray, List.getElem_cons_zero, List.getElem_cons_succ]; go_simp; try (with_reducible rfl))
                          try simp only [List.setIfInBounds_toArray, List.set_cons_zero, List.set_cons_succ]
                          refine held_take 7 154 (v := ?_) rfl rfl (by kernel_rfl) (by kernel_rfl) (by kernel_rfl) (fun _ _ _ h => h) (by rfl) ?_ ⟨y1, z1⟩ ?_
                          rotate_left
                          · (intro w hSw; (try dsimp only at hSw); try simp only [List.getElem_toArray, List.getElem_cons_zero, List.getElem_cons_succ]; go_simp; try (with_reducible rfl))
                          try simp only [List.setIfInBounds_toArray, List.set_cons_zero, List.set_cons_succ]
                          refine held_take 8 155 (v := ?_) rfl rfl (by kernel_rfl) (by kernel_rfl) (by kernel_rfl) (fun _ _ _ h => h) (by rfl) ?_ ⟨y1, z1⟩ ?_
                          rotate_left
                          · (intro w hSw; (try dsimp only at hSw); try simp only [List.getElem_toArray, List.getElem_cons_zero, List.getElem_cons_succ]; go_simp; try (with_reducible rfl))
                          try simp only [List.setIfInBounds_toArray, List.set_cons_zero, List.set_cons_succ]
                          refine held_take 9 156 (v := ?_) rfl rfl (by kernel_rfl) (by kernel_rfl) (by kernel_rfl) (fun _ _ _ h => h) (by rfl) ?_ ⟨y1, z1⟩ ?_
                          rotate_left
                          · (intro w hSw; (try dsimp only at hSw); try simp only [List.getElem_toArray, List.getElem_cons_zero, List.getElem_cons_succ]; go_simp; try (with_reducible rfl))
                          try simp only [List.setIfInBounds_toArray, List.set_cons_zero, List.set_cons_succ]
                          refine held_take 11 158 (v := ?_) rfl rfl (by kernel_rfl) (by kernel_rfl) (by kernel_rfl) (fun _ _ _ h => h) (by rfl) ?_ ⟨y1, z1⟩ ?_
                          rotate_left
                          · (intro w hSw; (try dsimp only at hSw); try simp only [List.getElem_toArray, List.getElem_cons_zero, List.getElem_cons_succ]; go_simp; try (with_reducible rfl))
                          try simp only [List.setIfInBounds_toArray, List.set_cons_zero, List.set_cons_succ]
                          refine held_take 12 159 (v := ?_) rfl rfl (by kernel_rfl) (by kernel_rfl) (by kernel_rfl) (fun _ _ _ h => h) (by rfl) ?_ ⟨y1, z1⟩ ?_
                          rotate_left
                          · (intro w hSw; (try dsimp only at hSw); try simp only [List.getElem_toArray, List.getElem_cons_zero, List.getElem_cons_succ]; go_simp; try (with_reducible rfl))
                          try simp only [List.setIfInBounds_toArray, List.set_cons_zero, List.set_cons_succ]
                          refine held_take 13 160 (v := ?_) rfl rfl (by kernel_rfl) (by kernel_rfl) (by kernel_rfl) (fun _ _ _ h => h) (by rfl) ?_ ⟨y1, z1⟩ ?_
                          rotate_left
                          · (intro w hSw; (try dsimp only at hSw); try simp only [List.getElem_toArray, List.getElem_cons_zero, List.getElem_cons_succ]; go_simp; try (with_reducible rfl))
                          try simp only [List.setIfInBounds_toArray, List.set_cons_zero, List.set_cons_succ]
                          refine held_take 14 161 (v := ?_) rfl rfl (by kernel_rfl) (by kernel_rfl) (by kernel_rfl) (fun _ _ _ h => h) (by rfl) ?_ ⟨y1, z1⟩ ?_
                          rotate_left
                          · (intro w hSw; (try dsimp only at hSw); try simp only [List.getElem_toArray, List.getElem_cons_zero, List.getElem_cons_succ]; go_simp; try (with_reducible rfl))
                          try simp only [List.setIfInBounds_toArray, List.set_cons_zero, List.set_cons_succ]
                          refine held_call 2 149 rfl rfl (by kernel_rfl) (by rfl) (fun K hK => ?_)
                          try simp only [List.getElem_toArray, List.getElem_cons_zero, List.getElem_cons_succ]
                          go_simp
                          (go_at_call 14; refine (far_ok w.heap.size n c d wr.drew.drew.drew HGD.out hld HGC.out.sym HGC.out.low HGC.out.high).mono ?_; rintro e w8 ⟨⟨gd, Fd, rfl, _, hfd, hid⟩, hbz⟩; have y1 := later hbz y1; have z1 := later hbz z1; have HD := Lib.hid (HD.out.trans (hbz.mono HD.out.size)); have v1 := hfd.cell b hlb; have hvl := hid.low b hlb; have hvh := hid.high b hlb; have htri := HIA.out.third HGC.out.sym HFB.out hlb d hld; rw [HFB.out.sym HGC.out.sym hid hlb hld, HXX.out, HYY.out.2] at htri; obtain ⟨v, hv⟩ : ∃ v, Fd b = v := ⟨_, rfl⟩; rw [hv] at v1 htri hvl hvh; have hvz : IntKind.i64.wrap (v + z) = v + z := IntWalk.i64_in _ (by omega); have hnl : ¬ v + z < x := (by omega); clear hfd hbz hid hv htri hvl hvh)
                          try go_wp2_with fail
                          try simp only [Act.put, List.setIfInBounds_toArray, List.set_cons_zero, List.set_cons_succ]
                          refine hK.out _ _ _ ⟨y1, z1⟩ ?_
                          clear hK K
                          refine held_mono (S' := (fun w' => w'.cell? ⟨gd, b, none⟩ = some (.int .i64 v) ∧ (w'.cell? ⟨ga, b, none⟩ = some (.int .i64 x) ∧ w'.cell? ⟨ga, d, none⟩ = some (.int .i64 z)))) (fun _ h => h.2) _ _ _ _ ?_
                          refine held_take 4 151 (v := ?_) rfl rfl (by kernel_rfl) (by kernel_rfl) (by kernel_rfl) (fun _ _ _ h => h) (by rfl) ?_ ⟨v1, y1, z1⟩ ?_
                          rotate_left
                          · (intro w hSw; (try dsimp only at hSw); try simp only [List.getElem_toArray, List.getElem_cons_zero, List.getElem_cons_succ]; go_simp; try (with_reducible rfl))
                          try simp only [List.setIfInBounds_toArray, List.set_cons_zero, List.set_cons_succ]
                          refine held_take 5 152 (v := ?_) rfl rfl (by kernel_rfl) (by kernel_rfl) (by kernel_rfl) (fun _ _ _ h => h) (by rfl) ?_ ⟨v1, y1, z1⟩ ?_
                          rotate_left
                          · (intro w hSw; (try dsimp only at hSw); try simp only [List.getElem_toArray, List.getElem_cons_zero, List.getElem_cons_succ]; go_simp; try (with_reducible rfl))
                          try simp only [List.setIfInBounds_toArray, List.set_cons_zero, List.set_cons_succ]
                          refine held_take 10 157 (v := ?_) rfl rfl (by kernel_rfl) (by kernel_rfl) (by kernel_rfl) (fun _ _ _ h => h) (by rfl) ?_ ⟨v1, y1, z1⟩ ?_
                          rotate_left
                          · (intro w hSw; (try dsimp only at hSw); try simp only [List.getElem_toArray, List.getElem_cons_zero, List.getElem_cons_succ]; go_simp; try (with_reducible rfl))
                          try simp only [List.setIfInBounds_toArray, List.set_cons_zero, List.set_cons_succ]
                          refine held_take 15 162 (v := ?_) rfl rfl (by kernel_rfl) (by kernel_rfl) (by kernel_rfl) (fun _ _ _ h => h) (by rfl) ?_ ⟨v1, y1, z1⟩ ?_
                          rotate_left
                          · (intro w hSw; (try dsimp only at hSw); try simp only [List.getElem_toArray, List.getElem_cons_zero, List.getElem_cons_succ]; go_simp; try (with_reducible rfl))
                          try simp only [List.setIfInBounds_toArray, List.set_cons_zero, List.set_cons_succ]
                          refine wpAnyH_done (by kernel_rfl) ?_ _
                          go_wp2
                          go_roundw
                          case rel => exact ⟨d + 1, true, by omega, by go_num, rfl, fun _ => rfl, fun _ _ _ _ => rfl, HD.out⟩
                          case measure => simp [intOf]; omega
                      · have hy0 : y = 0 := by omega
                        subst hy0
                        refine wp_region_held_drew (S := (fun w' => w'.cell? ⟨ga, b, none⟩ = some (.int .i64 x) ∧ w'.cell? ⟨ga, d, none⟩ = some (.int .i64 z))) (by kernel_rfl) ⟨y1, z1⟩ (fun _ => ?_)
                        refine held_take 0 102 (v := ?_) rfl rfl (by kernel_rfl) (by kernel_rfl) (by kernel_rfl) (fun _ _ _ h => h) (by rfl) ?_ ⟨y1, z1⟩ ?_
                        rotate_left
                        · (intro w hSw; (try dsimp only at hSw); try simp only [List.getElem_toArray, List.getElem_cons_zero, List.getElem_cons_succ]; go_simp; try (with_reducible rfl))
                        try simp only [List.setIfInBounds_toArray, List.set_cons_zero, List.set_cons_succ]
                        refine held_take 1 103 (v := ?_) rfl rfl (by kernel_rfl) (by kernel_rfl) (by kernel_rfl) (fun _ _ _ h => h) (by rfl) ?_ ⟨y1, z1⟩ ?_
                        rotate_left
                        · (intro w hSw; (try dsimp only at hSw); try simp only [List.getElem_toArray, List.getElem_cons_zero, List.getElem_cons_succ]; go_simp; try (with_reducible rfl))
                        try simp only [List.setIfInBounds_toArray, List.set_cons_zero, List.set_cons_succ]
                        refine held_take 2 104 (v := ?_) rfl rfl (by kernel_rfl) (by kernel_rfl) (by kernel_rfl) (fun _ _ _ h => h) (by rfl) ?_ ⟨y1, z1⟩ ?_
                        rotate_left
                        · (intro w hSw; (try dsimp only at hSw); try simp only [List.getElem_toArray, List.getElem_cons_zero, List.getElem_cons_succ]; go_simp; try (with_reducible rfl))
                        try simp only [List.setIfInBounds_toArray, List.set_cons_zero, List.set_cons_succ]
                        refine held_call 3 105 rfl rfl (by kernel_rfl) (by rfl) (fun K hK => ?_)
                        try simp only [List.getElem_toArray, List.getElem_cons_zero, List.getElem_cons_succ]
                        go_simp
                        (go_at_call 13; refine (cost_any w.heap.size n c b d _ HGD.out).mono ?_; rw [HCS.out]; rintro e w7 ⟨rfl, rfl⟩)
                        try go_wp2_with fail
                        try simp only [Act.put, List.setIfInBounds_toArray, List.set_cons_zero, List.set_cons_succ]
                        refine hK.out _ _ _ ⟨y1, z1⟩ ?_
                        clear hK K
                        refine held_take 4 106 (v := ?_) rfl rfl (by kernel_rfl) (by kernel_rfl) (by kernel_rfl) (fun _ _ _ h => h) (by rfl) ?_ ⟨y1, z1⟩ ?_
                        rotate_left
                        · (intro w hSw; (try dsimp only at hSw); try simp only [List.getElem_toArray, List.getElem_cons_zero, List.getElem_cons_succ]; go_simp; try (with_reducible rfl))
                        try simp only [List.setIfInBounds_toArray, List.set_cons_zero, List.set_cons_succ]
                        refine held_take 5 107 (v := ?_) rfl rfl (by kernel_rfl) (by kernel_rfl) (by kernel_rfl) (fun _ _ _ h => h) (by rfl) ?_ ⟨y1, z1⟩ ?_
                        rotate_left
                        · (intro w hSw; (try dsimp only at hSw); try simp only [List.getElem_toArray, List.getElem_cons_zero, List.getElem_cons_succ]; go_simp; try (with_reducible rfl))
                        try simp only [List.setIfInBounds_toArray, List.set_cons_zero, List.set_cons_succ]
                        refine held_skip 6 108 rfl rfl (by kernel_rfl) (by kernel_rfl) (by kernel_rfl) (fun _ _ _ h => h) (by rfl) ⟨y1, z1⟩ ?_
                        try simp only [List.setIfInBounds_toArray, List.set_cons_zero, List.set_cons_succ]
                        refine held_skip 7 109 rfl rfl (by kernel_rfl) (by kernel_rfl) (by kernel_rfl) (fun _ _ _ h => h) (by rfl) ⟨y1, z1⟩ ?_
                        try simp only [List.setIfInBounds_toArray, List.set_cons_zero, List.set_cons_succ]
                        refine held_skip 8 110 rfl rfl (by kernel_rfl) (by kernel_rfl) (by kernel_rfl) (fun _ _ _ h => h) (by rfl) ⟨y1, z1⟩ ?_
                        try simp only [List.setIfInBounds_toArray, List.set_cons_zero, List.set_cons_succ]
                        refine held_skip 9 111 rfl rfl (by kernel_rfl) (by kernel_rfl) (by kernel_rfl) (fun _ _ _ h => h) (by rfl) ⟨y1, z1⟩ ?_
                        try simp only [List.setIfInBounds_toArray, List.set_cons_zero, List.set_cons_succ]
                        refine held_skip 10 112 rfl rfl (by kernel_rfl) (by kernel_rfl) (by kernel_rfl) (fun _ _ _ h => h) (by rfl) ⟨y1, z1⟩ ?_
                        try simp only [List.setIfInBounds_toArray, List.set_cons_zero, List.set_cons_succ]
                        refine held_skip 11 113 rfl rfl (by kernel_rfl) (by kernel_rfl) (by kernel_rfl) (fun _ _ _ h => h) (by rfl) ⟨y1, z1⟩ ?_
                        try simp only [List.setIfInBounds_toArray, List.set_cons_zero, List.set_cons_succ]
                        refine held_skip 12 114 rfl rfl (by kernel_rfl) (by kernel_rfl) (by kernel_rfl) (fun _ _ _ h => h) (by rfl) ⟨y1, z1⟩ ?_
                        try simp only [List.setIfInBounds_toArray, List.set_cons_zero, List.set_cons_succ]
                        refine held_skip 13 115 rfl rfl (by kernel_rfl) (by kernel_rfl) (by kernel_rfl) (fun _ _ _ h => h) (by rfl) ⟨y1, z1⟩ ?_
                        try simp only [List.setIfInBounds_toArray, List.set_cons_zero, List.set_cons_succ]
                        refine held_skip 14 116 rfl rfl (by kernel_rfl) (by kernel_rfl) (by kernel_rfl) (fun _ _ _ h => h) (by rfl) ⟨y1, z1⟩ ?_
                        try simp only [List.setIfInBounds_toArray, List.set_cons_zero, List.set_cons_succ]
                        refine held_skip 15 117 rfl rfl (by kernel_rfl) (by kernel_rfl) (by kernel_rfl) (fun _ _ _ h => h) (by rfl) ⟨y1, z1⟩ ?_
                        try simp only [List.setIfInBounds_toArray, List.set_cons_zero, List.set_cons_succ]
                        refine held_skip 16 118 rfl rfl (by kernel_rfl) (by kernel_rfl) (by kernel_rfl) (fun _ _ _ h => h) (by rfl) ⟨y1, z1⟩ ?_
                        try simp only [List.setIfInBounds_toArray, List.set_cons_zero, List.set_cons_succ]
                        refine held_pass 17 119 rfl rfl (by kernel_rfl) (by rfl) ⟨y1, z1⟩ ?_
                        try simp only [List.setIfInBounds_toArray, List.set_cons_zero, List.set_cons_succ]
                        refine held_skip 18 120 rfl rfl (by kernel_rfl) (by kernel_rfl) (by kernel_rfl) (fun _ _ _ h => h) (by rfl) ⟨y1, z1⟩ ?_
                        try simp only [List.setIfInBounds_toArray, List.set_cons_zero, List.set_cons_succ]
                        refine held_skip 19 121 rfl rfl (by kernel_rfl) (by kernel_rfl) (by kernel_rfl) (fun _ _ _ h => h) (by rfl) ⟨y1, z1⟩ ?_
                        try simp only [List.setIfInBounds_toArray, List.set_cons_zero, List.set_cons_succ]
                        refine held_take 20 122 (v := ?_) rfl rfl (by kernel_rfl) (by kernel_rfl) (by kernel_rfl) (fun _ _ _ h => h) (by rfl) ?_ ⟨y1, z1⟩ ?_
                        rotate_left
                        · (intro w hSw; (try dsimp only at hSw); try simp only [List.getElem_toArray, List.getElem_cons_zero, List.getElem_cons_succ]; go_simp; try (with_reducible rfl))
                        try simp only [List.setIfInBounds_toArray, List.set_cons_zero, List.set_cons_succ]
                        refine wpAnyH_done (by kernel_rfl) ?_ _
                        go_upto_region 25 with fail
                        have HD := Lib.hid (below_drew HD.out)
                        have HGD := Lib.hid (show IsG wr.drew.drew w.heap.size n c from isg_drew HGD.out)
                        have y1 : wr.drew.drew.cell? ⟨ga, b, none⟩ = some (.int .i64 x) := y1
                        have z1 : wr.drew.drew.cell? ⟨ga, d, none⟩ = some (.int .i64 z) := z1
                        cases f
                        · have HNX := Lib.hid (show ∀ j, j < d + 1 → 0 < c b j → x = Fa j + c b j → false = true by
                            intro j hj h1 h2
                            by_cases e : j = d
                            · subst e; rw [HYY.out.1] at h1; exact absurd h1 (by omega)
                            · exact HFN.out j (by omega) h1 h2)
                          refine wp_region_held_drew (S := (fun w' => w'.cell? ⟨ga, b, none⟩ = some (.int .i64 x) ∧ w'.cell? ⟨ga, d, none⟩ = some (.int .i64 z))) (by kernel_rfl) ⟨y1, z1⟩ (fun _ => ?_)
                          refine held_take 0 123 (v := ?_) rfl rfl (by kernel_rfl) (by kernel_rfl) (by kernel_rfl) (fun _ _ _ h => h) (by rfl) ?_ ⟨y1, z1⟩ ?_
                          rotate_left
                          · (intro w hSw; (try dsimp only at hSw); try simp only [List.getElem_toArray, List.getElem_cons_zero, List.getElem_cons_succ]; go_simp; try (with_reducible rfl))
                          try simp only [List.setIfInBounds_toArray, List.set_cons_zero, List.set_cons_succ]
                          refine held_take 1 124 (v := ?_) rfl rfl (by kernel_rfl) (by kernel_rfl) (by kernel_rfl) (fun _ _ _ h => h) (by rfl) ?_ ⟨y1, z1⟩ ?_
                          rotate_left
                          · (intro w hSw; (try dsimp only at hSw); try simp only [List.getElem_toArray, List.getElem_cons_zero, List.getElem_cons_succ]; go_simp; try (with_reducible rfl))
                          try simp only [List.setIfInBounds_toArray, List.set_cons_zero, List.set_cons_succ]
                          refine held_take 2 125 (v := ?_) rfl rfl (by kernel_rfl) (by kernel_rfl) (by kernel_rfl) (fun _ _ _ h => h) (by rfl) ?_ ⟨y1, z1⟩ ?_
                          rotate_left
                          · (intro w hSw; (try dsimp only at hSw); try simp only [List.getElem_toArray, List.getElem_cons_zero, List.getElem_cons_succ]; go_simp; try (with_reducible rfl))
                          try simp only [List.setIfInBounds_toArray, List.set_cons_zero, List.set_cons_succ]
                          refine held_take 3 126 (v := ?_) rfl rfl (by kernel_rfl) (by kernel_rfl) (by kernel_rfl) (fun _ _ _ h => h) (by rfl) ?_ ⟨y1, z1⟩ ?_
                          rotate_left
                          · (intro w hSw; (try dsimp only at hSw); try simp only [List.getElem_toArray, List.getElem_cons_zero, List.getElem_cons_succ]; go_simp; try (with_reducible rfl))
                          try simp only [List.setIfInBounds_toArray, List.set_cons_zero, List.set_cons_succ]
                          refine held_take 4 127 (v := ?_) rfl rfl (by kernel_rfl) (by kernel_rfl) (by kernel_rfl) (fun _ _ _ h => h) (by rfl) ?_ ⟨y1, z1⟩ ?_
                          rotate_left
                          · (intro w hSw; (try dsimp only at hSw); try simp only [List.getElem_toArray, List.getElem_cons_zero, List.getElem_cons_succ]; go_simp; try (with_reducible rfl))
                          try simp only [List.setIfInBounds_toArray, List.set_cons_zero, List.set_cons_succ]
                          refine held_call 5 128 rfl rfl (by kernel_rfl) (by rfl) (fun K hK => ?_)
                          try simp only [List.getElem_toArray, List.getElem_cons_zero, List.getElem_cons_succ]
                          go_simp
                          (go_at_call 13; refine (cost_any w.heap.size n c b d _ HGD.out).mono ?_; rw [HCS.out]; rintro e w7 ⟨rfl, rfl⟩)
                          try go_wp2_with fail
                          try simp only [Act.put, List.setIfInBounds_toArray, List.set_cons_zero, List.set_cons_succ]
                          refine hK.out _ _ _ ⟨y1, z1⟩ ?_
                          clear hK K
                          refine held_take 6 129 (v := ?_) rfl rfl (by kernel_rfl) (by kernel_rfl) (by kernel_rfl) (fun _ _ _ h => h) (by rfl) ?_ ⟨y1, z1⟩ ?_
                          rotate_left
                          · (intro w hSw; (try dsimp only at hSw); try simp only [List.getElem_toArray, List.getElem_cons_zero, List.getElem_cons_succ]; go_simp; try (with_reducible rfl))
                          try simp only [List.setIfInBounds_toArray, List.set_cons_zero, List.set_cons_succ]
                          refine held_take 7 130 (v := ?_) rfl rfl (by kernel_rfl) (by kernel_rfl) (by kernel_rfl) (fun _ _ _ h => h) (by rfl) ?_ ⟨y1, z1⟩ ?_
                          rotate_left
                          · (intro w hSw; (try dsimp only at hSw); try simp only [List.getElem_toArray, List.getElem_cons_zero, List.getElem_cons_succ]; go_simp; try (with_reducible rfl))
                          try simp only [List.setIfInBounds_toArray, List.set_cons_zero, List.set_cons_succ]
                          refine held_skip 8 131 rfl rfl (by kernel_rfl) (by kernel_rfl) (by kernel_rfl) (fun _ _ _ h => h) (by rfl) ⟨y1, z1⟩ ?_
                          try simp only [List.setIfInBounds_toArray, List.set_cons_zero, List.set_cons_succ]
                          refine held_skip 9 132 rfl rfl (by kernel_rfl) (by kernel_rfl) (by kernel_rfl) (fun _ _ _ h => h) (by rfl) ⟨y1, z1⟩ ?_
                          try simp only [List.setIfInBounds_toArray, List.set_cons_zero, List.set_cons_succ]
                          refine held_skip 10 133 rfl rfl (by kernel_rfl) (by kernel_rfl) (by kernel_rfl) (fun _ _ _ h => h) (by rfl) ⟨y1, z1⟩ ?_
                          try simp only [List.setIfInBounds_toArray, List.set_cons_zero, List.set_cons_succ]
                          refine held_skip 11 134 rfl rfl (by kernel_rfl) (by kernel_rfl) (by kernel_rfl) (fun _ _ _ h => h) (by rfl) ⟨y1, z1⟩ ?_
                          try simp only [List.setIfInBounds_toArray, List.set_cons_zero, List.set_cons_succ]
                          refine held_skip 12 135 rfl rfl (by kernel_rfl) (by kernel_rfl) (by kernel_rfl) (fun _ _ _ h => h) (by rfl) ⟨y1, z1⟩ ?_
                          try simp only [List.setIfInBounds_toArray, List.set_cons_zero, List.set_cons_succ]
                          refine held_skip 13 136 rfl rfl (by kernel_rfl) (by kernel_rfl) (by kernel_rfl) (fun _ _ _ h => h) (by rfl) ⟨y1, z1⟩ ?_
                          try simp only [List.setIfInBounds_toArray, List.set_cons_zero, List.set_cons_succ]
                          refine held_skip 14 137 rfl rfl (by kernel_rfl) (by kernel_rfl) (by kernel_rfl) (fun _ _ _ h => h) (by rfl) ⟨y1, z1⟩ ?_
                          try simp only [List.setIfInBounds_toArray, List.set_cons_zero, List.set_cons_succ]
                          refine held_skip 15 138 rfl rfl (by kernel_rfl) (by kernel_rfl) (by kernel_rfl) (fun _ _ _ h => h) (by rfl) ⟨y1, z1⟩ ?_
                          try simp only [List.setIfInBounds_toArray, List.set_cons_zero, List.set_cons_succ]
                          refine held_skip 16 139 rfl rfl (by kernel_rfl) (by kernel_rfl) (by kernel_rfl) (fun _ _ _ h => h) (by rfl) ⟨y1, z1⟩ ?_
                          try simp only [List.setIfInBounds_toArray, List.set_cons_zero, List.set_cons_succ]
                          refine held_skip 17 140 rfl rfl (by kernel_rfl) (by kernel_rfl) (by kernel_rfl) (fun _ _ _ h => h) (by rfl) ⟨y1, z1⟩ ?_
                          try simp only [List.setIfInBounds_toArray, List.set_cons_zero, List.set_cons_succ]
                          refine held_skip 18 141 rfl rfl (by kernel_rfl) (by kernel_rfl) (by kernel_rfl) (fun _ _ _ h => h) (by rfl) ⟨y1, z1⟩ ?_
                          try simp only [List.setIfInBounds_toArray, List.set_cons_zero, List.set_cons_succ]
                          refine held_pass 19 142 rfl rfl (by kernel_rfl) (by rfl) ⟨y1, z1⟩ ?_
                          try simp only [List.setIfInBounds_toArray, List.set_cons_zero, List.set_cons_succ]
                          refine held_skip 20 143 rfl rfl (by kernel_rfl) (by kernel_rfl) (by kernel_rfl) (fun _ _ _ h => h) (by rfl) ⟨y1, z1⟩ ?_
                          try simp only [List.setIfInBounds_toArray, List.set_cons_zero, List.set_cons_succ]
                          refine held_skip 21 144 rfl rfl (by kernel_rfl) (by kernel_rfl) (by kernel_rfl) (fun _ _ _ h => h) (by rfl) ⟨y1, z1⟩ ?_
                          try simp only [List.setIfInBounds_toArray, List.set_cons_zero, List.set_cons_succ]
                          refine held_take 22 145 (v := ?_) rfl rfl (by kernel_rfl) (by kernel_rfl) (by kernel_rfl) (fun _ _ _ h => h) (by rfl) ?_ ⟨y1, z1⟩ ?_
                          rotate_left
                          · (intro w hSw; (try dsimp only at hSw); try simp only [List.getElem_toArray, List.getElem_cons_zero, List.getElem_cons_succ]; go_simp; try (with_reducible rfl))
                          try simp only [List.setIfInBounds_toArray, List.set_cons_zero, List.set_cons_succ]
                          refine held_take 23 146 (v := ?_) rfl rfl (by kernel_rfl) (by kernel_rfl) (by kernel_rfl) (fun _ _ _ h => h) (by rfl) ?_ ⟨y1, z1⟩ ?_
                          rotate_left
                          · (intro w hSw; (try dsimp only at hSw); try simp only [List.getElem_toArray, List.getElem_cons_zero, List.getElem_cons_succ]; go_simp; try (with_reducible rfl))
                          try simp only [List.setIfInBounds_toArray, List.set_cons_zero, List.set_cons_succ]
                          refine held_take 24 12 (v := ?_) rfl rfl (by kernel_rfl) (by kernel_rfl) (by kernel_rfl) (fun _ _ _ h => h) (by rfl) ?_ ⟨y1, z1⟩ ?_
                          rotate_left
                          · (intro w hSw; (try dsimp only at hSw); try simp only [List.getElem_toArray, List.getElem_cons_zero, List.getElem_cons_succ]; go_simp; try (with_reducible rfl))
                          try simp only [List.setIfInBounds_toArray, List.set_cons_zero, List.set_cons_succ]
                          refine wpAnyH_done (by kernel_rfl) ?_ _
                          go_upto_region 26 with fail
                          have HD := Lib.hid (below_drew HD.out)
                          have HGD := Lib.hid (show IsG wr.drew.drew.drew w.heap.size n c from isg_drew HGD.out)
                          have y1 : wr.drew.drew.drew.cell? ⟨ga, b, none⟩ = some (.int .i64 x) := y1
                          have z1 : wr.drew.drew.drew.cell? ⟨ga, d, none⟩ = some (.int .i64 z) := z1
                          refine wp_region_held_drew (S := (fun w' => w'.cell? ⟨ga, b, none⟩ = some (.int .i64 x) ∧ w'.cell? ⟨ga, d, none⟩ = some (.int .i64 z))) (by kernel_rfl) ⟨y1, z1⟩ (fun _ => ?_)
                          refine held_take 0 147 (v := ?_) rfl rfl (by kernel_rfl) (by kernel_rfl) (by kernel_rfl) (fun _ _ _ h => h) (by rfl) ?_ ⟨y1, z1⟩ ?_
                          rotate_left
                          · (intro w hSw; (try dsimp only at hSw); try simp only [List.getElem_toArray, List.getElem_cons_zero, List.getElem_cons_succ]; go_simp; try (with_reducible rfl))
                          try simp only [List.setIfInBounds_toArray, List.set_cons_zero, List.set_cons_succ]
                          refine held_take 1 148 (v := ?_) rfl rfl (by kernel_rfl) (by kernel_rfl) (by kernel_rfl) (fun _ _ _ h => h) (by rfl) ?_ ⟨y1, z1⟩ ?_
                          rotate_left
                          · (intro w hSw; (try dsimp only at hSw); try simp only [List.getElem_toArray, List.getElem_cons_zero, List.getElem_cons_succ]; go_simp; try (with_reducible rfl))
                          try simp only [List.setIfInBounds_toArray, List.set_cons_zero, List.set_cons_succ]
                          refine held_take 3 150 (v := ?_) rfl rfl (by kernel_rfl) (by kernel_rfl) (by kernel_rfl) (fun _ _ _ h => h) (by rfl) ?_ ⟨y1, z1⟩ ?_
                          rotate_left
                          · (intro w hSw; (try dsimp only at hSw); try simp only [List.getElem_toArray, List.getElem_cons_zero, List.getElem_cons_succ]; go_simp; try (with_reducible rfl))
                          try simp only [List.setIfInBounds_toArray, List.set_cons_zero, List.set_cons_succ]
                          refine held_take 6 153 (v := ?_) rfl rfl (by kernel_rfl) (by kernel_rfl) (by kernel_rfl) (fun _ _ _ h => h) (by rfl) ?_ ⟨y1, z1⟩ ?_
                          rotate_left
                          · (intro w hSw; (try dsimp only at hSw); try simp only [List.getElem_toArray, List.getElem_cons_zero, List.getElem_cons_succ]; go_simp; try (with_reducible rfl))
                          try simp only [List.setIfInBounds_toArray, List.set_cons_zero, List.set_cons_succ]
                          refine held_take 7 154 (v := ?_) rfl rfl (by kernel_rfl) (by kernel_rfl) (by kernel_rfl) (fun _ _ _ h => h) (by rfl) ?_ ⟨y1, z1⟩ ?_
                          rotate_left
                          · (intro w hSw; (try dsimp only at hSw); try simp only [List.getElem_toArray, List.getElem_cons_zero, List.getElem_cons_succ]; go_simp; try (with_reducible rfl))
                          try simp only [List.setIfInBounds_toArray, List.set_cons_zero, List.set_cons_succ]
                          refine held_take 8 155 (v := ?_) rfl rfl (by kernel_rfl) (by kernel_rfl) (by kernel_rfl) (fun _ _ _ h => h) (by rfl) ?_ ⟨y1, z1⟩ ?_
                          rotate_left
                          · (intro w hSw; (try dsimp only at hSw); try simp only [List.getElem_toArray, List.getElem_cons_zero, List.getElem_cons_succ]; go_simp; try (with_reducible rfl))
                          try simp only [List.setIfInBounds_toArray, List.set_cons_zero, List.set_cons_succ]
                          refine held_take 9 156 (v := ?_) rfl rfl (by kernel_rfl) (by kernel_rfl) (by kernel_rfl) (fun _ _ _ h => h) (by rfl) ?_ ⟨y1, z1⟩ ?_
                          rotate_left
                          · (intro w hSw; (try dsimp only at hSw); try simp only [List.getElem_toArray, List.getElem_cons_zero, List.getElem_cons_succ]; go_simp; try (with_reducible rfl))
                          try simp only [List.setIfInBounds_toArray, List.set_cons_zero, List.set_cons_succ]
                          refine held_take 11 158 (v := ?_) rfl rfl (by kernel_rfl) (by kernel_rfl) (by kernel_rfl) (fun _ _ _ h => h) (by rfl) ?_ ⟨y1, z1⟩ ?_
                          rotate_left
                          · (intro w hSw; (try dsimp only at hSw); try simp only [List.getElem_toArray, List.getElem_cons_zero, List.getElem_cons_succ]; go_simp; try (with_reducible rfl))
                          try simp only [List.setIfInBounds_toArray, List.set_cons_zero, List.set_cons_succ]
                          refine held_take 12 159 (v := ?_) rfl rfl (by kernel_rfl) (by kernel_rfl) (by kernel_rfl) (fun _ _ _ h => h) (by rfl) ?_ ⟨y1, z1⟩ ?_
                          rotate_left
                          · (intro w hSw; (try dsimp only at hSw); try simp only [List.getElem_toArray, List.getElem_cons_zero, List.getElem_cons_succ]; go_simp; try (with_reducible rfl))
                          try simp only [List.setIfInBounds_toArray, List.set_cons_zero, List.set_cons_succ]
                          refine held_take 13 160 (v := ?_) rfl rfl (by kernel_rfl) (by kernel_rfl) (by kernel_rfl) (fun _ _ _ h => h) (by rfl) ?_ ⟨y1, z1⟩ ?_
                          rotate_left
                          · (intro w hSw; (try dsimp only at hSw); try simp only [List.getElem_toArray, List.getElem_cons_zero, List.getElem_cons_succ]; go_simp; try (with_reducible rfl))
                          try simp only [List.setIfInBounds_toArray, List.set_cons_zero, List.set_cons_succ]
                          refine held_take 14 161 (v := ?_) rfl rfl (by kernel_rfl) (by kernel_rfl) (by kernel_rfl) (fun _ _ _ h => h) (by rfl) ?_ ⟨y1, z1⟩ ?_
                          rotate_left
                          · (intro w hSw; (try dsimp only at hSw); try simp only [List.getElem_toArray, List.getElem_cons_zero, List.getElem_cons_succ]; go_simp; try (with_reducible rfl))
                          try simp only [List.setIfInBounds_toArray, List.set_cons_zero, List.set_cons_succ]
                          refine held_call 2 149 rfl rfl (by kernel_rfl) (by rfl) (fun K hK => ?_)
                          try simp only [List.getElem_toArray, List.getElem_cons_zero, List.getElem_cons_succ]
                          go_simp
                          (go_at_call 14; refine (far_ok w.heap.size n c d wr.drew.drew.drew HGD.out hld HGC.out.sym HGC.out.low HGC.out.high).mono ?_; rintro e w8 ⟨⟨gd, Fd, rfl, _, hfd, hid⟩, hbz⟩; have y1 := later hbz y1; have z1 := later hbz z1; have HD := Lib.hid (HD.out.trans (hbz.mono HD.out.size)); have v1 := hfd.cell b hlb; have hvl := hid.low b hlb; have hvh := hid.high b hlb; have htri := HIA.out.third HGC.out.sym HFB.out hlb d hld; rw [HFB.out.sym HGC.out.sym hid hlb hld, HXX.out, HYY.out.2] at htri; obtain ⟨v, hv⟩ : ∃ v, Fd b = v := ⟨_, rfl⟩; rw [hv] at v1 htri hvl hvh; have hvz : IntKind.i64.wrap (v + z) = v + z := IntWalk.i64_in _ (by omega); have hnl : ¬ v + z < x := (by omega); clear hfd hbz hid hv htri hvl hvh)
                          try go_wp2_with fail
                          try simp only [Act.put, List.setIfInBounds_toArray, List.set_cons_zero, List.set_cons_succ]
                          refine hK.out _ _ _ ⟨y1, z1⟩ ?_
                          clear hK K
                          refine held_mono (S' := (fun w' => w'.cell? ⟨gd, b, none⟩ = some (.int .i64 v) ∧ (w'.cell? ⟨ga, b, none⟩ = some (.int .i64 x) ∧ w'.cell? ⟨ga, d, none⟩ = some (.int .i64 z)))) (fun _ h => h.2) _ _ _ _ ?_
                          refine held_take 4 151 (v := ?_) rfl rfl (by kernel_rfl) (by kernel_rfl) (by kernel_rfl) (fun _ _ _ h => h) (by rfl) ?_ ⟨v1, y1, z1⟩ ?_
                          rotate_left
                          · (intro w hSw; (try dsimp only at hSw); try simp only [List.getElem_toArray, List.getElem_cons_zero, List.getElem_cons_succ]; go_simp; try (with_reducible rfl))
                          try simp only [List.setIfInBounds_toArray, List.set_cons_zero, List.set_cons_succ]
                          refine held_take 5 152 (v := ?_) rfl rfl (by kernel_rfl) (by kernel_rfl) (by kernel_rfl) (fun _ _ _ h => h) (by rfl) ?_ ⟨v1, y1, z1⟩ ?_
                          rotate_left
                          · (intro w hSw; (try dsimp only at hSw); try simp only [List.getElem_toArray, List.getElem_cons_zero, List.getElem_cons_succ]; go_simp; try (with_reducible rfl))
                          try simp only [List.setIfInBounds_toArray, List.set_cons_zero, List.set_cons_succ]
                          refine held_take 10 157 (v := ?_) rfl rfl (by kernel_rfl) (by kernel_rfl) (by kernel_rfl) (fun _ _ _ h => h) (by rfl) ?_ ⟨v1, y1, z1⟩ ?_
                          rotate_left
                          · (intro w hSw; (try dsimp only at hSw); try simp only [List.getElem_toArray, List.getElem_cons_zero, List.getElem_cons_succ]; go_simp; try (with_reducible rfl))
                          try simp only [List.setIfInBounds_toArray, List.set_cons_zero, List.set_cons_succ]
                          refine held_take 15 162 (v := ?_) rfl rfl (by kernel_rfl) (by kernel_rfl) (by kernel_rfl) (fun _ _ _ h => h) (by rfl) ?_ ⟨v1, y1, z1⟩ ?_
                          rotate_left
                          · (intro w hSw; (try dsimp only at hSw); try simp only [List.getElem_toArray, List.getElem_cons_zero, List.getElem_cons_succ]; go_simp; try (with_reducible rfl))
                          try simp only [List.setIfInBounds_toArray, List.set_cons_zero, List.set_cons_succ]
                          refine wpAnyH_done (by kernel_rfl) ?_ _
                          go_wp2
                          go_roundw
                          case rel => exact ⟨d + 1, false, by omega, by go_num, rfl, fun h => (HFF.out h), HNX.out, HD.out⟩
                          case measure => simp [intOf]; omega
                        · have _hx := rfl (a := 0)
                          refine wp_region_held_drew (S := (fun w' => w'.cell? ⟨ga, b, none⟩ = some (.int .i64 x) ∧ w'.cell? ⟨ga, d, none⟩ = some (.int .i64 z))) (by kernel_rfl) ⟨y1, z1⟩ (fun _ => ?_)
                          refine held_take 0 123 (v := ?_) rfl rfl (by kernel_rfl) (by kernel_rfl) (by kernel_rfl) (fun _ _ _ h => h) (by rfl) ?_ ⟨y1, z1⟩ ?_
                          rotate_left
                          · (intro w hSw; (try dsimp only at hSw); try simp only [List.getElem_toArray, List.getElem_cons_zero, List.getElem_cons_succ]; go_simp; try (with_reducible rfl))
                          try simp only [List.setIfInBounds_toArray, List.set_cons_zero, List.set_cons_succ]
                          refine held_take 1 124 (v := ?_) rfl rfl (by kernel_rfl) (by kernel_rfl) (by kernel_rfl) (fun _ _ _ h => h) (by rfl) ?_ ⟨y1, z1⟩ ?_
                          rotate_left
                          · (intro w hSw; (try dsimp only at hSw); try simp only [List.getElem_toArray, List.getElem_cons_zero, List.getElem_cons_succ]; go_simp; try (with_reducible rfl))
                          try simp only [List.setIfInBounds_toArray, List.set_cons_zero, List.set_cons_succ]
                          refine held_skip 2 125 rfl rfl (by kernel_rfl) (by kernel_rfl) (by kernel_rfl) (fun _ _ _ h => h) (by rfl) ⟨y1, z1⟩ ?_
                          try simp only [List.setIfInBounds_toArray, List.set_cons_zero, List.set_cons_succ]
                          refine held_skip 3 126 rfl rfl (by kernel_rfl) (by kernel_rfl) (by kernel_rfl) (fun _ _ _ h => h) (by rfl) ⟨y1, z1⟩ ?_
                          try simp only [List.setIfInBounds_toArray, List.set_cons_zero, List.set_cons_succ]
                          refine held_skip 4 127 rfl rfl (by kernel_rfl) (by kernel_rfl) (by kernel_rfl) (fun _ _ _ h => h) (by rfl) ⟨y1, z1⟩ ?_
                          try simp only [List.setIfInBounds_toArray, List.set_cons_zero, List.set_cons_succ]
                          refine held_pass 5 128 rfl rfl (by kernel_rfl) (by rfl) ⟨y1, z1⟩ ?_
                          try simp only [List.setIfInBounds_toArray, List.set_cons_zero, List.set_cons_succ]
                          refine held_skip 6 129 rfl rfl (by kernel_rfl) (by kernel_rfl) (by kernel_rfl) (fun _ _ _ h => h) (by rfl) ⟨y1, z1⟩ ?_
                          try simp only [List.setIfInBounds_toArray, List.set_cons_zero, List.set_cons_succ]
                          refine held_skip 7 130 rfl rfl (by kernel_rfl) (by kernel_rfl) (by kernel_rfl) (fun _ _ _ h => h) (by rfl) ⟨y1, z1⟩ ?_
                          try simp only [List.setIfInBounds_toArray, List.set_cons_zero, List.set_cons_succ]
                          refine held_skip 8 131 rfl rfl (by kernel_rfl) (by kernel_rfl) (by kernel_rfl) (fun _ _ _ h => h) (by rfl) ⟨y1, z1⟩ ?_
                          try simp only [List.setIfInBounds_toArray, List.set_cons_zero, List.set_cons_succ]
                          refine held_skip 9 132 rfl rfl (by kernel_rfl) (by kernel_rfl) (by kernel_rfl) (fun _ _ _ h => h) (by rfl) ⟨y1, z1⟩ ?_
                          try simp only [List.setIfInBounds_toArray, List.set_cons_zero, List.set_cons_succ]
                          refine held_skip 10 133 rfl rfl (by kernel_rfl) (by kernel_rfl) (by kernel_rfl) (fun _ _ _ h => h) (by rfl) ⟨y1, z1⟩ ?_
                          try simp only [List.setIfInBounds_toArray, List.set_cons_zero, List.set_cons_succ]
                          refine held_skip 11 134 rfl rfl (by kernel_rfl) (by kernel_rfl) (by kernel_rfl) (fun _ _ _ h => h) (by rfl) ⟨y1, z1⟩ ?_
                          try simp only [List.setIfInBounds_toArray, List.set_cons_zero, List.set_cons_succ]
                          refine held_skip 12 135 rfl rfl (by kernel_rfl) (by kernel_rfl) (by kernel_rfl) (fun _ _ _ h => h) (by rfl) ⟨y1, z1⟩ ?_
                          try simp only [List.setIfInBounds_toArray, List.set_cons_zero, List.set_cons_succ]
                          refine held_skip 13 136 rfl rfl (by kernel_rfl) (by kernel_rfl) (by kernel_rfl) (fun _ _ _ h => h) (by rfl) ⟨y1, z1⟩ ?_
                          try simp only [List.setIfInBounds_toArray, List.set_cons_zero, List.set_cons_succ]
                          refine held_skip 14 137 rfl rfl (by kernel_rfl) (by kernel_rfl) (by kernel_rfl) (fun _ _ _ h => h) (by rfl) ⟨y1, z1⟩ ?_
                          try simp only [List.setIfInBounds_toArray, List.set_cons_zero, List.set_cons_succ]
                          refine held_skip 15 138 rfl rfl (by kernel_rfl) (by kernel_rfl) (by kernel_rfl) (fun _ _ _ h => h) (by rfl) ⟨y1, z1⟩ ?_
                          try simp only [List.setIfInBounds_toArray, List.set_cons_zero, List.set_cons_succ]
                          refine held_skip 16 139 rfl rfl (by kernel_rfl) (by kernel_rfl) (by kernel_rfl) (fun _ _ _ h => h) (by rfl) ⟨y1, z1⟩ ?_
                          try simp only [List.setIfInBounds_toArray, List.set_cons_zero, List.set_cons_succ]
                          refine held_skip 17 140 rfl rfl (by kernel_rfl) (by kernel_rfl) (by kernel_rfl) (fun _ _ _ h => h) (by rfl) ⟨y1, z1⟩ ?_
                          try simp only [List.setIfInBounds_toArray, List.set_cons_zero, List.set_cons_succ]
                          refine held_skip 18 141 rfl rfl (by kernel_rfl) (by kernel_rfl) (by kernel_rfl) (fun _ _ _ h => h) (by rfl) ⟨y1, z1⟩ ?_
                          try simp only [List.setIfInBounds_toArray, List.set_cons_zero, List.set_cons_succ]
                          refine held_pass 19 142 rfl rfl (by kernel_rfl) (by rfl) ⟨y1, z1⟩ ?_
                          try simp only [List.setIfInBounds_toArray, List.set_cons_zero, List.set_cons_succ]
                          refine held_skip 20 143 rfl rfl (by kernel_rfl) (by kernel_rfl) (by kernel_rfl) (fun _ _ _ h => h) (by rfl) ⟨y1, z1⟩ ?_
                          try simp only [List.setIfInBounds_toArray, List.set_cons_zero, List.set_cons_succ]
                          refine held_skip 21 144 rfl rfl (by kernel_rfl) (by kernel_rfl) (by kernel_rfl) (fun _ _ _ h => h) (by rfl) ⟨y1, z1⟩ ?_
                          try simp only [List.setIfInBounds_toArray, List.set_cons_zero, List.set_cons_succ]
                          refine held_skip 22 145 rfl rfl (by kernel_rfl) (by kernel_rfl) (by kernel_rfl) (fun _ _ _ h => h) (by rfl) ⟨y1, z1⟩ ?_
                          try simp only [List.setIfInBounds_toArray, List.set_cons_zero, List.set_cons_succ]
                          refine held_take 23 146 (v := ?_) rfl rfl (by kernel_rfl) (by kernel_rfl) (by kernel_rfl) (fun _ _ _ h => h) (by rfl) ?_ ⟨y1, z1⟩ ?_
                          rotate_left
                          · (intro w hSw; (try dsimp only at hSw); try simp only [List.getElem_toArray, List.getElem_cons_zero, List.getElem_cons_succ]; go_simp; try (with_reducible rfl))
                          try simp only [List.setIfInBounds_toArray, List.set_cons_zero, List.set_cons_succ]
                          refine held_take 24 12 (v := ?_) rfl rfl (by kernel_rfl) (by kernel_rfl) (by kernel_rfl) (fun _ _ _ h => h) (by rfl) ?_ ⟨y1, z1⟩ ?_
                          rotate_left
                          · (intro w hSw; (try dsimp only at hSw); try simp only [List.getElem_toArray, List.getElem_cons_zero, List.getElem_cons_succ]; go_simp; try (with_reducible rfl))
                          try simp only [List.setIfInBounds_toArray, List.set_cons_zero, List.set_cons_succ]
                          refine wpAnyH_done (by kernel_rfl) ?_ _
                          go_upto_region 26 with fail
                          have HD := Lib.hid (below_drew HD.out)
                          have HGD := Lib.hid (show IsG wr.drew.drew.drew w.heap.size n c from isg_drew HGD.out)
                          have y1 : wr.drew.drew.drew.cell? ⟨ga, b, none⟩ = some (.int .i64 x) := y1
                          have z1 : wr.drew.drew.drew.cell? ⟨ga, d, none⟩ = some (.int .i64 z) := z1
                          refine wp_region_held_drew (S := (fun w' => w'.cell? ⟨ga, b, none⟩ = some (.int .i64 x) ∧ w'.cell? ⟨ga, d, none⟩ = some (.int .i64 z))) (by kernel_rfl) ⟨y1, z1⟩ (fun _ => ?_)
                          refine held_take 0 147 (v := ?_) rfl rfl (by kernel_rfl) (by kernel_rfl) (by kernel_rfl) (fun _ _ _ h => h) (by rfl) ?_ ⟨y1, z1⟩ ?_
                          rotate_left
                          · (intro w hSw; (try dsimp only at hSw); try simp only [List.getElem_toArray, List.getElem_cons_zero, List.getElem_cons_succ]; go_simp; try (with_reducible rfl))
                          try simp only [List.setIfInBounds_toArray, List.set_cons_zero, List.set_cons_succ]
                          refine held_take 1 148 (v := ?_) rfl rfl (by kernel_rfl) (by kernel_rfl) (by kernel_rfl) (fun _ _ _ h => h) (by rfl) ?_ ⟨y1, z1⟩ ?_
                          rotate_left
                          · (intro w hSw; (try dsimp only at hSw); try simp only [List.getElem_toArray, List.getElem_cons_zero, List.getElem_cons_succ]; go_simp; try (with_reducible rfl))
                          try simp only [List.setIfInBounds_toArray, List.set_cons_zero, List.set_cons_succ]
                          refine held_take 3 150 (v := ?_) rfl rfl (by kernel_rfl) (by kernel_rfl) (by kernel_rfl) (fun _ _ _ h => h) (by rfl) ?_ ⟨y1, z1⟩ ?_
                          rotate_left
                          · (intro w hSw; (try dsimp only at hSw); try simp only [List.getElem_toArray, List.getElem_cons_zero, List.getElem_cons_succ]; go_simp; try (with_reducible rfl))
                          try simp only [List.setIfInBounds_toArray, List.set_cons_zero, List.set_cons_succ]
                          refine held_take 6 153 (v := ?_) rfl rfl (by kernel_rfl) (by kernel_rfl) (by kernel_rfl) (fun _ _ _ h => h) (by rfl) ?_ ⟨y1, z1⟩ ?_
                          rotate_left
                          · (intro w hSw; (try dsimp only at hSw); try simp only [List.getElem_toArray, List.getElem_cons_zero, List.getElem_cons_succ]; go_simp; try (with_reducible rfl))
                          try simp only [List.setIfInBounds_toArray, List.set_cons_zero, List.set_cons_succ]
                          refine held_take 7 154 (v := ?_) rfl rfl (by kernel_rfl) (by kernel_rfl) (by kernel_rfl) (fun _ _ _ h => h) (by rfl) ?_ ⟨y1, z1⟩ ?_
                          rotate_left
                          · (intro w hSw; (try dsimp only at hSw); try simp only [List.getElem_toArray, List.getElem_cons_zero, List.getElem_cons_succ]; go_simp; try (with_reducible rfl))
                          try simp only [List.setIfInBounds_toArray, List.set_cons_zero, List.set_cons_succ]
                          refine held_take 8 155 (v := ?_) rfl rfl (by kernel_rfl) (by kernel_rfl) (by kernel_rfl) (fun _ _ _ h => h) (by rfl) ?_ ⟨y1, z1⟩ ?_
                          rotate_left
                          · (intro w hSw; (try dsimp only at hSw); try simp only [List.getElem_toArray, List.getElem_cons_zero, List.getElem_cons_succ]; go_simp; try (with_reducible rfl))
                          try simp only [List.setIfInBounds_toArray, List.set_cons_zero, List.set_cons_succ]
                          refine held_take 9 156 (v := ?_) rfl rfl (by kernel_rfl) (by kernel_rfl) (by kernel_rfl) (fun _ _ _ h => h) (by rfl) ?_ ⟨y1, z1⟩ ?_
                          rotate_left
                          · (intro w hSw; (try dsimp only at hSw); try simp only [List.getElem_toArray, List.getElem_cons_zero, List.getElem_cons_succ]; go_simp; try (with_reducible rfl))
                          try simp only [List.setIfInBounds_toArray, List.set_cons_zero, List.set_cons_succ]
                          refine held_take 11 158 (v := ?_) rfl rfl (by kernel_rfl) (by kernel_rfl) (by kernel_rfl) (fun _ _ _ h => h) (by rfl) ?_ ⟨y1, z1⟩ ?_
                          rotate_left
                          · (intro w hSw; (try dsimp only at hSw); try simp only [List.getElem_toArray, List.getElem_cons_zero, List.getElem_cons_succ]; go_simp; try (with_reducible rfl))
                          try simp only [List.setIfInBounds_toArray, List.set_cons_zero, List.set_cons_succ]
                          refine held_take 12 159 (v := ?_) rfl rfl (by kernel_rfl) (by kernel_rfl) (by kernel_rfl) (fun _ _ _ h => h) (by rfl) ?_ ⟨y1, z1⟩ ?_
                          rotate_left
                          · (intro w hSw; (try dsimp only at hSw); try simp only [List.getElem_toArray, List.getElem_cons_zero, List.getElem_cons_succ]; go_simp; try (with_reducible rfl))
                          try simp only [List.setIfInBounds_toArray, List.set_cons_zero, List.set_cons_succ]
                          refine held_take 13 160 (v := ?_) rfl rfl (by kernel_rfl) (by kernel_rfl) (by kernel_rfl) (fun _ _ _ h => h) (by rfl) ?_ ⟨y1, z1⟩ ?_
                          rotate_left
                          · (intro w hSw; (try dsimp only at hSw); try simp only [List.getElem_toArray, List.getElem_cons_zero, List.getElem_cons_succ]; go_simp; try (with_reducible rfl))
                          try simp only [List.setIfInBounds_toArray, List.set_cons_zero, List.set_cons_succ]
                          refine held_take 14 161 (v := ?_) rfl rfl (by kernel_rfl) (by kernel_rfl) (by kernel_rfl) (fun _ _ _ h => h) (by rfl) ?_ ⟨y1, z1⟩ ?_
                          rotate_left
                          · (intro w hSw; (try dsimp only at hSw); try simp only [List.getElem_toArray, List.getElem_cons_zero, List.getElem_cons_succ]; go_simp; try (with_reducible rfl))
                          try simp only [List.setIfInBounds_toArray, List.set_cons_zero, List.set_cons_succ]
                          refine held_call 2 149 rfl rfl (by kernel_rfl) (by rfl) (fun K hK => ?_)
                          try simp only [List.getElem_toArray, List.getElem_cons_zero, List.getElem_cons_succ]
                          go_simp
                          (go_at_call 14; refine (far_ok w.heap.size n c d wr.drew.drew.drew HGD.out hld HGC.out.sym HGC.out.low HGC.out.high).mono ?_; rintro e w8 ⟨⟨gd, Fd, rfl, _, hfd, hid⟩, hbz⟩; have y1 := later hbz y1; have z1 := later hbz z1; have HD := Lib.hid (HD.out.trans (hbz.mono HD.out.size)); have v1 := hfd.cell b hlb; have hvl := hid.low b hlb; have hvh := hid.high b hlb; have htri := HIA.out.third HGC.out.sym HFB.out hlb d hld; rw [HFB.out.sym HGC.out.sym hid hlb hld, HXX.out, HYY.out.2] at htri; obtain ⟨v, hv⟩ : ∃ v, Fd b = v := ⟨_, rfl⟩; rw [hv] at v1 htri hvl hvh; have hvz : IntKind.i64.wrap (v + z) = v + z := IntWalk.i64_in _ (by omega); have hnl : ¬ v + z < x := (by omega); clear hfd hbz hid hv htri hvl hvh)
                          try go_wp2_with fail
                          try simp only [Act.put, List.setIfInBounds_toArray, List.set_cons_zero, List.set_cons_succ]
                          refine hK.out _ _ _ ⟨y1, z1⟩ ?_
                          clear hK K
                          refine held_mono (S' := (fun w' => w'.cell? ⟨gd, b, none⟩ = some (.int .i64 v) ∧ (w'.cell? ⟨ga, b, none⟩ = some (.int .i64 x) ∧ w'.cell? ⟨ga, d, none⟩ = some (.int .i64 z)))) (fun _ h => h.2) _ _ _ _ ?_
                          refine held_take 4 151 (v := ?_) rfl rfl (by kernel_rfl) (by kernel_rfl) (by kernel_rfl) (fun _ _ _ h => h) (by rfl) ?_ ⟨v1, y1, z1⟩ ?_
                          rotate_left
                          · (intro w hSw; (try dsimp only at hSw); try simp only [List.getElem_toArray, List.getElem_cons_zero, List.getElem_cons_succ]; go_simp; try (with_reducible rfl))
                          try simp only [List.setIfInBounds_toArray, List.set_cons_zero, List.set_cons_succ]
                          refine held_take 5 152 (v := ?_) rfl rfl (by kernel_rfl) (by kernel_rfl) (by kernel_rfl) (fun _ _ _ h => h) (by rfl) ?_ ⟨v1, y1, z1⟩ ?_
                          rotate_left
                          · (intro w hSw; (try dsimp only at hSw); try simp only [List.getElem_toArray, List.getElem_cons_zero, List.getElem_cons_succ]; go_simp; try (with_reducible rfl))
                          try simp only [List.setIfInBounds_toArray, List.set_cons_zero, List.set_cons_succ]
                          refine held_take 10 157 (v := ?_) rfl rfl (by kernel_rfl) (by kernel_rfl) (by kernel_rfl) (fun _ _ _ h => h) (by rfl) ?_ ⟨v1, y1, z1⟩ ?_
                          rotate_left
                          · (intro w hSw; (try dsimp only at hSw); try simp only [List.getElem_toArray, List.getElem_cons_zero, List.getElem_cons_succ]; go_simp; try (with_reducible rfl))
                          try simp only [List.setIfInBounds_toArray, List.set_cons_zero, List.set_cons_succ]
                          refine held_take 15 162 (v := ?_) rfl rfl (by kernel_rfl) (by kernel_rfl) (by kernel_rfl) (fun _ _ _ h => h) (by rfl) ?_ ⟨v1, y1, z1⟩ ?_
                          rotate_left
                          · (intro w hSw; (try dsimp only at hSw); try simp only [List.getElem_toArray, List.getElem_cons_zero, List.getElem_cons_succ]; go_simp; try (with_reducible rfl))
                          try simp only [List.setIfInBounds_toArray, List.set_cons_zero, List.set_cons_succ]
                          refine wpAnyH_done (by kernel_rfl) ?_ _
                          go_wp2
                          go_roundw
                          case rel => exact ⟨d + 1, true, by omega, by go_num, rfl, fun _ => rfl, fun _ _ _ _ => rfl, HD.out⟩
                          case measure => simp [intOf]; omega
                    · obtain rfl : d = n := by omega
                      have hf : f = true := by
                        cases hh : f0
                        · obtain ⟨h1, h2⟩ := HF0.out hh
                          obtain ⟨j, hj, hc, hx⟩ := HBY.out (by rw [HXX.out]; exact h1) h2
                          exact HFJ.out j hj hc (by rw [← HXX.out]; exact hx)
                        · exact HFF.out hh
                      subst hf
                      go_wp2
                      go_roundw
                      case rel => exact ⟨b + 1, by omega, by go_num, HW.out.trans (HBD.out.mono HW.out.size)⟩
                      case measure => simp [intOf]; omega
              · obtain rfl : b = n := by omega
                go_wp2
                go_roundw
                case rel => exact ⟨a + 1, by omega, by go_num, HB3.out.trans (HBW.out.mono HB3.out.size)⟩
                case measure => simp [intOf]; omega
          · obtain rfl : a = n := by omega
            go_wp2
            go_ret
            exact ⟨rfl, HBB.out.trans (HBA.out.mono HBB.out.size)⟩
end GraphTriangle
end Go.Proofs.Ytbghebncmfjgiaa
