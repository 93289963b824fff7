/-
  The laws' offers, and the document's SameOffers. Conditions: those that each theorem names.
-/
import Derived.Test.YtcmknllefnahkaaEngB
import Derived.Laws.StructEq
import Derived.ProofKit
namespace Go.Proofs.Ytcmknllefnahkaa
open Go.RowKit FR FP H2 OW
set_option linter.unusedVariables false
set_option linter.unusedSimpArgs false
namespace Eng
theorem infoR : (Try.prog.info? 87).map (fun i => (i.zero, i.size, i.bytes)) = some (some (.agg #[.int .i64 0, .int .i64 0, .int .u32 0]), 3, 24) := by kernel_rfl
/-- a row of the document's offers reads as offers -/
theorem rdO_ref {w : World} {base n : Nat} {v : Value} {f : Nat → Int × Int × Int} (h : w.ownsRow base 87 3 v n (cellsO f n)) : ∃ A cap, v = .slice A n cap ∧ n ≤ maxLen ∧ RdO w A n f ∧ (∀ g o, A = some ⟨g, o, none⟩ → base ≤ g ∧ g < w.heap.size) := by
  have hc := fun i (u : Value) hu => fun g cap (e : v = .slice (some ⟨g, 0, none⟩) n cap) => h.cells (g := g) (by rw [e]; rfl) i u hu
  rcases h.2 with ⟨rfl, rfl⟩ | ⟨g, cap, cur, rfl, hb, hh, hn, hm, _⟩
  · exact ⟨none, 0, rfl, by decide, fun i hi => by omega, fun g o e => by cases e⟩
  · refine ⟨some ⟨g, 0, none⟩, cap, rfl, by omega, fun i hi => ⟨g, 0, rfl, blk_lt hh, ?_, ?_, ?_⟩, fun g' o e => by cases e; exact ⟨hb, blk_lt hh⟩⟩
    all_goals
      have hx := fun j u hu => hc (i * 3 + j) u hu g cap rfl
      have hadd : ∀ j, (⟨g, 0, none⟩ : Addr).add j = ⟨g, j, none⟩ := fun j => by unfold Addr.add; split <;> simp_all
      simp only [hadd] at hx
      rw [Nat.zero_add]
    · exact hx 0 _ (flat_get f n i 0 hi (by omega))
    · exact hx 1 _ (flat_get f n i 1 hi (by omega))
    · exact hx 2 _ (flat_get f n i 2 hi (by omega))
set_option maxRecDepth 100000 in
set_option maxHeartbeats 8000000 in
theorem offers_any (A : Option Addr) (n cap : Nat) (f : Nat → Int × Int × Int) (w : World) (hn : n ≤ 1000000) (hf : RdO w A n f) : Calls Try.prog 17 #[.slice A n cap] w fun e w' => (∃ v, e = .returned v ∧ w'.ownsRow w.heap.size 87 3 v n (cellsO f n)) ∧ Below w.heap.size w w' := by
  obtain ⟨i0, hi, hz0, hz1, hz2⟩ := info_parts infoR
  have HI := Lib.hid hi
  have HF := Lib.hid hf
  clear hi hf
  go_enter Try.func17, Try.ntmps17
  go_upto_region 3 with fail
  go_loopw [3, 8] (fun s3 s8 wr => ∃ (k : Nat) (sv : Value), k ≤ n ∧ s8 = .int .i64 k ∧ sv = s3 ∧ wr.ownsRow w.heap.size 87 3 sv k (cellsO f k) ∧ Below w.heap.size w wr) (fun _ s8 _ => n - (intOf s8).toNat)
  case atStart => exact ⟨0, _, by omega, rfl, rfl, World.ownsRow_nil _ _ _ _, Below.refl _ _⟩
  case round =>
    obtain ⟨k, sv, hk, rfl, rfl, ho, hb⟩ := hrel
    have HO := Lib.hid ho
    have HB := Lib.hid hb
    clear ho hb
    by_cases hlt : k < n
    · have hlt' : (k : Int) < (n : Int) := by omega
      have k0 : (0 : Int) ≤ (k : Int) := by omega
      obtain ⟨g, o, rfl, hg, x0, x1, x2⟩ := (HF.out.below HB.out) k hlt
      have HS := Lib.hid (cellsO_succ f k)
      obtain ⟨d, m, q, hq⟩ : ∃ d m q, f k = (d, m, q) := ⟨_, _, _, rfl⟩
      rw [hq] at x0 x1 x2
      have HQ := Lib.hid hq
      clear hq
      go_wp2_with (at_builtin; refine wpList_append_lies _ rfl (.tmp 12) (.tmp 20) 38 rfl w.heap.size 87 i0 _ 3 24 Try.underlying38 HI.out hz0 hz1 hz2 rfl (by omega) sv k _ rfl ((HO.out.alloc _).alloc _) ⟨wr.heap.size + 1, 0, none⟩ 1 1 [.int .i64 d, .int .i64 m, .int .u32 q] rfl rfl (by have := three_cells (wr.alloc (.cells #[.int .i64 d, .int .i64 m, .int .u32 q] 71)) (.int .i64 d) (.int .i64 m) (.int .u32 q) 87; simpa using this) (by simp [Value.oneCell']) (by omega) (by unfold maxLen; omega) (by omega) (by have := HB.out.size; simp; omega) (wr.heap.size + 1 + 1) (by simp) ?_; intro g2 cap2 w3 hown1 hgrow1 hat1 hlt1; have HO2 := Lib.hid (show w3.ownsRow w.heap.size 87 3 _ (k + 1) (cellsO f (k + 1)) by rw [HS.out, HQ.out]; exact hown1); have HB2 := Lib.hid (app_below (HB.out.alloc HB.out.size _) (HO.out.alloc _) hgrow1); clear hown1 hgrow1 hat1 hlt1)
      go_roundw
      case rel => exact ⟨k + 1, _, by omega, by go_num, rfl, HO2.out, HB2.out⟩
      case measure => simp [intOf]; omega
    · obtain rfl : k = n := by omega
      go_wp2
      go_ret
      exact ⟨⟨_, rfl, HO.out⟩, HB.out⟩
/-- are offers alike? -/
def sameO (f g : Nat → Int × Int × Int) (n : Nat) : Bool := (List.range n).all fun i => decide (f i = g i)
theorem sameO_succ (f g : Nat → Int × Int × Int) (n : Nat) : sameO f g (n + 1) = (sameO f g n && decide (f n = g n)) := by simp [sameO, List.range_succ]
theorem sameO_lt {f g : Nat → Int × Int × Int} {n k : Nat} (h : sameO f g n = true) (hk : k < n) : f k = g k := by
  simp only [sameO, List.all_eq_true, List.mem_range, decide_eq_true_eq] at h; exact h k hk
theorem sameO_bad {f g : Nat → Int × Int × Int} {n k : Nat} (h : f k ≠ g k) (hk : k < n) : sameO f g n = false := by
  cases e : sameO f g n
  · rfl
  · exact absurd (sameO_lt e hk) h
theorem sameO_mk {f g : Nat → Int × Int × Int} {n : Nat} (h : ∀ k, k < n → f k = g k) : sameO f g n = true := by
  simp only [sameO, List.all_eq_true, List.mem_range, decide_eq_true_eq]; exact h
theorem neqO (x y : Int × Int × Int) (w : World) : (binOp .neq 87 (.agg #[.int .i64 x.1, .int .i64 x.2.1, .int .u32 x.2.2]) (.agg #[.int .i64 y.1, .int .i64 y.2.1, .int .u32 y.2.2])).run Try.prog w = .ok (.bool (!decide (x = y))) w := by
  have u3 := Try.underlying3
  have u4 := Try.underlying47
  have a3 := Try.isAgg3
  have z3 := Try.sizeOf3
  have a4 := Try.isAgg47
  have z4 := Try.sizeOf47
  have hS : Try.prog.underlying 87 = some (.struct (Try.prog.fieldsOf 87)) := by kernel_rfl
  have hp : Try.prog.stoodInHeld 87 = false := by kernel_rfl
  obtain ⟨x0, x1, x2⟩ := x
  obtain ⟨y0, y1, y2⟩ := y
  rw [run_neq_struct, show (10000 : Nat) = 9999 + 1 from rfl, run_equalIn_agg w 9999 _ _ _ hS hp]
  simp only [Program.fieldsOf, Try.underlying87]
  go_simp
  by_cases h1 : x0 = y0 <;> by_cases h2 : x1 = y1 <;> by_cases h3 : x2 = y2 <;> simp [h1, h2, h3]
theorem guardO : Try.prog.eqGuardType Try.prog.depth 87 = false := by kernel_rfl
set_option maxRecDepth 100000 in
set_option maxHeartbeats 8000000 in
theorem sameOffers_any (A B : Option Addr) (n m cap cap' : Nat) (f g : Nat → Int × Int × Int) (w : World) (hn : n ≤ maxLen) (hf : RdO w A n f) (hg : RdO w B m g) : Calls Try.prog 20 #[.slice A n cap, .slice B m cap'] w fun e w' => e = .returned (.bool (decide (n = m) && sameO f g n)) ∧ Below w.heap.size w w' := by
  have HF := Lib.hid hf
  have HG := Lib.hid hg
  unfold maxLen at hn
  clear hf hg
  by_cases hnm : n = m
  · subst hnm
    rw [decide_eq_true rfl, Bool.true_and]
    have hnn : ((n : Int) == (n : Int)) = true := by simp
    have hnn' : ((n : Int) != (n : Int)) = false := by simp
    have HX := Lib.hid (rfl : sameO f g 0 = true)
    go_enter Try.func20, Try.ntmps20
    go_upto_region 4 with fail
    go_loopw [5] (fun s5 wr => ∃ k : Nat, k ≤ n ∧ s5 = .int .i64 k ∧ sameO f g k = true ∧ Below w.heap.size w wr) (fun s5 _ => n - (intOf s5).toNat)
    case atStart => exact ⟨0, by omega, rfl, rfl, Below.refl _ _⟩
    case round =>
      obtain ⟨k, hk, rfl, hs, hb⟩ := hrel
      have HS := Lib.hid hs
      have HB := Lib.hid hb
      clear hs hb
      by_cases hlt : k < n
      · have hlt' : (k : Int) < (n : Int) := by omega
        have k0 : (0 : Int) ≤ (k : Int) := by omega
        obtain ⟨a, o, rfl, hg1, x0, x1, x2⟩ := (HF.out.below HB.out) k hlt
        obtain ⟨b, p, rfl, hg2, y0, y1, y2⟩ := (HG.out.below HB.out) k hlt
        have hne := neqO (f k) (g k)
        have hgu := guardO
        have HSS := Lib.hid (sameO_succ f g k)
        have HBAD := Lib.hid (fun h : f k ≠ g k => sameO_bad h hlt)
        generalize f k = x at x0 x1 x2 hne HSS HBAD
        generalize g k = y at y0 y1 y2 hne HSS HBAD
        have xy := And.intro (And.intro x0 (And.intro x1 x2)) (And.intro y0 (And.intro y1 y2))
        obtain ⟨d, m, q⟩ := x
        obtain ⟨d2, m2, q2⟩ := y
        dsimp only at x0 x1 x2 y0 y1 y2 hne xy
        have XY := Lib.hid xy
        clear x0 x1 x2 y0 y1 y2 xy
        by_cases he : ((d, m, q) : Int × Int × Int) = (d2, m2, q2)
        · rw [decide_eq_true he] at hne HSS
          have HNE := Lib.hid hne
          clear hne he
          go_upto_region 6 with fail
          refine wp_region_held_drew (S := (fun w' => (w'.cell? ⟨a, o + k * 3, none⟩ = some (.int .i64 d) ∧ w'.cell? ⟨a, o + k * 3 + 1, none⟩ = some (.int .i64 m) ∧ w'.cell? ⟨a, o + k * 3 + 2, none⟩ = some (.int .u32 q)) ∧ w'.cell? ⟨b, p + k * 3, none⟩ = some (.int .i64 d2) ∧ w'.cell? ⟨b, p + k * 3 + 1, none⟩ = some (.int .i64 m2) ∧ w'.cell? ⟨b, p + k * 3 + 2, none⟩ = some (.int .u32 q2))) (by kernel_rfl) XY.out (fun _ => ?_)
          refine held_take 0 17 (v := ?_) rfl rfl (by kernel_rfl) (by kernel_rfl) (by kernel_rfl) (fun _ _ _ h => h) (by rfl) ?_ XY.out ?_
          rotate_left
          · (intro w hSw; (try dsimp only at hSw); obtain ⟨⟨h1, h2, h3⟩, h4, h5, h6⟩ := hSw; have hne := HNE.out;try simp only [List.getElem_toArray, List.getElem_cons_zero, List.getElem_cons_succ]; go_simp; try (with_reducible rfl))
          try simp only [List.setIfInBounds_toArray, List.set_cons_zero, List.set_cons_succ]
          refine held_take 1 18 (v := ?_) rfl rfl (by kernel_rfl) (by kernel_rfl) (by kernel_rfl) (fun _ _ _ h => h) (by rfl) ?_ XY.out ?_
          rotate_left
          · (intro w hSw; (try dsimp only at hSw); obtain ⟨⟨h1, h2, h3⟩, h4, h5, h6⟩ := hSw; have hne := HNE.out;try simp only [List.getElem_toArray, List.getElem_cons_zero, List.getElem_cons_succ]; go_simp; try (with_reducible rfl))
          try simp only [List.setIfInBounds_toArray, List.set_cons_zero, List.set_cons_succ]
          refine held_take 2 19 (v := ?_) rfl rfl (by kernel_rfl) (by kernel_rfl) (by kernel_rfl) (fun _ _ _ h => h) (by rfl) ?_ XY.out ?_
          rotate_left
          · (intro w hSw; (try dsimp only at hSw); obtain ⟨⟨h1, h2, h3⟩, h4, h5, h6⟩ := hSw; have hne := HNE.out;try simp only [List.getElem_toArray, List.getElem_cons_zero, List.getElem_cons_succ]; go_simp; try (with_reducible rfl))
          try simp only [List.setIfInBounds_toArray, List.set_cons_zero, List.set_cons_succ]
          refine held_take 3 20 (v := ?_) rfl rfl (by kernel_rfl) (by kernel_rfl) (by kernel_rfl) (fun _ _ _ h => h) (by rfl) ?_ XY.out ?_
          rotate_left
          · (intro w hSw; (try dsimp only at hSw); obtain ⟨⟨h1, h2, h3⟩, h4, h5, h6⟩ := hSw; have hne := HNE.out;try simp only [List.getElem_toArray, List.getElem_cons_zero, List.getElem_cons_succ]; go_simp; try (with_reducible rfl))
          try simp only [List.setIfInBounds_toArray, List.set_cons_zero, List.set_cons_succ]
          refine held_take 4 21 (v := ?_) rfl rfl (by kernel_rfl) (by kernel_rfl) (by kernel_rfl) (fun _ _ _ h => h) (by rfl) ?_ XY.out ?_
          rotate_left
          · (intro w hSw; (try dsimp only at hSw); obtain ⟨⟨h1, h2, h3⟩, h4, h5, h6⟩ := hSw; have hne := HNE.out;try simp only [List.getElem_toArray, List.getElem_cons_zero, List.getElem_cons_succ]; go_simp; try (with_reducible rfl))
          try simp only [List.setIfInBounds_toArray, List.set_cons_zero, List.set_cons_succ]
          refine held_take 5 22 (v := ?_) rfl rfl (by kernel_rfl) (by kernel_rfl) (by kernel_rfl) (fun _ _ _ h => h) (by rfl) ?_ XY.out ?_
          rotate_left
          · (intro w hSw; (try dsimp only at hSw); obtain ⟨⟨h1, h2, h3⟩, h4, h5, h6⟩ := hSw; have hne := HNE.out;try simp only [List.getElem_toArray, List.getElem_cons_zero, List.getElem_cons_succ]; go_simp; try (with_reducible rfl))
          try simp only [List.setIfInBounds_toArray, List.set_cons_zero, List.set_cons_succ]
          refine held_take 6 23 (v := ?_) rfl rfl (by kernel_rfl) (by kernel_rfl) (by kernel_rfl) (fun _ _ _ h => h) (by rfl) ?_ XY.out ?_
          rotate_left
          · (intro w hSw; (try dsimp only at hSw); obtain ⟨⟨h1, h2, h3⟩, h4, h5, h6⟩ := hSw; have hne := HNE.out;try simp only [List.getElem_toArray, List.getElem_cons_zero, List.getElem_cons_succ]; go_simp; try (with_reducible rfl))
          try simp only [List.setIfInBounds_toArray, List.set_cons_zero, List.set_cons_succ]
          refine held_take 7 24 (v := ?_) rfl rfl (by kernel_rfl) (by kernel_rfl) (by kernel_rfl) (fun _ _ _ h => h) (by rfl) ?_ XY.out ?_
          rotate_left
          · (intro w hSw; (try dsimp only at hSw); obtain ⟨⟨h1, h2, h3⟩, h4, h5, h6⟩ := hSw; have hne := HNE.out;try simp only [List.getElem_toArray, List.getElem_cons_zero, List.getElem_cons_succ]; go_simp; try (with_reducible rfl))
          try simp only [List.setIfInBounds_toArray, List.set_cons_zero, List.set_cons_succ]
          refine held_take 8 25 (v := ?_) rfl rfl (by kernel_rfl) (by kernel_rfl) (by kernel_rfl) (fun _ _ _ h => h) (by rfl) ?_ XY.out ?_
          rotate_left
          · (intro w hSw; (try dsimp only at hSw); obtain ⟨⟨h1, h2, h3⟩, h4, h5, h6⟩ := hSw; have hne := HNE.out;try simp only [List.getElem_toArray, List.getElem_cons_zero, List.getElem_cons_succ]; go_simp; try (with_reducible rfl))
          try simp only [List.setIfInBounds_toArray, List.set_cons_zero, List.set_cons_succ]
          refine wpAnyH_done (by kernel_rfl) ?_ _
          go_wp2
          go_roundw
          case rel => exact ⟨k + 1, by omega, by go_num, by rw [HSS.out, HS.out]; rfl, HB.out.drew⟩
          case measure => simp [intOf]; omega
        · rw [decide_eq_false he] at hne
          have HNE := Lib.hid hne
          have HBD := Lib.hid (HBAD.out he)
          clear hne he
          go_upto_region 6 with fail
          refine wp_region_held_drew (S := (fun w' => (w'.cell? ⟨a, o + k * 3, none⟩ = some (.int .i64 d) ∧ w'.cell? ⟨a, o + k * 3 + 1, none⟩ = some (.int .i64 m) ∧ w'.cell? ⟨a, o + k * 3 + 2, none⟩ = some (.int .u32 q)) ∧ w'.cell? ⟨b, p + k * 3, none⟩ = some (.int .i64 d2) ∧ w'.cell? ⟨b, p + k * 3 + 1, none⟩ = some (.int .i64 m2) ∧ w'.cell? ⟨b, p + k * 3 + 2, none⟩ = some (.int .u32 q2))) (by kernel_rfl) XY.out (fun _ => ?_)
          refine held_take 0 17 (v := ?_) rfl rfl (by kernel_rfl) (by kernel_rfl) (by kernel_rfl) (fun _ _ _ h => h) (by rfl) ?_ XY.out ?_
          rotate_left
          · (intro w hSw; (try dsimp only at hSw); obtain ⟨⟨h1, h2, h3⟩, h4, h5, h6⟩ := hSw; have hne := HNE.out;try simp only [List.getElem_toArray, List.getElem_cons_zero, List.getElem_cons_succ]; go_simp; try (with_reducible rfl))
          try simp only [List.setIfInBounds_toArray, List.set_cons_zero, List.set_cons_succ]
          refine held_take 1 18 (v := ?_) rfl rfl (by kernel_rfl) (by kernel_rfl) (by kernel_rfl) (fun _ _ _ h => h) (by rfl) ?_ XY.out ?_
          rotate_left
          · (intro w hSw; (try dsimp only at hSw); obtain ⟨⟨h1, h2, h3⟩, h4, h5, h6⟩ := hSw; have hne := HNE.out;try simp only [List.getElem_toArray, List.getElem_cons_zero, List.getElem_cons_succ]; go_simp; try (with_reducible rfl))
          try simp only [List.setIfInBounds_toArray, List.set_cons_zero, List.set_cons_succ]
          refine held_take 2 19 (v := ?_) rfl rfl (by kernel_rfl) (by kernel_rfl) (by kernel_rfl) (fun _ _ _ h => h) (by rfl) ?_ XY.out ?_
          rotate_left
          · (intro w hSw; (try dsimp only at hSw); obtain ⟨⟨h1, h2, h3⟩, h4, h5, h6⟩ := hSw; have hne := HNE.out;try simp only [List.getElem_toArray, List.getElem_cons_zero, List.getElem_cons_succ]; go_simp; try (with_reducible rfl))
          try simp only [List.setIfInBounds_toArray, List.set_cons_zero, List.set_cons_succ]
          refine held_take 3 20 (v := ?_) rfl rfl (by kernel_rfl) (by kernel_rfl) (by kernel_rfl) (fun _ _ _ h => h) (by rfl) ?_ XY.out ?_
          rotate_left
          · (intro w hSw; (try dsimp only at hSw); obtain ⟨⟨h1, h2, h3⟩, h4, h5, h6⟩ := hSw; have hne := HNE.out;try simp only [List.getElem_toArray, List.getElem_cons_zero, List.getElem_cons_succ]; go_simp; try (with_reducible rfl))
          try simp only [List.setIfInBounds_toArray, List.set_cons_zero, List.set_cons_succ]
          refine held_take 4 21 (v := ?_) rfl rfl (by kernel_rfl) (by kernel_rfl) (by kernel_rfl) (fun _ _ _ h => h) (by rfl) ?_ XY.out ?_
          rotate_left
          · (intro w hSw; (try dsimp only at hSw); obtain ⟨⟨h1, h2, h3⟩, h4, h5, h6⟩ := hSw; have hne := HNE.out;try simp only [List.getElem_toArray, List.getElem_cons_zero, List.getElem_cons_succ]; go_simp; try (with_reducible rfl))
          try simp only [List.setIfInBounds_toArray, List.set_cons_zero, List.set_cons_succ]
          refine held_take 5 22 (v := ?_) rfl rfl (by kernel_rfl) (by kernel_rfl) (by kernel_rfl) (fun _ _ _ h => h) (by rfl) ?_ XY.out ?_
          rotate_left
          · (intro w hSw; (try dsimp only at hSw); obtain ⟨⟨h1, h2, h3⟩, h4, h5, h6⟩ := hSw; have hne := HNE.out;try simp only [List.getElem_toArray, List.getElem_cons_zero, List.getElem_cons_succ]; go_simp; try (with_reducible rfl))
          try simp only [List.setIfInBounds_toArray, List.set_cons_zero, List.set_cons_succ]
          refine held_take 6 23 (v := ?_) rfl rfl (by kernel_rfl) (by kernel_rfl) (by kernel_rfl) (fun _ _ _ h => h) (by rfl) ?_ XY.out ?_
          rotate_left
          · (intro w hSw; (try dsimp only at hSw); obtain ⟨⟨h1, h2, h3⟩, h4, h5, h6⟩ := hSw; have hne := HNE.out;try simp only [List.getElem_toArray, List.getElem_cons_zero, List.getElem_cons_succ]; go_simp; try (with_reducible rfl))
          try simp only [List.setIfInBounds_toArray, List.set_cons_zero, List.set_cons_succ]
          refine held_take 7 24 (v := ?_) rfl rfl (by kernel_rfl) (by kernel_rfl) (by kernel_rfl) (fun _ _ _ h => h) (by rfl) ?_ XY.out ?_
          rotate_left
          · (intro w hSw; (try dsimp only at hSw); obtain ⟨⟨h1, h2, h3⟩, h4, h5, h6⟩ := hSw; have hne := HNE.out;try simp only [List.getElem_toArray, List.getElem_cons_zero, List.getElem_cons_succ]; go_simp; try (with_reducible rfl))
          try simp only [List.setIfInBounds_toArray, List.set_cons_zero, List.set_cons_succ]
          refine held_take 8 25 (v := ?_) rfl rfl (by kernel_rfl) (by kernel_rfl) (by kernel_rfl) (fun _ _ _ h => h) (by rfl) ?_ XY.out ?_
          rotate_left
          · (intro w hSw; (try dsimp only at hSw); obtain ⟨⟨h1, h2, h3⟩, h4, h5, h6⟩ := hSw; have hne := HNE.out;try simp only [List.getElem_toArray, List.getElem_cons_zero, List.getElem_cons_succ]; go_simp; try (with_reducible rfl))
          try simp only [List.setIfInBounds_toArray, List.set_cons_zero, List.set_cons_succ]
          refine wpAnyH_done (by kernel_rfl) ?_ _
          go_wp2
          go_ret
          exact ⟨by rw [HBD.out]; rfl, HB.out.drew⟩
      · obtain rfl : k = n := by omega
        go_wp2
        go_ret
        exact ⟨by rw [HS.out]; rfl, HB.out⟩
  · have h1 : ((n : Int) == (m : Int)) = false := by simp; omega
    have h2 : ((n : Int) != (m : Int)) = true := by simp; omega
    rw [decide_eq_false hnm, Bool.false_and]
    clear hnm
    go_enter Try.func20, Try.ntmps20
    go_wp2
    go_ret
    exact ⟨rfl, Below.refl _ _⟩
end Eng
end Go.Proofs.Ytcmknllefnahkaa
