/-
  signpostref18.Choose: what it returns. Conditions: those that each theorem names.
-/
import Derived.Test.YtcmknllefnahkaaRef18
import Derived.Test.YtcmknllefnahkaaHeld
import Derived.Test.YtcmknllefnahkaaChS
import Derived.StillTailTactics
import Derived.Deep.DeepCutAuto
import Derived.Deep.CutBlock
namespace Go.Proofs.Ytcmknllefnahkaa
open Go Go.RowKit FR FP ChS
set_option linter.unusedVariables false
set_option linter.unusedSimpArgs false
namespace RefCh
open Feas
theorem below_drew {B : Nat} {w w' : World} (h : Below B w w') : Below B w w'.drew := ⟨h.os, h.tape, h.output, h.size, h.block⟩
theorem add_below (m s c : Int) (w : World) (h0 : 0 ≤ m) (h1 : m ≤ 65535) : Calls Try.prog 47 #[.agg #[.int .i64 m, .int .i64 s], .int .i64 c] w fun e w' => e = .returned (.agg #[.int .i64 (addm m c), .int .i64 s]) ∧ Below w.heap.size w w' :=
  (Ref18.add_any m s c h0 h1 w).mono fun _ _ ⟨he, hw⟩ => ⟨he, hw ▸ ((Below.refl _ _).alloc (Nat.le_refl _) _).alloc (by simp) _⟩
theorem fld (a b : Int) (w : World) : Sem.run Try.prog (Instr.field 59 (.agg #[.int .i64 a, .int .i64 b]) 0) w = .ok (.int .i64 a) w := by kernel_rfl
/-- a slice of n numbers -/
def Ints (w : World) (A : Option Addr) (n : Nat) (V : Nat → Int) : Prop := ∀ i, i < n → ∃ b o, A = some ⟨b, o, none⟩ ∧ b < w.heap.size ∧ w.cell? ⟨b, o + i, none⟩ = some (.int .i64 (V i))
/-- a slice of n distances, as the document has them -/
def Prs (w : World) (A : Option Addr) (n : Nat) (om os : Nat → Int) : Prop := ∀ i, i < n → ∃ b o, A = some ⟨b, o, none⟩ ∧ b < w.heap.size ∧ w.cell? ⟨b, o + i * 2, none⟩ = some (.int .i64 (om i)) ∧ w.cell? ⟨b, o + i * 2 + 1, none⟩ = some (.int .i64 (os i))
attribute [local irreducible] ch bet fea addm
set_option maxRecDepth 100000 in
set_option maxHeartbeats 16000000 in
theorem refch_any (A B : Option Addr) (n m c d : Nat) (om os cm : Nat → Int) (fm fs : Int) (w : World) (hn : n ≤ 1000000) (hm : m ≤ 1000000)
    (ha : Prs w A n om os) (hb : Ints w B m cm) (ho : ∀ i, i < n → 0 ≤ om i ∧ om i ≤ 65535) :
    Calls Try.prog 46 #[.slice A n c, .slice B m d, Ref18.rv fm fs] w fun e w' => e = .returned (.int .i64 (ch om os cm m fm fs n).1) ∧ Below w.heap.size w w' := by
  have HA := Lib.hid ha; have HC := Lib.hid hb; have HO := Lib.hid ho
  clear ha hb ho
  go_enter Try.func46, Try.ntmps46
  go_upto_region 3 with fail
  have bal : Below w.heap.size w (w.alloc (.cells #[.int .i64 fm, .int .i64 fs] 59)) := (Below.refl _ _).alloc (Nat.le_refl _) _
  have hblk : (w.alloc (.cells #[.int .i64 fm, .int .i64 fs] 59)).heap[w.heap.size]? = some (.cells #[.int .i64 fm, .int .i64 fs] 59 (0, 0)) := by simp only [World.alloc]; exact Array.getElem?_push_size
  generalize w.alloc (.cells #[.int .i64 fm, .int .i64 fs] 59) = W at bal hblk ⊢
  have z0 : W.cell? ⟨w.heap.size, 0, none⟩ = some (.int .i64 fm) := by rw [cell_of_row W w.heap.size 0 _ _ _ hblk]; rfl
  have z1 : W.cell? ⟨w.heap.size, 1, none⟩ = some (.int .i64 fs) := by rw [cell_of_row W w.heap.size 1 _ _ _ hblk]; rfl
  have Z0 := Lib.hid z0
  have Z1 := Lib.hid z1
  have BAL := Lib.hid bal
  clear z0 z1 bal hblk
  go_loopw [7, 8] (fun s7 s8 wr => ∃ k : Nat, k ≤ n ∧ k ≤ m ∧ s8 = .int .i64 k ∧ s7 = .int .i64 (ch om os cm m fm fs k).1 ∧ Below W.heap.size W wr) (fun _ s8 _ => n - (intOf s8).toNat)
  case atStart => exact ⟨0, by omega, by omega, rfl, by rw [show (ch om os cm m fm fs 0) = (-1, 65535, 0) by rw [ch]], Below.refl _ _⟩
  case round =>
    obtain ⟨k, hk, hkm, rfl, rfl, hb⟩ := hrel
    have HB := Lib.hid hb
    clear hb
    by_cases hlt : k < n ∧ k < m
    · have hlt1 : (k : Int) < (n : Int) := by omega
      have hlt2 : (k : Int) < (m : Int) := by omega
      have k00 : (0 : Int) ≤ (k : Int) := by omega
      obtain ⟨bo, oo, rfl, _, ho1, ho2⟩ := HA.out k hlt.1
      obtain ⟨bc, oc, rfl, _, hc1⟩ := HC.out k hlt.2
      have hok := HO.out k hlt.1
      have HB := Lib.hid (below_drew HB.out)
      have hbw := BAL.out.trans (HB.out.mono BAL.out.size)
      have x1 : wr.drew.cell? ⟨bc, oc + k, none⟩ = some (.int .i64 (cm k)) := later hbw hc1
      have x2 : wr.drew.cell? ⟨bo, oo + k * 2, none⟩ = some (.int .i64 (om k)) := later hbw ho1
      have x3 : wr.drew.cell? ⟨bo, oo + k * 2 + 1, none⟩ = some (.int .i64 (os k)) := later hbw ho2
      have x4 : wr.drew.cell? ⟨w.heap.size, 0, none⟩ = some (.int .i64 fm) := later HB.out Z0.out
      have x5 : wr.drew.cell? ⟨w.heap.size, 1, none⟩ = some (.int .i64 fs) := later HB.out Z1.out
      clear ho1 ho2 hc1 hbw
      have hyes := @ch_yes om os cm m fm fs k
      have hno := @ch_no om os cm m fm fs k
      have HY := Lib.hid hyes
      have HN := Lib.hid hno
      have HST := Lib.hid (ch_state om os cm m fm fs k)
      clear hyes hno
      go_upto_region 5 with fail
      by_cases hc0 : 0 < cm k
      · have hc0' : ¬ cm k ≤ 0 := by omega
        cases hfe : fea (om k) (os k) fm fs
        · have HP := Lib.hid (show ch om os cm m fm fs (k + 1) = ch om os cm m fm fs k from HN.out (fun h => by have h2 := h.2.1; rw [hfe] at h2; cases h2))
          have HFE := Lib.hid hfe
          clear hfe
          refine wp_region_held_drew (S := (fun w' => w'.cell? ⟨bc, oc + k, none⟩ = some (.int .i64 (cm k)) ∧ w'.cell? ⟨bo, oo + k * 2, none⟩ = some (.int .i64 (om k)) ∧ w'.cell? ⟨bo, oo + k * 2 + 1, none⟩ = some (.int .i64 (os k)) ∧ w'.cell? ⟨w.heap.size, 0, none⟩ = some (.int .i64 fm) ∧ w'.cell? ⟨w.heap.size, 1, none⟩ = some (.int .i64 fs))) (by kernel_rfl) ⟨x1, x2, x3, x4, x5⟩ (fun _ => ?_)
          refine held_take 0 21 (v := ?_) rfl rfl (by kernel_rfl) (by kernel_rfl) (by kernel_rfl) (fun _ _ _ h => h) (by rfl) ?_ ⟨x1, x2, x3, x4, x5⟩ ?_
          rotate_left
          · (intro w hSw; (try dsimp only at hSw); try simp only [List.getElem_toArray, List.getElem_cons_zero, List.getElem_cons_succ]; go_simp; try (with_reducible rfl))
          try simp only [List.setIfInBounds_toArray, List.set_cons_zero, List.set_cons_succ]
          refine held_take 1 22 (v := ?_) rfl rfl (by kernel_rfl) (by kernel_rfl) (by kernel_rfl) (fun _ _ _ h => h) (by rfl) ?_ ⟨x1, x2, x3, x4, x5⟩ ?_
          rotate_left
          · (intro w hSw; (try dsimp only at hSw); try simp only [List.getElem_toArray, List.getElem_cons_zero, List.getElem_cons_succ]; go_simp; try (with_reducible rfl))
          try simp only [List.setIfInBounds_toArray, List.set_cons_zero, List.set_cons_succ]
          refine held_take 2 23 (v := ?_) rfl rfl (by kernel_rfl) (by kernel_rfl) (by kernel_rfl) (fun _ _ _ h => h) (by rfl) ?_ ⟨x1, x2, x3, x4, x5⟩ ?_
          rotate_left
          · (intro w hSw; (try dsimp only at hSw); try simp only [List.getElem_toArray, List.getElem_cons_zero, List.getElem_cons_succ]; go_simp; try (with_reducible rfl))
          try simp only [List.setIfInBounds_toArray, List.set_cons_zero, List.set_cons_succ]
          refine held_take 3 24 (v := ?_) rfl rfl (by kernel_rfl) (by kernel_rfl) (by kernel_rfl) (fun _ _ _ h => h) (by rfl) ?_ ⟨x1, x2, x3, x4, x5⟩ ?_
          rotate_left
          · (intro w hSw; (try dsimp only at hSw); try simp only [List.getElem_toArray, List.getElem_cons_zero, List.getElem_cons_succ]; go_simp; try (with_reducible rfl))
          try simp only [List.setIfInBounds_toArray, List.set_cons_zero, List.set_cons_succ]
          refine held_take 4 25 (v := ?_) rfl rfl (by kernel_rfl) (by kernel_rfl) (by kernel_rfl) (fun _ _ _ h => h) (by rfl) ?_ ⟨x1, x2, x3, x4, x5⟩ ?_
          rotate_left
          · (intro w hSw; (try dsimp only at hSw); try simp only [List.getElem_toArray, List.getElem_cons_zero, List.getElem_cons_succ]; go_simp; try (with_reducible rfl))
          try simp only [List.setIfInBounds_toArray, List.set_cons_zero, List.set_cons_succ]
          refine held_take 5 26 (v := ?_) rfl rfl (by kernel_rfl) (by kernel_rfl) (by kernel_rfl) (fun _ _ _ h => h) (by rfl) ?_ ⟨x1, x2, x3, x4, x5⟩ ?_
          rotate_left
          · (intro w hSw; (try dsimp only at hSw); try simp only [List.getElem_toArray, List.getElem_cons_zero, List.getElem_cons_succ]; go_simp; try (with_reducible rfl))
          try simp only [List.setIfInBounds_toArray, List.set_cons_zero, List.set_cons_succ]
          refine held_take 6 27 (v := ?_) rfl rfl (by kernel_rfl) (by kernel_rfl) (by kernel_rfl) (fun _ _ _ h => h) (by rfl) ?_ ⟨x1, x2, x3, x4, x5⟩ ?_
          rotate_left
          · (intro w hSw; (try dsimp only at hSw); try simp only [List.getElem_toArray, List.getElem_cons_zero, List.getElem_cons_succ]; go_simp; try (with_reducible rfl))
          try simp only [List.setIfInBounds_toArray, List.set_cons_zero, List.set_cons_succ]
          refine held_take 7 28 (v := ?_) rfl rfl (by kernel_rfl) (by kernel_rfl) (by kernel_rfl) (fun _ _ _ h => h) (by rfl) ?_ ⟨x1, x2, x3, x4, x5⟩ ?_
          rotate_left
          · (intro w hSw; (try dsimp only at hSw); try simp only [List.getElem_toArray, List.getElem_cons_zero, List.getElem_cons_succ]; go_simp; try (with_reducible rfl))
          try simp only [List.setIfInBounds_toArray, List.set_cons_zero, List.set_cons_succ]
          refine held_take 8 29 (v := ?_) rfl rfl (by kernel_rfl) (by kernel_rfl) (by kernel_rfl) (fun _ _ _ h => h) (by rfl) ?_ ⟨x1, x2, x3, x4, x5⟩ ?_
          rotate_left
          · (intro w hSw; (try dsimp only at hSw); try simp only [List.getElem_toArray, List.getElem_cons_zero, List.getElem_cons_succ]; go_simp; try (with_reducible rfl))
          try simp only [List.setIfInBounds_toArray, List.set_cons_zero, List.set_cons_succ]
          refine held_take 9 30 (v := ?_) rfl rfl (by kernel_rfl) (by kernel_rfl) (by kernel_rfl) (fun _ _ _ h => h) (by rfl) ?_ ⟨x1, x2, x3, x4, x5⟩ ?_
          rotate_left
          · (intro w hSw; (try dsimp only at hSw); try simp only [List.getElem_toArray, List.getElem_cons_zero, List.getElem_cons_succ]; go_simp; try (with_reducible rfl))
          try simp only [List.setIfInBounds_toArray, List.set_cons_zero, List.set_cons_succ]
          refine held_take 10 31 (v := ?_) rfl rfl (by kernel_rfl) (by kernel_rfl) (by kernel_rfl) (fun _ _ _ h => h) (by rfl) ?_ ⟨x1, x2, x3, x4, x5⟩ ?_
          rotate_left
          · (intro w hSw; (try dsimp only at hSw); try simp only [List.getElem_toArray, List.getElem_cons_zero, List.getElem_cons_succ]; go_simp; try (with_reducible rfl))
          try simp only [List.setIfInBounds_toArray, List.set_cons_zero, List.set_cons_succ]
          refine held_call 11 32 rfl rfl (by kernel_rfl) (by rfl) (fun K hK => ?_)
          try simp only [List.getElem_toArray, List.getElem_cons_zero, List.getElem_cons_succ]
          go_simp
          (go_at_call 49; refine (Ref18.feas_any (om k) (os k) fm fs _).mono ?_; rw [HFE.out]; rintro e w2 ⟨rfl, hb⟩; have x1 := later hb x1; have x2 := later hb x2; have x3 := later hb x3; have x4 := later hb x4; have x5 := later hb x5; have HB := Lib.hid (HB.out.trans (hb.mono HB.out.size)); clear hb)
          try go_wp2_with fail
          try simp only [Act.put, List.setIfInBounds_toArray, List.set_cons_zero, List.set_cons_succ]
          refine hK.out _ _ _ ⟨x1, x2, x3, x4, x5⟩ ?_
          clear hK K
          refine held_take 12 33 (v := ?_) rfl rfl (by kernel_rfl) (by kernel_rfl) (by kernel_rfl) (fun _ _ _ h => h) (by rfl) ?_ ⟨x1, x2, x3, x4, x5⟩ ?_
          rotate_left
          · (intro w hSw; (try dsimp only at hSw); try simp only [List.getElem_toArray, List.getElem_cons_zero, List.getElem_cons_succ]; go_simp; try (with_reducible rfl))
          try simp only [List.setIfInBounds_toArray, List.set_cons_zero, List.set_cons_succ]
          refine held_take 13 34 (v := ?_) rfl rfl (by kernel_rfl) (by kernel_rfl) (by kernel_rfl) (fun _ _ _ h => h) (by rfl) ?_ ⟨x1, x2, x3, x4, x5⟩ ?_
          rotate_left
          · (intro w hSw; (try dsimp only at hSw); try simp only [List.getElem_toArray, List.getElem_cons_zero, List.getElem_cons_succ]; go_simp; try (with_reducible rfl))
          try simp only [List.setIfInBounds_toArray, List.set_cons_zero, List.set_cons_succ]
          refine held_take 14 35 (v := ?_) rfl rfl (by kernel_rfl) (by kernel_rfl) (by kernel_rfl) (fun _ _ _ h => h) (by rfl) ?_ ⟨x1, x2, x3, x4, x5⟩ ?_
          rotate_left
          · (intro w hSw; (try dsimp only at hSw); try simp only [List.getElem_toArray, List.getElem_cons_zero, List.getElem_cons_succ]; go_simp; try (with_reducible rfl))
          try simp only [List.setIfInBounds_toArray, List.set_cons_zero, List.set_cons_succ]
          refine held_skip 15 36 rfl rfl (by kernel_rfl) (by kernel_rfl) (by kernel_rfl) (fun _ _ _ h => h) (by rfl) ⟨x1, x2, x3, x4, x5⟩ ?_
          try simp only [List.setIfInBounds_toArray, List.set_cons_zero, List.set_cons_succ]
          refine held_skip 16 37 rfl rfl (by kernel_rfl) (by kernel_rfl) (by kernel_rfl) (fun _ _ _ h => h) (by rfl) ⟨x1, x2, x3, x4, x5⟩ ?_
          try simp only [List.setIfInBounds_toArray, List.set_cons_zero, List.set_cons_succ]
          refine held_skip 17 38 rfl rfl (by kernel_rfl) (by kernel_rfl) (by kernel_rfl) (fun _ _ _ h => h) (by rfl) ⟨x1, x2, x3, x4, x5⟩ ?_
          try simp only [List.setIfInBounds_toArray, List.set_cons_zero, List.set_cons_succ]
          refine held_skip 18 39 rfl rfl (by kernel_rfl) (by kernel_rfl) (by kernel_rfl) (fun _ _ _ h => h) (by rfl) ⟨x1, x2, x3, x4, x5⟩ ?_
          try simp only [List.setIfInBounds_toArray, List.set_cons_zero, List.set_cons_succ]
          refine held_skip 19 40 rfl rfl (by kernel_rfl) (by kernel_rfl) (by kernel_rfl) (fun _ _ _ h => h) (by rfl) ⟨x1, x2, x3, x4, x5⟩ ?_
          try simp only [List.setIfInBounds_toArray, List.set_cons_zero, List.set_cons_succ]
          refine held_skip 20 41 rfl rfl (by kernel_rfl) (by kernel_rfl) (by kernel_rfl) (fun _ _ _ h => h) (by rfl) ⟨x1, x2, x3, x4, x5⟩ ?_
          try simp only [List.setIfInBounds_toArray, List.set_cons_zero, List.set_cons_succ]
          refine held_skip 21 42 rfl rfl (by kernel_rfl) (by kernel_rfl) (by kernel_rfl) (fun _ _ _ h => h) (by rfl) ⟨x1, x2, x3, x4, x5⟩ ?_
          try simp only [List.setIfInBounds_toArray, List.set_cons_zero, List.set_cons_succ]
          refine held_skip 22 43 rfl rfl (by kernel_rfl) (by kernel_rfl) (by kernel_rfl) (fun _ _ _ h => h) (by rfl) ⟨x1, x2, x3, x4, x5⟩ ?_
          try simp only [List.setIfInBounds_toArray, List.set_cons_zero, List.set_cons_succ]
          refine held_pass 23 44 rfl rfl (by kernel_rfl) (by rfl) ⟨x1, x2, x3, x4, x5⟩ ?_
          try simp only [List.setIfInBounds_toArray, List.set_cons_zero, List.set_cons_succ]
          refine held_skip 24 45 rfl rfl (by kernel_rfl) (by kernel_rfl) (by kernel_rfl) (fun _ _ _ h => h) (by rfl) ⟨x1, x2, x3, x4, x5⟩ ?_
          try simp only [List.setIfInBounds_toArray, List.set_cons_zero, List.set_cons_succ]
          refine held_skip 25 46 rfl rfl (by kernel_rfl) (by kernel_rfl) (by kernel_rfl) (fun _ _ _ h => h) (by rfl) ⟨x1, x2, x3, x4, x5⟩ ?_
          try simp only [List.setIfInBounds_toArray, List.set_cons_zero, List.set_cons_succ]
          refine held_take 26 47 (v := ?_) rfl rfl (by kernel_rfl) (by kernel_rfl) (by kernel_rfl) (fun _ _ _ h => h) (by rfl) ?_ ⟨x1, x2, x3, x4, x5⟩ ?_
          rotate_left
          · (intro w hSw; (try dsimp only at hSw); try simp only [List.getElem_toArray, List.getElem_cons_zero, List.getElem_cons_succ]; go_simp; try (with_reducible rfl))
          try simp only [List.setIfInBounds_toArray, List.set_cons_zero, List.set_cons_succ]
          refine wpAnyH_done (by kernel_rfl) ?_ _
          go_wp2
          go_roundw
          case rel => exact ⟨k + 1, by omega, by omega, by go_num, by rw [HP.out], HB.out⟩
          case measure => simp [intOf]; omega
        · have HFE := Lib.hid hfe
          obtain ⟨u, hu⟩ : ∃ u, addm (om k) (cm k) = u := ⟨_, rfl⟩
          have hfld := fun w => fld u (os k) w
          have HAD := Lib.hid hu
          clear hfe hu
          by_cases hin : u < 65535
          · have hin' : ¬ (65535 : Int) ≤ u := by omega
            refine wp_region_held_drew (S := (fun w' => w'.cell? ⟨bc, oc + k, none⟩ = some (.int .i64 (cm k)) ∧ w'.cell? ⟨bo, oo + k * 2, none⟩ = some (.int .i64 (om k)) ∧ w'.cell? ⟨bo, oo + k * 2 + 1, none⟩ = some (.int .i64 (os k)) ∧ w'.cell? ⟨w.heap.size, 0, none⟩ = some (.int .i64 fm) ∧ w'.cell? ⟨w.heap.size, 1, none⟩ = some (.int .i64 fs))) (by kernel_rfl) ⟨x1, x2, x3, x4, x5⟩ (fun _ => ?_)
            refine held_take 0 21 (v := ?_) rfl rfl (by kernel_rfl) (by kernel_rfl) (by kernel_rfl) (fun _ _ _ h => h) (by rfl) ?_ ⟨x1, x2, x3, x4, x5⟩ ?_
            rotate_left
            · (intro w hSw; (try dsimp only at hSw); try simp only [List.getElem_toArray, List.getElem_cons_zero, List.getElem_cons_succ]; go_simp; try (with_reducible rfl))
            try simp only [List.setIfInBounds_toArray, List.set_cons_zero, List.set_cons_succ]
            refine held_take 1 22 (v := ?_) rfl rfl (by kernel_rfl) (by kernel_rfl) (by kernel_rfl) (fun _ _ _ h => h) (by rfl) ?_ ⟨x1, x2, x3, x4, x5⟩ ?_
            rotate_left
            · (intro w hSw; (try dsimp only at hSw); try simp only [List.getElem_toArray, List.getElem_cons_zero, List.getElem_cons_succ]; go_simp; try (with_reducible rfl))
            try simp only [List.setIfInBounds_toArray, List.set_cons_zero, List.set_cons_succ]
            refine held_take 2 23 (v := ?_) rfl rfl (by kernel_rfl) (by kernel_rfl) (by kernel_rfl) (fun _ _ _ h => h) (by rfl) ?_ ⟨x1, x2, x3, x4, x5⟩ ?_
            rotate_left
            · (intro w hSw; (try dsimp only at hSw); try simp only [List.getElem_toArray, List.getElem_cons_zero, List.getElem_cons_succ]; go_simp; try (with_reducible rfl))
            try simp only [List.setIfInBounds_toArray, List.set_cons_zero, List.set_cons_succ]
            refine held_take 3 24 (v := ?_) rfl rfl (by kernel_rfl) (by kernel_rfl) (by kernel_rfl) (fun _ _ _ h => h) (by rfl) ?_ ⟨x1, x2, x3, x4, x5⟩ ?_
            rotate_left
            · (intro w hSw; (try dsimp only at hSw); try simp only [List.getElem_toArray, List.getElem_cons_zero, List.getElem_cons_succ]; go_simp; try (with_reducible rfl))
            try simp only [List.setIfInBounds_toArray, List.set_cons_zero, List.set_cons_succ]
            refine held_take 4 25 (v := ?_) rfl rfl (by kernel_rfl) (by kernel_rfl) (by kernel_rfl) (fun _ _ _ h => h) (by rfl) ?_ ⟨x1, x2, x3, x4, x5⟩ ?_
            rotate_left
            · (intro w hSw; (try dsimp only at hSw); try simp only [List.getElem_toArray, List.getElem_cons_zero, List.getElem_cons_succ]; go_simp; try (with_reducible rfl))
            try simp only [List.setIfInBounds_toArray, List.set_cons_zero, List.set_cons_succ]
            refine held_take 5 26 (v := ?_) rfl rfl (by kernel_rfl) (by kernel_rfl) (by kernel_rfl) (fun _ _ _ h => h) (by rfl) ?_ ⟨x1, x2, x3, x4, x5⟩ ?_
            rotate_left
            · (intro w hSw; (try dsimp only at hSw); try simp only [List.getElem_toArray, List.getElem_cons_zero, List.getElem_cons_succ]; go_simp; try (with_reducible rfl))
            try simp only [List.setIfInBounds_toArray, List.set_cons_zero, List.set_cons_succ]
            refine held_take 6 27 (v := ?_) rfl rfl (by kernel_rfl) (by kernel_rfl) (by kernel_rfl) (fun _ _ _ h => h) (by rfl) ?_ ⟨x1, x2, x3, x4, x5⟩ ?_
            rotate_left
            · (intro w hSw; (try dsimp only at hSw); try simp only [List.getElem_toArray, List.getElem_cons_zero, List.getElem_cons_succ]; go_simp; try (with_reducible rfl))
            try simp only [List.setIfInBounds_toArray, List.set_cons_zero, List.set_cons_succ]
            refine held_take 7 28 (v := ?_) rfl rfl (by kernel_rfl) (by kernel_rfl) (by kernel_rfl) (fun _ _ _ h => h) (by rfl) ?_ ⟨x1, x2, x3, x4, x5⟩ ?_
            rotate_left
            · (intro w hSw; (try dsimp only at hSw); try simp only [List.getElem_toArray, List.getElem_cons_zero, List.getElem_cons_succ]; go_simp; try (with_reducible rfl))
            try simp only [List.setIfInBounds_toArray, List.set_cons_zero, List.set_cons_succ]
            refine held_take 8 29 (v := ?_) rfl rfl (by kernel_rfl) (by kernel_rfl) (by kernel_rfl) (fun _ _ _ h => h) (by rfl) ?_ ⟨x1, x2, x3, x4, x5⟩ ?_
            rotate_left
            · (intro w hSw; (try dsimp only at hSw); try simp only [List.getElem_toArray, List.getElem_cons_zero, List.getElem_cons_succ]; go_simp; try (with_reducible rfl))
            try simp only [List.setIfInBounds_toArray, List.set_cons_zero, List.set_cons_succ]
            refine held_take 9 30 (v := ?_) rfl rfl (by kernel_rfl) (by kernel_rfl) (by kernel_rfl) (fun _ _ _ h => h) (by rfl) ?_ ⟨x1, x2, x3, x4, x5⟩ ?_
            rotate_left
            · (intro w hSw; (try dsimp only at hSw); try simp only [List.getElem_toArray, List.getElem_cons_zero, List.getElem_cons_succ]; go_simp; try (with_reducible rfl))
            try simp only [List.setIfInBounds_toArray, List.set_cons_zero, List.set_cons_succ]
            refine held_take 10 31 (v := ?_) rfl rfl (by kernel_rfl) (by kernel_rfl) (by kernel_rfl) (fun _ _ _ h => h) (by rfl) ?_ ⟨x1, x2, x3, x4, x5⟩ ?_
            rotate_left
            · (intro w hSw; (try dsimp only at hSw); try simp only [List.getElem_toArray, List.getElem_cons_zero, List.getElem_cons_succ]; go_simp; try (with_reducible rfl))
            try simp only [List.setIfInBounds_toArray, List.set_cons_zero, List.set_cons_succ]
            refine held_call 11 32 rfl rfl (by kernel_rfl) (by rfl) (fun K hK => ?_)
            try simp only [List.getElem_toArray, List.getElem_cons_zero, List.getElem_cons_succ]
            go_simp
            (go_at_call 49; refine (Ref18.feas_any (om k) (os k) fm fs _).mono ?_; rw [HFE.out]; rintro e w2 ⟨rfl, hb⟩; have x1 := later hb x1; have x2 := later hb x2; have x3 := later hb x3; have x4 := later hb x4; have x5 := later hb x5; have HB := Lib.hid (HB.out.trans (hb.mono HB.out.size)); clear hb)
            try go_wp2_with fail
            try simp only [Act.put, List.setIfInBounds_toArray, List.set_cons_zero, List.set_cons_succ]
            refine hK.out _ _ _ ⟨x1, x2, x3, x4, x5⟩ ?_
            clear hK K
            refine held_take 12 33 (v := ?_) rfl rfl (by kernel_rfl) (by kernel_rfl) (by kernel_rfl) (fun _ _ _ h => h) (by rfl) ?_ ⟨x1, x2, x3, x4, x5⟩ ?_
            rotate_left
            · (intro w hSw; (try dsimp only at hSw); try simp only [List.getElem_toArray, List.getElem_cons_zero, List.getElem_cons_succ]; go_simp; try (with_reducible rfl))
            try simp only [List.setIfInBounds_toArray, List.set_cons_zero, List.set_cons_succ]
            refine held_take 13 34 (v := ?_) rfl rfl (by kernel_rfl) (by kernel_rfl) (by kernel_rfl) (fun _ _ _ h => h) (by rfl) ?_ ⟨x1, x2, x3, x4, x5⟩ ?_
            rotate_left
            · (intro w hSw; (try dsimp only at hSw); try simp only [List.getElem_toArray, List.getElem_cons_zero, List.getElem_cons_succ]; go_simp; try (with_reducible rfl))
            try simp only [List.setIfInBounds_toArray, List.set_cons_zero, List.set_cons_succ]
            refine held_take 14 35 (v := ?_) rfl rfl (by kernel_rfl) (by kernel_rfl) (by kernel_rfl) (fun _ _ _ h => h) (by rfl) ?_ ⟨x1, x2, x3, x4, x5⟩ ?_
            rotate_left
            · (intro w hSw; (try dsimp only at hSw); try simp only [List.getElem_toArray, List.getElem_cons_zero, List.getElem_cons_succ]; go_simp; try (with_reducible rfl))
            try simp only [List.setIfInBounds_toArray, List.set_cons_zero, List.set_cons_succ]
            refine held_take 15 36 (v := ?_) rfl rfl (by kernel_rfl) (by kernel_rfl) (by kernel_rfl) (fun _ _ _ h => h) (by rfl) ?_ ⟨x1, x2, x3, x4, x5⟩ ?_
            rotate_left
            · (intro w hSw; (try dsimp only at hSw); try simp only [List.getElem_toArray, List.getElem_cons_zero, List.getElem_cons_succ]; go_simp; try (with_reducible rfl))
            try simp only [List.setIfInBounds_toArray, List.set_cons_zero, List.set_cons_succ]
            refine held_take 16 37 (v := ?_) rfl rfl (by kernel_rfl) (by kernel_rfl) (by kernel_rfl) (fun _ _ _ h => h) (by rfl) ?_ ⟨x1, x2, x3, x4, x5⟩ ?_
            rotate_left
            · (intro w hSw; (try dsimp only at hSw); try simp only [List.getElem_toArray, List.getElem_cons_zero, List.getElem_cons_succ]; go_simp; try (with_reducible rfl))
            try simp only [List.setIfInBounds_toArray, List.set_cons_zero, List.set_cons_succ]
            refine held_take 17 38 (v := ?_) rfl rfl (by kernel_rfl) (by kernel_rfl) (by kernel_rfl) (fun _ _ _ h => h) (by rfl) ?_ ⟨x1, x2, x3, x4, x5⟩ ?_
            rotate_left
            · (intro w hSw; (try dsimp only at hSw); try simp only [List.getElem_toArray, List.getElem_cons_zero, List.getElem_cons_succ]; go_simp; try (with_reducible rfl))
            try simp only [List.setIfInBounds_toArray, List.set_cons_zero, List.set_cons_succ]
            refine held_take 18 39 (v := ?_) rfl rfl (by kernel_rfl) (by kernel_rfl) (by kernel_rfl) (fun _ _ _ h => h) (by rfl) ?_ ⟨x1, x2, x3, x4, x5⟩ ?_
            rotate_left
            · (intro w hSw; (try dsimp only at hSw); try simp only [List.getElem_toArray, List.getElem_cons_zero, List.getElem_cons_succ]; go_simp; try (with_reducible rfl))
            try simp only [List.setIfInBounds_toArray, List.set_cons_zero, List.set_cons_succ]
            refine held_take 19 40 (v := ?_) rfl rfl (by kernel_rfl) (by kernel_rfl) (by kernel_rfl) (fun _ _ _ h => h) (by rfl) ?_ ⟨x1, x2, x3, x4, x5⟩ ?_
            rotate_left
            · (intro w hSw; (try dsimp only at hSw); try simp only [List.getElem_toArray, List.getElem_cons_zero, List.getElem_cons_succ]; go_simp; try (with_reducible rfl))
            try simp only [List.setIfInBounds_toArray, List.set_cons_zero, List.set_cons_succ]
            refine held_take 20 41 (v := ?_) rfl rfl (by kernel_rfl) (by kernel_rfl) (by kernel_rfl) (fun _ _ _ h => h) (by rfl) ?_ ⟨x1, x2, x3, x4, x5⟩ ?_
            rotate_left
            · (intro w hSw; (try dsimp only at hSw); try simp only [List.getElem_toArray, List.getElem_cons_zero, List.getElem_cons_succ]; go_simp; try (with_reducible rfl))
            try simp only [List.setIfInBounds_toArray, List.set_cons_zero, List.set_cons_succ]
            refine held_take 21 42 (v := ?_) rfl rfl (by kernel_rfl) (by kernel_rfl) (by kernel_rfl) (fun _ _ _ h => h) (by rfl) ?_ ⟨x1, x2, x3, x4, x5⟩ ?_
            rotate_left
            · (intro w hSw; (try dsimp only at hSw); try simp only [List.getElem_toArray, List.getElem_cons_zero, List.getElem_cons_succ]; go_simp; try (with_reducible rfl))
            try simp only [List.setIfInBounds_toArray, List.set_cons_zero, List.set_cons_succ]
            refine held_take 22 43 (v := ?_) rfl rfl (by kernel_rfl) (by kernel_rfl) (by kernel_rfl) (fun _ _ _ h => h) (by rfl) ?_ ⟨x1, x2, x3, x4, x5⟩ ?_
            rotate_left
            · (intro w hSw; (try dsimp only at hSw); try simp only [List.getElem_toArray, List.getElem_cons_zero, List.getElem_cons_succ]; go_simp; try (with_reducible rfl))
            try simp only [List.setIfInBounds_toArray, List.set_cons_zero, List.set_cons_succ]
            refine held_call 23 44 rfl rfl (by kernel_rfl) (by rfl) (fun K hK => ?_)
            try simp only [List.getElem_toArray, List.getElem_cons_zero, List.getElem_cons_succ]
            go_simp
            (go_at_call 47; refine (add_below (om k) (os k) (cm k) _ hok.1 hok.2).mono ?_; rw [HAD.out]; rintro e w3 ⟨rfl, hb⟩; have x1 := later hb x1; have x2 := later hb x2; have x3 := later hb x3; have x4 := later hb x4; have x5 := later hb x5; have HB := Lib.hid (HB.out.trans (hb.mono HB.out.size)); clear hb)
            try go_wp2_with fail
            try simp only [Act.put, List.setIfInBounds_toArray, List.set_cons_zero, List.set_cons_succ]
            refine hK.out _ _ _ ⟨x1, x2, x3, x4, x5⟩ ?_
            clear hK K
            refine held_take 24 45 (v := ?_) rfl rfl (by kernel_rfl) (by kernel_rfl) (by kernel_rfl) (fun _ _ _ h => h) (by rfl) ?_ ⟨x1, x2, x3, x4, x5⟩ ?_
            rotate_left
            · (intro w hSw; (try dsimp only at hSw); try simp only [List.getElem_toArray, List.getElem_cons_zero, List.getElem_cons_succ]; go_simp; try (with_reducible rfl))
            try simp only [List.setIfInBounds_toArray, List.set_cons_zero, List.set_cons_succ]
            refine held_take 25 46 (v := ?_) rfl rfl (by kernel_rfl) (by kernel_rfl) (by kernel_rfl) (fun _ _ _ h => h) (by rfl) ?_ ⟨x1, x2, x3, x4, x5⟩ ?_
            rotate_left
            · (intro w hSw; (try dsimp only at hSw); try simp only [List.getElem_toArray, List.getElem_cons_zero, List.getElem_cons_succ]; go_simp; try (with_reducible rfl))
            try simp only [List.setIfInBounds_toArray, List.set_cons_zero, List.set_cons_succ]
            refine held_take 26 47 (v := ?_) rfl rfl (by kernel_rfl) (by kernel_rfl) (by kernel_rfl) (fun _ _ _ h => h) (by rfl) ?_ ⟨x1, x2, x3, x4, x5⟩ ?_
            rotate_left
            · (intro w hSw; (try dsimp only at hSw); try simp only [List.getElem_toArray, List.getElem_cons_zero, List.getElem_cons_succ]; go_simp; try (with_reducible rfl))
            try simp only [List.setIfInBounds_toArray, List.set_cons_zero, List.set_cons_succ]
            refine wpAnyH_done (by kernel_rfl) ?_ _
            go_upto_region 6 with fail
            have x1 : w3.drew.cell? ⟨bc, oc + k, none⟩ = some (.int .i64 (cm k)) := x1
            have x2 : w3.drew.cell? ⟨bo, oo + k * 2, none⟩ = some (.int .i64 (om k)) := x2
            have x3 : w3.drew.cell? ⟨bo, oo + k * 2 + 1, none⟩ = some (.int .i64 (os k)) := x3
            have HB := Lib.hid (below_drew HB.out)
            rcases HST.out with ⟨h1, _⟩ | ⟨a, h1, ha, hma, _⟩
            · have HP := Lib.hid (show ch om os cm m fm fs (k + 1) = ((k : Int), addm (om k) (cm k), os k) from HY.out ⟨hlt.2, HFE.out, hc0, by rw [HAD.out]; exact hin, .inl (by rw [h1]; decide)⟩)
              rw [h1]
              dsimp only
              clear h1
              refine wp_region_held_drew (S := (fun w' => w'.cell? ⟨bc, oc + k, none⟩ = some (.int .i64 (cm k)))) (by kernel_rfl) x1 (fun _ => ?_)
              refine held_take 0 48 (v := ?_) rfl rfl (by kernel_rfl) (by kernel_rfl) (by kernel_rfl) (fun _ _ _ h => h) (by rfl) ?_ x1 ?_
              rotate_left
              · (intro w hSw; (try dsimp only at hSw); try simp only [List.getElem_toArray, List.getElem_cons_zero, List.getElem_cons_succ]; go_simp; try (with_reducible rfl))
              try simp only [List.setIfInBounds_toArray, List.set_cons_zero, List.set_cons_succ]
              refine held_take 1 49 (v := ?_) rfl rfl (by kernel_rfl) (by kernel_rfl) (by kernel_rfl) (fun _ _ _ h => h) (by rfl) ?_ x1 ?_
              rotate_left
              · (intro w hSw; (try dsimp only at hSw); try simp only [List.getElem_toArray, List.getElem_cons_zero, List.getElem_cons_succ]; go_simp; try (with_reducible rfl))
              try simp only [List.setIfInBounds_toArray, List.set_cons_zero, List.set_cons_succ]
              refine held_take 2 50 (v := ?_) rfl rfl (by kernel_rfl) (by kernel_rfl) (by kernel_rfl) (fun _ _ _ h => h) (by rfl) ?_ x1 ?_
              rotate_left
              · (intro w hSw; (try dsimp only at hSw); try simp only [List.getElem_toArray, List.getElem_cons_zero, List.getElem_cons_succ]; go_simp; try (with_reducible rfl))
              try simp only [List.setIfInBounds_toArray, List.set_cons_zero, List.set_cons_succ]
              refine held_skip 3 51 rfl rfl (by kernel_rfl) (by kernel_rfl) (by kernel_rfl) (fun _ _ _ h => h) (by rfl) x1 ?_
              try simp only [List.setIfInBounds_toArray, List.set_cons_zero, List.set_cons_succ]
              refine held_skip 4 52 rfl rfl (by kernel_rfl) (by kernel_rfl) (by kernel_rfl) (fun _ _ _ h => h) (by rfl) x1 ?_
              try simp only [List.setIfInBounds_toArray, List.set_cons_zero, List.set_cons_succ]
              refine held_skip 5 53 rfl rfl (by kernel_rfl) (by kernel_rfl) (by kernel_rfl) (fun _ _ _ h => h) (by rfl) x1 ?_
              try simp only [List.setIfInBounds_toArray, List.set_cons_zero, List.set_cons_succ]
              refine held_skip 6 54 rfl rfl (by kernel_rfl) (by kernel_rfl) (by kernel_rfl) (fun _ _ _ h => h) (by rfl) x1 ?_
              try simp only [List.setIfInBounds_toArray, List.set_cons_zero, List.set_cons_succ]
              refine held_skip 7 55 rfl rfl (by kernel_rfl) (by kernel_rfl) (by kernel_rfl) (fun _ _ _ h => h) (by rfl) x1 ?_
              try simp only [List.setIfInBounds_toArray, List.set_cons_zero, List.set_cons_succ]
              refine held_skip 8 56 rfl rfl (by kernel_rfl) (by kernel_rfl) (by kernel_rfl) (fun _ _ _ h => h) (by rfl) x1 ?_
              try simp only [List.setIfInBounds_toArray, List.set_cons_zero, List.set_cons_succ]
              refine held_skip 9 57 rfl rfl (by kernel_rfl) (by kernel_rfl) (by kernel_rfl) (fun _ _ _ h => h) (by rfl) x1 ?_
              try simp only [List.setIfInBounds_toArray, List.set_cons_zero, List.set_cons_succ]
              refine held_skip 10 58 rfl rfl (by kernel_rfl) (by kernel_rfl) (by kernel_rfl) (fun _ _ _ h => h) (by rfl) x1 ?_
              try simp only [List.setIfInBounds_toArray, List.set_cons_zero, List.set_cons_succ]
              refine held_skip 12 60 rfl rfl (by kernel_rfl) (by kernel_rfl) (by kernel_rfl) (fun _ _ _ h => h) (by rfl) x1 ?_
              try simp only [List.setIfInBounds_toArray, List.set_cons_zero, List.set_cons_succ]
              refine held_skip 13 61 rfl rfl (by kernel_rfl) (by kernel_rfl) (by kernel_rfl) (fun _ _ _ h => h) (by rfl) x1 ?_
              try simp only [List.setIfInBounds_toArray, List.set_cons_zero, List.set_cons_succ]
              refine held_skip 14 62 rfl rfl (by kernel_rfl) (by kernel_rfl) (by kernel_rfl) (fun _ _ _ h => h) (by rfl) x1 ?_
              try simp only [List.setIfInBounds_toArray, List.set_cons_zero, List.set_cons_succ]
              refine held_skip 15 63 rfl rfl (by kernel_rfl) (by kernel_rfl) (by kernel_rfl) (fun _ _ _ h => h) (by rfl) x1 ?_
              try simp only [List.setIfInBounds_toArray, List.set_cons_zero, List.set_cons_succ]
              refine held_skip 16 64 rfl rfl (by kernel_rfl) (by kernel_rfl) (by kernel_rfl) (fun _ _ _ h => h) (by rfl) x1 ?_
              try simp only [List.setIfInBounds_toArray, List.set_cons_zero, List.set_cons_succ]
              refine held_skip 17 65 rfl rfl (by kernel_rfl) (by kernel_rfl) (by kernel_rfl) (fun _ _ _ h => h) (by rfl) x1 ?_
              try simp only [List.setIfInBounds_toArray, List.set_cons_zero, List.set_cons_succ]
              refine held_skip 18 66 rfl rfl (by kernel_rfl) (by kernel_rfl) (by kernel_rfl) (fun _ _ _ h => h) (by rfl) x1 ?_
              try simp only [List.setIfInBounds_toArray, List.set_cons_zero, List.set_cons_succ]
              refine held_skip 19 67 rfl rfl (by kernel_rfl) (by kernel_rfl) (by kernel_rfl) (fun _ _ _ h => h) (by rfl) x1 ?_
              try simp only [List.setIfInBounds_toArray, List.set_cons_zero, List.set_cons_succ]
              refine held_pass 11 59 rfl rfl (by kernel_rfl) (by rfl) x1 ?_
              try simp only [List.setIfInBounds_toArray, List.set_cons_zero, List.set_cons_succ]
              refine held_pass 20 68 rfl rfl (by kernel_rfl) (by rfl) x1 ?_
              try simp only [List.setIfInBounds_toArray, List.set_cons_zero, List.set_cons_succ]
              refine held_pass 21 69 rfl rfl (by kernel_rfl) (by rfl) x1 ?_
              try simp only [List.setIfInBounds_toArray, List.set_cons_zero, List.set_cons_succ]
              refine held_take 22 70 (v := ?_) rfl rfl (by kernel_rfl) (by kernel_rfl) (by kernel_rfl) (fun _ _ _ h => h) (by rfl) ?_ x1 ?_
              rotate_left
              · (intro w hSw; (try dsimp only at hSw); try simp only [List.getElem_toArray, List.getElem_cons_zero, List.getElem_cons_succ]; go_simp; try (with_reducible rfl))
              try simp only [List.setIfInBounds_toArray, List.set_cons_zero, List.set_cons_succ]
              refine wpAnyH_done (by kernel_rfl) ?_ _
              go_wp2
              go_roundw
              case rel => exact ⟨k + 1, by omega, by omega, by go_num, by rw [HP.out], HB.out⟩
              case measure => simp [intOf]; omega
            · have a0 : ¬ (a : Int) < 0 := by omega
              have a1 : (a : Int) < (n : Int) := by omega
              have a2 : (a : Int) < (m : Int) := by have := hma.1; omega
              have a00 : (0 : Int) ≤ (a : Int) := by omega
              obtain ⟨bo', oo', he, _, ho1, ho2⟩ := HA.out a (by omega)
              obtain ⟨bc', oc', he', _, hc1⟩ := HC.out a hma.1
              simp only [Option.some.injEq, Addr.mk.injEq] at he he'
              obtain ⟨rfl, rfl, _⟩ := he
              obtain ⟨rfl, rfl, _⟩ := he'
              have hoa := HO.out a (by omega)
              have hbw := BAL.out.trans (HB.out.mono BAL.out.size)
              have y1 : w3.drew.cell? ⟨bc, oc + a, none⟩ = some (.int .i64 (cm a)) := later hbw hc1
              have y2 : w3.drew.cell? ⟨bo, oo + a * 2, none⟩ = some (.int .i64 (om a)) := later hbw ho1
              have y3 : w3.drew.cell? ⟨bo, oo + a * 2 + 1, none⟩ = some (.int .i64 (os a)) := later hbw ho2
              clear hc1 ho1 ho2 hbw hfld x4 x5
              obtain ⟨v, hv⟩ : ∃ v, addm (om a) (cm a) = v := ⟨_, rfl⟩
              have HAA := Lib.hid hv
              have H1 := Lib.hid h1
              rw [h1]
              dsimp only
              clear h1 hv
              cases hbt : bet u (os k) v (os a)
              · have HBT := Lib.hid hbt
                have HP := Lib.hid (show ch om os cm m fm fs (k + 1) = ((a : Int), addm (om a) (cm a), os a) by
                  rw [HN.out, H1.out]
                  rintro ⟨_, _, _, _, h | h⟩
                  · rw [H1.out] at h; simp only at h; omega
                  · rw [H1.out] at h; simp only at h; rw [HAD.out, HAA.out, HBT.out] at h; cases h)
                clear hbt
                refine wp_region_held_drew (S := (fun w' => w'.cell? ⟨bc, oc + k, none⟩ = some (.int .i64 (cm k)) ∧ w'.cell? ⟨bo, oo + k * 2, none⟩ = some (.int .i64 (om k)) ∧ w'.cell? ⟨bo, oo + k * 2 + 1, none⟩ = some (.int .i64 (os k)) ∧ w'.cell? ⟨bc, oc + a, none⟩ = some (.int .i64 (cm a)) ∧ w'.cell? ⟨bo, oo + a * 2, none⟩ = some (.int .i64 (om a)) ∧ w'.cell? ⟨bo, oo + a * 2 + 1, none⟩ = some (.int .i64 (os a)))) (by kernel_rfl) ⟨x1, x2, x3, y1, y2, y3⟩ (fun _ => ?_)
                refine held_take 0 48 (v := ?_) rfl rfl (by kernel_rfl) (by kernel_rfl) (by kernel_rfl) (fun _ _ _ h => h) (by rfl) ?_ ⟨x1, x2, x3, y1, y2, y3⟩ ?_
                rotate_left
                · (intro w hSw; (try dsimp only at hSw); try simp only [List.getElem_toArray, List.getElem_cons_zero, List.getElem_cons_succ]; go_simp; try (with_reducible rfl))
                try simp only [List.setIfInBounds_toArray, List.set_cons_zero, List.set_cons_succ]
                refine held_take 1 49 (v := ?_) rfl rfl (by kernel_rfl) (by kernel_rfl) (by kernel_rfl) (fun _ _ _ h => h) (by rfl) ?_ ⟨x1, x2, x3, y1, y2, y3⟩ ?_
                rotate_left
                · (intro w hSw; (try dsimp only at hSw); try simp only [List.getElem_toArray, List.getElem_cons_zero, List.getElem_cons_succ]; go_simp; try (with_reducible rfl))
                try simp only [List.setIfInBounds_toArray, List.set_cons_zero, List.set_cons_succ]
                refine held_take 2 50 (v := ?_) rfl rfl (by kernel_rfl) (by kernel_rfl) (by kernel_rfl) (fun _ _ _ h => h) (by rfl) ?_ ⟨x1, x2, x3, y1, y2, y3⟩ ?_
                rotate_left
                · (intro w hSw; (try dsimp only at hSw); try simp only [List.getElem_toArray, List.getElem_cons_zero, List.getElem_cons_succ]; go_simp; try (with_reducible rfl))
                try simp only [List.setIfInBounds_toArray, List.set_cons_zero, List.set_cons_succ]
                refine held_take 3 51 (v := ?_) rfl rfl (by kernel_rfl) (by kernel_rfl) (by kernel_rfl) (fun _ _ _ h => h) (by rfl) ?_ ⟨x1, x2, x3, y1, y2, y3⟩ ?_
                rotate_left
                · (intro w hSw; (try dsimp only at hSw); try simp only [List.getElem_toArray, List.getElem_cons_zero, List.getElem_cons_succ]; go_simp; try (with_reducible rfl))
                try simp only [List.setIfInBounds_toArray, List.set_cons_zero, List.set_cons_succ]
                refine held_take 4 52 (v := ?_) rfl rfl (by kernel_rfl) (by kernel_rfl) (by kernel_rfl) (fun _ _ _ h => h) (by rfl) ?_ ⟨x1, x2, x3, y1, y2, y3⟩ ?_
                rotate_left
                · (intro w hSw; (try dsimp only at hSw); try simp only [List.getElem_toArray, List.getElem_cons_zero, List.getElem_cons_succ]; go_simp; try (with_reducible rfl))
                try simp only [List.setIfInBounds_toArray, List.set_cons_zero, List.set_cons_succ]
                refine held_take 5 53 (v := ?_) rfl rfl (by kernel_rfl) (by kernel_rfl) (by kernel_rfl) (fun _ _ _ h => h) (by rfl) ?_ ⟨x1, x2, x3, y1, y2, y3⟩ ?_
                rotate_left
                · (intro w hSw; (try dsimp only at hSw); try simp only [List.getElem_toArray, List.getElem_cons_zero, List.getElem_cons_succ]; go_simp; try (with_reducible rfl))
                try simp only [List.setIfInBounds_toArray, List.set_cons_zero, List.set_cons_succ]
                refine held_take 6 54 (v := ?_) rfl rfl (by kernel_rfl) (by kernel_rfl) (by kernel_rfl) (fun _ _ _ h => h) (by rfl) ?_ ⟨x1, x2, x3, y1, y2, y3⟩ ?_
                rotate_left
                · (intro w hSw; (try dsimp only at hSw); try simp only [List.getElem_toArray, List.getElem_cons_zero, List.getElem_cons_succ]; go_simp; try (with_reducible rfl))
                try simp only [List.setIfInBounds_toArray, List.set_cons_zero, List.set_cons_succ]
                refine held_take 7 55 (v := ?_) rfl rfl (by kernel_rfl) (by kernel_rfl) (by kernel_rfl) (fun _ _ _ h => h) (by rfl) ?_ ⟨x1, x2, x3, y1, y2, y3⟩ ?_
                rotate_left
                · (intro w hSw; (try dsimp only at hSw); try simp only [List.getElem_toArray, List.getElem_cons_zero, List.getElem_cons_succ]; go_simp; try (with_reducible rfl))
                try simp only [List.setIfInBounds_toArray, List.set_cons_zero, List.set_cons_succ]
                refine held_take 8 56 (v := ?_) rfl rfl (by kernel_rfl) (by kernel_rfl) (by kernel_rfl) (fun _ _ _ h => h) (by rfl) ?_ ⟨x1, x2, x3, y1, y2, y3⟩ ?_
                rotate_left
                · (intro w hSw; (try dsimp only at hSw); try simp only [List.getElem_toArray, List.getElem_cons_zero, List.getElem_cons_succ]; go_simp; try (with_reducible rfl))
                try simp only [List.setIfInBounds_toArray, List.set_cons_zero, List.set_cons_succ]
                refine held_take 9 57 (v := ?_) rfl rfl (by kernel_rfl) (by kernel_rfl) (by kernel_rfl) (fun _ _ _ h => h) (by rfl) ?_ ⟨x1, x2, x3, y1, y2, y3⟩ ?_
                rotate_left
                · (intro w hSw; (try dsimp only at hSw); try simp only [List.getElem_toArray, List.getElem_cons_zero, List.getElem_cons_succ]; go_simp; try (with_reducible rfl))
                try simp only [List.setIfInBounds_toArray, List.set_cons_zero, List.set_cons_succ]
                refine held_take 10 58 (v := ?_) rfl rfl (by kernel_rfl) (by kernel_rfl) (by kernel_rfl) (fun _ _ _ h => h) (by rfl) ?_ ⟨x1, x2, x3, y1, y2, y3⟩ ?_
                rotate_left
                · (intro w hSw; (try dsimp only at hSw); try simp only [List.getElem_toArray, List.getElem_cons_zero, List.getElem_cons_succ]; go_simp; try (with_reducible rfl))
                try simp only [List.setIfInBounds_toArray, List.set_cons_zero, List.set_cons_succ]
                refine held_take 12 60 (v := ?_) rfl rfl (by kernel_rfl) (by kernel_rfl) (by kernel_rfl) (fun _ _ _ h => h) (by rfl) ?_ ⟨x1, x2, x3, y1, y2, y3⟩ ?_
                rotate_left
                · (intro w hSw; (try dsimp only at hSw); try simp only [List.getElem_toArray, List.getElem_cons_zero, List.getElem_cons_succ]; go_simp; try (with_reducible rfl))
                try simp only [List.setIfInBounds_toArray, List.set_cons_zero, List.set_cons_succ]
                refine held_take 13 61 (v := ?_) rfl rfl (by kernel_rfl) (by kernel_rfl) (by kernel_rfl) (fun _ _ _ h => h) (by rfl) ?_ ⟨x1, x2, x3, y1, y2, y3⟩ ?_
                rotate_left
                · (intro w hSw; (try dsimp only at hSw); try simp only [List.getElem_toArray, List.getElem_cons_zero, List.getElem_cons_succ]; go_simp; try (with_reducible rfl))
                try simp only [List.setIfInBounds_toArray, List.set_cons_zero, List.set_cons_succ]
                refine held_take 14 62 (v := ?_) rfl rfl (by kernel_rfl) (by kernel_rfl) (by kernel_rfl) (fun _ _ _ h => h) (by rfl) ?_ ⟨x1, x2, x3, y1, y2, y3⟩ ?_
                rotate_left
                · (intro w hSw; (try dsimp only at hSw); try simp only [List.getElem_toArray, List.getElem_cons_zero, List.getElem_cons_succ]; go_simp; try (with_reducible rfl))
                try simp only [List.setIfInBounds_toArray, List.set_cons_zero, List.set_cons_succ]
                refine held_take 15 63 (v := ?_) rfl rfl (by kernel_rfl) (by kernel_rfl) (by kernel_rfl) (fun _ _ _ h => h) (by rfl) ?_ ⟨x1, x2, x3, y1, y2, y3⟩ ?_
                rotate_left
                · (intro w hSw; (try dsimp only at hSw); try simp only [List.getElem_toArray, List.getElem_cons_zero, List.getElem_cons_succ]; go_simp; try (with_reducible rfl))
                try simp only [List.setIfInBounds_toArray, List.set_cons_zero, List.set_cons_succ]
                refine held_take 16 64 (v := ?_) rfl rfl (by kernel_rfl) (by kernel_rfl) (by kernel_rfl) (fun _ _ _ h => h) (by rfl) ?_ ⟨x1, x2, x3, y1, y2, y3⟩ ?_
                rotate_left
                · (intro w hSw; (try dsimp only at hSw); try simp only [List.getElem_toArray, List.getElem_cons_zero, List.getElem_cons_succ]; go_simp; try (with_reducible rfl))
                try simp only [List.setIfInBounds_toArray, List.set_cons_zero, List.set_cons_succ]
                refine held_take 17 65 (v := ?_) rfl rfl (by kernel_rfl) (by kernel_rfl) (by kernel_rfl) (fun _ _ _ h => h) (by rfl) ?_ ⟨x1, x2, x3, y1, y2, y3⟩ ?_
                rotate_left
                · (intro w hSw; (try dsimp only at hSw); try simp only [List.getElem_toArray, List.getElem_cons_zero, List.getElem_cons_succ]; go_simp; try (with_reducible rfl))
                try simp only [List.setIfInBounds_toArray, List.set_cons_zero, List.set_cons_succ]
                refine held_take 18 66 (v := ?_) rfl rfl (by kernel_rfl) (by kernel_rfl) (by kernel_rfl) (fun _ _ _ h => h) (by rfl) ?_ ⟨x1, x2, x3, y1, y2, y3⟩ ?_
                rotate_left
                · (intro w hSw; (try dsimp only at hSw); try simp only [List.getElem_toArray, List.getElem_cons_zero, List.getElem_cons_succ]; go_simp; try (with_reducible rfl))
                try simp only [List.setIfInBounds_toArray, List.set_cons_zero, List.set_cons_succ]
                refine held_take 19 67 (v := ?_) rfl rfl (by kernel_rfl) (by kernel_rfl) (by kernel_rfl) (fun _ _ _ h => h) (by rfl) ?_ ⟨x1, x2, x3, y1, y2, y3⟩ ?_
                rotate_left
                · (intro w hSw; (try dsimp only at hSw); try simp only [List.getElem_toArray, List.getElem_cons_zero, List.getElem_cons_succ]; go_simp; try (with_reducible rfl))
                try simp only [List.setIfInBounds_toArray, List.set_cons_zero, List.set_cons_succ]
                refine held_call 11 59 rfl rfl (by kernel_rfl) (by rfl) (fun K hK => ?_)
                try simp only [List.getElem_toArray, List.getElem_cons_zero, List.getElem_cons_succ]
                go_simp
                (go_at_call 47; refine (add_below (om k) (os k) (cm k) _ hok.1 hok.2).mono ?_; rw [HAD.out]; rintro e w5 ⟨rfl, hb⟩; have x1 := later hb x1; have x2 := later hb x2; have x3 := later hb x3; have y1 := later hb y1; have y2 := later hb y2; have y3 := later hb y3; have HB := Lib.hid (HB.out.trans (hb.mono HB.out.size)); clear hb)
                try go_wp2_with fail
                try simp only [Act.put, List.setIfInBounds_toArray, List.set_cons_zero, List.set_cons_succ]
                refine hK.out _ _ _ ⟨x1, x2, x3, y1, y2, y3⟩ ?_
                clear hK K
                refine held_call 20 68 rfl rfl (by kernel_rfl) (by rfl) (fun K hK => ?_)
                try simp only [List.getElem_toArray, List.getElem_cons_zero, List.getElem_cons_succ]
                go_simp
                (go_at_call 47; refine (add_below (om a) (os a) (cm a) _ hoa.1 hoa.2).mono ?_; rw [HAA.out]; rintro e w6 ⟨rfl, hb⟩; have x1 := later hb x1; have x2 := later hb x2; have x3 := later hb x3; have y1 := later hb y1; have y2 := later hb y2; have y3 := later hb y3; have HB := Lib.hid (HB.out.trans (hb.mono HB.out.size)); clear hb)
                try go_wp2_with fail
                try simp only [Act.put, List.setIfInBounds_toArray, List.set_cons_zero, List.set_cons_succ]
                refine hK.out _ _ _ ⟨x1, x2, x3, y1, y2, y3⟩ ?_
                clear hK K
                refine held_call 21 69 rfl rfl (by kernel_rfl) (by rfl) (fun K hK => ?_)
                try simp only [List.getElem_toArray, List.getElem_cons_zero, List.getElem_cons_succ]
                go_simp
                (go_at_call 44; refine (Ref18.bet_below u (os k) v (os a) _).mono ?_; rw [HBT.out]; rintro e w7 ⟨rfl, hb⟩; have x1 := later hb x1; have x2 := later hb x2; have x3 := later hb x3; have y1 := later hb y1; have y2 := later hb y2; have y3 := later hb y3; have HB := Lib.hid (HB.out.trans (hb.mono HB.out.size)); clear hb)
                try go_wp2_with fail
                try simp only [Act.put, List.setIfInBounds_toArray, List.set_cons_zero, List.set_cons_succ]
                refine hK.out _ _ _ ⟨x1, x2, x3, y1, y2, y3⟩ ?_
                clear hK K
                refine held_take 22 70 (v := ?_) rfl rfl (by kernel_rfl) (by kernel_rfl) (by kernel_rfl) (fun _ _ _ h => h) (by rfl) ?_ ⟨x1, x2, x3, y1, y2, y3⟩ ?_
                rotate_left
                · (intro w hSw; (try dsimp only at hSw); try simp only [List.getElem_toArray, List.getElem_cons_zero, List.getElem_cons_succ]; go_simp; try (with_reducible rfl))
                try simp only [List.setIfInBounds_toArray, List.set_cons_zero, List.set_cons_succ]
                refine wpAnyH_done (by kernel_rfl) ?_ _
                go_wp2
                go_roundw
                case rel => exact ⟨k + 1, by omega, by omega, by go_num, by rw [HP.out], HB.out⟩
                case measure => simp [intOf]; omega
              · have HBT := Lib.hid hbt
                have HP := Lib.hid (show ch om os cm m fm fs (k + 1) = ((k : Int), addm (om k) (cm k), os k) from HY.out ⟨hlt.2, HFE.out, hc0, by rw [HAD.out]; exact hin, .inr (by rw [H1.out]; simp only; rw [HAD.out, HAA.out]; exact HBT.out)⟩)
                clear hbt
                refine wp_region_held_drew (S := (fun w' => w'.cell? ⟨bc, oc + k, none⟩ = some (.int .i64 (cm k)) ∧ w'.cell? ⟨bo, oo + k * 2, none⟩ = some (.int .i64 (om k)) ∧ w'.cell? ⟨bo, oo + k * 2 + 1, none⟩ = some (.int .i64 (os k)) ∧ w'.cell? ⟨bc, oc + a, none⟩ = some (.int .i64 (cm a)) ∧ w'.cell? ⟨bo, oo + a * 2, none⟩ = some (.int .i64 (om a)) ∧ w'.cell? ⟨bo, oo + a * 2 + 1, none⟩ = some (.int .i64 (os a)))) (by kernel_rfl) ⟨x1, x2, x3, y1, y2, y3⟩ (fun _ => ?_)
                refine held_take 0 48 (v := ?_) rfl rfl (by kernel_rfl) (by kernel_rfl) (by kernel_rfl) (fun _ _ _ h => h) (by rfl) ?_ ⟨x1, x2, x3, y1, y2, y3⟩ ?_
                rotate_left
                · (intro w hSw; (try dsimp only at hSw); try simp only [List.getElem_toArray, List.getElem_cons_zero, List.getElem_cons_succ]; go_simp; try (with_reducible rfl))
                try simp only [List.setIfInBounds_toArray, List.set_cons_zero, List.set_cons_succ]
                refine held_take 1 49 (v := ?_) rfl rfl (by kernel_rfl) (by kernel_rfl) (by kernel_rfl) (fun _ _ _ h => h) (by rfl) ?_ ⟨x1, x2, x3, y1, y2, y3⟩ ?_
                rotate_left
                · (intro w hSw; (try dsimp only at hSw); try simp only [List.getElem_toArray, List.getElem_cons_zero, List.getElem_cons_succ]; go_simp; try (with_reducible rfl))
                try simp only [List.setIfInBounds_toArray, List.set_cons_zero, List.set_cons_succ]
                refine held_take 2 50 (v := ?_) rfl rfl (by kernel_rfl) (by kernel_rfl) (by kernel_rfl) (fun _ _ _ h => h) (by rfl) ?_ ⟨x1, x2, x3, y1, y2, y3⟩ ?_
                rotate_left
                · (intro w hSw; (try dsimp only at hSw); try simp only [List.getElem_toArray, List.getElem_cons_zero, List.getElem_cons_succ]; go_simp; try (with_reducible rfl))
                try simp only [List.setIfInBounds_toArray, List.set_cons_zero, List.set_cons_succ]
                refine held_take 3 51 (v := ?_) rfl rfl (by kernel_rfl) (by kernel_rfl) (by kernel_rfl) (fun _ _ _ h => h) (by rfl) ?_ ⟨x1, x2, x3, y1, y2, y3⟩ ?_
                rotate_left
                · (intro w hSw; (try dsimp only at hSw); try simp only [List.getElem_toArray, List.getElem_cons_zero, List.getElem_cons_succ]; go_simp; try (with_reducible rfl))
                try simp only [List.setIfInBounds_toArray, List.set_cons_zero, List.set_cons_succ]
                refine held_take 4 52 (v := ?_) rfl rfl (by kernel_rfl) (by kernel_rfl) (by kernel_rfl) (fun _ _ _ h => h) (by rfl) ?_ ⟨x1, x2, x3, y1, y2, y3⟩ ?_
                rotate_left
                · (intro w hSw; (try dsimp only at hSw); try simp only [List.getElem_toArray, List.getElem_cons_zero, List.getElem_cons_succ]; go_simp; try (with_reducible rfl))
                try simp only [List.setIfInBounds_toArray, List.set_cons_zero, List.set_cons_succ]
                refine held_take 5 53 (v := ?_) rfl rfl (by kernel_rfl) (by kernel_rfl) (by kernel_rfl) (fun _ _ _ h => h) (by rfl) ?_ ⟨x1, x2, x3, y1, y2, y3⟩ ?_
                rotate_left
                · (intro w hSw; (try dsimp only at hSw); try simp only [List.getElem_toArray, List.getElem_cons_zero, List.getElem_cons_succ]; go_simp; try (with_reducible rfl))
                try simp only [List.setIfInBounds_toArray, List.set_cons_zero, List.set_cons_succ]
                refine held_take 6 54 (v := ?_) rfl rfl (by kernel_rfl) (by kernel_rfl) (by kernel_rfl) (fun _ _ _ h => h) (by rfl) ?_ ⟨x1, x2, x3, y1, y2, y3⟩ ?_
                rotate_left
                · (intro w hSw; (try dsimp only at hSw); try simp only [List.getElem_toArray, List.getElem_cons_zero, List.getElem_cons_succ]; go_simp; try (with_reducible rfl))
                try simp only [List.setIfInBounds_toArray, List.set_cons_zero, List.set_cons_succ]
                refine held_take 7 55 (v := ?_) rfl rfl (by kernel_rfl) (by kernel_rfl) (by kernel_rfl) (fun _ _ _ h => h) (by rfl) ?_ ⟨x1, x2, x3, y1, y2, y3⟩ ?_
                rotate_left
                · (intro w hSw; (try dsimp only at hSw); try simp only [List.getElem_toArray, List.getElem_cons_zero, List.getElem_cons_succ]; go_simp; try (with_reducible rfl))
                try simp only [List.setIfInBounds_toArray, List.set_cons_zero, List.set_cons_succ]
                refine held_take 8 56 (v := ?_) rfl rfl (by kernel_rfl) (by kernel_rfl) (by kernel_rfl) (fun _ _ _ h => h) (by rfl) ?_ ⟨x1, x2, x3, y1, y2, y3⟩ ?_
                rotate_left
                · (intro w hSw; (try dsimp only at hSw); try simp only [List.getElem_toArray, List.getElem_cons_zero, List.getElem_cons_succ]; go_simp; try (with_reducible rfl))
                try simp only [List.setIfInBounds_toArray, List.set_cons_zero, List.set_cons_succ]
                refine held_take 9 57 (v := ?_) rfl rfl (by kernel_rfl) (by kernel_rfl) (by kernel_rfl) (fun _ _ _ h => h) (by rfl) ?_ ⟨x1, x2, x3, y1, y2, y3⟩ ?_
                rotate_left
                · (intro w hSw; (try dsimp only at hSw); try simp only [List.getElem_toArray, List.getElem_cons_zero, List.getElem_cons_succ]; go_simp; try (with_reducible rfl))
                try simp only [List.setIfInBounds_toArray, List.set_cons_zero, List.set_cons_succ]
                refine held_take 10 58 (v := ?_) rfl rfl (by kernel_rfl) (by kernel_rfl) (by kernel_rfl) (fun _ _ _ h => h) (by rfl) ?_ ⟨x1, x2, x3, y1, y2, y3⟩ ?_
                rotate_left
                · (intro w hSw; (try dsimp only at hSw); try simp only [List.getElem_toArray, List.getElem_cons_zero, List.getElem_cons_succ]; go_simp; try (with_reducible rfl))
                try simp only [List.setIfInBounds_toArray, List.set_cons_zero, List.set_cons_succ]
                refine held_take 12 60 (v := ?_) rfl rfl (by kernel_rfl) (by kernel_rfl) (by kernel_rfl) (fun _ _ _ h => h) (by rfl) ?_ ⟨x1, x2, x3, y1, y2, y3⟩ ?_
                rotate_left
                · (intro w hSw; (try dsimp only at hSw); try simp only [List.getElem_toArray, List.getElem_cons_zero, List.getElem_cons_succ]; go_simp; try (with_reducible rfl))
                try simp only [List.setIfInBounds_toArray, List.set_cons_zero, List.set_cons_succ]
                refine held_take 13 61 (v := ?_) rfl rfl (by kernel_rfl) (by kernel_rfl) (by kernel_rfl) (fun _ _ _ h => h) (by rfl) ?_ ⟨x1, x2, x3, y1, y2, y3⟩ ?_
                rotate_left
                · (intro w hSw; (try dsimp only at hSw); try simp only [List.getElem_toArray, List.getElem_cons_zero, List.getElem_cons_succ]; go_simp; try (with_reducible rfl))
                try simp only [List.setIfInBounds_toArray, List.set_cons_zero, List.set_cons_succ]
                refine held_take 14 62 (v := ?_) rfl rfl (by kernel_rfl) (by kernel_rfl) (by kernel_rfl) (fun _ _ _ h => h) (by rfl) ?_ ⟨x1, x2, x3, y1, y2, y3⟩ ?_
                rotate_left
                · (intro w hSw; (try dsimp only at hSw); try simp only [List.getElem_toArray, List.getElem_cons_zero, List.getElem_cons_succ]; go_simp; try (with_reducible rfl))
                try simp only [List.setIfInBounds_toArray, List.set_cons_zero, List.set_cons_succ]
                refine held_take 15 63 (v := ?_) rfl rfl (by kernel_rfl) (by kernel_rfl) (by kernel_rfl) (fun _ _ _ h => h) (by rfl) ?_ ⟨x1, x2, x3, y1, y2, y3⟩ ?_
                rotate_left
                · (intro w hSw; (try dsimp only at hSw); try simp only [List.getElem_toArray, List.getElem_cons_zero, List.getElem_cons_succ]; go_simp; try (with_reducible rfl))
                try simp only [List.setIfInBounds_toArray, List.set_cons_zero, List.set_cons_succ]
                refine held_take 16 64 (v := ?_) rfl rfl (by kernel_rfl) (by kernel_rfl) (by kernel_rfl) (fun _ _ _ h => h) (by rfl) ?_ ⟨x1, x2, x3, y1, y2, y3⟩ ?_
                rotate_left
                · (intro w hSw; (try dsimp only at hSw); try simp only [List.getElem_toArray, List.getElem_cons_zero, List.getElem_cons_succ]; go_simp; try (with_reducible rfl))
                try simp only [List.setIfInBounds_toArray, List.set_cons_zero, List.set_cons_succ]
                refine held_take 17 65 (v := ?_) rfl rfl (by kernel_rfl) (by kernel_rfl) (by kernel_rfl) (fun _ _ _ h => h) (by rfl) ?_ ⟨x1, x2, x3, y1, y2, y3⟩ ?_
                rotate_left
                · (intro w hSw; (try dsimp only at hSw); try simp only [List.getElem_toArray, List.getElem_cons_zero, List.getElem_cons_succ]; go_simp; try (with_reducible rfl))
                try simp only [List.setIfInBounds_toArray, List.set_cons_zero, List.set_cons_succ]
                refine held_take 18 66 (v := ?_) rfl rfl (by kernel_rfl) (by kernel_rfl) (by kernel_rfl) (fun _ _ _ h => h) (by rfl) ?_ ⟨x1, x2, x3, y1, y2, y3⟩ ?_
                rotate_left
                · (intro w hSw; (try dsimp only at hSw); try simp only [List.getElem_toArray, List.getElem_cons_zero, List.getElem_cons_succ]; go_simp; try (with_reducible rfl))
                try simp only [List.setIfInBounds_toArray, List.set_cons_zero, List.set_cons_succ]
                refine held_take 19 67 (v := ?_) rfl rfl (by kernel_rfl) (by kernel_rfl) (by kernel_rfl) (fun _ _ _ h => h) (by rfl) ?_ ⟨x1, x2, x3, y1, y2, y3⟩ ?_
                rotate_left
                · (intro w hSw; (try dsimp only at hSw); try simp only [List.getElem_toArray, List.getElem_cons_zero, List.getElem_cons_succ]; go_simp; try (with_reducible rfl))
                try simp only [List.setIfInBounds_toArray, List.set_cons_zero, List.set_cons_succ]
                refine held_call 11 59 rfl rfl (by kernel_rfl) (by rfl) (fun K hK => ?_)
                try simp only [List.getElem_toArray, List.getElem_cons_zero, List.getElem_cons_succ]
                go_simp
                (go_at_call 47; refine (add_below (om k) (os k) (cm k) _ hok.1 hok.2).mono ?_; rw [HAD.out]; rintro e w5 ⟨rfl, hb⟩; have x1 := later hb x1; have x2 := later hb x2; have x3 := later hb x3; have y1 := later hb y1; have y2 := later hb y2; have y3 := later hb y3; have HB := Lib.hid (HB.out.trans (hb.mono HB.out.size)); clear hb)
                try go_wp2_with fail
                try simp only [Act.put, List.setIfInBounds_toArray, List.set_cons_zero, List.set_cons_succ]
                refine hK.out _ _ _ ⟨x1, x2, x3, y1, y2, y3⟩ ?_
                clear hK K
                refine held_call 20 68 rfl rfl (by kernel_rfl) (by rfl) (fun K hK => ?_)
                try simp only [List.getElem_toArray, List.getElem_cons_zero, List.getElem_cons_succ]
                go_simp
                (go_at_call 47; refine (add_below (om a) (os a) (cm a) _ hoa.1 hoa.2).mono ?_; rw [HAA.out]; rintro e w6 ⟨rfl, hb⟩; have x1 := later hb x1; have x2 := later hb x2; have x3 := later hb x3; have y1 := later hb y1; have y2 := later hb y2; have y3 := later hb y3; have HB := Lib.hid (HB.out.trans (hb.mono HB.out.size)); clear hb)
                try go_wp2_with fail
                try simp only [Act.put, List.setIfInBounds_toArray, List.set_cons_zero, List.set_cons_succ]
                refine hK.out _ _ _ ⟨x1, x2, x3, y1, y2, y3⟩ ?_
                clear hK K
                refine held_call 21 69 rfl rfl (by kernel_rfl) (by rfl) (fun K hK => ?_)
                try simp only [List.getElem_toArray, List.getElem_cons_zero, List.getElem_cons_succ]
                go_simp
                (go_at_call 44; refine (Ref18.bet_below u (os k) v (os a) _).mono ?_; rw [HBT.out]; rintro e w7 ⟨rfl, hb⟩; have x1 := later hb x1; have x2 := later hb x2; have x3 := later hb x3; have y1 := later hb y1; have y2 := later hb y2; have y3 := later hb y3; have HB := Lib.hid (HB.out.trans (hb.mono HB.out.size)); clear hb)
                try go_wp2_with fail
                try simp only [Act.put, List.setIfInBounds_toArray, List.set_cons_zero, List.set_cons_succ]
                refine hK.out _ _ _ ⟨x1, x2, x3, y1, y2, y3⟩ ?_
                clear hK K
                refine held_take 22 70 (v := ?_) rfl rfl (by kernel_rfl) (by kernel_rfl) (by kernel_rfl) (fun _ _ _ h => h) (by rfl) ?_ ⟨x1, x2, x3, y1, y2, y3⟩ ?_
                rotate_left
                · (intro w hSw; (try dsimp only at hSw); try simp only [List.getElem_toArray, List.getElem_cons_zero, List.getElem_cons_succ]; go_simp; try (with_reducible rfl))
                try simp only [List.setIfInBounds_toArray, List.set_cons_zero, List.set_cons_succ]
                refine wpAnyH_done (by kernel_rfl) ?_ _
                go_wp2
                go_roundw
                case rel => exact ⟨k + 1, by omega, by omega, by go_num, by rw [HP.out], HB.out⟩
                case measure => simp [intOf]; omega
          · have hin' : (65535 : Int) ≤ u := by omega
            have HP := Lib.hid (show ch om os cm m fm fs (k + 1) = ch om os cm m fm fs k from HN.out (fun h => hin (by rw [← HAD.out]; exact h.2.2.2.1)))
            refine wp_region_held_drew (S := (fun w' => w'.cell? ⟨bc, oc + k, none⟩ = some (.int .i64 (cm k)) ∧ w'.cell? ⟨bo, oo + k * 2, none⟩ = some (.int .i64 (om k)) ∧ w'.cell? ⟨bo, oo + k * 2 + 1, none⟩ = some (.int .i64 (os k)) ∧ w'.cell? ⟨w.heap.size, 0, none⟩ = some (.int .i64 fm) ∧ w'.cell? ⟨w.heap.size, 1, none⟩ = some (.int .i64 fs))) (by kernel_rfl) ⟨x1, x2, x3, x4, x5⟩ (fun _ => ?_)
            refine held_take 0 21 (v := ?_) rfl rfl (by kernel_rfl) (by kernel_rfl) (by kernel_rfl) (fun _ _ _ h => h) (by rfl) ?_ ⟨x1, x2, x3, x4, x5⟩ ?_
            rotate_left
            · (intro w hSw; (try dsimp only at hSw); try simp only [List.getElem_toArray, List.getElem_cons_zero, List.getElem_cons_succ]; go_simp; try (with_reducible rfl))
            try simp only [List.setIfInBounds_toArray, List.set_cons_zero, List.set_cons_succ]
            refine held_take 1 22 (v := ?_) rfl rfl (by kernel_rfl) (by kernel_rfl) (by kernel_rfl) (fun _ _ _ h => h) (by rfl) ?_ ⟨x1, x2, x3, x4, x5⟩ ?_
            rotate_left
            · (intro w hSw; (try dsimp only at hSw); try simp only [List.getElem_toArray, List.getElem_cons_zero, List.getElem_cons_succ]; go_simp; try (with_reducible rfl))
            try simp only [List.setIfInBounds_toArray, List.set_cons_zero, List.set_cons_succ]
            refine held_take 2 23 (v := ?_) rfl rfl (by kernel_rfl) (by kernel_rfl) (by kernel_rfl) (fun _ _ _ h => h) (by rfl) ?_ ⟨x1, x2, x3, x4, x5⟩ ?_
            rotate_left
            · (intro w hSw; (try dsimp only at hSw); try simp only [List.getElem_toArray, List.getElem_cons_zero, List.getElem_cons_succ]; go_simp; try (with_reducible rfl))
            try simp only [List.setIfInBounds_toArray, List.set_cons_zero, List.set_cons_succ]
            refine held_take 3 24 (v := ?_) rfl rfl (by kernel_rfl) (by kernel_rfl) (by kernel_rfl) (fun _ _ _ h => h) (by rfl) ?_ ⟨x1, x2, x3, x4, x5⟩ ?_
            rotate_left
            · (intro w hSw; (try dsimp only at hSw); try simp only [List.getElem_toArray, List.getElem_cons_zero, List.getElem_cons_succ]; go_simp; try (with_reducible rfl))
            try simp only [List.setIfInBounds_toArray, List.set_cons_zero, List.set_cons_succ]
            refine held_take 4 25 (v := ?_) rfl rfl (by kernel_rfl) (by kernel_rfl) (by kernel_rfl) (fun _ _ _ h => h) (by rfl) ?_ ⟨x1, x2, x3, x4, x5⟩ ?_
            rotate_left
            · (intro w hSw; (try dsimp only at hSw); try simp only [List.getElem_toArray, List.getElem_cons_zero, List.getElem_cons_succ]; go_simp; try (with_reducible rfl))
            try simp only [List.setIfInBounds_toArray, List.set_cons_zero, List.set_cons_succ]
            refine held_take 5 26 (v := ?_) rfl rfl (by kernel_rfl) (by kernel_rfl) (by kernel_rfl) (fun _ _ _ h => h) (by rfl) ?_ ⟨x1, x2, x3, x4, x5⟩ ?_
            rotate_left
            · (intro w hSw; (try dsimp only at hSw); try simp only [List.getElem_toArray, List.getElem_cons_zero, List.getElem_cons_succ]; go_simp; try (with_reducible rfl))
            try simp only [List.setIfInBounds_toArray, List.set_cons_zero, List.set_cons_succ]
            refine held_take 6 27 (v := ?_) rfl rfl (by kernel_rfl) (by kernel_rfl) (by kernel_rfl) (fun _ _ _ h => h) (by rfl) ?_ ⟨x1, x2, x3, x4, x5⟩ ?_
            rotate_left
            · (intro w hSw; (try dsimp only at hSw); try simp only [List.getElem_toArray, List.getElem_cons_zero, List.getElem_cons_succ]; go_simp; try (with_reducible rfl))
            try simp only [List.setIfInBounds_toArray, List.set_cons_zero, List.set_cons_succ]
            refine held_take 7 28 (v := ?_) rfl rfl (by kernel_rfl) (by kernel_rfl) (by kernel_rfl) (fun _ _ _ h => h) (by rfl) ?_ ⟨x1, x2, x3, x4, x5⟩ ?_
            rotate_left
            · (intro w hSw; (try dsimp only at hSw); try simp only [List.getElem_toArray, List.getElem_cons_zero, List.getElem_cons_succ]; go_simp; try (with_reducible rfl))
            try simp only [List.setIfInBounds_toArray, List.set_cons_zero, List.set_cons_succ]
            refine held_take 8 29 (v := ?_) rfl rfl (by kernel_rfl) (by kernel_rfl) (by kernel_rfl) (fun _ _ _ h => h) (by rfl) ?_ ⟨x1, x2, x3, x4, x5⟩ ?_
            rotate_left
            · (intro w hSw; (try dsimp only at hSw); try simp only [List.getElem_toArray, List.getElem_cons_zero, List.getElem_cons_succ]; go_simp; try (with_reducible rfl))
            try simp only [List.setIfInBounds_toArray, List.set_cons_zero, List.set_cons_succ]
            refine held_take 9 30 (v := ?_) rfl rfl (by kernel_rfl) (by kernel_rfl) (by kernel_rfl) (fun _ _ _ h => h) (by rfl) ?_ ⟨x1, x2, x3, x4, x5⟩ ?_
            rotate_left
            · (intro w hSw; (try dsimp only at hSw); try simp only [List.getElem_toArray, List.getElem_cons_zero, List.getElem_cons_succ]; go_simp; try (with_reducible rfl))
            try simp only [List.setIfInBounds_toArray, List.set_cons_zero, List.set_cons_succ]
            refine held_take 10 31 (v := ?_) rfl rfl (by kernel_rfl) (by kernel_rfl) (by kernel_rfl) (fun _ _ _ h => h) (by rfl) ?_ ⟨x1, x2, x3, x4, x5⟩ ?_
            rotate_left
            · (intro w hSw; (try dsimp only at hSw); try simp only [List.getElem_toArray, List.getElem_cons_zero, List.getElem_cons_succ]; go_simp; try (with_reducible rfl))
            try simp only [List.setIfInBounds_toArray, List.set_cons_zero, List.set_cons_succ]
            refine held_call 11 32 rfl rfl (by kernel_rfl) (by rfl) (fun K hK => ?_)
            try simp only [List.getElem_toArray, List.getElem_cons_zero, List.getElem_cons_succ]
            go_simp
            (go_at_call 49; refine (Ref18.feas_any (om k) (os k) fm fs _).mono ?_; rw [HFE.out]; rintro e w2 ⟨rfl, hb⟩; have x1 := later hb x1; have x2 := later hb x2; have x3 := later hb x3; have x4 := later hb x4; have x5 := later hb x5; have HB := Lib.hid (HB.out.trans (hb.mono HB.out.size)); clear hb)
            try go_wp2_with fail
            try simp only [Act.put, List.setIfInBounds_toArray, List.set_cons_zero, List.set_cons_succ]
            refine hK.out _ _ _ ⟨x1, x2, x3, x4, x5⟩ ?_
            clear hK K
            refine held_take 12 33 (v := ?_) rfl rfl (by kernel_rfl) (by kernel_rfl) (by kernel_rfl) (fun _ _ _ h => h) (by rfl) ?_ ⟨x1, x2, x3, x4, x5⟩ ?_
            rotate_left
            · (intro w hSw; (try dsimp only at hSw); try simp only [List.getElem_toArray, List.getElem_cons_zero, List.getElem_cons_succ]; go_simp; try (with_reducible rfl))
            try simp only [List.setIfInBounds_toArray, List.set_cons_zero, List.set_cons_succ]
            refine held_take 13 34 (v := ?_) rfl rfl (by kernel_rfl) (by kernel_rfl) (by kernel_rfl) (fun _ _ _ h => h) (by rfl) ?_ ⟨x1, x2, x3, x4, x5⟩ ?_
            rotate_left
            · (intro w hSw; (try dsimp only at hSw); try simp only [List.getElem_toArray, List.getElem_cons_zero, List.getElem_cons_succ]; go_simp; try (with_reducible rfl))
            try simp only [List.setIfInBounds_toArray, List.set_cons_zero, List.set_cons_succ]
            refine held_take 14 35 (v := ?_) rfl rfl (by kernel_rfl) (by kernel_rfl) (by kernel_rfl) (fun _ _ _ h => h) (by rfl) ?_ ⟨x1, x2, x3, x4, x5⟩ ?_
            rotate_left
            · (intro w hSw; (try dsimp only at hSw); try simp only [List.getElem_toArray, List.getElem_cons_zero, List.getElem_cons_succ]; go_simp; try (with_reducible rfl))
            try simp only [List.setIfInBounds_toArray, List.set_cons_zero, List.set_cons_succ]
            refine held_take 15 36 (v := ?_) rfl rfl (by kernel_rfl) (by kernel_rfl) (by kernel_rfl) (fun _ _ _ h => h) (by rfl) ?_ ⟨x1, x2, x3, x4, x5⟩ ?_
            rotate_left
            · (intro w hSw; (try dsimp only at hSw); try simp only [List.getElem_toArray, List.getElem_cons_zero, List.getElem_cons_succ]; go_simp; try (with_reducible rfl))
            try simp only [List.setIfInBounds_toArray, List.set_cons_zero, List.set_cons_succ]
            refine held_take 16 37 (v := ?_) rfl rfl (by kernel_rfl) (by kernel_rfl) (by kernel_rfl) (fun _ _ _ h => h) (by rfl) ?_ ⟨x1, x2, x3, x4, x5⟩ ?_
            rotate_left
            · (intro w hSw; (try dsimp only at hSw); try simp only [List.getElem_toArray, List.getElem_cons_zero, List.getElem_cons_succ]; go_simp; try (with_reducible rfl))
            try simp only [List.setIfInBounds_toArray, List.set_cons_zero, List.set_cons_succ]
            refine held_take 17 38 (v := ?_) rfl rfl (by kernel_rfl) (by kernel_rfl) (by kernel_rfl) (fun _ _ _ h => h) (by rfl) ?_ ⟨x1, x2, x3, x4, x5⟩ ?_
            rotate_left
            · (intro w hSw; (try dsimp only at hSw); try simp only [List.getElem_toArray, List.getElem_cons_zero, List.getElem_cons_succ]; go_simp; try (with_reducible rfl))
            try simp only [List.setIfInBounds_toArray, List.set_cons_zero, List.set_cons_succ]
            refine held_take 18 39 (v := ?_) rfl rfl (by kernel_rfl) (by kernel_rfl) (by kernel_rfl) (fun _ _ _ h => h) (by rfl) ?_ ⟨x1, x2, x3, x4, x5⟩ ?_
            rotate_left
            · (intro w hSw; (try dsimp only at hSw); try simp only [List.getElem_toArray, List.getElem_cons_zero, List.getElem_cons_succ]; go_simp; try (with_reducible rfl))
            try simp only [List.setIfInBounds_toArray, List.set_cons_zero, List.set_cons_succ]
            refine held_take 19 40 (v := ?_) rfl rfl (by kernel_rfl) (by kernel_rfl) (by kernel_rfl) (fun _ _ _ h => h) (by rfl) ?_ ⟨x1, x2, x3, x4, x5⟩ ?_
            rotate_left
            · (intro w hSw; (try dsimp only at hSw); try simp only [List.getElem_toArray, List.getElem_cons_zero, List.getElem_cons_succ]; go_simp; try (with_reducible rfl))
            try simp only [List.setIfInBounds_toArray, List.set_cons_zero, List.set_cons_succ]
            refine held_take 20 41 (v := ?_) rfl rfl (by kernel_rfl) (by kernel_rfl) (by kernel_rfl) (fun _ _ _ h => h) (by rfl) ?_ ⟨x1, x2, x3, x4, x5⟩ ?_
            rotate_left
            · (intro w hSw; (try dsimp only at hSw); try simp only [List.getElem_toArray, List.getElem_cons_zero, List.getElem_cons_succ]; go_simp; try (with_reducible rfl))
            try simp only [List.setIfInBounds_toArray, List.set_cons_zero, List.set_cons_succ]
            refine held_take 21 42 (v := ?_) rfl rfl (by kernel_rfl) (by kernel_rfl) (by kernel_rfl) (fun _ _ _ h => h) (by rfl) ?_ ⟨x1, x2, x3, x4, x5⟩ ?_
            rotate_left
            · (intro w hSw; (try dsimp only at hSw); try simp only [List.getElem_toArray, List.getElem_cons_zero, List.getElem_cons_succ]; go_simp; try (with_reducible rfl))
            try simp only [List.setIfInBounds_toArray, List.set_cons_zero, List.set_cons_succ]
            refine held_take 22 43 (v := ?_) rfl rfl (by kernel_rfl) (by kernel_rfl) (by kernel_rfl) (fun _ _ _ h => h) (by rfl) ?_ ⟨x1, x2, x3, x4, x5⟩ ?_
            rotate_left
            · (intro w hSw; (try dsimp only at hSw); try simp only [List.getElem_toArray, List.getElem_cons_zero, List.getElem_cons_succ]; go_simp; try (with_reducible rfl))
            try simp only [List.setIfInBounds_toArray, List.set_cons_zero, List.set_cons_succ]
            refine held_call 23 44 rfl rfl (by kernel_rfl) (by rfl) (fun K hK => ?_)
            try simp only [List.getElem_toArray, List.getElem_cons_zero, List.getElem_cons_succ]
            go_simp
            (go_at_call 47; refine (add_below (om k) (os k) (cm k) _ hok.1 hok.2).mono ?_; rw [HAD.out]; rintro e w3 ⟨rfl, hb⟩; have x1 := later hb x1; have x2 := later hb x2; have x3 := later hb x3; have x4 := later hb x4; have x5 := later hb x5; have HB := Lib.hid (HB.out.trans (hb.mono HB.out.size)); clear hb)
            try go_wp2_with fail
            try simp only [Act.put, List.setIfInBounds_toArray, List.set_cons_zero, List.set_cons_succ]
            refine hK.out _ _ _ ⟨x1, x2, x3, x4, x5⟩ ?_
            clear hK K
            refine held_take 24 45 (v := ?_) rfl rfl (by kernel_rfl) (by kernel_rfl) (by kernel_rfl) (fun _ _ _ h => h) (by rfl) ?_ ⟨x1, x2, x3, x4, x5⟩ ?_
            rotate_left
            · (intro w hSw; (try dsimp only at hSw); try simp only [List.getElem_toArray, List.getElem_cons_zero, List.getElem_cons_succ]; go_simp; try (with_reducible rfl))
            try simp only [List.setIfInBounds_toArray, List.set_cons_zero, List.set_cons_succ]
            refine held_take 25 46 (v := ?_) rfl rfl (by kernel_rfl) (by kernel_rfl) (by kernel_rfl) (fun _ _ _ h => h) (by rfl) ?_ ⟨x1, x2, x3, x4, x5⟩ ?_
            rotate_left
            · (intro w hSw; (try dsimp only at hSw); try simp only [List.getElem_toArray, List.getElem_cons_zero, List.getElem_cons_succ]; go_simp; try (with_reducible rfl))
            try simp only [List.setIfInBounds_toArray, List.set_cons_zero, List.set_cons_succ]
            refine held_take 26 47 (v := ?_) rfl rfl (by kernel_rfl) (by kernel_rfl) (by kernel_rfl) (fun _ _ _ h => h) (by rfl) ?_ ⟨x1, x2, x3, x4, x5⟩ ?_
            rotate_left
            · (intro w hSw; (try dsimp only at hSw); try simp only [List.getElem_toArray, List.getElem_cons_zero, List.getElem_cons_succ]; go_simp; try (with_reducible rfl))
            try simp only [List.setIfInBounds_toArray, List.set_cons_zero, List.set_cons_succ]
            refine wpAnyH_done (by kernel_rfl) ?_ _
            go_wp2
            go_roundw
            case rel => exact ⟨k + 1, by omega, by omega, by go_num, by rw [HP.out], HB.out⟩
            case measure => simp [intOf]; omega
      · have hc0' : cm k ≤ 0 := by omega
        have HP := Lib.hid (show ch om os cm m fm fs (k + 1) = ch om os cm m fm fs k from HN.out (fun h => hc0 h.2.2.1))
        refine wp_region_held_drew (S := (fun w' => w'.cell? ⟨bc, oc + k, none⟩ = some (.int .i64 (cm k)) ∧ w'.cell? ⟨bo, oo + k * 2, none⟩ = some (.int .i64 (om k)) ∧ w'.cell? ⟨bo, oo + k * 2 + 1, none⟩ = some (.int .i64 (os k)) ∧ w'.cell? ⟨w.heap.size, 0, none⟩ = some (.int .i64 fm) ∧ w'.cell? ⟨w.heap.size, 1, none⟩ = some (.int .i64 fs))) (by kernel_rfl) ⟨x1, x2, x3, x4, x5⟩ (fun _ => ?_)
        refine held_take 0 21 (v := ?_) rfl rfl (by kernel_rfl) (by kernel_rfl) (by kernel_rfl) (fun _ _ _ h => h) (by rfl) ?_ ⟨x1, x2, x3, x4, x5⟩ ?_
        rotate_left
        · (intro w hSw; (try dsimp only at hSw); try simp only [List.getElem_toArray, List.getElem_cons_zero, List.getElem_cons_succ]; go_simp; try (with_reducible rfl))
        try simp only [List.setIfInBounds_toArray, List.set_cons_zero, List.set_cons_succ]
        refine held_take 1 22 (v := ?_) rfl rfl (by kernel_rfl) (by kernel_rfl) (by kernel_rfl) (fun _ _ _ h => h) (by rfl) ?_ ⟨x1, x2, x3, x4, x5⟩ ?_
        rotate_left
        · (intro w hSw; (try dsimp only at hSw); try simp only [List.getElem_toArray, List.getElem_cons_zero, List.getElem_cons_succ]; go_simp; try (with_reducible rfl))
        try simp only [List.setIfInBounds_toArray, List.set_cons_zero, List.set_cons_succ]
        refine held_take 2 23 (v := ?_) rfl rfl (by kernel_rfl) (by kernel_rfl) (by kernel_rfl) (fun _ _ _ h => h) (by rfl) ?_ ⟨x1, x2, x3, x4, x5⟩ ?_
        rotate_left
        · (intro w hSw; (try dsimp only at hSw); try simp only [List.getElem_toArray, List.getElem_cons_zero, List.getElem_cons_succ]; go_simp; try (with_reducible rfl))
        try simp only [List.setIfInBounds_toArray, List.set_cons_zero, List.set_cons_succ]
        refine held_take 3 24 (v := ?_) rfl rfl (by kernel_rfl) (by kernel_rfl) (by kernel_rfl) (fun _ _ _ h => h) (by rfl) ?_ ⟨x1, x2, x3, x4, x5⟩ ?_
        rotate_left
        · (intro w hSw; (try dsimp only at hSw); try simp only [List.getElem_toArray, List.getElem_cons_zero, List.getElem_cons_succ]; go_simp; try (with_reducible rfl))
        try simp only [List.setIfInBounds_toArray, List.set_cons_zero, List.set_cons_succ]
        refine held_take 4 25 (v := ?_) rfl rfl (by kernel_rfl) (by kernel_rfl) (by kernel_rfl) (fun _ _ _ h => h) (by rfl) ?_ ⟨x1, x2, x3, x4, x5⟩ ?_
        rotate_left
        · (intro w hSw; (try dsimp only at hSw); try simp only [List.getElem_toArray, List.getElem_cons_zero, List.getElem_cons_succ]; go_simp; try (with_reducible rfl))
        try simp only [List.setIfInBounds_toArray, List.set_cons_zero, List.set_cons_succ]
        refine held_take 5 26 (v := ?_) rfl rfl (by kernel_rfl) (by kernel_rfl) (by kernel_rfl) (fun _ _ _ h => h) (by rfl) ?_ ⟨x1, x2, x3, x4, x5⟩ ?_
        rotate_left
        · (intro w hSw; (try dsimp only at hSw); try simp only [List.getElem_toArray, List.getElem_cons_zero, List.getElem_cons_succ]; go_simp; try (with_reducible rfl))
        try simp only [List.setIfInBounds_toArray, List.set_cons_zero, List.set_cons_succ]
        refine held_skip 6 27 rfl rfl (by kernel_rfl) (by kernel_rfl) (by kernel_rfl) (fun _ _ _ h => h) (by rfl) ⟨x1, x2, x3, x4, x5⟩ ?_
        try simp only [List.setIfInBounds_toArray, List.set_cons_zero, List.set_cons_succ]
        refine held_skip 7 28 rfl rfl (by kernel_rfl) (by kernel_rfl) (by kernel_rfl) (fun _ _ _ h => h) (by rfl) ⟨x1, x2, x3, x4, x5⟩ ?_
        try simp only [List.setIfInBounds_toArray, List.set_cons_zero, List.set_cons_succ]
        refine held_skip 8 29 rfl rfl (by kernel_rfl) (by kernel_rfl) (by kernel_rfl) (fun _ _ _ h => h) (by rfl) ⟨x1, x2, x3, x4, x5⟩ ?_
        try simp only [List.setIfInBounds_toArray, List.set_cons_zero, List.set_cons_succ]
        refine held_skip 9 30 rfl rfl (by kernel_rfl) (by kernel_rfl) (by kernel_rfl) (fun _ _ _ h => h) (by rfl) ⟨x1, x2, x3, x4, x5⟩ ?_
        try simp only [List.setIfInBounds_toArray, List.set_cons_zero, List.set_cons_succ]
        refine held_skip 10 31 rfl rfl (by kernel_rfl) (by kernel_rfl) (by kernel_rfl) (fun _ _ _ h => h) (by rfl) ⟨x1, x2, x3, x4, x5⟩ ?_
        try simp only [List.setIfInBounds_toArray, List.set_cons_zero, List.set_cons_succ]
        refine held_pass 11 32 rfl rfl (by kernel_rfl) (by rfl) ⟨x1, x2, x3, x4, x5⟩ ?_
        try simp only [List.setIfInBounds_toArray, List.set_cons_zero, List.set_cons_succ]
        refine held_skip 12 33 rfl rfl (by kernel_rfl) (by kernel_rfl) (by kernel_rfl) (fun _ _ _ h => h) (by rfl) ⟨x1, x2, x3, x4, x5⟩ ?_
        try simp only [List.setIfInBounds_toArray, List.set_cons_zero, List.set_cons_succ]
        refine held_take 13 34 (v := ?_) rfl rfl (by kernel_rfl) (by kernel_rfl) (by kernel_rfl) (fun _ _ _ h => h) (by rfl) ?_ ⟨x1, x2, x3, x4, x5⟩ ?_
        rotate_left
        · (intro w hSw; (try dsimp only at hSw); try simp only [List.getElem_toArray, List.getElem_cons_zero, List.getElem_cons_succ]; go_simp; try (with_reducible rfl))
        try simp only [List.setIfInBounds_toArray, List.set_cons_zero, List.set_cons_succ]
        refine held_take 14 35 (v := ?_) rfl rfl (by kernel_rfl) (by kernel_rfl) (by kernel_rfl) (fun _ _ _ h => h) (by rfl) ?_ ⟨x1, x2, x3, x4, x5⟩ ?_
        rotate_left
        · (intro w hSw; (try dsimp only at hSw); try simp only [List.getElem_toArray, List.getElem_cons_zero, List.getElem_cons_succ]; go_simp; try (with_reducible rfl))
        try simp only [List.setIfInBounds_toArray, List.set_cons_zero, List.set_cons_succ]
        refine held_skip 15 36 rfl rfl (by kernel_rfl) (by kernel_rfl) (by kernel_rfl) (fun _ _ _ h => h) (by rfl) ⟨x1, x2, x3, x4, x5⟩ ?_
        try simp only [List.setIfInBounds_toArray, List.set_cons_zero, List.set_cons_succ]
        refine held_skip 16 37 rfl rfl (by kernel_rfl) (by kernel_rfl) (by kernel_rfl) (fun _ _ _ h => h) (by rfl) ⟨x1, x2, x3, x4, x5⟩ ?_
        try simp only [List.setIfInBounds_toArray, List.set_cons_zero, List.set_cons_succ]
        refine held_skip 17 38 rfl rfl (by kernel_rfl) (by kernel_rfl) (by kernel_rfl) (fun _ _ _ h => h) (by rfl) ⟨x1, x2, x3, x4, x5⟩ ?_
        try simp only [List.setIfInBounds_toArray, List.set_cons_zero, List.set_cons_succ]
        refine held_skip 18 39 rfl rfl (by kernel_rfl) (by kernel_rfl) (by kernel_rfl) (fun _ _ _ h => h) (by rfl) ⟨x1, x2, x3, x4, x5⟩ ?_
        try simp only [List.setIfInBounds_toArray, List.set_cons_zero, List.set_cons_succ]
        refine held_skip 19 40 rfl rfl (by kernel_rfl) (by kernel_rfl) (by kernel_rfl) (fun _ _ _ h => h) (by rfl) ⟨x1, x2, x3, x4, x5⟩ ?_
        try simp only [List.setIfInBounds_toArray, List.set_cons_zero, List.set_cons_succ]
        refine held_skip 20 41 rfl rfl (by kernel_rfl) (by kernel_rfl) (by kernel_rfl) (fun _ _ _ h => h) (by rfl) ⟨x1, x2, x3, x4, x5⟩ ?_
        try simp only [List.setIfInBounds_toArray, List.set_cons_zero, List.set_cons_succ]
        refine held_skip 21 42 rfl rfl (by kernel_rfl) (by kernel_rfl) (by kernel_rfl) (fun _ _ _ h => h) (by rfl) ⟨x1, x2, x3, x4, x5⟩ ?_
        try simp only [List.setIfInBounds_toArray, List.set_cons_zero, List.set_cons_succ]
        refine held_skip 22 43 rfl rfl (by kernel_rfl) (by kernel_rfl) (by kernel_rfl) (fun _ _ _ h => h) (by rfl) ⟨x1, x2, x3, x4, x5⟩ ?_
        try simp only [List.setIfInBounds_toArray, List.set_cons_zero, List.set_cons_succ]
        refine held_pass 23 44 rfl rfl (by kernel_rfl) (by rfl) ⟨x1, x2, x3, x4, x5⟩ ?_
        try simp only [List.setIfInBounds_toArray, List.set_cons_zero, List.set_cons_succ]
        refine held_skip 24 45 rfl rfl (by kernel_rfl) (by kernel_rfl) (by kernel_rfl) (fun _ _ _ h => h) (by rfl) ⟨x1, x2, x3, x4, x5⟩ ?_
        try simp only [List.setIfInBounds_toArray, List.set_cons_zero, List.set_cons_succ]
        refine held_skip 25 46 rfl rfl (by kernel_rfl) (by kernel_rfl) (by kernel_rfl) (fun _ _ _ h => h) (by rfl) ⟨x1, x2, x3, x4, x5⟩ ?_
        try simp only [List.setIfInBounds_toArray, List.set_cons_zero, List.set_cons_succ]
        refine held_take 26 47 (v := ?_) rfl rfl (by kernel_rfl) (by kernel_rfl) (by kernel_rfl) (fun _ _ _ h => h) (by rfl) ?_ ⟨x1, x2, x3, x4, x5⟩ ?_
        rotate_left
        · (intro w hSw; (try dsimp only at hSw); try simp only [List.getElem_toArray, List.getElem_cons_zero, List.getElem_cons_succ]; go_simp; try (with_reducible rfl))
        try simp only [List.setIfInBounds_toArray, List.set_cons_zero, List.set_cons_succ]
        refine wpAnyH_done (by kernel_rfl) ?_ _
        go_wp2
        go_roundw
        case rel => exact ⟨k + 1, by omega, by omega, by go_num, by rw [HP.out], HB.out⟩
        case measure => simp [intOf]; omega
    · have hend := ch_end (om := om) (os := os) (cm := cm) (fm := fm) (fs := fs) hk (show k = n ∨ k = m by omega)
      have HE := Lib.hid hend
      clear hend
      by_cases h1 : k < n
      · have h1' : (k : Int) < (n : Int) := by omega
        have h2' : ¬ (k : Int) < (m : Int) := by omega
        go_wp2
        go_ret
        exact ⟨by rw [← HE.out]; rfl, BAL.out.trans (HB.out.mono BAL.out.size)⟩
      · have h1' : ¬ (k : Int) < (n : Int) := by omega
        go_wp2
        go_ret
        exact ⟨by rw [← HE.out]; rfl, BAL.out.trans (HB.out.mono BAL.out.size)⟩
end RefCh
end Go.Proofs.Ytcmknllefnahkaa
