/-
  Package engine: Route. Conditions: those that each theorem names.
-/
import Derived.Test.YtcmknllefnahkaaEng6
import Derived.Deep.QuietTactic
import Derived.BigQuiet
namespace Go.Proofs.Ytcmknllefnahkaa
open Go.RowKit FR FP H2
set_option linter.unusedVariables false
set_option linter.unusedSimpArgs false
namespace Eng
open Feas
attribute [local go_sem] st_dv
theorem IsN.drewN {w : World} {b : Nat} {s : St} (h : IsN w b s) (n : Nat) : IsN (w.drewN n) b s := ⟨h.blk, h.id, h.n6⟩
/-- which neighbour is chosen for goal d; below 0: none -/
def St.pick (s : St) (d : Nat) : Int := (ch (fun i => (s.inn d i).1) (fun i => (s.inn d i).2) (fun i => (s.cost i).1) s.n (s.told d).1 (s.told d).2 s.n).1
/-- what Route answers -/
def St.route (s : St) (d : Int) : Int × (Int × Int) × Bool :=
  if d < 0 ∨ (s.n : Int) ≤ d then (-1, (65535, 0), false) else if d = (s.id : Int) then (-1, (0, s.seq), true) else
  if s.pick d.toNat < 0 then (-1, (65535, 0), false) else (s.pick d.toNat, (addm (s.inn d.toNat (s.pick d.toNat).toNat).1 (s.cost (s.pick d.toNat).toNat).1, (s.inn d.toNat (s.pick d.toNat).toNat).2), true)
theorem pick_range (s : St) (hw : Wf s) (d : Nat) : -1 ≤ s.pick d ∧ s.pick d < s.n := by
  have h := ch_range (fun i => (s.inn d i).1) (fun i => (s.inn d i).2) (fun i => (s.cost i).1) s.n (s.told d).1 (s.told d).2 s.n (fun i _ => ⟨(hw.inn d i).1.1, (hw.inn d i).2.1, (hw.inn d i).2.2⟩) s.n (Nat.le_refl _)
  exact ⟨h.1, by have := h.2.1; unfold St.pick; omega⟩
theorem rd_inn {w : World} {b : Nat} {s : St} (h : IsN w b s) (d : Nat) (hd : d < 6) : Rd w (some ⟨b, 8 + d * 6, none⟩) s.n (fun i => (s.inn d i).1) (fun i => (s.inn d i).2) := fun i hi => ⟨b, 8 + d * 6, rfl, h.cinn hd (by have := h.n6; omega)⟩
theorem rd_cost {w : World} {b : Nat} {s : St} (h : IsN w b s) : Rd w (some ⟨b, 2, none⟩) s.n (fun i => (s.cost i).1) (fun i => (s.cost i).2) := fun i hi => ⟨b, 2, rfl, h.ccost (by have := h.n6; omega)⟩
theorem choose_at (b : Nat) (s : St) (d : Nat) (w : World) (h : IsN w b s) (hw : Wf s) (hd : d < 6) : Calls Try.prog 45 #[.slice (some ⟨b, 8 + d * 6, none⟩) s.n 6, .slice (some ⟨b, 2, none⟩) s.n 6, dp (s.told d)] w fun e w' => e = .returned (.int .i64 (s.pick d)) ∧ w = w' :=
  choose_any _ _ s.n s.n 6 6 _ _ _ _ _ _ w (by have := h.n6; omega) (by have := h.n6; omega) (rd_inn h d hd) (rd_cost h) (fun i _ => ⟨⟨⟨(hw.inn d i).1.1, by have := (hw.inn d i).1.2; omega⟩, (hw.inn d i).1.2⟩, (hw.inn d i).2⟩) (fun i _ => ⟨(hw.cost i).1, by have := (hw.cost i).2.1; omega⟩) ⟨(hw.told d).1.1, by have := (hw.told d).1.2; omega⟩ (hw.told d).2
set_option maxRecDepth 100000 in
set_option maxHeartbeats 8000000 in
theorem route_any (b : Nat) (s : St) (d : Int) (w : World) (h : IsN w b s) (hw : Wf s) : Calls Try.prog 26 #[.pointer (some ⟨b, 0, none⟩), .int .i64 d] w fun e w' => e = .returned (.tuple #[.int .i64 (s.route d).1, dp (s.route d).2.1, .bool (s.route d).2.2]) ∧ ∃ q, w' = w.drewN q := by
  have H := Lib.hid h
  have HW := Lib.hid hw
  have hn6 := h.n6
  have c0 := h.cid
  have c1 := h.cn
  clear h hw
  by_cases h0 : d < 0
  · have hr : s.route d = (-1, (65535, 0), false) := by unfold St.route; rw [if_pos (by omega)]
    rw [hr]
    clear hr
    go_enter Try.func26, Try.ntmps26
    go_wp2_with (go_at_call 35; refine (none_any _).mono ?_; rintro e w' ⟨rfl, rfl⟩)
    go_ret3
    exact ⟨rfl, 0, rfl⟩
  by_cases h1 : (s.n : Int) ≤ d
  · have hr : s.route d = (-1, (65535, 0), false) := by unfold St.route; rw [if_pos (by omega)]
    rw [hr]
    clear hr
    go_enter Try.func26, Try.ntmps26
    go_wp2_with (go_at_call 35; refine (none_any _).mono ?_; rintro e w' ⟨rfl, rfl⟩)
    go_ret3
    exact ⟨rfl, 0, rfl⟩
  by_cases h2 : d = (s.id : Int)
  · have hr : s.route d = (-1, (0, s.seq), true) := by unfold St.route; rw [if_neg (by omega), if_pos h2]
    have h2' : (d == (s.id : Int)) = true := by simp [h2]
    have cs := H.out.cseq
    have hcl : cl 0 = 0 := rfl
    rw [hr]
    clear hr h2
    go_enter Try.func26, Try.ntmps26
    go_wp2_with (go_at_call 31; refine (make_any _ _ _).mono ?_; rintro e w' ⟨rfl, rfl⟩)
    go_ret3
    exact ⟨rfl, 0, rfl⟩
  obtain ⟨k, rfl⟩ : ∃ k : Nat, d = k := ⟨d.toNat, by omega⟩
  have hk6 : k < 6 := by omega
  have k0 : (0 : Int) ≤ (k : Int) := by omega
  have k6 : (k : Int) < 6 := by omega
  have n0 : (0 : Int) ≤ (s.n : Int) := by omega
  have n6 : (s.n : Int) ≤ 6 := by omega
  have h2' : ((k : Int) == (s.id : Int)) = false := by simp at h2 ⊢; exact h2
  have ct := H.out.ctold hk6
  have hr : s.route (k : Int) = if s.pick k < 0 then (-1, (65535, 0), false) else (s.pick k, (addm (s.inn k (s.pick k).toNat).1 (s.cost (s.pick k).toNat).1, (s.inn k (s.pick k).toNat).2), true) := by unfold St.route; rw [if_neg (by omega), if_neg h2]; rfl
  have hp := pick_range s HW.out k
  have HC := Lib.hid (fun w' (h' : IsN w' b s) => choose_at b s k w' h' HW.out hk6)
  generalize s.pick k = p at hr hp HC
  have HR := Lib.hid hr
  clear hr h2
  go_enter Try.func26, Try.ntmps26
  go_upto_region 5 with fail
  refine wp_region_held_drew (S := (fun w' => IsN w' b s)) (by kernel_rfl) H.out.drew (fun _ => ?_)
  refine held_take 0 35 (v := ?_) rfl rfl (by kernel_rfl) (by kernel_rfl) (by kernel_rfl) (fun _ _ _ h => h) (by rfl) ?_ H.out.drew ?_
  rotate_left
  · (intro w hSw; (try dsimp only at hSw); have z1 := hSw.cn; have z2 := hSw.ctold hk6; clear hSw;try simp only [List.getElem_toArray, List.getElem_cons_zero, List.getElem_cons_succ]; go_simp; try (with_reducible rfl))
  try simp only [List.setIfInBounds_toArray, List.set_cons_zero, List.set_cons_succ]
  refine held_take 1 36 (v := ?_) rfl rfl (by kernel_rfl) (by kernel_rfl) (by kernel_rfl) (fun _ _ _ h => h) (by rfl) ?_ H.out.drew ?_
  rotate_left
  · (intro w hSw; (try dsimp only at hSw); have z1 := hSw.cn; have z2 := hSw.ctold hk6; clear hSw;try simp only [List.getElem_toArray, List.getElem_cons_zero, List.getElem_cons_succ]; go_simp; try (with_reducible rfl))
  try simp only [List.setIfInBounds_toArray, List.set_cons_zero, List.set_cons_succ]
  refine held_take 2 37 (v := ?_) rfl rfl (by kernel_rfl) (by kernel_rfl) (by kernel_rfl) (fun _ _ _ h => h) (by rfl) ?_ H.out.drew ?_
  rotate_left
  · (intro w hSw; (try dsimp only at hSw); have z1 := hSw.cn; have z2 := hSw.ctold hk6; clear hSw;try simp only [List.getElem_toArray, List.getElem_cons_zero, List.getElem_cons_succ]; go_simp; try (with_reducible rfl))
  try simp only [List.setIfInBounds_toArray, List.set_cons_zero, List.set_cons_succ]
  refine held_take 3 38 (v := ?_) rfl rfl (by kernel_rfl) (by kernel_rfl) (by kernel_rfl) (fun _ _ _ h => h) (by rfl) ?_ H.out.drew ?_
  rotate_left
  · (intro w hSw; (try dsimp only at hSw); have z1 := hSw.cn; have z2 := hSw.ctold hk6; clear hSw;try simp only [List.getElem_toArray, List.getElem_cons_zero, List.getElem_cons_succ]; go_simp; try (with_reducible rfl))
  try simp only [List.setIfInBounds_toArray, List.set_cons_zero, List.set_cons_succ]
  refine held_take 4 39 (v := ?_) rfl rfl (by kernel_rfl) (by kernel_rfl) (by kernel_rfl) (fun _ _ _ h => h) (by rfl) ?_ H.out.drew ?_
  rotate_left
  · (intro w hSw; (try dsimp only at hSw); have z1 := hSw.cn; have z2 := hSw.ctold hk6; clear hSw;try simp only [List.getElem_toArray, List.getElem_cons_zero, List.getElem_cons_succ]; go_simp; try (with_reducible rfl))
  try simp only [List.setIfInBounds_toArray, List.set_cons_zero, List.set_cons_succ]
  refine held_take 5 40 (v := ?_) rfl rfl (by kernel_rfl) (by kernel_rfl) (by kernel_rfl) (fun _ _ _ h => h) (by rfl) ?_ H.out.drew ?_
  rotate_left
  · (intro w hSw; (try dsimp only at hSw); have z1 := hSw.cn; have z2 := hSw.ctold hk6; clear hSw;try simp only [List.getElem_toArray, List.getElem_cons_zero, List.getElem_cons_succ]; go_simp; try (with_reducible rfl))
  try simp only [List.setIfInBounds_toArray, List.set_cons_zero, List.set_cons_succ]
  refine held_take 6 41 (v := ?_) rfl rfl (by kernel_rfl) (by kernel_rfl) (by kernel_rfl) (fun _ _ _ h => h) (by rfl) ?_ H.out.drew ?_
  rotate_left
  · (intro w hSw; (try dsimp only at hSw); have z1 := hSw.cn; have z2 := hSw.ctold hk6; clear hSw;try simp only [List.getElem_toArray, List.getElem_cons_zero, List.getElem_cons_succ]; go_simp; try (with_reducible rfl))
  try simp only [List.setIfInBounds_toArray, List.set_cons_zero, List.set_cons_succ]
  refine held_take 7 42 (v := ?_) rfl rfl (by kernel_rfl) (by kernel_rfl) (by kernel_rfl) (fun _ _ _ h => h) (by rfl) ?_ H.out.drew ?_
  rotate_left
  · (intro w hSw; (try dsimp only at hSw); have z1 := hSw.cn; have z2 := hSw.ctold hk6; clear hSw;try simp only [List.getElem_toArray, List.getElem_cons_zero, List.getElem_cons_succ]; go_simp; try (with_reducible rfl))
  try simp only [List.setIfInBounds_toArray, List.set_cons_zero, List.set_cons_succ]
  refine held_take 8 43 (v := ?_) rfl rfl (by kernel_rfl) (by kernel_rfl) (by kernel_rfl) (fun _ _ _ h => h) (by rfl) ?_ H.out.drew ?_
  rotate_left
  · (intro w hSw; (try dsimp only at hSw); have z1 := hSw.cn; have z2 := hSw.ctold hk6; clear hSw;try simp only [List.getElem_toArray, List.getElem_cons_zero, List.getElem_cons_succ]; go_simp; try (with_reducible rfl))
  try simp only [List.setIfInBounds_toArray, List.set_cons_zero, List.set_cons_succ]
  refine held_take 9 44 (v := ?_) rfl rfl (by kernel_rfl) (by kernel_rfl) (by kernel_rfl) (fun _ _ _ h => h) (by rfl) ?_ H.out.drew ?_
  rotate_left
  · (intro w hSw; (try dsimp only at hSw); have z1 := hSw.cn; have z2 := hSw.ctold hk6; clear hSw;try simp only [List.getElem_toArray, List.getElem_cons_zero, List.getElem_cons_succ]; go_simp; try (with_reducible rfl))
  try simp only [List.setIfInBounds_toArray, List.set_cons_zero, List.set_cons_succ]
  refine held_take 10 45 (v := ?_) rfl rfl (by kernel_rfl) (by kernel_rfl) (by kernel_rfl) (fun _ _ _ h => h) (by rfl) ?_ H.out.drew ?_
  rotate_left
  · (intro w hSw; (try dsimp only at hSw); have z1 := hSw.cn; have z2 := hSw.ctold hk6; clear hSw;try simp only [List.getElem_toArray, List.getElem_cons_zero, List.getElem_cons_succ]; go_simp; try (with_reducible rfl))
  try simp only [List.setIfInBounds_toArray, List.set_cons_zero, List.set_cons_succ]
  refine held_take 11 46 (v := ?_) rfl rfl (by kernel_rfl) (by kernel_rfl) (by kernel_rfl) (fun _ _ _ h => h) (by rfl) ?_ H.out.drew ?_
  rotate_left
  · (intro w hSw; (try dsimp only at hSw); have z1 := hSw.cn; have z2 := hSw.ctold hk6; clear hSw;try simp only [List.getElem_toArray, List.getElem_cons_zero, List.getElem_cons_succ]; go_simp; try (with_reducible rfl))
  try simp only [List.setIfInBounds_toArray, List.set_cons_zero, List.set_cons_succ]
  refine held_take 12 47 (v := ?_) rfl rfl (by kernel_rfl) (by kernel_rfl) (by kernel_rfl) (fun _ _ _ h => h) (by rfl) ?_ H.out.drew ?_
  rotate_left
  · (intro w hSw; (try dsimp only at hSw); have z1 := hSw.cn; have z2 := hSw.ctold hk6; clear hSw;try simp only [List.getElem_toArray, List.getElem_cons_zero, List.getElem_cons_succ]; go_simp; try (with_reducible rfl))
  try simp only [List.setIfInBounds_toArray, List.set_cons_zero, List.set_cons_succ]
  refine held_take 13 48 (v := ?_) rfl rfl (by kernel_rfl) (by kernel_rfl) (by kernel_rfl) (fun _ _ _ h => h) (by rfl) ?_ H.out.drew ?_
  rotate_left
  · (intro w hSw; (try dsimp only at hSw); have z1 := hSw.cn; have z2 := hSw.ctold hk6; clear hSw;try simp only [List.getElem_toArray, List.getElem_cons_zero, List.getElem_cons_succ]; go_simp; try (with_reducible rfl))
  try simp only [List.setIfInBounds_toArray, List.set_cons_zero, List.set_cons_succ]
  refine held_take 14 49 (v := ?_) rfl rfl (by kernel_rfl) (by kernel_rfl) (by kernel_rfl) (fun _ _ _ h => h) (by rfl) ?_ H.out.drew ?_
  rotate_left
  · (intro w hSw; (try dsimp only at hSw); have z1 := hSw.cn; have z2 := hSw.ctold hk6; clear hSw;try simp only [List.getElem_toArray, List.getElem_cons_zero, List.getElem_cons_succ]; go_simp; try (with_reducible rfl))
  try simp only [List.setIfInBounds_toArray, List.set_cons_zero, List.set_cons_succ]
  refine held_take 15 50 (v := ?_) rfl rfl (by kernel_rfl) (by kernel_rfl) (by kernel_rfl) (fun _ _ _ h => h) (by rfl) ?_ H.out.drew ?_
  rotate_left
  · (intro w hSw; (try dsimp only at hSw); have z1 := hSw.cn; have z2 := hSw.ctold hk6; clear hSw;try simp only [List.getElem_toArray, List.getElem_cons_zero, List.getElem_cons_succ]; go_simp; try (with_reducible rfl))
  try simp only [List.setIfInBounds_toArray, List.set_cons_zero, List.set_cons_succ]
  refine held_take 16 51 (v := ?_) rfl rfl (by kernel_rfl) (by kernel_rfl) (by kernel_rfl) (fun _ _ _ h => h) (by rfl) ?_ H.out.drew ?_
  rotate_left
  · (intro w hSw; (try dsimp only at hSw); have z1 := hSw.cn; have z2 := hSw.ctold hk6; clear hSw;try simp only [List.getElem_toArray, List.getElem_cons_zero, List.getElem_cons_succ]; go_simp; try (with_reducible rfl))
  try simp only [List.setIfInBounds_toArray, List.set_cons_zero, List.set_cons_succ]
  refine held_take 17 52 (v := ?_) rfl rfl (by kernel_rfl) (by kernel_rfl) (by kernel_rfl) (fun _ _ _ h => h) (by rfl) ?_ H.out.drew ?_
  rotate_left
  · (intro w hSw; (try dsimp only at hSw); have z1 := hSw.cn; have z2 := hSw.ctold hk6; clear hSw;try simp only [List.getElem_toArray, List.getElem_cons_zero, List.getElem_cons_succ]; go_simp; try (with_reducible rfl))
  try simp only [List.setIfInBounds_toArray, List.set_cons_zero, List.set_cons_succ]
  refine held_take 18 53 (v := ?_) rfl rfl (by kernel_rfl) (by kernel_rfl) (by kernel_rfl) (fun _ _ _ h => h) (by rfl) ?_ H.out.drew ?_
  rotate_left
  · (intro w hSw; (try dsimp only at hSw); have z1 := hSw.cn; have z2 := hSw.ctold hk6; clear hSw;try simp only [List.getElem_toArray, List.getElem_cons_zero, List.getElem_cons_succ]; go_simp; try (with_reducible rfl))
  try simp only [List.setIfInBounds_toArray, List.set_cons_zero, List.set_cons_succ]
  refine held_take 19 54 (v := ?_) rfl rfl (by kernel_rfl) (by kernel_rfl) (by kernel_rfl) (fun _ _ _ h => h) (by rfl) ?_ H.out.drew ?_
  rotate_left
  · (intro w hSw; (try dsimp only at hSw); have z1 := hSw.cn; have z2 := hSw.ctold hk6; clear hSw;try simp only [List.getElem_toArray, List.getElem_cons_zero, List.getElem_cons_succ]; go_simp; try (with_reducible rfl))
  try simp only [List.setIfInBounds_toArray, List.set_cons_zero, List.set_cons_succ]
  refine held_take 20 55 (v := ?_) rfl rfl (by kernel_rfl) (by kernel_rfl) (by kernel_rfl) (fun _ _ _ h => h) (by rfl) ?_ H.out.drew ?_
  rotate_left
  · (intro w hSw; (try dsimp only at hSw); have z1 := hSw.cn; have z2 := hSw.ctold hk6; clear hSw;try simp only [List.getElem_toArray, List.getElem_cons_zero, List.getElem_cons_succ]; go_simp; try (with_reducible rfl))
  try simp only [List.setIfInBounds_toArray, List.set_cons_zero, List.set_cons_succ]
  refine held_take 21 56 (v := ?_) rfl rfl (by kernel_rfl) (by kernel_rfl) (by kernel_rfl) (fun _ _ _ h => h) (by rfl) ?_ H.out.drew ?_
  rotate_left
  · (intro w hSw; (try dsimp only at hSw); have z1 := hSw.cn; have z2 := hSw.ctold hk6; clear hSw;try simp only [List.getElem_toArray, List.getElem_cons_zero, List.getElem_cons_succ]; go_simp; try (with_reducible rfl))
  try simp only [List.setIfInBounds_toArray, List.set_cons_zero, List.set_cons_succ]
  refine held_take 22 57 (v := ?_) rfl rfl (by kernel_rfl) (by kernel_rfl) (by kernel_rfl) (fun _ _ _ h => h) (by rfl) ?_ H.out.drew ?_
  rotate_left
  · (intro w hSw; (try dsimp only at hSw); have z1 := hSw.cn; have z2 := hSw.ctold hk6; clear hSw;try simp only [List.getElem_toArray, List.getElem_cons_zero, List.getElem_cons_succ]; go_simp; try (with_reducible rfl))
  try simp only [List.setIfInBounds_toArray, List.set_cons_zero, List.set_cons_succ]
  refine held_take 23 58 (v := ?_) rfl rfl (by kernel_rfl) (by kernel_rfl) (by kernel_rfl) (fun _ _ _ h => h) (by rfl) ?_ H.out.drew ?_
  rotate_left
  · (intro w hSw; (try dsimp only at hSw); have z1 := hSw.cn; have z2 := hSw.ctold hk6; clear hSw;try simp only [List.getElem_toArray, List.getElem_cons_zero, List.getElem_cons_succ]; go_simp; try (with_reducible rfl))
  try simp only [List.setIfInBounds_toArray, List.set_cons_zero, List.set_cons_succ]
  refine held_call 24 59 rfl rfl (by kernel_rfl) (by rfl) (fun K hK => ?_)
  try simp only [List.getElem_toArray, List.getElem_cons_zero, List.getElem_cons_succ]
  go_simp
  (go_at_call 45; refine (HC.out _ ?_).mono ?_; exact H.out.drew; rintro e w2 ⟨rfl, rfl⟩)
  try go_wp2_with fail
  try simp only [Act.put, List.setIfInBounds_toArray, List.set_cons_zero, List.set_cons_succ]
  refine hK.out _ _ _ H.out.drew ?_
  clear hK K
  refine held_take 25 4 (v := ?_) rfl rfl (by kernel_rfl) (by kernel_rfl) (by kernel_rfl) (fun _ _ _ h => h) (by rfl) ?_ H.out.drew ?_
  rotate_left
  · (intro w hSw; (try dsimp only at hSw); have z1 := hSw.cn; have z2 := hSw.ctold hk6; clear hSw;try simp only [List.getElem_toArray, List.getElem_cons_zero, List.getElem_cons_succ]; go_simp; try (with_reducible rfl))
  try simp only [List.setIfInBounds_toArray, List.set_cons_zero, List.set_cons_succ]
  refine wpAnyH_done (by kernel_rfl) ?_ _
  by_cases hneg : p < 0
  · have hr2 : s.route (k : Int) = (-1, (65535, 0), false) := by rw [HR.out, if_pos hneg]
    have HR2 := Lib.hid hr2
    clear hr2
    go_wp2_with (go_at_call 35; refine (none_any _).mono ?_; rintro e w' ⟨rfl, rfl⟩)
    go_ret3
    exact ⟨by rw [HR2.out]; rfl, 1, rfl⟩
  · obtain ⟨x, rfl⟩ : ∃ x : Nat, p = x := ⟨p.toNat, by omega⟩
    have hx6 : x < 6 := by omega
    have x0 : (0 : Int) ≤ (x : Int) := by omega
    have x6 : (x : Int) < 6 := by omega
    have hr2 : s.route (k : Int) = ((x : Int), (addm (s.inn k x).1 (s.cost x).1, (s.inn k x).2), true) := by rw [HR.out, if_neg hneg]; rfl
    have HR2 := Lib.hid hr2
    have hs1 : Sm (s.cost x).1 := ⟨(HW.out.cost x).1, by have := (HW.out.cost x).2.1; omega⟩
    have hs2 : Sm (s.inn k x).1 := ⟨(HW.out.inn k x).1.1, by have := (HW.out.inn k x).1.2; omega⟩
    have hs3 := (HW.out.inn k x).2
    have hs4 := (HW.out.inn k x).1.2
    clear hr2 hneg
    go_upto_region 8 with fail
    refine wp_region_held_drew (S := (fun w' => IsN w' b s)) (by kernel_rfl) H.out.drew.drew (fun _ => ?_)
    refine held_take 0 63 (v := ?_) rfl rfl (by kernel_rfl) (by kernel_rfl) (by kernel_rfl) (fun _ _ _ h => h) (by rfl) ?_ H.out.drew.drew ?_
    rotate_left
    · (intro w hSw; (try dsimp only at hSw); have z1 := hSw.cinn hk6 hx6; have z2 := hSw.ccost hx6; clear hSw;try simp only [List.getElem_toArray, List.getElem_cons_zero, List.getElem_cons_succ]; go_simp; try (with_reducible rfl))
    try simp only [List.setIfInBounds_toArray, List.set_cons_zero, List.set_cons_succ]
    refine held_take 1 64 (v := ?_) rfl rfl (by kernel_rfl) (by kernel_rfl) (by kernel_rfl) (fun _ _ _ h => h) (by rfl) ?_ H.out.drew.drew ?_
    rotate_left
    · (intro w hSw; (try dsimp only at hSw); have z1 := hSw.cinn hk6 hx6; have z2 := hSw.ccost hx6; clear hSw;try simp only [List.getElem_toArray, List.getElem_cons_zero, List.getElem_cons_succ]; go_simp; try (with_reducible rfl))
    try simp only [List.setIfInBounds_toArray, List.set_cons_zero, List.set_cons_succ]
    refine held_take 2 65 (v := ?_) rfl rfl (by kernel_rfl) (by kernel_rfl) (by kernel_rfl) (fun _ _ _ h => h) (by rfl) ?_ H.out.drew.drew ?_
    rotate_left
    · (intro w hSw; (try dsimp only at hSw); have z1 := hSw.cinn hk6 hx6; have z2 := hSw.ccost hx6; clear hSw;try simp only [List.getElem_toArray, List.getElem_cons_zero, List.getElem_cons_succ]; go_simp; try (with_reducible rfl))
    try simp only [List.setIfInBounds_toArray, List.set_cons_zero, List.set_cons_succ]
    refine held_take 3 66 (v := ?_) rfl rfl (by kernel_rfl) (by kernel_rfl) (by kernel_rfl) (fun _ _ _ h => h) (by rfl) ?_ H.out.drew.drew ?_
    rotate_left
    · (intro w hSw; (try dsimp only at hSw); have z1 := hSw.cinn hk6 hx6; have z2 := hSw.ccost hx6; clear hSw;try simp only [List.getElem_toArray, List.getElem_cons_zero, List.getElem_cons_succ]; go_simp; try (with_reducible rfl))
    try simp only [List.setIfInBounds_toArray, List.set_cons_zero, List.set_cons_succ]
    refine held_take 4 67 (v := ?_) rfl rfl (by kernel_rfl) (by kernel_rfl) (by kernel_rfl) (fun _ _ _ h => h) (by rfl) ?_ H.out.drew.drew ?_
    rotate_left
    · (intro w hSw; (try dsimp only at hSw); have z1 := hSw.cinn hk6 hx6; have z2 := hSw.ccost hx6; clear hSw;try simp only [List.getElem_toArray, List.getElem_cons_zero, List.getElem_cons_succ]; go_simp; try (with_reducible rfl))
    try simp only [List.setIfInBounds_toArray, List.set_cons_zero, List.set_cons_succ]
    refine held_take 5 68 (v := ?_) rfl rfl (by kernel_rfl) (by kernel_rfl) (by kernel_rfl) (fun _ _ _ h => h) (by rfl) ?_ H.out.drew.drew ?_
    rotate_left
    · (intro w hSw; (try dsimp only at hSw); have z1 := hSw.cinn hk6 hx6; have z2 := hSw.ccost hx6; clear hSw;try simp only [List.getElem_toArray, List.getElem_cons_zero, List.getElem_cons_succ]; go_simp; try (with_reducible rfl))
    try simp only [List.setIfInBounds_toArray, List.set_cons_zero, List.set_cons_succ]
    refine held_take 6 69 (v := ?_) rfl rfl (by kernel_rfl) (by kernel_rfl) (by kernel_rfl) (fun _ _ _ h => h) (by rfl) ?_ H.out.drew.drew ?_
    rotate_left
    · (intro w hSw; (try dsimp only at hSw); have z1 := hSw.cinn hk6 hx6; have z2 := hSw.ccost hx6; clear hSw;try simp only [List.getElem_toArray, List.getElem_cons_zero, List.getElem_cons_succ]; go_simp; try (with_reducible rfl))
    try simp only [List.setIfInBounds_toArray, List.set_cons_zero, List.set_cons_succ]
    refine held_take 7 70 (v := ?_) rfl rfl (by kernel_rfl) (by kernel_rfl) (by kernel_rfl) (fun _ _ _ h => h) (by rfl) ?_ H.out.drew.drew ?_
    rotate_left
    · (intro w hSw; (try dsimp only at hSw); have z1 := hSw.cinn hk6 hx6; have z2 := hSw.ccost hx6; clear hSw;try simp only [List.getElem_toArray, List.getElem_cons_zero, List.getElem_cons_succ]; go_simp; try (with_reducible rfl))
    try simp only [List.setIfInBounds_toArray, List.set_cons_zero, List.set_cons_succ]
    refine held_take 8 71 (v := ?_) rfl rfl (by kernel_rfl) (by kernel_rfl) (by kernel_rfl) (fun _ _ _ h => h) (by rfl) ?_ H.out.drew.drew ?_
    rotate_left
    · (intro w hSw; (try dsimp only at hSw); have z1 := hSw.cinn hk6 hx6; have z2 := hSw.ccost hx6; clear hSw;try simp only [List.getElem_toArray, List.getElem_cons_zero, List.getElem_cons_succ]; go_simp; try (with_reducible rfl))
    try simp only [List.setIfInBounds_toArray, List.set_cons_zero, List.set_cons_succ]
    refine held_take 9 72 (v := ?_) rfl rfl (by kernel_rfl) (by kernel_rfl) (by kernel_rfl) (fun _ _ _ h => h) (by rfl) ?_ H.out.drew.drew ?_
    rotate_left
    · (intro w hSw; (try dsimp only at hSw); have z1 := hSw.cinn hk6 hx6; have z2 := hSw.ccost hx6; clear hSw;try simp only [List.getElem_toArray, List.getElem_cons_zero, List.getElem_cons_succ]; go_simp; try (with_reducible rfl))
    try simp only [List.setIfInBounds_toArray, List.set_cons_zero, List.set_cons_succ]
    refine held_take 10 73 (v := ?_) rfl rfl (by kernel_rfl) (by kernel_rfl) (by kernel_rfl) (fun _ _ _ h => h) (by rfl) ?_ H.out.drew.drew ?_
    rotate_left
    · (intro w hSw; (try dsimp only at hSw); have z1 := hSw.cinn hk6 hx6; have z2 := hSw.ccost hx6; clear hSw;try simp only [List.getElem_toArray, List.getElem_cons_zero, List.getElem_cons_succ]; go_simp; try (with_reducible rfl))
    try simp only [List.setIfInBounds_toArray, List.set_cons_zero, List.set_cons_succ]
    refine held_take 11 74 (v := ?_) rfl rfl (by kernel_rfl) (by kernel_rfl) (by kernel_rfl) (fun _ _ _ h => h) (by rfl) ?_ H.out.drew.drew ?_
    rotate_left
    · (intro w hSw; (try dsimp only at hSw); have z1 := hSw.cinn hk6 hx6; have z2 := hSw.ccost hx6; clear hSw;try simp only [List.getElem_toArray, List.getElem_cons_zero, List.getElem_cons_succ]; go_simp; try (with_reducible rfl))
    try simp only [List.setIfInBounds_toArray, List.set_cons_zero, List.set_cons_succ]
    refine held_take 12 75 (v := ?_) rfl rfl (by kernel_rfl) (by kernel_rfl) (by kernel_rfl) (fun _ _ _ h => h) (by rfl) ?_ H.out.drew.drew ?_
    rotate_left
    · (intro w hSw; (try dsimp only at hSw); have z1 := hSw.cinn hk6 hx6; have z2 := hSw.ccost hx6; clear hSw;try simp only [List.getElem_toArray, List.getElem_cons_zero, List.getElem_cons_succ]; go_simp; try (with_reducible rfl))
    try simp only [List.setIfInBounds_toArray, List.set_cons_zero, List.set_cons_succ]
    refine held_take 13 76 (v := ?_) rfl rfl (by kernel_rfl) (by kernel_rfl) (by kernel_rfl) (fun _ _ _ h => h) (by rfl) ?_ H.out.drew.drew ?_
    rotate_left
    · (intro w hSw; (try dsimp only at hSw); have z1 := hSw.cinn hk6 hx6; have z2 := hSw.ccost hx6; clear hSw;try simp only [List.getElem_toArray, List.getElem_cons_zero, List.getElem_cons_succ]; go_simp; try (with_reducible rfl))
    try simp only [List.setIfInBounds_toArray, List.set_cons_zero, List.set_cons_succ]
    refine held_take 14 77 (v := ?_) rfl rfl (by kernel_rfl) (by kernel_rfl) (by kernel_rfl) (fun _ _ _ h => h) (by rfl) ?_ H.out.drew.drew ?_
    rotate_left
    · (intro w hSw; (try dsimp only at hSw); have z1 := hSw.cinn hk6 hx6; have z2 := hSw.ccost hx6; clear hSw;try simp only [List.getElem_toArray, List.getElem_cons_zero, List.getElem_cons_succ]; go_simp; try (with_reducible rfl))
    try simp only [List.setIfInBounds_toArray, List.set_cons_zero, List.set_cons_succ]
    refine held_call 15 78 rfl rfl (by kernel_rfl) (by rfl) (fun K hK => ?_)
    try simp only [List.getElem_toArray, List.getElem_cons_zero, List.getElem_cons_succ]
    go_simp
    (go_at_call 36; refine (metric_any _ _ hs1 _).mono ?_; rintro e w2 ⟨rfl, rfl⟩)
    try go_wp2_with fail
    try simp only [Act.put, List.setIfInBounds_toArray, List.set_cons_zero, List.set_cons_succ]
    refine hK.out _ _ _ H.out.drew.drew ?_
    clear hK K
    refine held_call 16 79 rfl rfl (by kernel_rfl) (by rfl) (fun K hK => ?_)
    try simp only [List.getElem_toArray, List.getElem_cons_zero, List.getElem_cons_succ]
    go_simp
    (go_at_call 34; refine (add_any _ _ _ hs2 hs3 hs4 _).mono ?_; rintro e w2 ⟨rfl, rfl⟩)
    try go_wp2_with fail
    try simp only [Act.put, List.setIfInBounds_toArray, List.set_cons_zero, List.set_cons_succ]
    refine hK.out _ _ _ H.out.drew.drew ?_
    clear hK K
    refine held_take 17 4 (v := ?_) rfl rfl (by kernel_rfl) (by kernel_rfl) (by kernel_rfl) (fun _ _ _ h => h) (by rfl) ?_ H.out.drew.drew ?_
    rotate_left
    · (intro w hSw; (try dsimp only at hSw); have z1 := hSw.cinn hk6 hx6; have z2 := hSw.ccost hx6; clear hSw;try simp only [List.getElem_toArray, List.getElem_cons_zero, List.getElem_cons_succ]; go_simp; try (with_reducible rfl))
    try simp only [List.setIfInBounds_toArray, List.set_cons_zero, List.set_cons_succ]
    refine held_take 18 5 (v := ?_) rfl rfl (by kernel_rfl) (by kernel_rfl) (by kernel_rfl) (fun _ _ _ h => h) (by rfl) ?_ H.out.drew.drew ?_
    rotate_left
    · (intro w hSw; (try dsimp only at hSw); have z1 := hSw.cinn hk6 hx6; have z2 := hSw.ccost hx6; clear hSw;try simp only [List.getElem_toArray, List.getElem_cons_zero, List.getElem_cons_succ]; go_simp; try (with_reducible rfl))
    try simp only [List.setIfInBounds_toArray, List.set_cons_zero, List.set_cons_succ]
    refine held_take 19 6 (v := ?_) rfl rfl (by kernel_rfl) (by kernel_rfl) (by kernel_rfl) (fun _ _ _ h => h) (by rfl) ?_ H.out.drew.drew ?_
    rotate_left
    · (intro w hSw; (try dsimp only at hSw); have z1 := hSw.cinn hk6 hx6; have z2 := hSw.ccost hx6; clear hSw;try simp only [List.getElem_toArray, List.getElem_cons_zero, List.getElem_cons_succ]; go_simp; try (with_reducible rfl))
    try simp only [List.setIfInBounds_toArray, List.set_cons_zero, List.set_cons_succ]
    refine wpAnyH_done (by kernel_rfl) ?_ _
    go_wp2
    go_ret3
    exact ⟨by rw [HR2.out]; rfl, 2, rfl⟩
set_option maxHeartbeats 1600000 in
theorem route_nil (d : Int) (w : World) : Calls Try.prog 26 #[.pointer none, .int .i64 d] w fun e w' => e = .returned (.tuple #[.int .i64 (-1), dv 65535 0, .bool false]) ∧ w = w' := by
  go_enter Try.func26, Try.ntmps26
  go_wp2_with (go_at_call 35; refine (none_any _).mono ?_; rintro e w' ⟨rfl, rfl⟩)
  go_ret3
  exact ⟨rfl, rfl⟩
end Eng
end Go.Proofs.Ytcmknllefnahkaa
