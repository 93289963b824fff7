/-
  Package engine: Link. Conditions: those that each theorem names.
-/
import Derived.Test.YtcmknllefnahkaaEng4
namespace Go.Proofs.Ytcmknllefnahkaa
open Go.RowKit FR FP H2
set_option linter.unusedVariables false
set_option linter.unusedSimpArgs false
namespace Eng
open Feas
attribute [local go_sem] st_dv
/-- a link's cost, otherwise -/
def St.price (s : St) (t : Nat) (p : Int × Int) : St := { s with cost := fun k => if k = t then p else s.cost k }
/-- heard of d from i, otherwise -/
def St.hear1 (s : St) (d i : Nat) (p : Int × Int) : St := s.hears (fun x k => if x = d ∧ k = i then p else s.inn x k)
theorem St.price_val (s : St) (t : Nat) (p : Int × Int) (k : Nat) : (s.price t p).val k = if k = 2 + t ∧ k < 8 then dp p else s.val k := by
  unfold St.val St.price
  by_cases e : k = 2 + t ∧ k < 8
  · rw [if_pos e, if_neg (by omega), if_neg (by omega), if_pos e.2]
    simp only [show k - 2 = t by omega, if_true]
  · rw [if_neg e]
    dsimp only
    repeat' split
    all_goals first | rfl | (exfalso; omega)
theorem IsN.price {w : World} {b : Nat} {s : St} (h : IsN w b s) (t : Nat) (ht : t < 6) (p : Int × Int) : IsN (w.setCell ⟨b, 2 + t, none⟩ (dp p)) b (s.price t p) :=
  h.set (2 + t) _ (by omega) (by rw [St.price_val, if_pos (by omega)]) (fun j hj hne => by rw [St.price_val, if_neg (by omega)]) h.id h.n6
theorem IsN.hear1 {w : World} {b : Nat} {s : St} (h : IsN w b s) (d i : Nat) (hd : d < 6) (hi : i < 6) (p : Int × Int) : IsN (w.setCell ⟨b, 8 + d * 6 + i, none⟩ (dp p)) b (s.hear1 d i p) :=
  h.set (8 + d * 6 + i) _ (by omega) (by rw [St.hear1, St.hears_val, if_pos (by omega), if_pos (by omega)]) (fun j hj hne => by
    rw [St.hear1, St.hears_val]
    by_cases e : 8 ≤ j ∧ j < 44
    · rw [if_pos e, if_neg (by omega), St.val, if_neg (by omega), if_neg (by omega), if_neg (by omega), if_pos e.2]
    · rw [if_neg e]) h.id h.n6
/-- what Link answers -/
def lnk (s : St) (t c : Int) : Int := if oth s t = true then (if 0 ≤ c ∧ c ≤ 1000 then 0 else 1) else 2
/-- what Link makes of a node -/
def St.link (s : St) (t c : Int) : St := if oth s t = true ∧ 0 ≤ c ∧ c ≤ 1000 then (if c = 0 then (s.price t.toNat (0, 0)).hears (fun d k => if k = t.toNat then (65535, 0) else s.inn d k) else s.price t.toNat (c, 0)) else s
theorem cl_same {c : Int} (h0 : 0 ≤ c) (h1 : c ≤ 65535) : cl c = c := by unfold cl; omega
set_option maxRecDepth 100000 in
set_option maxHeartbeats 8000000 in
theorem link_any (b : Nat) (s : St) (t c : Int) (w : World) (h : IsN w b s) : Calls Try.prog 13 #[.pointer (some ⟨b, 0, none⟩), .int .i64 t, .int .i64 c] w fun e w' => e = .returned (.int .i64 (lnk s t c)) ∧ IsN w' b (s.link t c) ∧ Only (fun i => i = b) w w' := by
  have H := Lib.hid h
  have hn6 := h.n6
  clear h
  cases ho : oth s t
  · have e1 : lnk s t c = 2 := by unfold lnk; rw [if_neg (by rw [ho]; simp)]
    have e2 : s.link t c = s := by unfold St.link; rw [if_neg (by rw [ho]; simp)]
    have hck := check_any b s t w H.out
    rw [ho] at hck
    have HCK := Lib.hid hck
    clear hck
    rw [e1, e2]
    go_enter Try.func13, Try.ntmps13
    go_wp2_with (go_at_call 40; refine (HCK.out).mono ?_; rintro e w' ⟨rfl, rfl⟩)
    go_ret
    exact ⟨rfl, H.out, Only.refl _ _⟩
  · have hck := check_any b s t w H.out
    rw [ho] at hck
    have HCK := Lib.hid hck
    clear hck
    by_cases h0 : c < 0
    · have e1 : lnk s t c = 1 := by unfold lnk; rw [if_pos ho, if_neg (by omega)]
      have e2 : s.link t c = s := by unfold St.link; rw [if_neg (by omega)]
      rw [e1, e2]
      clear e1 e2 ho
      go_enter Try.func13, Try.ntmps13
      go_wp2_with (go_at_call 40; refine (HCK.out).mono ?_; rintro e w' ⟨rfl, rfl⟩)
      go_ret
      exact ⟨rfl, H.out, Only.refl _ _⟩
    by_cases h1 : 1000 < c
    · have e1 : lnk s t c = 1 := by unfold lnk; rw [if_pos ho, if_neg (by omega)]
      have e2 : s.link t c = s := by unfold St.link; rw [if_neg (by omega)]
      rw [e1, e2]
      clear e1 e2 ho
      go_enter Try.func13, Try.ntmps13
      go_wp2_with (go_at_call 40; refine (HCK.out).mono ?_; rintro e w' ⟨rfl, rfl⟩)
      go_ret
      exact ⟨rfl, H.out, Only.refl _ _⟩
    have e1 : lnk s t c = 0 := by unfold lnk; rw [if_pos ho, if_pos (by omega)]
    have e2 : s.link t c = (if c = 0 then (s.price t.toNat (0, 0)).hears (fun d k => if k = t.toNat then (65535, 0) else s.inn d k) else s.price t.toNat (c, 0)) := by unfold St.link; rw [if_pos ⟨ho, by omega, by omega⟩]
    rw [e1, e2]
    clear e1 e2
    obtain ⟨L, hL⟩ : ∃ L, (if c = 0 then (s.price t.toNat (0, 0)).hears (fun d k => if k = t.toNat then (65535, 0) else s.inn d k) else s.price t.toNat (c, 0)) = L := ⟨_, rfl⟩
    rw [hL]
    obtain ⟨k, rfl, hk, _⟩ := oth_nat ho
    rw [Int.toNat_natCast] at hL
    have HL := Lib.hid hL
    clear hL
    have hk6 : k < 6 := by omega
    have k0 : (0 : Int) ≤ (k : Int) := by omega
    have k6 : (k : Int) < 6 := by omega
    have hcl : cl c = c := cl_same (by omega) (by omega)
    have HCL := Lib.hid hcl
    clear ho hcl
    go_enter Try.func13, Try.ntmps13
    go_upto_region 6 with (go_at_call 40; refine (HCK.out).mono ?_; rintro e w' ⟨rfl, rfl⟩)
    refine wp_region_held_drew (S := (fun _ => True)) (by kernel_rfl) trivial (fun _ => ?_)
    refine held_take 0 23 (v := ?_) rfl rfl (by kernel_rfl) (by kernel_rfl) (by kernel_rfl) (fun _ _ _ h => h) (by rfl) ?_ trivial ?_
    rotate_left
    · (intro w hSw; (try dsimp only at hSw); try simp only [List.getElem_toArray, List.getElem_cons_zero, List.getElem_cons_succ]; go_simp; try (with_reducible rfl))
    try simp only [List.setIfInBounds_toArray, List.set_cons_zero, List.set_cons_succ]
    refine held_take 1 24 (v := ?_) rfl rfl (by kernel_rfl) (by kernel_rfl) (by kernel_rfl) (fun _ _ _ h => h) (by rfl) ?_ trivial ?_
    rotate_left
    · (intro w hSw; (try dsimp only at hSw); try simp only [List.getElem_toArray, List.getElem_cons_zero, List.getElem_cons_succ]; go_simp; try (with_reducible rfl))
    try simp only [List.setIfInBounds_toArray, List.set_cons_zero, List.set_cons_succ]
    refine held_take 2 25 (v := ?_) rfl rfl (by kernel_rfl) (by kernel_rfl) (by kernel_rfl) (fun _ _ _ h => h) (by rfl) ?_ trivial ?_
    rotate_left
    · (intro w hSw; (try dsimp only at hSw); try simp only [List.getElem_toArray, List.getElem_cons_zero, List.getElem_cons_succ]; go_simp; try (with_reducible rfl))
    try simp only [List.setIfInBounds_toArray, List.set_cons_zero, List.set_cons_succ]
    refine held_take 4 27 (v := ?_) rfl rfl (by kernel_rfl) (by kernel_rfl) (by kernel_rfl) (fun _ _ _ h => h) (by rfl) ?_ trivial ?_
    rotate_left
    · (intro w hSw; (try dsimp only at hSw); try simp only [List.getElem_toArray, List.getElem_cons_zero, List.getElem_cons_succ]; go_simp; try (with_reducible rfl))
    try simp only [List.setIfInBounds_toArray, List.set_cons_zero, List.set_cons_succ]
    refine held_take 5 28 (v := ?_) rfl rfl (by kernel_rfl) (by kernel_rfl) (by kernel_rfl) (fun _ _ _ h => h) (by rfl) ?_ trivial ?_
    rotate_left
    · (intro w hSw; (try dsimp only at hSw); try simp only [List.getElem_toArray, List.getElem_cons_zero, List.getElem_cons_succ]; go_simp; try (with_reducible rfl))
    try simp only [List.setIfInBounds_toArray, List.set_cons_zero, List.set_cons_succ]
    refine held_call 3 26 rfl rfl (by kernel_rfl) (by rfl) (fun K hK => ?_)
    try simp only [List.getElem_toArray, List.getElem_cons_zero, List.getElem_cons_succ]
    go_simp
    (go_at_call 31; refine (make_any _ _ _).mono ?_; rw [HCL.out]; rintro e w2 ⟨rfl, rfl⟩)
    try go_wp2_with fail
    try simp only [Act.put, List.setIfInBounds_toArray, List.set_cons_zero, List.set_cons_succ]
    refine hK.out _ _ _ trivial ?_
    clear hK K
    refine held_take 6 29 (v := ?_) rfl rfl (by kernel_rfl) (by kernel_rfl) (by kernel_rfl) (fun _ _ _ h => h) (by rfl) ?_ trivial ?_
    rotate_left
    · (intro w hSw; (try dsimp only at hSw); try simp only [List.getElem_toArray, List.getElem_cons_zero, List.getElem_cons_succ]; go_simp; try (with_reducible rfl))
    try simp only [List.setIfInBounds_toArray, List.set_cons_zero, List.set_cons_succ]
    refine held_do 7 rfl (by kernel_rfl) (by rfl) (fun K hK => ?_)
    try simp only [List.getElem_toArray, List.getElem_cons_zero, List.getElem_cons_succ]
    (have x1 := H.out.drew.ccost hk6; have x2 := H.out.drew.free (2 + k); go_simp; have HN2 := Lib.hid (H.out.price k hk6 (c, 0)).drew; have HO2 := Lib.hid (Only.drew (Only.setCell (Only.refl (fun i => i = b) w) (p := ⟨b, 2 + k, none⟩) (fun _ => rfl) (dv c 0))); clear x1 x2)
    try simp only [Act.put, List.setIfInBounds_toArray, List.set_cons_zero, List.set_cons_succ]
    refine hK.out _ _ _ trivial ?_
    clear hK K
    refine wpAnyH_done (by kernel_rfl) ?_ _
    by_cases hz : c = 0
    · subst hz
      go_upto_region 9 with fail
      generalize (w.setCell ⟨b, 2 + k, none⟩ (dv 0 0)).drew = W at HN2 HO2 ⊢
      go_loopw [32] (fun s32 wr => ∃ i : Nat, i ≤ 6 ∧ s32 = .int .i64 i ∧ IsN wr b ((s.price k (0, 0)).hears (fun d x => if d < i ∧ x = k then (65535, 0) else s.inn d x)) ∧ Only (fun i => i = b) w wr) (fun s32 _ => 6 - (intOf s32).toNat)
      case atStart => exact ⟨0, by omega, rfl, HN2.out.hears (fun d x _ _ => by simp), HO2.out⟩
      case round =>
        obtain ⟨i, hi, rfl, hn, ho⟩ := hrel
        have HN := Lib.hid hn
        have HO := Lib.hid ho
        clear hn ho HN2 HO2
        by_cases hlt : i < 6
        · have hlt' : (i : Int) < 6 := by omega
          have i0 : (0 : Int) ≤ (i : Int) := by omega
          go_upto_region 11 with fail
          refine wp_region_held_drew (S := (fun _ => True)) (by kernel_rfl) trivial (fun _ => ?_)
          refine held_take 0 35 (v := ?_) rfl rfl (by kernel_rfl) (by kernel_rfl) (by kernel_rfl) (fun _ _ _ h => h) (by rfl) ?_ trivial ?_
          rotate_left
          · (intro w hSw; (try dsimp only at hSw); try simp only [List.getElem_toArray, List.getElem_cons_zero, List.getElem_cons_succ]; go_simp; try (with_reducible rfl))
          try simp only [List.setIfInBounds_toArray, List.set_cons_zero, List.set_cons_succ]
          refine held_take 1 36 (v := ?_) rfl rfl (by kernel_rfl) (by kernel_rfl) (by kernel_rfl) (fun _ _ _ h => h) (by rfl) ?_ trivial ?_
          rotate_left
          · (intro w hSw; (try dsimp only at hSw); try simp only [List.getElem_toArray, List.getElem_cons_zero, List.getElem_cons_succ]; go_simp; try (with_reducible rfl))
          try simp only [List.setIfInBounds_toArray, List.set_cons_zero, List.set_cons_succ]
          refine held_take 2 37 (v := ?_) rfl rfl (by kernel_rfl) (by kernel_rfl) (by kernel_rfl) (fun _ _ _ h => h) (by rfl) ?_ trivial ?_
          rotate_left
          · (intro w hSw; (try dsimp only at hSw); try simp only [List.getElem_toArray, List.getElem_cons_zero, List.getElem_cons_succ]; go_simp; try (with_reducible rfl))
          try simp only [List.setIfInBounds_toArray, List.set_cons_zero, List.set_cons_succ]
          refine held_take 4 39 (v := ?_) rfl rfl (by kernel_rfl) (by kernel_rfl) (by kernel_rfl) (fun _ _ _ h => h) (by rfl) ?_ trivial ?_
          rotate_left
          · (intro w hSw; (try dsimp only at hSw); try simp only [List.getElem_toArray, List.getElem_cons_zero, List.getElem_cons_succ]; go_simp; try (with_reducible rfl))
          try simp only [List.setIfInBounds_toArray, List.set_cons_zero, List.set_cons_succ]
          refine held_take 5 40 (v := ?_) rfl rfl (by kernel_rfl) (by kernel_rfl) (by kernel_rfl) (fun _ _ _ h => h) (by rfl) ?_ trivial ?_
          rotate_left
          · (intro w hSw; (try dsimp only at hSw); try simp only [List.getElem_toArray, List.getElem_cons_zero, List.getElem_cons_succ]; go_simp; try (with_reducible rfl))
          try simp only [List.setIfInBounds_toArray, List.set_cons_zero, List.set_cons_succ]
          refine held_take 6 41 (v := ?_) rfl rfl (by kernel_rfl) (by kernel_rfl) (by kernel_rfl) (fun _ _ _ h => h) (by rfl) ?_ trivial ?_
          rotate_left
          · (intro w hSw; (try dsimp only at hSw); try simp only [List.getElem_toArray, List.getElem_cons_zero, List.getElem_cons_succ]; go_simp; try (with_reducible rfl))
          try simp only [List.setIfInBounds_toArray, List.set_cons_zero, List.set_cons_succ]
          refine held_call 3 38 rfl rfl (by kernel_rfl) (by rfl) (fun K hK => ?_)
          try simp only [List.getElem_toArray, List.getElem_cons_zero, List.getElem_cons_succ]
          go_simp
          (go_at_call 35; refine (none_any _).mono ?_; rintro e w2 ⟨rfl, rfl⟩)
          try go_wp2_with fail
          try simp only [Act.put, List.setIfInBounds_toArray, List.set_cons_zero, List.set_cons_succ]
          refine hK.out _ _ _ trivial ?_
          clear hK K
          refine held_take 7 42 (v := ?_) rfl rfl (by kernel_rfl) (by kernel_rfl) (by kernel_rfl) (fun _ _ _ h => h) (by rfl) ?_ trivial ?_
          rotate_left
          · (intro w hSw; (try dsimp only at hSw); try simp only [List.getElem_toArray, List.getElem_cons_zero, List.getElem_cons_succ]; go_simp; try (with_reducible rfl))
          try simp only [List.setIfInBounds_toArray, List.set_cons_zero, List.set_cons_succ]
          refine held_do 8 rfl (by kernel_rfl) (by rfl) (fun K hK => ?_)
          try simp only [List.getElem_toArray, List.getElem_cons_zero, List.getElem_cons_succ]
          (have x1 := HN.out.drew.cinn hlt hk6; have x2 := HN.out.drew.free (8 + i * 6 + k); go_simp; have HN3 := Lib.hid ((HN.out.drew.hear1 i k hlt hk6 (65535, 0)).hears (s := s.price k (0, 0)) (g := fun d x => if d < i + 1 ∧ x = k then (65535, 0) else s.inn d x) (fun d x _ _ => by simp only [St.hears]; by_cases e : d = i ∧ x = k <;> simp [e] <;> (repeat' split) <;> first | rfl | (exfalso; omega))); have HO3 := Lib.hid (Only.setCell (Only.drew HO.out) (p := ⟨b, 8 + i * 6 + k, none⟩) (fun _ => rfl) (dv 65535 0)); clear x1 x2)
          try simp only [Act.put, List.setIfInBounds_toArray, List.set_cons_zero, List.set_cons_succ]
          refine hK.out _ _ _ trivial ?_
          clear hK K
          refine wpAnyH_done (by kernel_rfl) ?_ _
          go_wp2
          go_roundw
          case rel => exact ⟨i + 1, by omega, by go_num, HN3.out, HO3.out⟩
          case measure => simp [intOf]; omega
        · obtain rfl : i = 6 := by omega
          go_wp2
          go_ret
          exact ⟨rfl, by have hl := HL.out; simp only [if_true] at hl; rw [← hl]; exact HN.out.hears (fun d x hd _ => by simp only [hd, true_and]), HO.out⟩
    · have hz' : (c == 0) = false := by simp [hz]
      have hl := HL.out
      rw [if_neg hz] at hl
      have HL' := Lib.hid hl
      clear hz hl
      go_wp2
      go_ret
      exact ⟨rfl, HL'.out ▸ HN2.out, HO2.out⟩
set_option maxHeartbeats 1600000 in
theorem link_nil (t c : Int) (w : World) : Calls Try.prog 13 #[.pointer none, .int .i64 t, .int .i64 c] w fun e w' => e = .returned (.int .i64 10) ∧ w = w' := by
  go_enter Try.func13, Try.ntmps13
  go_wp2_with (go_at_call 40; refine (check_nil t w).mono ?_; rintro e w' ⟨rfl, rfl⟩)
  go_ret
  exact ⟨rfl, rfl⟩
end Eng
end Go.Proofs.Ytcmknllefnahkaa
