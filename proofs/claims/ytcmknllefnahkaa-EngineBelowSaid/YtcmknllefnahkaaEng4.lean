/-
  Package engine: Restart, New. Conditions: those that each theorem names.
-/
import Derived.Test.YtcmknllefnahkaaEng3
import Derived.Test.YtcmknllefnahkaaHeld2
namespace Go.Proofs.Ytcmknllefnahkaa
open Go.RowKit FR FP H2
set_option linter.unusedVariables false
set_option linter.unusedSimpArgs false
namespace Eng
open Feas
def nones : List Value := [dv 65535 0, dv 65535 0, dv 65535 0, dv 65535 0, dv 65535 0, dv 65535 0]
theorem IsN.congr {w : World} {b : Nat} {s s' : St} (h : IsN w b s) (he : ∀ k, k < 51 → s'.val k = s.val k) (hi : s'.id < s'.n) (hn : s'.n ≤ 6) : IsN w b s' := by
  obtain ⟨⟨cs, h1, h2, h3⟩, _, _⟩ := h
  exact ⟨⟨cs, h1, h2, fun k hk => by rw [h3 k hk, he k hk]⟩, hi, hn⟩
/-- what was heard, otherwise -/
def St.hears (s : St) (f : Nat → Nat → Int × Int) : St := { s with inn := f }
theorem St.hears_val (s : St) (f : Nat → Nat → Int × Int) (k : Nat) : (s.hears f).val k = if 8 ≤ k ∧ k < 44 then dp (f ((k - 8) / 6) ((k - 8) % 6)) else s.val k := by
  unfold St.val St.hears
  repeat' split
  all_goals first | rfl | (exfalso; omega)
theorem IsN.hears {w : World} {b : Nat} {s : St} {f g : Nat → Nat → Int × Int} (h : IsN w b (s.hears f)) (hg : ∀ d k, d < 6 → k < 6 → g d k = f d k) : IsN w b (s.hears g) :=
  h.congr (fun k hk => by
    rw [St.hears_val, St.hears_val]
    by_cases e : 8 ≤ k ∧ k < 44
    · rw [if_pos e, if_pos e, hg _ _ (by omega) (by omega)]
    · rw [if_neg e, if_neg e]) h.id h.n6
theorem nones_get (k : Nat) (h : k < 6) : nones[k]? = some (dv 65535 0) := by rcases k with _|_|_|_|_|_|k <;> first | rfl | omega
theorem IsN.row {w : World} {b : Nat} {s : St} {f : Nat → Nat → Int × Int} (h : IsN w b (s.hears f)) (d : Nat) (hd : d < 6) : IsN (w.setCells b (8 + d * 6) nones) b (s.hears (fun x k => if x = d then (65535, 0) else f x k)) := by
  obtain ⟨⟨cs, h1, h2, h3⟩, h4, h5⟩ := h
  obtain ⟨cs', k1, k2, k3⟩ := blk_cells nones (8 + d * 6) h1
  refine ⟨⟨cs', k1, by omega, fun k hk => ?_⟩, h4, h5⟩
  have hl : nones.length = 6 := rfl
  rw [k3 k, hl, St.hears_val]
  by_cases e : 8 ≤ k ∧ k < 44
  · by_cases e2 : 8 + d * 6 ≤ k ∧ k < 8 + d * 6 + 6 ∧ k < cs.size
    · rw [if_pos e2, if_pos e, if_pos (by omega), nones_get _ (by omega)]
    · rw [if_neg e2, if_pos e, if_neg (by omega), h3 k hk, St.hears_val, if_pos e]
  · rw [if_neg (by omega), if_neg e, h3 k hk, St.hears_val, if_neg e]
theorem IsN.there {w : World} {b : Nat} {s : St} (h : IsN w b s) (o n : Nat) (ho : o + n ≤ 51) : w.there b o n := fun j hj => ⟨by rw [h.cell (o + j) (by omega)]; rfl, h.free _⟩
theorem hears_self (s : St) : s.hears s.inn = s := rfl
/-- nothing heard -/
def St.clear (s : St) : St := s.hears (fun _ _ => (65535, 0))
set_option maxRecDepth 100000 in
set_option maxHeartbeats 4000000 in
theorem restart_any (b : Nat) (s : St) (w : World) (h : IsN w b s) : Calls Try.prog 23 #[.pointer (some ⟨b, 0, none⟩)] w fun e w' => e = .returned (.tuple #[]) ∧ IsN w' b s.clear ∧ Only (fun i => i = b) w w' := by
  have H := Lib.hid h
  clear h
  go_enter Try.func23, Try.ntmps23
  go_upto_region 2 with fail
  go_loopw [5] (fun s5 wr => ∃ i : Nat, i ≤ 6 ∧ s5 = .int .i64 i ∧ IsN wr b (s.hears (fun d k => if d < i then (65535, 0) else s.inn d k)) ∧ Only (fun i => i = b) w wr) (fun s5 _ => 6 - (intOf s5).toNat)
  case atStart => exact ⟨0, by omega, rfl, H.out.congr (fun k hk => by rw [St.hears_val]; unfold St.val; (repeat' split) <;> first | rfl | (exfalso; omega)) H.out.id H.out.n6, Only.refl _ _⟩
  case round =>
    obtain ⟨i, hi, rfl, hn, ho⟩ := hrel
    have HN := Lib.hid hn
    have HO := Lib.hid ho
    clear hn ho
    by_cases hlt : i < 6
    · have hlt' : (i : Int) < 6 := by omega
      have i0 : (0 : Int) ≤ (i : Int) := by omega
      go_upto_region 4 with fail
      refine wp_region_held_drew (S := (fun _ => True)) (by kernel_rfl) trivial (fun _ => ?_)
      refine held_take 0 8 (v := ?_) rfl rfl (by kernel_rfl) (by kernel_rfl) (by kernel_rfl) (fun _ _ _ h => h) (by rfl) ?_ trivial ?_
      rotate_left
      · (intro w hSw; (try dsimp only at hSw); try simp only [List.getElem_toArray, List.getElem_cons_zero, List.getElem_cons_succ]; go_simp; try (with_reducible rfl))
      try simp only [List.setIfInBounds_toArray, List.set_cons_zero, List.set_cons_succ]
      refine held_take 1 9 (v := ?_) rfl rfl (by kernel_rfl) (by kernel_rfl) (by kernel_rfl) (fun _ _ _ h => h) (by rfl) ?_ trivial ?_
      rotate_left
      · (intro w hSw; (try dsimp only at hSw); try simp only [List.getElem_toArray, List.getElem_cons_zero, List.getElem_cons_succ]; go_simp; try (with_reducible rfl))
      try simp only [List.setIfInBounds_toArray, List.set_cons_zero, List.set_cons_succ]
      refine held_take 3 11 (v := ?_) rfl rfl (by kernel_rfl) (by kernel_rfl) (by kernel_rfl) (fun _ _ _ h => h) (by rfl) ?_ trivial ?_
      rotate_left
      · (intro w hSw; (try dsimp only at hSw); try simp only [List.getElem_toArray, List.getElem_cons_zero, List.getElem_cons_succ]; go_simp; try (with_reducible rfl))
      try simp only [List.setIfInBounds_toArray, List.set_cons_zero, List.set_cons_succ]
      refine held_take 4 12 (v := ?_) rfl rfl (by kernel_rfl) (by kernel_rfl) (by kernel_rfl) (fun _ _ _ h => h) (by rfl) ?_ trivial ?_
      rotate_left
      · (intro w hSw; (try dsimp only at hSw); try simp only [List.getElem_toArray, List.getElem_cons_zero, List.getElem_cons_succ]; go_simp; try (with_reducible rfl))
      try simp only [List.setIfInBounds_toArray, List.set_cons_zero, List.set_cons_succ]
      refine held_call 2 10 rfl rfl (by kernel_rfl) (by rfl) (fun K hK => ?_)
      try simp only [List.getElem_toArray, List.getElem_cons_zero, List.getElem_cons_succ]
      go_simp
      (go_at_call 38; refine (nones_any _).mono ?_; rintro e w2 ⟨rfl, hb⟩; have HN1 := Lib.hid (HN.out.drew.keep hb); have HO1 := Lib.hid (HO.out.drew.of_below hb); clear hb)
      try go_wp2_with fail
      try simp only [Act.put, List.setIfInBounds_toArray, List.set_cons_zero, List.set_cons_succ]
      refine hK.out _ _ _ trivial ?_
      clear hK K
      refine held_take 5 13 (v := ?_) rfl rfl (by kernel_rfl) (by kernel_rfl) (by kernel_rfl) (fun _ _ _ h => h) (by rfl) ?_ trivial ?_
      rotate_left
      · (intro w hSw; (try dsimp only at hSw); try simp only [List.getElem_toArray, List.getElem_cons_zero, List.getElem_cons_succ]; go_simp; try (with_reducible rfl))
      try simp only [List.setIfInBounds_toArray, List.set_cons_zero, List.set_cons_succ]
      refine held_do 6 rfl (by kernel_rfl) (by rfl) (fun K hK => ?_)
      try simp only [List.getElem_toArray, List.getElem_cons_zero, List.getElem_cons_succ]
      (refine wp_store_mid 79 _ _ rfl b (8 + i * 6) _ rfl rfl (HN1.out.there _ 6 (by omega)) (by kernel_rfl) (by simp [Value.oneCell']) ?_; have HN2 := Lib.hid ((HN1.out.row i hlt).hears (g := fun d k => if d < i + 1 then (65535, 0) else s.inn d k) (fun d k _ _ => by by_cases e : d = i <;> simp [e] <;> (repeat' split) <;> first | rfl | (exfalso; omega))); have HO2 := Lib.hid (Only.setCells (g := b) nones (8 + i * 6) HO1.out (fun _ => rfl)))
      try simp only [Act.put, List.setIfInBounds_toArray, List.set_cons_zero, List.set_cons_succ]
      refine hK.out _ _ _ trivial ?_
      clear hK K
      refine wpAnyH_done (by kernel_rfl) ?_ _
      go_wp2
      go_roundw
      case rel => exact ⟨i + 1, by omega, by go_num, HN2.out, HO2.out⟩
      case measure => simp [intOf]; omega
    · obtain rfl : i = 6 := by omega
      go_wp2
      refine bodyPost_end (results_none rfl _ _ _) rfl ?_
      exact ⟨rfl, HN.out.hears (fun d k hd _ => by simp only [if_pos hd]), HO.out⟩
set_option maxHeartbeats 1600000 in
theorem restart_nil (w : World) : Calls Try.prog 23 #[.pointer none] w fun e w' => e = .returned (.tuple #[]) ∧ w = w' := by
  go_enter Try.func23, Try.ntmps23
  go_wp2
  refine bodyPost_ret (results_none rfl _ _ _) rfl ?_
  exact ⟨rfl, rfl⟩
theorem IsN.made {w : World} {s : St} (cs : Array Value) (hc : cs = ((List.range 51).map s.val).toArray) (h1 : s.id < s.n) (h2 : s.n ≤ 6) : IsN (w.alloc (.cells cs 83 (0, 0))) w.heap.size s := by
  subst hc
  refine ⟨⟨_, heap_alloc_new _ _, by simp, fun k hk => by simp [hk]⟩, h1, h2⟩
/-- a node that is laid -/
def made (id n : Nat) : St := ⟨id, n, fun _ => (0, 0), fun _ _ => (0, 0), fun _ => (65535, 0), 1⟩
/-- a node made -/
def new (id n : Nat) : St := ⟨id, n, fun _ => (0, 0), fun _ _ => (65535, 0), fun _ => (65535, 0), 1⟩
set_option maxRecDepth 100000 in
set_option maxHeartbeats 4000000 in
theorem new_any (id n : Nat) (w : World) (h1 : id < n) (h2 : n ≤ 6) : Calls Try.prog 11 #[.int .i64 id, .int .i64 n] w fun e w' => (∃ b, e = .returned (.tuple #[.pointer (some ⟨b, 0, none⟩), .int .i64 0]) ∧ IsN w' b (new id n) ∧ w.heap.size ≤ b ∧ b < w'.heap.size) ∧ Below w.heap.size w w' := by
  have k1 : ¬ (n : Int) < 1 := by omega
  have k2 : ¬ (n : Int) > 6 := by omega
  have k2 : ¬ 6 < (n : Int) := by omega
  have k3 : ¬ (id : Int) < 0 := by omega
  have k4 : ¬ (n : Int) ≤ (id : Int) := by omega
  go_enter Try.func11, Try.ntmps11
  go_upto_region 4 with (go_at_call 38; refine (nones_any _).mono ?_; rintro e w2 ⟨rfl, hb⟩; have HB := Lib.hid hb; clear hb)
  generalize hA : Value.agg #[Value.int .i64 id, _, _, _, _, _, _, _, _, _, _, _, _, _, _, _, _, _, _, _, _, _, _, _, _, _, _, _, _, _, _, _, _, _, _, _, _, _, _, _, _, _, _, _, _, _, _, _, _, _, _] = A
  generalize hW : w2.alloc _ = W
  have HN := Lib.hid (show IsN W w2.heap.size (made id n) by rw [← hW]; exact IsN.made _ (by kernel_rfl) h1 h2)
  have hb2 : Below w.heap.size w W := hW ▸ HB.out.alloc HB.out.size _
  have hs : w2.heap.size < W.heap.size := blk_lt HN.out.blk.choose_spec.1
  have HB2 := Lib.hid hb2
  have HW := Lib.hid hs
  have HS := Lib.hid HB.out.size
  generalize w2.heap.size = g at HN HW HS ⊢
  clear hb2 hs hA hW
  go_wp2_with (go_at_call 23; refine (restart_any g _ W HN.out).mono ?_; rintro e w3 ⟨rfl, hn, ho⟩; have HN3 := Lib.hid hn; have HO3 := Lib.hid ho; clear hn ho)
  go_ret2
  exact ⟨⟨g, rfl, HN3.out, HS.out, Nat.lt_of_lt_of_le HW.out HO3.out.size⟩, HB2.out.trans (HO3.out.below HB2.out.size (fun k hk e => by have := HS.out; omega))⟩
set_option maxHeartbeats 4000000 in
theorem new_bad (id n : Int) (w : World) (h : n < 1 ∨ 6 < n ∨ id < 0 ∨ n ≤ id) : Calls Try.prog 11 #[.int .i64 id, .int .i64 n] w fun e w' => e = .returned (.tuple #[.pointer none, .int .i64 1]) ∧ w = w' := by
  by_cases h1 : n < 1
  · go_enter Try.func11, Try.ntmps11
    go_wp2
    go_ret2
    exact ⟨rfl, rfl⟩
  · by_cases h2 : 6 < n
    · go_enter Try.func11, Try.ntmps11
      go_wp2
      go_ret2
      exact ⟨rfl, rfl⟩
    · by_cases h3 : id < 0
      · go_enter Try.func11, Try.ntmps11
        go_wp2
        go_ret2
        exact ⟨rfl, rfl⟩
      · have h4 : n ≤ id := by omega
        go_enter Try.func11, Try.ntmps11
        go_wp2
        go_ret2
        exact ⟨rfl, rfl⟩
end Eng
end Go.Proofs.Ytcmknllefnahkaa
