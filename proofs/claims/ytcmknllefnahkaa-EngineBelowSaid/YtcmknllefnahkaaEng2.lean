/-
  Package engine: up, Told, Fresh, none, Restart. Conditions: those that each theorem names.
-/
import Derived.Test.YtcmknllefnahkaaEng1
import Derived.Test.YtcmknllefnahkaaHeld
namespace Go.Proofs.Ytcmknllefnahkaa
open Go.RowKit FR FP
set_option linter.unusedVariables false
set_option linter.unusedSimpArgs false
namespace Eng
open Feas
/-- distances that a node may hold -/
structure Wf (s : St) : Prop where
  cost : ∀ i, 0 ≤ (s.cost i).1 ∧ (s.cost i).1 ≤ 1000 ∧ (s.cost i).2 = 0
  inn : ∀ d i, (0 ≤ (s.inn d i).1 ∧ (s.inn d i).1 ≤ 65535) ∧ Sm (s.inn d i).2
  told : ∀ d, (0 ≤ (s.told d).1 ∧ (s.told d).1 ≤ 65535) ∧ Sm (s.told d).2
  seq : Sm s.seq
/-- what is wrong with a neighbour, or the link to it -/
def upv (s : St) (i : Int) : Int := if oth s i = true then (if (s.cost i.toNat).1 = 0 then 8 else 0) else 2
set_option maxRecDepth 100000 in
set_option maxHeartbeats 1600000 in
theorem up_any (b : Nat) (s : St) (i : Int) (w : World) (h : IsN w b s) (hw : Wf s) : Calls Try.prog 42 #[.pointer (some ⟨b, 0, none⟩), .int .i64 i] w fun e w' => e = .returned (.int .i64 (upv s i)) ∧ w = w' := by
  have H := Lib.hid h
  have hn6 := h.n6
  clear h
  cases ho : oth s i
  · have e : upv s i = 2 := by unfold upv; rw [if_neg (by rw [ho]; simp)]
    have hck := check_any b s i w H.out
    rw [ho] at hck
    have HCK := Lib.hid hck
    clear hck
    rw [e]
    go_enter Try.func42, Try.ntmps42
    go_wp2_with (go_at_call 40; refine (HCK.out).mono ?_; rintro e w' ⟨rfl, rfl⟩)
    go_ret
    exact ⟨rfl, rfl⟩
  · have hck := check_any b s i w H.out
    rw [ho] at hck
    have HCK := Lib.hid hck
    clear hck
    obtain ⟨k, rfl, hk, _⟩ := oth_nat ho
    have hc := H.out.ccost (show k < 6 by omega)
    have hwc := hw.cost k
    have hsm : Sm (s.cost k).1 := ⟨by omega, by omega⟩
    have k0 : (0 : Int) ≤ (k : Int) := by omega
    have k6 : (k : Int) < 6 := by omega
    have hu : upv s (k : Int) = if (s.cost k).1 = 0 then 8 else 0 := by unfold upv; rw [if_pos ho]; rfl
    by_cases hz : (s.cost k).1 = 0
    · have hz' : ((s.cost k).1 == 0) = true := by simp [hz]
      rw [hu, if_pos hz]
      clear hz hu
      go_enter Try.func42, Try.ntmps42
      go_wp2_with (first
        | (go_at_call 40; refine (HCK.out).mono ?_; rintro e w' ⟨rfl, rfl⟩)
        | (go_at_call 36; refine (metric_any _ _ hsm w).mono ?_; rintro e w' ⟨rfl, rfl⟩))
      go_ret
      exact ⟨rfl, rfl⟩
    · have hz' : ((s.cost k).1 == 0) = false := by simp [hz]
      rw [hu, if_neg hz]
      clear hz hu
      go_enter Try.func42, Try.ntmps42
      go_wp2_with (first
        | (go_at_call 40; refine (HCK.out).mono ?_; rintro e w' ⟨rfl, rfl⟩)
        | (go_at_call 36; refine (metric_any _ _ hsm w).mono ?_; rintro e w' ⟨rfl, rfl⟩))
      go_ret
      exact ⟨rfl, rfl⟩
set_option maxHeartbeats 1600000 in
theorem up_nil (i : Int) (w : World) : Calls Try.prog 42 #[.pointer none, .int .i64 i] w fun e w' => e = .returned (.int .i64 10) ∧ w = w' := by
  go_enter Try.func42, Try.ntmps42
  go_wp2_with (go_at_call 40; refine (check_nil i w).mono ?_; rintro e w' ⟨rfl, rfl⟩)
  go_ret
  exact ⟨rfl, rfl⟩
set_option maxRecDepth 100000 in
set_option maxHeartbeats 1600000 in
theorem told_any (b : Nat) (s : St) (d : Nat) (w : World) (h : IsN w b s) (hd : d < s.n) : Calls Try.prog 30 #[.pointer (some ⟨b, 0, none⟩), .int .i64 d] w fun e w' => e = .returned (dp (s.told d)) ∧ w = w' := by
  have hn6 := h.n6
  have c1 := h.cn
  have c2 := h.ctold (show d < 6 by omega)
  have d0 : (0 : Int) ≤ (d : Int) := by omega
  have d6 : (d : Int) < 6 := by omega
  have dn : ¬ (s.n : Int) ≤ (d : Int) := by omega
  have dz : ¬ (d : Int) < 0 := by omega
  clear h
  go_enter Try.func30, Try.ntmps30
  go_wp2
  go_ret
  exact ⟨rfl, rfl⟩
set_option maxRecDepth 100000 in
set_option maxHeartbeats 1600000 in
theorem told_bad (b : Nat) (s : St) (d : Int) (w : World) (h : IsN w b s) (hd : d < 0 ∨ (s.n : Int) ≤ d) : Calls Try.prog 30 #[.pointer (some ⟨b, 0, none⟩), .int .i64 d] w fun e w' => e = .returned (dv 65535 0) ∧ w = w' := by
  have c1 := h.cn
  clear h
  by_cases h0 : d < 0
  · go_enter Try.func30, Try.ntmps30
    go_wp2_with (go_at_call 35; refine (none_any w).mono ?_; rintro e w' ⟨rfl, rfl⟩)
    go_ret
    exact ⟨rfl, rfl⟩
  · have h1 : (s.n : Int) ≤ d := by omega
    go_enter Try.func30, Try.ntmps30
    go_wp2_with (go_at_call 35; refine (none_any w).mono ?_; rintro e w' ⟨rfl, rfl⟩)
    go_ret
    exact ⟨rfl, rfl⟩
set_option maxHeartbeats 1600000 in
theorem told_nil (d : Int) (w : World) : Calls Try.prog 30 #[.pointer none, .int .i64 d] w fun e w' => e = .returned (dv 65535 0) ∧ w = w' := by
  go_enter Try.func30, Try.ntmps30
  go_wp2_with (go_at_call 35; refine (none_any w).mono ?_; rintro e w' ⟨rfl, rfl⟩)
  go_ret
  exact ⟨rfl, rfl⟩
set_option maxRecDepth 100000 in
set_option maxHeartbeats 1600000 in
theorem fresh_top (b : Nat) (s : St) (w : World) (h : IsN w b s) (ht : s.seq = 4294967295) : Calls Try.prog 21 #[.pointer (some ⟨b, 0, none⟩)] w fun e w' => e = .returned (.int .i64 7) ∧ w = w' := by
  have c := h.cseq
  rw [ht] at c
  clear h ht
  go_enter Try.func21, Try.ntmps21
  go_wp2
  go_ret
  exact ⟨rfl, rfl⟩
set_option maxHeartbeats 1600000 in
theorem fresh_nil (w : World) : Calls Try.prog 21 #[.pointer none] w fun e w' => e = .returned (.int .i64 10) ∧ w = w' := by
  go_enter Try.func21, Try.ntmps21
  go_wp2
  go_ret
  exact ⟨rfl, rfl⟩
theorem IsN.fresh {w : World} {b : Nat} {s : St} (h : IsN w b s) (x : Int) : IsN (w.setCell ⟨b, 50, none⟩ (.int .u32 x)) b { s with seq := x } :=
  h.set 50 _ (by omega) (by unfold St.val; simp) (fun j hj hne => by
    have h50 : j < 50 := by omega
    unfold St.val
    repeat' split
    all_goals first | rfl | omega) h.id h.n6
set_option maxRecDepth 100000 in
set_option maxHeartbeats 1600000 in
theorem fresh_any (b : Nat) (s : St) (w : World) (h : IsN w b s) (hs : Sm s.seq) (ht : s.seq ≠ 4294967295) : Calls Try.prog 21 #[.pointer (some ⟨b, 0, none⟩)] w fun e w' => e = .returned (.int .i64 0) ∧ IsN w' b { s with seq := s.seq + 1 } ∧ Only (fun i => i = b) w w' := by
  have c := h.cseq
  have z := h.free 50
  have hf := h.fresh (s.seq + 1)
  have HF := Lib.hid hf
  have hs1 := hs.1
  have hs2 := hs.2
  obtain ⟨q, hq⟩ : ∃ q, s.seq = q := ⟨_, rfl⟩
  rw [hq] at c hs1 hs2 ht
  have e1 : (q == 4294967295) = false := by simp [ht]
  have e2 : IntKind.u32.wrap (q + 1) = q + 1 := by simp [IntKind.wrap, IntKind.bits, IntKind.signed]; omega
  have HQ := Lib.hid hq
  clear h hf hq
  go_enter Try.func21, Try.ntmps21
  go_wp2
  go_ret
  refine ⟨rfl, ?_, (Only.refl (fun i => i = b) w).setCell (p := ⟨b, 50, none⟩) (fun _ => rfl) _⟩
  have := HF.out
  rw [HQ.out] at this ⊢
  exact this
end Eng
end Go.Proofs.Ytcmknllefnahkaa
