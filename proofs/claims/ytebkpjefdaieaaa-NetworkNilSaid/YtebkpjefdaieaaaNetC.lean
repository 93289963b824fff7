/-
  Package network: with, Do. Conditions: those that each theorem names.
-/
import Derived.Test.YtebkpjefdaieaaaNetB
namespace Go.Proofs.Ytebkpjefdaieaaa
open Go.RowKit FR FP H2 OW
set_option linter.unusedVariables false
set_option linter.unusedSimpArgs false
namespace Net
open Eng GG
set_option maxHeartbeats 1600000 in
theorem with_none {base b : Nat} {ly : Lay} {S : NetV} (n : Int) (fn : Value) (w : World) (h : IsNet w base b ly S) (hm : S.m.length = 0) : Calls Try.prog 32 #[.pointer (some ⟨b, 0, none⟩), .int .i64 n, fn] w fun e w' => e = .returned (.int .i64 8) ∧ w = w' := by
  obtain ⟨A, c, c2⟩ := h.c2
  rw [hm] at c2
  clear h hm
  go_enter Try.func32, Try.ntmps32
  go_wp2
  go_ret
  exact ⟨rfl, rfl⟩
/-- which message is meant -/
def whichM (n : Int) (len : Nat) : Nat := ((IntKind.u64.wrap n).tmod len).toNat
theorem whichM_lt (n : Int) {len : Nat} (h : 0 < len) : whichM n len < len ∧ (IntKind.u64.wrap n).tmod len = (whichM n len : Int) := by
  obtain ⟨k, hk, e⟩ := remk n len h
  unfold whichM
  rw [e]
  exact ⟨by omega, by omega⟩
set_option maxRecDepth 100000 in
set_option maxHeartbeats 4000000 in
theorem with_hear {base b xb  : Nat} {ly : Lay} {S : NetV} (n : Int) (w : World) (h : IsNet w base b ly S) (hx : Box w xb b)  (hm0 : 0 < S.m.length) (hm : S.m.length ≤ 300) (k : Nat) (hk : k < S.m.length) (hkk : whichM n S.m.length = k) : Calls Try.prog 32 #[.pointer (some ⟨b, 0, none⟩), .int .i64 n, fnHear xb] w fun e w' => e = .returned (.int .i64 0) ∧ IsNet w' base b ly (S.hear (S.m[k])) ∧ After base w w' := by
  have hw := (whichM_lt n hm0).2
  rw [hkk] at hw
  obtain ⟨g, cap, hb, y0, y1, y2⟩ := h.msg_at hk
  have c2 : w.cell? ⟨b, 2, none⟩ = some (.slice (some ⟨g, 0, none⟩) S.m.length cap) := by rw [blk_cell hb]; rfl
  have HC := Lib.hid (hear_cl (k : Int) (S.m[k]) w h hx (h.msg_ok hk))
  generalize S.m[k] = v at HC y0 y1 y2 ⊢
  obtain ⟨fr, to_, A, kk, cp, f⟩ := v
  dsimp only [MsgV.val] at HC y0 y1 y2 ⊢
  have k0 : (0 : Int) ≤ (k : Int) := by omega
  have km : (k : Int) < (S.m.length : Int) := by omega
  have w1 : IntKind.u64.wrap (S.m.length : Int) = (S.m.length : Int) := by simp [IntKind.wrap, IntKind.bits, IntKind.signed]; omega
  have w2 : IntKind.i64.wrap (k : Int) = (k : Int) := IntWalk.i64_in _ (by omega)
  have hz : ((S.m.length : Int) == 0) = false := beq_eq_false_iff_ne.2 (by omega)
  have hz' : ¬ (S.m.length : Int) = 0 := by omega
  clear h hx hb hkk hk 
  unfold fnHear
  go_enter Try.func32, Try.ntmps32
  go_wp2_with (go_at_call 28; (with_reducible refine (HC.out).mono ?_); rintro e w4 ⟨rfl, hrest⟩; have HN := Lib.hid hrest.1; have HA := Lib.hid hrest.2; clear hrest)
  go_ret
  exact ⟨rfl, HN.out, HA.out⟩
set_option maxRecDepth 100000 in
set_option maxHeartbeats 4000000 in
theorem with_lose {base b xb  : Nat} {ly : Lay} {S : NetV} (n : Int) (w : World) (h : IsNet w base b ly S) (hx : Box w xb b)  (hm0 : 0 < S.m.length) (hm : S.m.length ≤ 300) (k : Nat) (hk : k < S.m.length) (hkk : whichM n S.m.length = k) : Calls Try.prog 32 #[.pointer (some ⟨b, 0, none⟩), .int .i64 n, fnLose xb] w fun e w' => e = .returned (.int .i64 0) ∧ IsNet w' base b ly ({ S with m := S.m.eraseIdx k }) ∧ After base w w' := by
  have hw := (whichM_lt n hm0).2
  rw [hkk] at hw
  obtain ⟨g, cap, hb, y0, y1, y2⟩ := h.msg_at hk
  have c2 : w.cell? ⟨b, 2, none⟩ = some (.slice (some ⟨g, 0, none⟩) S.m.length cap) := by rw [blk_cell hb]; rfl
  have HC := Lib.hid (lose_cl k (S.m[k]) w h hx hk hm hb)
  generalize S.m[k] = v at HC y0 y1 y2 ⊢
  obtain ⟨fr, to_, A, kk, cp, f⟩ := v
  dsimp only [MsgV.val] at HC y0 y1 y2 ⊢
  have k0 : (0 : Int) ≤ (k : Int) := by omega
  have km : (k : Int) < (S.m.length : Int) := by omega
  have w1 : IntKind.u64.wrap (S.m.length : Int) = (S.m.length : Int) := by simp [IntKind.wrap, IntKind.bits, IntKind.signed]; omega
  have w2 : IntKind.i64.wrap (k : Int) = (k : Int) := IntWalk.i64_in _ (by omega)
  have hz : ((S.m.length : Int) == 0) = false := beq_eq_false_iff_ne.2 (by omega)
  have hz' : ¬ (S.m.length : Int) = 0 := by omega
  clear h hx hb hkk hk 
  unfold fnLose
  go_enter Try.func32, Try.ntmps32
  go_wp2_with (go_at_call 29; (with_reducible refine (HC.out).mono ?_); rintro e w4 ⟨rfl, hrest⟩; have HN := Lib.hid hrest.1; have HA := Lib.hid hrest.2.1; clear hrest)
  go_ret
  exact ⟨rfl, HN.out, HA.out⟩
set_option maxRecDepth 100000 in
set_option maxHeartbeats 4000000 in
theorem with_both {base b xb lb hb_ : Nat} {ly : Lay} {S : NetV} (n : Int) (w : World) (h : IsNet w base b ly S) (hx : Box w xb b) (hl : FBox w lb (fnLose xb)) (hh : FBox w hb_ (fnHear xb)) (hm0 : 0 < S.m.length) (hm : S.m.length ≤ 300) (k : Nat) (hk : k < S.m.length) (hkk : whichM n S.m.length = k) : Calls Try.prog 32 #[.pointer (some ⟨b, 0, none⟩), .int .i64 n, fnBoth lb hb_] w fun e w' => e = .returned (.int .i64 0) ∧ IsNet w' base b ly (({ S with m := S.m.eraseIdx k } : NetV).hear (S.m[k])) ∧ After base w w' := by
  have hw := (whichM_lt n hm0).2
  rw [hkk] at hw
  obtain ⟨g, cap, hb, y0, y1, y2⟩ := h.msg_at hk
  have c2 : w.cell? ⟨b, 2, none⟩ = some (.slice (some ⟨g, 0, none⟩) S.m.length cap) := by rw [blk_cell hb]; rfl
  have HC := Lib.hid (both_cl k w h hx hl hh hk hm)
  generalize S.m[k] = v at HC y0 y1 y2 ⊢
  obtain ⟨fr, to_, A, kk, cp, f⟩ := v
  dsimp only [MsgV.val] at HC y0 y1 y2 ⊢
  have k0 : (0 : Int) ≤ (k : Int) := by omega
  have km : (k : Int) < (S.m.length : Int) := by omega
  have w1 : IntKind.u64.wrap (S.m.length : Int) = (S.m.length : Int) := by simp [IntKind.wrap, IntKind.bits, IntKind.signed]; omega
  have w2 : IntKind.i64.wrap (k : Int) = (k : Int) := IntWalk.i64_in _ (by omega)
  have hz : ((S.m.length : Int) == 0) = false := beq_eq_false_iff_ne.2 (by omega)
  have hz' : ¬ (S.m.length : Int) = 0 := by omega
  clear h hx hb hkk hk hl hh
  unfold fnBoth
  go_enter Try.func32, Try.ntmps32
  go_wp2_with (go_at_call 33; (with_reducible refine (HC.out).mono ?_); rintro e w4 ⟨rfl, hrest⟩; have HN := Lib.hid hrest.1; have HA := Lib.hid hrest.2; clear hrest)
  go_ret
  exact ⟨rfl, HN.out, HA.out⟩
end Net
end Go.Proofs.Ytebkpjefdaieaaa
