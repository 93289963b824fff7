/-
  Package network: Settle. Conditions: those that each theorem names.
-/
import Derived.Test.YtebkpjefdaieaaaNet7
namespace Go.Proofs.Ytebkpjefdaieaaa
open Go.RowKit FR FP H2 OW
set_option linter.unusedVariables false
set_option linter.unusedSimpArgs false
namespace Net
open Eng GG
/-- a new number, if there is one -/
def fresh (s : St) : St := if s.seq = 4294967295 then s else { s with seq := s.seq + 1 }
theorem fresh_same (s : St) : (fresh s).id = s.id ∧ (fresh s).n = s.n ∧ (fresh s).cost = s.cost ∧ (fresh s).inn = s.inn ∧ (fresh s).told = s.told := by unfold fresh; split <;> exact ⟨rfl, rfl, rfl, rfl, rfl⟩
/-- what Fresh answers -/
def freshv (s : St) : Int := if s.seq = 4294967295 then 7 else 0
theorem fresh_all (b : Nat) (s : St) (w : World) (h : IsN w b s) (hw : Wf s) : Calls Try.prog 36 #[.pointer (some ⟨b, 0, none⟩)] w fun e w' => e = .returned (.int .i64 (freshv s)) ∧ IsN w' b (fresh s) ∧ Wf (fresh s) ∧ Only (fun i => i = b) w w' := by
  unfold fresh freshv
  by_cases ht : s.seq = 4294967295
  · rw [if_pos ht, if_pos ht]
    exact (fresh_top b s w h ht).mono fun e w' ⟨he, hw'⟩ => ⟨he, hw' ▸ h, hw, hw' ▸ Only.refl _ _⟩
  · rw [if_neg ht, if_neg ht]
    exact (Eng.fresh_any b s w h hw.seq ht).mono fun e w' ⟨he, hi, ho⟩ => ⟨he, hi, wf_fresh hw ht, ho⟩
/-- the first k nodes have new numbers; nothing is on the way -/
def NetV.fresh (S : NetV) (k : Nat) : NetV := { S with x := fun i => if i < k then Net.fresh (S.x i) else S.x i, m := [] }
/-- so many rounds -/
def NetV.spin (S : NetV) : Nat → NetV
  | 0 => S
  | k + 1 => (S.spin k).rounds S.n
theorem spin_same (S : NetV) : ∀ k, (S.spin k).n = S.n ∧ (S.spin k).c = S.c ∧ (S.spin k).m = S.m
  | 0 => ⟨rfl, rfl, rfl⟩
  | k + 1 => by
    have ih := spin_same S k
    have h := rounds_same (S.spin k) S.n
    exact ⟨h.1.trans ih.1, h.2.1.trans ih.2.1, h.2.2.trans ih.2.2⟩
/-- what Settle makes of a network -/
def NetV.settle (S : NetV) : NetV := (S.fresh S.n).spin S.n
theorem IsNet.clear {w : World} {base b : Nat} {ly : Lay} {S : NetV} (h : IsNet w base b ly S) : IsNet (w.setCell ⟨b, 2, none⟩ (.slice none 0 0)) base b ly (S.fresh 0) ∧ After base w (w.setCell ⟨b, 2, none⟩ (.slice none 0 0)) := by
  obtain ⟨wv, hb, hr⟩ := h.blk
  have o2 : OnlyT (fun t => t = 55) w (w.setCell ⟨b, 2, none⟩ (.slice none 0 0)) := (OnlyT.refl (fun t => t = 55) w).setCell (p := ⟨b, 2, none⟩) (fun _ => ⟨_, _, _, hb, rfl⟩) _
  refine ⟨⟨h.n1, h.n6, isG_only h.gr o2 (by decide), h.good, ?_, fun i hi => ?_, h.inj, fun i hi => ?_, ⟨.slice none 0 0, blk_set hb 2 _, World.ownsRow_nil _ _ _ _⟩, fun u hu => (by cases hu), ?_⟩, ?_, o2.mono (fun t e => .inl e)⟩
  · obtain ⟨cs, x, y⟩ := h.nodes
    exact ⟨cs, o2.obj x (by decide), y⟩
  · have e : (S.fresh 0).x i = S.x i := by show (if i < 0 then Net.fresh (S.x i) else S.x i) = _; rw [if_neg (by omega)]
    rw [e]
    exact isN_only (h.node i hi) o2 (by decide)
  · have e : (S.fresh 0).x i = S.x i := by show (if i < 0 then Net.fresh (S.x i) else S.x i) = _; rw [if_neg (by omega)]
    rw [e]
    exact h.wf i hi
  · obtain ⟨p, q, r, u, t⟩ := h.lo
    exact ⟨p, q, r, u, Nat.le_trans t o2.size⟩
  · exact ((Only.refl (fun i => i = b) w).setCell (p := ⟨b, 2, none⟩) (fun _ => rfl) _).below h.lo.2.2.2.2 (fun i hi e => by have := h.lo.1; omega)
theorem fresh_next (S : NetV) (k : Nat) : (S.fresh k).upd k (Net.fresh ((S.fresh k).x k)) = S.fresh (k + 1) := by
  unfold NetV.fresh NetV.upd
  have : (fun i => if i = k then Net.fresh (if k < k then Net.fresh (S.x k) else S.x k) else if i < k then Net.fresh (S.x i) else S.x i) = fun i => if i < k + 1 then Net.fresh (S.x i) else S.x i := by
    funext i
    by_cases e : i = k
    · subst e
      rw [if_pos rfl, if_neg (by omega), if_pos (by omega)]
    · rw [if_neg e]
      by_cases e2 : i < k
      · rw [if_pos e2, if_pos (by omega)]
      · rw [if_neg e2, if_neg (by omega)]
  show NetV.mk _ _ _ _ = _
  rw [this]
set_option maxRecDepth 100000 in
set_option maxHeartbeats 8000000 in
theorem settle_any {base b : Nat} {ly : Lay} {S : NetV} (w : World) (h : IsNet w base b ly S) : Calls Try.prog 14 #[.pointer (some ⟨b, 0, none⟩)] w fun e w' => e = .returned (.int .i64 (S.n * heard S.c S.n S.n : Nat)) ∧ IsNet w' base b ly S.settle ∧ After base w w' := by
  have H := Lib.hid h
  have hn6 := h.n6
  have c1 := h.c1
  obtain ⟨A2, c2, x2⟩ := h.c2
  have xf := h.free 2
  have hlt := h.lt
  have HC := Lib.hid h.clear
  clear h
  go_enter Try.func14, Try.ntmps14
  go_upto_region 4 with fail
  obtain ⟨hc, ha⟩ := HC.out
  have N0 := Lib.hid hc
  have A0 := Lib.hid ha
  clear hc ha x2 xf HC c1
  generalize w.setCell ⟨b, 2, none⟩ (.slice none 0 0) = W at N0 A0 ⊢
  have c1 := N0.out.c1
  have e0 : (S.fresh 0).n = S.n := rfl
  rw [e0] at c1
  clear e0
  go_upto_region 5 with fail
  go_loopw [15] (fun s15 wr => ∃ k : Nat, k ≤ S.n ∧ s15 = .int .i64 k ∧ IsNet wr base b ly (S.fresh k) ∧ After base w wr) (fun s15 _ => S.n - (intOf s15).toNat)
  case atStart => exact ⟨0, by omega, rfl, N0.out, A0.out⟩
  case round =>
    obtain ⟨k, hk, rfl, hnet, haf⟩ := hrel
    have N := Lib.hid hnet
    have AF := Lib.hid haf
    clear hnet haf N0 A0 c1
    by_cases hlt : k < S.n
    · have hlt' : (k : Int) < (S.n : Int) := by omega
      have k0 : (0 : Int) ≤ (k : Int) := by omega
      have hkn : k < (S.fresh k).n := hlt
      have y := N.out.cn hkn
      have hwk := N.out.wf k hkn
      have HFR := Lib.hid (fresh_all (ly.nb k) ((S.fresh k).x k) wr (N.out.node k hkn) hwk.1)
      have HWK := Lib.hid hwk
      have HKN := Lib.hid hkn
      clear hwk hkn
      go_wp2_with (go_at_call 36; (with_reducible refine (HFR.out).mono ?_); rintro e w4 ⟨rfl, hn4, hw4, ho4⟩; have N4 := Lib.hid (N.out.node_set HKN.out hn4 ⟨hw4, (fresh_same _).1.trans HWK.out.2.1, (fresh_same _).2.1.trans HWK.out.2.2⟩ ho4); have A4 := Lib.hid (AF.out.trans (N.out.after_node HKN.out ho4)); clear hn4 hw4 ho4)
      go_roundw
      case rel => exact ⟨k + 1, by omega, by go_num, by rw [← fresh_next]; exact N4.out, A4.out⟩
      case measure => simp [intOf]; omega
    · obtain rfl : k = S.n := by omega
      have c1 := N.out.c1
      have e0 : (S.fresh S.n).n = S.n := rfl
      rw [e0] at c1
      clear e0
      go_upto_region 10 with fail
      go_loopw [2, 27] (fun s2 s27 w2 => ∃ j : Nat, j ≤ S.n ∧ s27 = .int .i64 j ∧ s2 = .int .i64 (j * heard S.c S.n S.n : Nat) ∧ IsNet w2 base b ly ((S.fresh S.n).spin j) ∧ After base w w2) (fun _ s27 _ => S.n - (intOf s27).toNat)
      case atStart => exact ⟨0, by omega, rfl, by rw [Nat.zero_mul]; rfl, N.out, AF.out⟩
      case round =>
        obtain ⟨j, hj, rfl, rfl, hnet, haf⟩ := hrel
        have M := Lib.hid hnet
        have MF := Lib.hid haf
        clear hnet haf N AF c1
        by_cases hltj : j < S.n
        · have hltj' : (j : Int) < (S.n : Int) := by omega
          have j0 : (0 : Int) ≤ (j : Int) := by omega
          have hs := spin_same (S.fresh S.n) j
          have hrd := round_any _ M.out
          rw [hs.1, hs.2.1] at hrd
          have e1 : (S.fresh S.n).n = S.n := rfl
          have e2 : (S.fresh S.n).c = S.c := rfl
          rw [e1, e2] at hrd
          have HRD := Lib.hid hrd
          have hhl := heard_le S.c S.n S.n
          have hh36 : heard S.c S.n S.n ≤ 36 := by
            have : S.n * S.n ≤ 6 * 6 := Nat.mul_le_mul hn6 hn6
            omega
          have hj36 : j * heard S.c S.n S.n ≤ 216 := by
            have : j * heard S.c S.n S.n ≤ 6 * 36 := Nat.mul_le_mul (by omega) hh36
            omega
          have HMU := Lib.hid (Nat.succ_mul j (heard S.c S.n S.n))
          generalize heard S.c S.n S.n = hd at HRD hhl hh36 hj36 HMU
          generalize j * hd = z at hj36 HMU ⊢
          clear hs hrd e1 e2 hhl
          go_wp2_with (go_at_call 38; (with_reducible refine (HRD.out).mono ?_); rintro e w4 ⟨rfl, hn4, ha4⟩; have N4 := Lib.hid hn4; have A4 := Lib.hid (MF.out.trans ha4); clear hn4 ha4)
          go_roundw
          case rel => exact ⟨j + 1, by omega, by go_num, by rw [HMU.out]; go_num, N4.out, A4.out⟩
          case measure => simp [intOf]; omega
        · obtain rfl : j = S.n := by omega
          go_wp2
          go_ret
          exact ⟨rfl, M.out, MF.out⟩
set_option maxHeartbeats 1600000 in
theorem settle_nil (w : World) : Calls Try.prog 14 #[.pointer none] w fun e w' => e = .returned (.int .i64 0) ∧ w = w' := by
  go_enter Try.func14, Try.ntmps14
  go_wp2
  go_ret
  exact ⟨rfl, rfl⟩
end Net
end Go.Proofs.Ytebkpjefdaieaaa
