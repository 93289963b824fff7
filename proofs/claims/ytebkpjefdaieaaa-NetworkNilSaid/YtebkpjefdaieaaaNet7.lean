/-
  Package network: round, Settle. Conditions: those that each theorem names.
-/
import Derived.Test.YtebkpjefdaieaaaNet6
namespace Go.Proofs.Ytebkpjefdaieaaa
open Go.RowKit FR FP H2 OW
set_option linter.unusedVariables false
set_option linter.unusedSimpArgs false
namespace Net
open Eng GG
/-- a tells t, who hears it -/
def NetV.say (S : NetV) (a t : Nat) : NetV := (S.upd a (tl (S.x a) t)).upd t (((S.upd a (tl (S.x a) t)).x t).hear a ((S.x a).offer t) (told_len (S.x a) t))
def NetV.sayAll (S : NetV) (a : Nat) (L : List Nat) : NetV := L.foldl (fun (S : NetV) (t : Nat) => S.say a t) S
theorem sayAll_snoc (S : NetV) (a : Nat) (L : List Nat) (t : Nat) : S.sayAll a (L ++ [t]) = (S.sayAll a L).say a t := by simp [NetV.sayAll]
theorem say_same (S : NetV) (a t : Nat) : (S.say a t).n = S.n ∧ (S.say a t).c = S.c ∧ (S.say a t).m = S.m := ⟨rfl, rfl, rfl⟩
theorem sayAll_same (a : Nat) : ∀ (L : List Nat) (S : NetV), (S.sayAll a L).n = S.n ∧ (S.sayAll a L).c = S.c ∧ (S.sayAll a L).m = S.m
  | [], S => ⟨rfl, rfl, rfl⟩
  | t :: L, S => sayAll_same a L (S.say a t)
/-- the first k nodes have told -/
def NetV.rounds (S : NetV) : Nat → NetV
  | 0 => S
  | k + 1 => (S.rounds k).sayAll k (nbl S.c k S.n)
theorem rounds_same (S : NetV) : ∀ k, (S.rounds k).n = S.n ∧ (S.rounds k).c = S.c ∧ (S.rounds k).m = S.m
  | 0 => ⟨rfl, rfl, rfl⟩
  | k + 1 => by
    have ih := rounds_same S k
    have h := sayAll_same k (nbl S.c k S.n) (S.rounds k)
    exact ⟨h.1.trans ih.1, h.2.1.trans ih.2.1, h.2.2.trans ih.2.2⟩
/-- how many are heard -/
def heard (c : Nat → Nat → Int) (n : Nat) : Nat → Nat
  | 0 => 0
  | k + 1 => heard c n k + (nbl c k n).length
theorem heard_le (c : Nat → Nat → Int) (n : Nat) : ∀ k, heard c n k ≤ k * n
  | 0 => by simp [heard]
  | k + 1 => by
    have := heard_le c n k
    have := nbl_len c k n
    unfold heard
    rw [Nat.succ_mul]
    omega
theorem int_own {w w' : World} {base n : Nat} {v : Value} {xs : List Value} {size : Nat} (h : OnlyT netT w w') (ho : w.ownsRow base 3 size v n xs) : w'.ownsRow base 3 size v n xs := h.own ho (by unfold netT; decide)
set_option maxRecDepth 100000 in
set_option maxHeartbeats 8000000 in
theorem round_any {base b : Nat} {ly : Lay} {S : NetV} (w : World) (h : IsNet w base b ly S) : Calls Try.prog 38 #[.pointer (some ⟨b, 0, none⟩)] w fun e w' => e = .returned (.int .i64 (heard S.c S.n S.n)) ∧ IsNet w' base b ly (S.rounds S.n) ∧ After base w w' := by
  have H := Lib.hid h
  have hn6 := h.n6
  have c1 := h.c1
  clear h
  go_enter Try.func38, Try.ntmps38
  go_upto_region 2 with fail
  go_loopw [2, 13] (fun s2 s13 wr => ∃ k : Nat, k ≤ S.n ∧ s13 = .int .i64 k ∧ s2 = .int .i64 (heard S.c S.n k) ∧ IsNet wr base b ly (S.rounds k) ∧ After base w wr) (fun _ s13 _ => S.n - (intOf s13).toNat)
  case atStart => exact ⟨0, by omega, rfl, rfl, H.out, After.refl _ _⟩
  case round =>
    obtain ⟨k, hk, rfl, rfl, hnet, haf⟩ := hrel
    have N := Lib.hid hnet
    have AF := Lib.hid haf
    clear hnet haf
    by_cases hlt : k < S.n
    · have hlt' : (k : Int) < (S.n : Int) := by omega
      have k0 : (0 : Int) ≤ (k : Int) := by omega
      have hs := rounds_same S k
      have hnb := neighbours_any wr N.out k (by rw [hs.1]; exact hlt)
      rw [hs.1, hs.2.1] at hnb
      have HNB := Lib.hid hnb
      have hll := nbl_len S.c k S.n
      have HG := Lib.hid (fun j (hj : j < (nbl S.c k S.n).length) => nbl_get hj)
      have hhl := heard_le S.c S.n k
      have hhl2 : heard S.c S.n k ≤ 36 := by
        have : k * S.n ≤ 6 * 6 := Nat.mul_le_mul (by omega) hn6
        omega
      have HRS := Lib.hid (show S.rounds (k + 1) = (S.rounds k).sayAll k (nbl S.c k S.n) from rfl)
      have HHS := Lib.hid (show heard S.c S.n (k + 1) = heard S.c S.n k + (nbl S.c k S.n).length from rfl)
      have HS := Lib.hid hs
      generalize nbl S.c k S.n = L at HNB HG hll HRS HHS
      generalize heard S.c S.n k = hd at hhl hhl2 HHS ⊢
      clear hnb hhl hs
      go_upto_region 5 with (go_at_call 49; (with_reducible refine (HNB.out).mono ?_); rintro e w1 ⟨⟨v, rfl, hv⟩, hb⟩; have HV := Lib.hid hv; have N1 := Lib.hid (N.out.below hb); have A1 := Lib.hid (AF.out.trans (N.out.after_below hb)); clear hv hb; obtain ⟨A, c, rfl, hrow⟩ := natN_row HV.out; clear hrow)
      go_loopw [2, 20] (fun s2 s20 w2 => ∃ j : Nat, j ≤ L.length ∧ s20 = .int .i64 j ∧ s2 = .int .i64 (hd + j : Nat) ∧ IsNet w2 base b ly ((S.rounds k).sayAll k (L.take j)) ∧ After base w w2 ∧ w2.ownsRow wr.heap.size 3 1 (.slice A L.length c) L.length (natN L)) (fun _ s20 _ => L.length - (intOf s20).toNat)
      case atStart => exact ⟨0, by omega, rfl, rfl, by rw [List.take_zero]; exact N1.out, A1.out, HV.out⟩
      case round =>
        rename_i wr2
        obtain ⟨j, hj, rfl, rfl, hnet, haf, hrow⟩ := hrel
        have M := Lib.hid hnet
        have MF := Lib.hid haf
        have R := Lib.hid hrow
        clear hnet haf hrow N1 A1 HV
        by_cases hltj : j < L.length
        · have hltj' : (j : Int) < (L.length : Int) := by omega
          have j0 : (0 : Int) ≤ (j : Int) := by omega
          obtain ⟨A', c', e', hcell⟩ := natN_row R.out
          cases e'
          obtain ⟨g, rfl, y⟩ := hcell j hltj
          have hbt := HG.out j hltj
          have HTS := Lib.hid (take_snoc hltj)
          generalize L[j] = t at y hbt HTS
          clear hcell
          have hss := sayAll_same k (L.take j) (S.rounds k)
          have hSn : ((S.rounds k).sayAll k (L.take j)).n = S.n := hss.1.trans HS.out.1
          have hka : k < ((S.rounds k).sayAll k (L.take j)).n := by rw [hSn]; exact hlt
          have hta : t < ((S.rounds k).sayAll k (L.take j)).n := by rw [hSn]; exact hbt.1
          generalize hT : (S.rounds k).sayAll k (L.take j) = T at M hka hta hSn hss
          have HT := Lib.hid hT
          clear hT hss
          have HTD := Lib.hid (told_any _ M.out k hka t)
          have hwk := M.out.wf k hka
          have hk6 : told_len (T.x k) t ≤ 6 := told_len_le _ _ _ (by rw [hwk.2.2, hSn]; exact hn6)
          have HSM := Lib.hid (smO_offer (T.x k) t (told_len (T.x k) t) hwk.1)
          have HHR := Lib.hid (fun (w5 : World) (A5 : Option Addr) (c5 : Nat) (hn : IsNet w5 base b ly (T.upd k (tl (T.x k) t))) (hr : RdT w5 A5 (told_len (T.x k) t) ((T.x k).offer t)) => hear_any w5 hn t hta k A5 _ c5 _ hk6 hr HSM.out)
          clear hwk
          go_wp2_with (first
            | (go_at_call 21; (with_reducible refine (HTD.out).mono ?_); rintro e w4 ⟨⟨A4, c4, rfl, hr⟩, hn4, ha4⟩; have HR := Lib.hid hr; have N4 := Lib.hid hn4; have A4' := Lib.hid (MF.out.trans ha4); have R4 := Lib.hid (int_own ha4.typ R.out); clear hr hn4 ha4)
            | (go_at_call 23; (with_reducible refine (HHR.out w4 A4 c4 N4.out HR.out).mono ?_); rintro e w5 ⟨rfl, hn5, ha5⟩; have N5 := Lib.hid hn5; have A5' := Lib.hid (A4'.out.trans ha5); have R5 := Lib.hid (int_own ha5.typ R4.out); clear hn5 ha5))
          go_roundw
          case rel => exact ⟨j + 1, by omega, by go_num, by go_num, by rw [HTS.out, sayAll_snoc, HT.out]; exact N5.out, A5'.out, R5.out⟩
          case measure => simp [intOf]; omega
        · obtain rfl : j = L.length := by omega
          go_wp2
          go_roundw
          case rel =>
            rw [List.take_length] at M
            exact ⟨k + 1, by omega, by go_num, by rw [HHS.out], by rw [HRS.out]; exact M.out, MF.out⟩
          case measure => simp [intOf]; omega
    · obtain rfl : k = S.n := by omega
      go_wp2
      go_ret
      exact ⟨rfl, N.out, AF.out⟩
end Net
end Go.Proofs.Ytebkpjefdaieaaa
