/-
  EngineDown: the walk. Conditions: none.
-/
import Derived.Test.YtcmknllefnahkaaEngB
namespace Go.Proofs.Ytcmknllefnahkaa
open Go.RowKit FR FP H2 OW
set_option linter.unusedVariables false
set_option linter.unusedSimpArgs false
namespace EngineDown
open Feas Eng
theorem oth_of {s : St} {n t : Nat} (h1 : s.id = 0) (h2 : s.n = n) (h3 : t < n) (h4 : 1 ≤ t) : oth s (t : Int) = true := by
  simp [oth, h1, h2]; omega
theorem link7 {s : St} {n t k : Nat} (h1 : s.id = 0) (h2 : s.n = n) (h3 : t < n) (h4 : 1 ≤ t) (hk : k < 2) (hp : 1 ≤ k → ∀ d, (s.inn d t).1 = 65535) : lnk s t ((k : Int) * 7) = 0 ∧ ∀ d, ((s.link t ((k : Int) * 7)).inn d t).1 = 65535 := by
  have ho := oth_of h1 h2 h3 h4
  refine ⟨by unfold lnk; rw [if_pos ho, if_pos (by omega)], fun d => ?_⟩
  unfold St.link
  rw [if_pos ⟨ho, by omega, by omega⟩]
  by_cases h0 : k = 0
  · subst h0
    rw [if_pos (by omega)]
    show (if t = (t : Int).toNat then ((65535 : Int), (0 : Int)) else s.inn d t).1 = 65535
    rw [if_pos (by omega)]
  · rw [if_neg (by omega)]
    exact hp (by omega) d
theorem last {s : St} {n t : Nat} (h1 : s.id = 0) (h2 : s.n = n) (h3 : t < n) (h4 : 1 ≤ t) : lnk s t 0 = 0 ∧ ∀ f, hea (s.link t 0) t f 0 = 8 := by
  have ho := oth_of h1 h2 h3 h4
  refine ⟨by unfold lnk; rw [if_pos ho, if_pos (by omega)], fun f => ?_⟩
  have e : upv (s.link t 0) t = 8 := by
    unfold upv
    have ho2 := oth_of ((link_same s t 0).1.trans h1) ((link_same s t 0).2.1.trans h2) h3 h4
    rw [if_pos ho2]
    have : ((s.link t 0).cost (t : Int).toNat).1 = 0 := by
      unfold St.link
      rw [if_pos ⟨ho, by omega, by omega⟩, if_pos rfl]
      show (if (t : Int).toNat = (t : Int).toNat then ((0 : Int), (0 : Int)) else _).1 = 0
      rw [if_pos rfl]
    rw [if_pos this]
  unfold hea
  rw [e]
  rfl
set_option maxRecDepth 1000000 in
set_option maxHeartbeats 16000000 in
theorem walk (n0 : Int) (v : Value) (t0 : Int) (w : World) (_ : (Lit.int .i64 n0).wf = true) (wv : IsOps w v) (_ : (Lit.int .i64 t0).wf = true) : Calls Try.prog 8 #[.int .i64 n0, v, .int .i64 t0] w fun e w' => e = .returned (.bool true) ∧ Below w.heap.size w w' := by
  obtain ⟨A, m, cap, f, rfl, hm, hf⟩ := wv
  have HF := Lib.hid hf
  have HM := Lib.hid hm
  unfold maxLen at hm
  clear hf
  obtain ⟨r, hr, hrr⟩ := remk n0 5 (by omega)
  obtain ⟨n, hn⟩ : ∃ n : Nat, n = 2 + r := ⟨_, rfl⟩
  have hn2 : 2 ≤ n := by omega
  have hn6 : n ≤ 6 := by omega
  obtain ⟨q, hq, hqq⟩ := remk t0 (n - 1) (by omega)
  obtain ⟨t, ht⟩ : ∃ t : Nat, t = 1 + q := ⟨_, rfl⟩
  have ht1 : 1 ≤ t := by omega
  have htn : t < n := by omega
  have e5 : ((5 : Nat) : Int) = 5 := rfl
  rw [e5] at hrr
  have e1 : ((n - 1 : Nat) : Int) = (n : Int) - 1 := by omega
  rw [e1] at hqq
  have w1 : IntKind.i64.wrap (r : Int) = (r : Int) := IntWalk.i64_in _ (by omega)
  have w2 : IntKind.i64.wrap (2 + (r : Int)) = (n : Int) := by rw [IntWalk.i64_in _ (by omega)]; omega
  have w3 : IntKind.u64.wrap ((n : Int) - 1) = (n : Int) - 1 := by simp [IntKind.wrap, IntKind.bits, IntKind.signed]; omega
  have w4 : IntKind.i64.wrap (q : Int) = (q : Int) := IntWalk.i64_in _ (by omega)
  have w5 : IntKind.i64.wrap (1 + (q : Int)) = (t : Int) := by rw [IntWalk.i64_in _ (by omega)]; omega
  have w6 : IntKind.i64.wrap ((n : Int) - 1) = (n : Int) - 1 := IntWalk.i64_in _ (by omega)
  have hz : (((n : Int) - 1) == 0) = false := by simp; omega
  have hz' : ¬ ((n : Int) - 1) = 0 := by omega
  clear hn ht e5 e1
  go_enter Try.func8, Try.ntmps8
  go_upto_region 3 with fail
  go_wp2_with (first
    | (go_at_call 9; with_reducible refine (awake_any w).mono ?_; rintro e w1 ⟨rfl, hb⟩; have HB1 := Lib.hid hb; clear hb)
    | (go_at_call 10; with_reducible refine (long_any A m cap f w1 HM.out (HF.out.below HB1.out)).mono ?_; rintro e w2 ⟨⟨x, rfl⟩, hb⟩; have HB2 := Lib.hid (HB1.out.trans (hb.mono HB1.out.size)); clear hb)
    | (go_at_call 9; with_reducible refine (awake_any w2).mono ?_; rintro e w3 ⟨rfl, hb⟩; have HB3 := Lib.hid (HB2.out.trans (hb.mono HB2.out.size)); clear hb)
    | (go_at_call 11; with_reducible refine (nd_new0 n w w2 HB2.out (by omega) hn6).mono ?_; rintro e w3 ⟨b, rfl, hi, _⟩; have N3 := Lib.hid hi; clear hi))
  · go_ret
    exact ⟨rfl, HB3.out⟩
  go_loopw [45] (fun s45 wr => ∃ (i : Nat) (s : St), i ≤ m ∧ s45 = .int .i64 i ∧ s.id = 0 ∧ s.n = n ∧ Nd w wr b s) (fun s45 _ => m - (intOf s45).toNat)
  case atStart => exact ⟨0, _, by omega, rfl, rfl, rfl, N3.out⟩
  case round =>
    obtain ⟨i, s, hi, rfl, hid, hsn, hnd⟩ := hrel
    have HI := Lib.hid hid
    have HSN := Lib.hid hsn
    have N := Lib.hid hnd
    clear hid hsn hnd N3
    by_cases hlt : i < m
    · have hlt' : (i : Int) < (m : Int) := by omega
      have i0 : (0 : Int) ≤ (i : Int) := by omega
      obtain ⟨g, o, rfl, hg, x0, x1, x2, x3, x4, x5, x6⟩ := (HF.out.below N.out.bel) i hlt
      have X5 := Lib.hid (HF.out i hlt).choose_spec.choose_spec.2.2.2.2.2.2.2.1
      generalize f i = qq at x0 x1 x2 x3 x4 x5 x6 X5
      obtain ⟨kk, a, bb, A', n', cap', f'⟩ := qq
      dsimp only at x0 x1 x2 x3 x4 x5 x6 X5
      have X4 := Lib.hid x4
      have X6 := Lib.hid x6
      clear x4 x5 x6
      by_cases h1 : kk = 1
      · subst h1
        go_wp2_with (go_at_call 13; with_reducible refine (nd_link (N.out.alloc _) a bb).mono ?_; rintro e w4 ⟨rfl, hn4, _⟩; have N4 := Lib.hid hn4; clear hn4)
        go_roundw
        case rel => exact ⟨i + 1, _, by omega, by go_num, (link_same s a bb).1.trans HI.out, (link_same s a bb).2.1.trans HSN.out, N4.out⟩
        case measure => simp [intOf]; omega
      by_cases h2 : kk = 2
      · subst h2
        go_wp2_with (go_at_call 15; with_reducible refine (nd_hear0 (N.out.alloc _) a A' n' cap' f' X4.out X5.out X6.out).mono ?_; rintro e w4 ⟨rfl, hn4, _⟩; have N4 := Lib.hid hn4; clear hn4)
        go_roundw
        case rel => exact ⟨i + 1, _, by omega, by go_num, (hear_same s a f' n').1.trans HI.out, (hear_same s a f' n').2.trans HSN.out, N4.out⟩
        case measure => simp [intOf]; omega
      by_cases h3 : kk = 3
      · subst h3
        go_wp2_with (go_at_call 18; with_reducible refine (nd_tell_any (N.out.alloc _) a).mono ?_; rintro e w4 ⟨⟨v4, rfl, _⟩, ⟨s4, hn4, hs4⟩, _⟩; have N4 := Lib.hid hn4; have HS4 := Lib.hid hs4; clear hn4 hs4)
        go_roundw
        case rel => exact ⟨i + 1, _, by omega, by go_num, by rw [HS4.out]; split <;> exact HI.out, by rw [HS4.out]; split <;> exact HSN.out, N4.out⟩
        case measure => simp [intOf]; omega
      have h1' : (kk == 1) = false := by simpa using h1
      have h2' : (kk == 2) = false := by simpa using h2
      have h3' : (kk == 3) = false := by simpa using h3
      clear h1 h2 h3
      go_wp2
      go_roundw
      case rel => exact ⟨i + 1, _, by omega, by go_num, HI.out, HSN.out, N.out.alloc _⟩
      case measure => simp [intOf]; omega
    · obtain rfl : i = m := by omega
      go_upto_region 20 with fail
      go_loopw [74] (fun s74 wr => ∃ (k : Nat) (s : St), k ≤ 2 ∧ s74 = .int .i64 k ∧ s.id = 0 ∧ s.n = n ∧ Nd w wr b s ∧ (1 ≤ k → ∀ d, (s.inn d t).1 = 65535)) (fun s74 _ => 2 - (intOf s74).toNat)
      case atStart => exact ⟨0, _, by omega, rfl, HI.out, HSN.out, N.out, fun h => by omega⟩
      case round =>
        obtain ⟨k, s2, hk, rfl, hid2, hsn2, hnd2, hp2⟩ := hrel
        have HI2 := Lib.hid hid2
        have HSN2 := Lib.hid hsn2
        have M := Lib.hid hnd2
        have HP2 := Lib.hid hp2
        clear hid2 hsn2 hnd2 hp2 N HI HSN
        by_cases hk2 : k < 2
        · have hk2' : (k : Int) < 2 := by omega
          have k0 : (0 : Int) ≤ (k : Int) := by omega
          have hl := link7 HI2.out HSN2.out htn ht1 hk2 HP2.out
          have HL1 := Lib.hid hl.1
          have HL2 := Lib.hid hl.2
          clear hl
          have hlk := nd_link M.out t ((k : Int) * 7)
          rw [HL1.out] at hlk
          have HLK := Lib.hid hlk
          clear hlk
          go_upto_region 25 with (go_at_call 13; with_reducible refine (HLK.out).mono ?_; rintro e w4 ⟨rfl, hn4, _⟩; have M4 := Lib.hid hn4; clear hn4)
          generalize hs3 : s2.link t ((k : Int) * 7) = s3 at M4 HL2
          have e1 := (link_same s2 t ((k : Int) * 7)).1
          have e2 := (link_same s2 t ((k : Int) * 7)).2.1
          rw [hs3] at e1 e2
          have HI3 := Lib.hid (e1.trans HI2.out)
          have HSN3 := Lib.hid (e2.trans HSN2.out)
          clear e1 e2 hs3
          go_loopw [84] (fun s84 wr => ∃ d : Nat, d ≤ n ∧ s84 = .int .i64 d ∧ Nd w wr b s3) (fun s84 _ => n - (intOf s84).toNat)
          case atStart => exact ⟨0, by omega, rfl, M4.out⟩
          case round =>
            obtain ⟨d, hd, rfl, hnd3⟩ := hrel
            have D := Lib.hid hnd3
            clear hnd3 M4
            by_cases hdn : d < n
            · have hdn' : (d : Int) < (n : Int) := by omega
              have d0 : (0 : Int) ≤ (d : Int) := by omega
              have hrt := nd_route D.out d
              have hro := route_ok s3 d (by rw [HSN3.out]; exact hdn)
              have hrn := route_not s3 t d (by rw [HI3.out, HSN3.out]; omega) (by rw [HSN3.out]; exact hdn) (HL2.out d)
              rw [HI3.out] at hro
              obtain ⟨nx, mq, ok, hr⟩ : ∃ nx mq ok, s3.route d = (nx, mq, ok) := ⟨_, _, _, rfl⟩
              rw [hr] at hrt hro hrn
              dsimp only at hrt hro hrn
              have hne : (nx == (t : Int)) = false := by simpa using hrn
              have HRT := Lib.hid hrt
              clear hrt hr hrn
              by_cases hx : 0 ≤ nx
              · have hok : ok = true := by rw [hro]; simp [hx]
                subst hok
                clear hro
                go_wp2_with (go_at_call 26; with_reducible refine (HRT.out).mono ?_; rintro e w5 ⟨rfl, q5, rfl⟩; have D5 := Lib.hid (D.out.drewN q5))
                go_roundw
                case rel => exact ⟨d + 1, by omega, by go_num, D5.out⟩
                case measure => simp [intOf]; omega
              · by_cases hd0 : d = 0
                · have hdz : ((d : Int) == 0) = true := by simp [hd0]
                  have hok : ok = true := by
                    rw [hro]
                    have : ((d : Int) == ((0 : Nat) : Int)) = true := hdz
                    rw [this]
                    simp
                  subst hok
                  clear hro hd0
                  go_wp2_with (go_at_call 26; with_reducible refine (HRT.out).mono ?_; rintro e w5 ⟨rfl, q5, rfl⟩; have D5 := Lib.hid (D.out.drewN q5))
                  go_roundw
                  case rel => exact ⟨d + 1, by omega, by go_num, D5.out⟩
                  case measure => simp [intOf]; omega
                · have hdz : ((d : Int) == 0) = false := by simp; omega
                  have hok : ok = false := by
                    rw [hro]
                    have : ((d : Int) == ((0 : Nat) : Int)) = false := hdz
                    rw [this]
                    simp; omega
                  subst hok
                  clear hro
                  go_wp2_with (go_at_call 26; with_reducible refine (HRT.out).mono ?_; rintro e w5 ⟨rfl, q5, rfl⟩; have D5 := Lib.hid (D.out.drewN q5))
                  go_roundw
                  case rel => exact ⟨d + 1, by omega, by go_num, D5.out⟩
                  case measure => simp [intOf]; omega
            · obtain rfl : d = n := by omega
              go_wp2
              go_roundw
              case rel => exact ⟨k + 1, _, by omega, by go_num, HI3.out, HSN3.out, D.out, fun _ => HL2.out⟩
              case measure => simp [intOf]; omega
        · obtain rfl : k = 2 := by omega
          have HLL := Lib.hid (last HI2.out HSN2.out htn ht1)
          have hlk := nd_link M.out t 0
          rw [HLL.out.1] at hlk
          have HLK := Lib.hid hlk
          clear hlk
          have hh := fun (w5 : World) (h : Nd w w5 b (s2.link t 0)) => nd_hear h t none 0 0 f1 (by decide) (rdO_none w5 f1) (fun i hi => by omega) (fun _ g o e => by cases e)
          simp only [HLL.out.2] at hh
          have HH := Lib.hid hh
          clear hh
          go_wp2_with (first
            | (go_at_call 13; with_reducible refine (HLK.out).mono ?_; rintro e w4 ⟨rfl, hn4, _⟩; have M4 := Lib.hid hn4; clear hn4)
            | (go_at_call 15; with_reducible refine (HH.out w4 M4.out).mono ?_; rintro e w5 ⟨rfl, hn5, _⟩; have M5 := Lib.hid hn5; clear hn5))
          go_ret
          exact ⟨rfl, M5.out.bel⟩
end EngineDown
end Go.Proofs.Ytcmknllefnahkaa
