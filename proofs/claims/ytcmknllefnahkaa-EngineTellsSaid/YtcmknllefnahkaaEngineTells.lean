/-
  EngineTells: the walk. Conditions: none.
-/
import Derived.Test.YtcmknllefnahkaaTellP
import Derived.Test.YtcmknllefnahkaaOffs
namespace Go.Proofs.Ytcmknllefnahkaa
open Go.RowKit FR FP H2 OW
set_option linter.unusedVariables false
set_option linter.unusedSimpArgs false
namespace EngineTells
open Feas Eng
/-- once told -/
def tl (s : St) (t : Int) : St := if upv s t = 0 then s.tells t s.n else s
theorem tl_same (s : St) (t : Int) : (tl s t).id = s.id ∧ (tl s t).n = s.n := by unfold tl; split <;> exact ⟨rfl, rfl⟩
theorem tl_route (s : St) (t : Int) (d : Nat) (hd : d < s.n) (hw : Wf s) : (tl s t).route d = s.route d := by
  unfold tl
  split
  · exact route_told s t s.n d hd hw
  · rfl
theorem tl_upv (s : St) (t u : Int) : upv (tl s t) u = upv s u := by unfold tl; split <;> rfl
theorem tl_offer (s : St) (t : Int) (d : Nat) (hd : d < s.n) (hw : Wf s) : (tl s t).offer t d = s.offer t d := by
  have h := tl_route s t d hd hw
  unfold St.offer St.hid
  rw [h]
theorem tell_rd {w0 w : World} {b : Nat} {s : St} (h : Nd w0 w b s) (t : Int) (u : Int) (hu : upv s t = u) (L : Nat) (hL : L = if u = 0 then s.n else 0) : Calls Try.prog 18 #[.pointer (some ⟨b, 0, none⟩), .int .i64 t] w fun e w' => ∃ A cap, e = .returned (.tuple #[.slice A L cap, .int .i64 u]) ∧ RdO w' A L (s.offer t) ∧ (∀ g o, A = some ⟨g, o, none⟩ → g ≠ b) ∧ Nd w0 w' b (tl s t) ∧ Only (fun i => i = b) w w' := by
  subst hu
  by_cases hz : upv s t = 0
  · rw [if_pos hz] at hL
    subst hL
    refine (nd_tell h t hz).mono fun e w' ⟨⟨v, he, hv⟩, hn, ho⟩ => ?_
    obtain ⟨A, cap, rfl, _, hr, hg⟩ := rdO_own hv
    exact ⟨A, cap, by rw [he, hz], hr, fun g o e => by have := (hg g o e).1; have := h.lt; omega, by unfold tl; rw [if_pos hz]; exact hn, ho⟩
  · rw [if_neg hz] at hL
    subst hL
    exact (tell_no b s t w h.isn h.wf hz).mono fun e w' ⟨he, hw⟩ => ⟨none, 0, he, fun i hi => by omega, (fun g o e => by cases e), by unfold tl; rw [if_neg hz]; exact hw ▸ h, hw ▸ Only.refl _ _⟩
theorem offs_rd (A : Option Addr) (n cap : Nat) (f : Nat → Int × Int × Int) (w : World) (hn : n ≤ 1000000) (hf : RdO w A n f) : Calls Try.prog 17 #[.slice A n cap] w fun e w' => (∃ A' cap', e = .returned (.slice A' n cap') ∧ RdO w' A' n f) ∧ Below w.heap.size w w' :=
  (offers_any A n cap f w hn hf).mono fun e w' ⟨⟨v, he, hv⟩, hb⟩ => by
    obtain ⟨A', cap', rfl, _, hr, _⟩ := rdO_ref hv
    exact ⟨⟨A', cap', he, hr⟩, hb⟩
theorem same_yes (A B : Option Addr) (n cap cap' : Nat) (f g : Nat → Int × Int × Int) (w : World) (hn : n ≤ maxLen) (hf : RdO w A n f) (hg : RdO w B n g) (h : ∀ k, k < n → f k = g k) : Calls Try.prog 20 #[.slice A n cap, .slice B n cap'] w fun e w' => e = .returned (.bool true) ∧ Below w.heap.size w w' :=
  (sameOffers_any A B n n cap cap' f g w hn hf hg).mono fun e w' ⟨he, hb⟩ => ⟨by rw [he, decide_eq_true rfl, sameO_mk h]; rfl, hb⟩
theorem nd_fresh_any {w0 w : World} {b : Nat} {s : St} (h : Nd w0 w b s) : Calls Try.prog 21 #[.pointer (some ⟨b, 0, none⟩)] w fun e w' => (∃ x, e = .returned (.int .i64 x)) ∧ (∃ s', s'.id = s.id ∧ s'.n = s.n ∧ Nd w0 w' b s') ∧ Only (fun i => i = b) w w' := by
  by_cases ht : s.seq = 4294967295
  · exact (fresh_top b s w h.isn ht).mono fun e w' ⟨he, hw⟩ => ⟨⟨_, he⟩, ⟨s, rfl, rfl, hw ▸ h⟩, hw ▸ Only.refl _ _⟩
  · exact (h.fresh ht).mono fun e w' ⟨he, hn, ho⟩ => ⟨⟨_, he⟩, ⟨{ s with seq := s.seq + 1 }, rfl, rfl, hn⟩, ho⟩
theorem rdO_drewN {w : World} {A : Option Addr} {n : Nat} {f : Nat → Int × Int × Int} (h : RdO w A n f) (q : Nat) : RdO (w.drewN q) A n f := h
theorem rdO_drew {w : World} {A : Option Addr} {n : Nat} {f : Nat → Int × Int × Int} (h : RdO w A n f) : RdO w.drew A n f := h
theorem nd_drew {w0 w : World} {b : Nat} {s : St} (h : Nd w0 w b s) : Nd w0 w.drew b s := ⟨h.isn.drew, h.wf, h.bel.trans (((Only.refl (fun _ => False) w).drew).below h.bel.size (fun _ _ e => e)), h.new⟩
theorem cell_new_at (w : World) (cs : List Value) (i : Nat) {t : TypeId} {q : Nat} : ((w.alloc (.cells cs.toArray t (0, 0))).drewN q).cell? ⟨w.heap.size, i, none⟩ = cs[i]? := by
  show (w.alloc (.cells cs.toArray t (0, 0))).cell? ⟨w.heap.size, i, none⟩ = _
  rw [blk_cell (heap_alloc_new w _)]
  simp
theorem rdO_only {w w' : World} {b : Nat} {A : Option Addr} {n : Nat} {f : Nat → Int × Int × Int} (h : RdO w A n f) (ho : Only (fun i => i = b) w w') (hne : ∀ g o, A = some ⟨g, o, none⟩ → g ≠ b) : RdO w' A n f := h.keep ho hne
set_option maxRecDepth 1000000 in
set_option maxHeartbeats 16000000 in
theorem walk (id0 n0 : Int) (v : Value) (w : World) (_ : (Lit.int .i64 id0).wf = true) (_ : (Lit.int .i64 n0).wf = true) (wv : IsOps w v) : Calls Try.prog 7 #[.int .i64 id0, .int .i64 n0, v] w fun e w' => e = .returned (.bool true) ∧ Below w.heap.size w w' := by
  obtain ⟨A, m, cap, f, rfl, hm, hf⟩ := wv
  have HF := Lib.hid hf
  have HM := Lib.hid hm
  unfold maxLen at hm
  clear hf
  obtain ⟨r, hr, hrr⟩ := remk n0 5 (by omega)
  obtain ⟨n, hn⟩ : ∃ n : Nat, n = 2 + r := ⟨_, rfl⟩
  have hn2 : 2 ≤ n := by omega
  have hn6 : n ≤ 6 := by omega
  obtain ⟨id, hid, hidd⟩ := remk id0 n (by omega)
  have e5 : ((5 : Nat) : Int) = 5 := rfl
  rw [e5] at hrr
  have w1 : IntKind.i64.wrap (r : Int) = (r : Int) := IntWalk.i64_in _ (by omega)
  have w2 : IntKind.i64.wrap (2 + (r : Int)) = (n : Int) := by rw [IntWalk.i64_in _ (by omega)]; omega
  have w3 : IntKind.u64.wrap (n : Int) = (n : Int) := by simp [IntKind.wrap, IntKind.bits, IntKind.signed]; omega
  have w4 : IntKind.i64.wrap (id : Int) = (id : Int) := IntWalk.i64_in _ (by omega)
  have hz : ((n : Int) == 0) = false := by simp; omega
  have hz' : ¬ (n : Int) = 0 := by omega
  clear hn e5
  go_enter Try.func7, Try.ntmps7
  go_upto_region 3 with fail
  go_wp2_with (first
    | (go_at_call 9; (with_reducible refine (awake_any w).mono ?_); rintro e w1 ⟨rfl, hb⟩; have HB1 := Lib.hid hb; clear hb)
    | (go_at_call 10; (with_reducible refine (long_any A m cap f w1 HM.out (HF.out.below HB1.out)).mono ?_); rintro e w2 ⟨⟨x, rfl⟩, hb⟩; have HB2 := Lib.hid (HB1.out.trans (hb.mono HB1.out.size)); clear hb)
    | (go_at_call 9; (with_reducible refine (awake_any w2).mono ?_); rintro e w3 ⟨rfl, hb⟩; have HB3 := Lib.hid (HB2.out.trans (hb.mono HB2.out.size)); clear hb)
    | (go_at_call 11; (with_reducible refine (nd_new id n w w2 HB2.out hid hn6).mono ?_); rintro e w3 ⟨b, rfl, hi, _⟩; have N3 := Lib.hid hi; clear hi))
  · go_ret
    exact ⟨rfl, HB3.out⟩
  go_loopw [50] (fun s50 wr => ∃ (i : Nat) (s : St), i ≤ m ∧ s50 = .int .i64 i ∧ s.n = n ∧ Nd w wr b s) (fun s50 _ => m - (intOf s50).toNat)
  case atStart => exact ⟨0, _, by omega, rfl, rfl, N3.out⟩
  case round =>
    obtain ⟨i, s, hi, rfl, hsn, hnd⟩ := hrel
    have HSN := Lib.hid hsn
    have N := Lib.hid hnd
    clear hsn hnd N3
    by_cases hlt : i < m
    · have hlt' : (i : Int) < (m : Int) := by omega
      have i0 : (0 : Int) ≤ (i : Int) := by omega
      obtain ⟨g, o, rfl, hg, x0, x1, x2, x3, x4, x5, x6⟩ := (HF.out.below N.out.bel) i hlt
      have X5 := Lib.hid (HF.out i hlt).choose_spec.choose_spec.2.2.2.2.2.2.2.1
      generalize f i = qq at x0 x1 x2 x3 x4 x5 x6 X5
      obtain ⟨kk, a, bb, A', n', cap', f'⟩ := qq
      dsimp only at x0 x1 x2 x3 x4 x5 x6 X5
      have X4 := Lib.hid x4
      have X6 := Lib.hid x6
      clear x4 x5 x6
      by_cases h1 : kk = 1
      · subst h1
        go_wp2_with (go_at_call 13; (with_reducible refine (nd_link (N.out.alloc _) a bb).mono ?_); rintro e w4 ⟨rfl, hn4, _⟩; have N4 := Lib.hid hn4; clear hn4)
        go_roundw
        case rel => exact ⟨i + 1, _, by omega, by go_num, (link_same s a bb).2.1.trans HSN.out, N4.out⟩
        case measure => simp [intOf]; omega
      by_cases h2 : kk = 2
      · subst h2
        go_wp2_with (go_at_call 15; (with_reducible refine (nd_hear0 (N.out.alloc _) a A' n' cap' f' X4.out X5.out X6.out).mono ?_); rintro e w4 ⟨rfl, hn4, _⟩; have N4 := Lib.hid hn4; clear hn4)
        go_roundw
        case rel => exact ⟨i + 1, _, by omega, by go_num, (hear_same s a f' n').2.trans HSN.out, N4.out⟩
        case measure => simp [intOf]; omega
      have h1' : (kk == 1) = false := by simpa using h1
      have h2' : (kk == 2) = false := by simpa using h2
      clear h1 h2
      go_wp2_with (go_at_call 21; (with_reducible refine (nd_fresh_any (N.out.alloc _)).mono ?_); rintro e w4 ⟨⟨xx, rfl⟩, ⟨s4, _, hsn4, hn4⟩, _⟩; have N4 := Lib.hid hn4; have HSN4 := Lib.hid hsn4; clear hn4 hsn4)
      go_roundw
      case rel => exact ⟨i + 1, _, by omega, by go_num, HSN4.out.trans HSN.out, N4.out⟩
      case measure => simp [intOf]; omega
    · obtain rfl : m = i := by omega
      go_upto_region 19 with fail
      go_loopw [76] (fun s76 wr => ∃ (t : Nat) (s : St), t ≤ n ∧ s76 = .int .i64 t ∧ s.n = n ∧ Nd w wr b s) (fun s76 _ => n - (intOf s76).toNat)
      case atStart => exact ⟨0, _, by omega, rfl, HSN.out, N.out⟩
      case round =>
        obtain ⟨t, s, ht, rfl, hsn, hnd⟩ := hrel
        have HS := Lib.hid hsn
        have M := Lib.hid hnd
        clear hsn hnd N HSN
        by_cases htn : t < n
        · have htn' : (t : Int) < (n : Int) := by omega
          have t0 : (0 : Int) ≤ (t : Int) := by omega
          have hoff := fun d (hd : d < n) => tl_offer s t d (by rw [HS.out]; exact hd) M.out.wf
          have HOFF := Lib.hid hoff
          have HRT := Lib.hid (fun d (hd : d < n) => (tl_route (tl s t) t d (by rw [(tl_same s t).2, HS.out]; exact hd) (by unfold tl; split; exact wf_tells s t _ M.out.wf; exact M.out.wf)).trans (tl_route s t d (by rw [HS.out]; exact hd) M.out.wf))
          have HN2 := Lib.hid ((tl_same (tl s t) t).2.trans ((tl_same s t).2.trans HS.out))
          clear hoff
          obtain ⟨u, hu⟩ : ∃ u, upv s t = u := ⟨_, rfl⟩
          have hu2 : upv (tl s t) t = u := (tl_upv s t t).trans hu
          have HU := Lib.hid hu
          have HU2 := Lib.hid hu2
          have huu : (u != u) = false := by simp
          obtain ⟨L, hL⟩ : ∃ L : Nat, L = if u = 0 then n else 0 := ⟨_, rfl⟩
          have HL1 := Lib.hid (show L = if u = 0 then s.n else 0 by rw [HS.out]; exact hL)
          have HL2 := Lib.hid (show L = if u = 0 then (tl s t).n else 0 by rw [(tl_same s t).2, HS.out]; exact hL)
          have hLn : L ≤ n := by rw [hL]; split <;> omega
          have hLm : L ≤ maxLen := by unfold maxLen; omega
          have HLM := Lib.hid hLm
          have HL := Lib.hid hL
          clear hu hu2 hL hLm
          have HSM : ∀ k, k < L → s.offer t k = (tl s t).offer t k := fun k hk => (HOFF.out k (by omega)).symm
          have HSM := Lib.hid HSM
          go_upto_region 26 with (first
            | (go_at_call 18; (with_reducible refine (tell_rd M.out t u HU.out L HL1.out).mono ?_); rintro e w4 ⟨A1, cap1, rfl, hr1, hg1, hi, ho⟩; have R1 := Lib.hid hr1; have G1 := Lib.hid hg1; have M1 := Lib.hid hi; clear hr1 hg1 hi ho)
            | (go_at_call 18; (with_reducible refine (tell_rd M1.out t u HU2.out L HL2.out).mono ?_); rintro e w5 ⟨A2, cap2, rfl, hr2, hg2, hi, ho⟩; have R2 := Lib.hid hr2; have M2 := Lib.hid hi; have R1b := Lib.hid (rdO_only R1.out ho G1.out); clear hr2 hg2 hi ho R1 M1)
            | (go_at_call 17; (with_reducible refine (offs_rd A1 L cap1 _ w5 (by omega) R1b.out).mono ?_); rintro e w6 ⟨⟨A3, cap3, rfl, hr3⟩, hb⟩; have R3 := Lib.hid hr3; have R2b := Lib.hid (R2.out.below hb); have R1c := Lib.hid (R1b.out.below hb); have M3 := Lib.hid (M2.out.keep hb); clear hr3 hb R2 M2 R1b)
            | (go_at_call 17; (with_reducible refine (offs_rd A2 L cap2 _ w6 (by omega) R2b.out).mono ?_); rintro e w7 ⟨⟨A4, cap4, rfl, hr4⟩, hb⟩; have R4 := Lib.hid hr4; have R3b := Lib.hid (R3.out.below hb); have R1d := Lib.hid (R1c.out.below hb); have M4 := Lib.hid (M3.out.keep hb); clear hr4 hb R3 M3 R1c)
            | (go_at_call 20; (with_reducible refine (same_yes A3 A4 L cap3 cap4 _ _ w7 HLM.out R3b.out R4.out HSM.out).mono ?_); rintro e w8 ⟨rfl, hb⟩; have R1e := Lib.hid (R1d.out.below hb); have M5 := Lib.hid (M4.out.keep hb); clear hb M4 R1d))
          go_loopw [104] (fun s104 wr => ∃ d : Nat, d ≤ L ∧ s104 = .int .i64 d ∧ Nd w wr b (tl (tl s t) t) ∧ RdO wr A1 L (s.offer t)) (fun s104 _ => L - (intOf s104).toNat)
          case atStart => exact ⟨0, by omega, rfl, M5.out, R1e.out⟩
          case round =>
            obtain ⟨d, hd, rfl, hnd, hro⟩ := hrel
            have D := Lib.hid hnd
            have RO := Lib.hid hro
            clear hnd hro M5 R1e
            by_cases hdl : d < L
            · have hdl' : (d : Int) < (L : Int) := by omega
              have hdn : d < n := by omega
              have d0 : (0 : Int) ≤ (d : Int) := by omega
              obtain ⟨g, o, rfl, hg, x0, x1, x2⟩ := RO.out d hdl
              have hof : s.offer t d = if s.hid t d = true then ((d : Int), 65535, 0) else ((d : Int), (s.route d).2.1.1, (s.route d).2.1.2) := rfl
              have hhd : s.hid t d = (!(s.route d).2.2 || ((s.route d).1 == (t : Int))) := rfl
              have hrt := fun (w9 : World) (h : Nd w w9 b (tl (tl s t) t)) => nd_route h d
              rw [HRT.out d hdn] at hrt
              obtain ⟨⟨hm0, hm1⟩, hsq⟩ := route_range s M.out.wf d
              obtain ⟨nx, ⟨mm, qq⟩, ok, hr⟩ : ∃ nx mq ok, s.route d = (nx, mq, ok) := ⟨_, _, _, rfl⟩
              rw [hr] at hrt hof hhd hm0 hm1 hsq
              dsimp only at hrt hof hhd hm0 hm1 hsq
              have hsm : Sm mm := ⟨hm0, by omega⟩
              have HRR := Lib.hid hrt
              have X := Lib.hid (And.intro x0 (And.intro x1 x2))
              have OF := Lib.hid hof
              have HD := Lib.hid hhd
              clear hrt hr hof hhd x0 x1 x2
              cases ok
              · have E := Lib.hid (show s.offer t d = ((d : Int), 65535, 0) by rw [OF.out, HD.out]; rfl)
                have x := X.out
                rw [E.out] at x
                obtain ⟨x0, x1, x2⟩ := x
                dsimp only at x0 x1 x2
                go_upto_region 30 with (go_at_call 26; (with_reducible refine (HRR.out _ (D.out.alloc _)).mono ?_); rintro e w9 ⟨rfl, q9, rfl⟩; have D9 := Lib.hid (nd_drew ((D.out.alloc (.cells #[.int .i64 d, .int .i64 65535, .int .u32 0] 71)).drewN q9)); have R9 := Lib.hid (rdO_drew (rdO_drewN (RO.out.below ((Below.refl _ _).alloc (Nat.le_refl _) (.cells #[.int .i64 d, .int .i64 65535, .int .u32 0] 71))) q9)); have y0 : ((wr.alloc (.cells #[.int .i64 d, .int .i64 65535, .int .u32 0] 71)).drewN q9).cell? ⟨wr.heap.size, 0, none⟩ = some (.int .i64 d) := cell_new_at _ _ 0; have y1 : ((wr.alloc (.cells #[.int .i64 d, .int .i64 65535, .int .u32 0] 71)).drewN q9).cell? ⟨wr.heap.size, 1, none⟩ = some (.int .i64 65535) := cell_new_at _ _ 1; have y2 : ((wr.alloc (.cells #[.int .i64 d, .int .i64 65535, .int .u32 0] 71)).drewN q9).cell? ⟨wr.heap.size, 2, none⟩ = some (.int .u32 0) := cell_new_at _ _ 2; clear x0 x1 x2)
                generalize (wr.alloc _).drewN q9 = W at D9 R9 y0 y1 y2 ⊢
                refine wp_region_held_drew (S := (fun w' => w'.cell? ⟨wr.heap.size, 0, none⟩ = some (.int .i64 d) ∧ w'.cell? ⟨wr.heap.size, 1, none⟩ = some (.int .i64 65535) ∧ w'.cell? ⟨wr.heap.size, 2, none⟩ = some (.int .u32 0))) (by kernel_rfl) ⟨y0, y1, y2⟩ (fun _ => ?_)
                refine held_take 0 123 (v := ?_) rfl rfl (by kernel_rfl) (by kernel_rfl) (by kernel_rfl) (fun _ _ _ h => h) (by rfl) ?_ ⟨y0, y1, y2⟩ ?_
                rotate_left
                · (intro w hSw; (try dsimp only at hSw); try simp only [List.getElem_toArray, List.getElem_cons_zero, List.getElem_cons_succ]; go_simp; try (with_reducible rfl))
                try simp only [List.setIfInBounds_toArray, List.set_cons_zero, List.set_cons_succ]
                refine held_take 1 124 (v := ?_) rfl rfl (by kernel_rfl) (by kernel_rfl) (by kernel_rfl) (fun _ _ _ h => h) (by rfl) ?_ ⟨y0, y1, y2⟩ ?_
                rotate_left
                · (intro w hSw; (try dsimp only at hSw); try simp only [List.getElem_toArray, List.getElem_cons_zero, List.getElem_cons_succ]; go_simp; try (with_reducible rfl))
                try simp only [List.setIfInBounds_toArray, List.set_cons_zero, List.set_cons_succ]
                refine held_take 2 125 (v := ?_) rfl rfl (by kernel_rfl) (by kernel_rfl) (by kernel_rfl) (fun _ _ _ h => h) (by rfl) ?_ ⟨y0, y1, y2⟩ ?_
                rotate_left
                · (intro w hSw; (try dsimp only at hSw); try simp only [List.getElem_toArray, List.getElem_cons_zero, List.getElem_cons_succ]; go_simp; try (with_reducible rfl))
                try simp only [List.setIfInBounds_toArray, List.set_cons_zero, List.set_cons_succ]
                refine held_take 3 126 (v := ?_) rfl rfl (by kernel_rfl) (by kernel_rfl) (by kernel_rfl) (fun _ _ _ h => h) (by rfl) ?_ ⟨y0, y1, y2⟩ ?_
                rotate_left
                · (intro w hSw; (try dsimp only at hSw); try simp only [List.getElem_toArray, List.getElem_cons_zero, List.getElem_cons_succ]; go_simp; try (with_reducible rfl))
                try simp only [List.setIfInBounds_toArray, List.set_cons_zero, List.set_cons_succ]
                refine held_take 4 127 (v := ?_) rfl rfl (by kernel_rfl) (by kernel_rfl) (by kernel_rfl) (fun _ _ _ h => h) (by rfl) ?_ ⟨y0, y1, y2⟩ ?_
                rotate_left
                · (intro w hSw; (try dsimp only at hSw); try simp only [List.getElem_toArray, List.getElem_cons_zero, List.getElem_cons_succ]; go_simp; try (with_reducible rfl))
                try simp only [List.setIfInBounds_toArray, List.set_cons_zero, List.set_cons_succ]
                refine held_take 5 128 (v := ?_) rfl rfl (by kernel_rfl) (by kernel_rfl) (by kernel_rfl) (fun _ _ _ h => h) (by rfl) ?_ ⟨y0, y1, y2⟩ ?_
                rotate_left
                · (intro w hSw; (try dsimp only at hSw); try simp only [List.getElem_toArray, List.getElem_cons_zero, List.getElem_cons_succ]; go_simp; try (with_reducible rfl))
                try simp only [List.setIfInBounds_toArray, List.set_cons_zero, List.set_cons_succ]
                refine held_take 6 129 (v := ?_) rfl rfl (by kernel_rfl) (by kernel_rfl) (by kernel_rfl) (fun _ _ _ h => h) (by rfl) ?_ ⟨y0, y1, y2⟩ ?_
                rotate_left
                · (intro w hSw; (try dsimp only at hSw); try simp only [List.getElem_toArray, List.getElem_cons_zero, List.getElem_cons_succ]; go_simp; try (with_reducible rfl))
                try simp only [List.setIfInBounds_toArray, List.set_cons_zero, List.set_cons_succ]
                refine held_take 7 130 (v := ?_) rfl rfl (by kernel_rfl) (by kernel_rfl) (by kernel_rfl) (fun _ _ _ h => h) (by rfl) ?_ ⟨y0, y1, y2⟩ ?_
                rotate_left
                · (intro w hSw; (try dsimp only at hSw); try simp only [List.getElem_toArray, List.getElem_cons_zero, List.getElem_cons_succ]; go_simp; try (with_reducible rfl))
                try simp only [List.setIfInBounds_toArray, List.set_cons_zero, List.set_cons_succ]
                refine held_take 8 131 (v := ?_) rfl rfl (by kernel_rfl) (by kernel_rfl) (by kernel_rfl) (fun _ _ _ h => h) (by rfl) ?_ ⟨y0, y1, y2⟩ ?_
                rotate_left
                · (intro w hSw; (try dsimp only at hSw); try simp only [List.getElem_toArray, List.getElem_cons_zero, List.getElem_cons_succ]; go_simp; try (with_reducible rfl))
                try simp only [List.setIfInBounds_toArray, List.set_cons_zero, List.set_cons_succ]
                refine held_take 9 132 (v := ?_) rfl rfl (by kernel_rfl) (by kernel_rfl) (by kernel_rfl) (fun _ _ _ h => h) (by rfl) ?_ ⟨y0, y1, y2⟩ ?_
                rotate_left
                · (intro w hSw; (try dsimp only at hSw); try simp only [List.getElem_toArray, List.getElem_cons_zero, List.getElem_cons_succ]; go_simp; try (with_reducible rfl))
                try simp only [List.setIfInBounds_toArray, List.set_cons_zero, List.set_cons_succ]
                refine held_take 10 133 (v := ?_) rfl rfl (by kernel_rfl) (by kernel_rfl) (by kernel_rfl) (fun _ _ _ h => h) (by rfl) ?_ ⟨y0, y1, y2⟩ ?_
                rotate_left
                · (intro w hSw; (try dsimp only at hSw); try simp only [List.getElem_toArray, List.getElem_cons_zero, List.getElem_cons_succ]; go_simp; try (with_reducible rfl))
                try simp only [List.setIfInBounds_toArray, List.set_cons_zero, List.set_cons_succ]
                refine held_take 11 134 (v := ?_) rfl rfl (by kernel_rfl) (by kernel_rfl) (by kernel_rfl) (fun _ _ _ h => h) (by rfl) ?_ ⟨y0, y1, y2⟩ ?_
                rotate_left
                · (intro w hSw; (try dsimp only at hSw); try simp only [List.getElem_toArray, List.getElem_cons_zero, List.getElem_cons_succ]; go_simp; try (with_reducible rfl))
                try simp only [List.setIfInBounds_toArray, List.set_cons_zero, List.set_cons_succ]
                refine held_take 12 135 (v := ?_) rfl rfl (by kernel_rfl) (by kernel_rfl) (by kernel_rfl) (fun _ _ _ h => h) (by rfl) ?_ ⟨y0, y1, y2⟩ ?_
                rotate_left
                · (intro w hSw; (try dsimp only at hSw); try simp only [List.getElem_toArray, List.getElem_cons_zero, List.getElem_cons_succ]; go_simp; try (with_reducible rfl))
                try simp only [List.setIfInBounds_toArray, List.set_cons_zero, List.set_cons_succ]
                refine held_take 13 136 (v := ?_) rfl rfl (by kernel_rfl) (by kernel_rfl) (by kernel_rfl) (fun _ _ _ h => h) (by rfl) ?_ ⟨y0, y1, y2⟩ ?_
                rotate_left
                · (intro w hSw; (try dsimp only at hSw); try simp only [List.getElem_toArray, List.getElem_cons_zero, List.getElem_cons_succ]; go_simp; try (with_reducible rfl))
                try simp only [List.setIfInBounds_toArray, List.set_cons_zero, List.set_cons_succ]
                refine held_take 14 137 (v := ?_) rfl rfl (by kernel_rfl) (by kernel_rfl) (by kernel_rfl) (fun _ _ _ h => h) (by rfl) ?_ ⟨y0, y1, y2⟩ ?_
                rotate_left
                · (intro w hSw; (try dsimp only at hSw); try simp only [List.getElem_toArray, List.getElem_cons_zero, List.getElem_cons_succ]; go_simp; try (with_reducible rfl))
                try simp only [List.setIfInBounds_toArray, List.set_cons_zero, List.set_cons_succ]
                refine held_take 15 138 (v := ?_) rfl rfl (by kernel_rfl) (by kernel_rfl) (by kernel_rfl) (fun _ _ _ h => h) (by rfl) ?_ ⟨y0, y1, y2⟩ ?_
                rotate_left
                · (intro w hSw; (try dsimp only at hSw); try simp only [List.getElem_toArray, List.getElem_cons_zero, List.getElem_cons_succ]; go_simp; try (with_reducible rfl))
                try simp only [List.setIfInBounds_toArray, List.set_cons_zero, List.set_cons_succ]
                refine held_take 16 139 (v := ?_) rfl rfl (by kernel_rfl) (by kernel_rfl) (by kernel_rfl) (fun _ _ _ h => h) (by rfl) ?_ ⟨y0, y1, y2⟩ ?_
                rotate_left
                · (intro w hSw; (try dsimp only at hSw); try simp only [List.getElem_toArray, List.getElem_cons_zero, List.getElem_cons_succ]; go_simp; try (with_reducible rfl))
                try simp only [List.setIfInBounds_toArray, List.set_cons_zero, List.set_cons_succ]
                refine held_take 17 140 (v := ?_) rfl rfl (by kernel_rfl) (by kernel_rfl) (by kernel_rfl) (fun _ _ _ h => h) (by rfl) ?_ ⟨y0, y1, y2⟩ ?_
                rotate_left
                · (intro w hSw; (try dsimp only at hSw); try simp only [List.getElem_toArray, List.getElem_cons_zero, List.getElem_cons_succ]; go_simp; try (with_reducible rfl))
                try simp only [List.setIfInBounds_toArray, List.set_cons_zero, List.set_cons_succ]
                refine held_take 18 141 (v := ?_) rfl rfl (by kernel_rfl) (by kernel_rfl) (by kernel_rfl) (fun _ _ _ h => h) (by rfl) ?_ ⟨y0, y1, y2⟩ ?_
                rotate_left
                · (intro w hSw; (try dsimp only at hSw); try simp only [List.getElem_toArray, List.getElem_cons_zero, List.getElem_cons_succ]; go_simp; try (with_reducible rfl))
                try simp only [List.setIfInBounds_toArray, List.set_cons_zero, List.set_cons_succ]
                refine held_take 19 142 (v := ?_) rfl rfl (by kernel_rfl) (by kernel_rfl) (by kernel_rfl) (fun _ _ _ h => h) (by rfl) ?_ ⟨y0, y1, y2⟩ ?_
                rotate_left
                · (intro w hSw; (try dsimp only at hSw); try simp only [List.getElem_toArray, List.getElem_cons_zero, List.getElem_cons_succ]; go_simp; try (with_reducible rfl))
                try simp only [List.setIfInBounds_toArray, List.set_cons_zero, List.set_cons_succ]
                refine held_take 20 143 (v := ?_) rfl rfl (by kernel_rfl) (by kernel_rfl) (by kernel_rfl) (fun _ _ _ h => h) (by rfl) ?_ ⟨y0, y1, y2⟩ ?_
                rotate_left
                · (intro w hSw; (try dsimp only at hSw); try simp only [List.getElem_toArray, List.getElem_cons_zero, List.getElem_cons_succ]; go_simp; try (with_reducible rfl))
                try simp only [List.setIfInBounds_toArray, List.set_cons_zero, List.set_cons_succ]
                refine held_skip 21 144 rfl rfl (by kernel_rfl) (by kernel_rfl) (by kernel_rfl) (fun _ _ _ h => h) (by rfl) ⟨y0, y1, y2⟩ ?_
                try simp only [List.setIfInBounds_toArray, List.set_cons_zero, List.set_cons_succ]
                refine held_skip 22 145 rfl rfl (by kernel_rfl) (by kernel_rfl) (by kernel_rfl) (fun _ _ _ h => h) (by rfl) ⟨y0, y1, y2⟩ ?_
                try simp only [List.setIfInBounds_toArray, List.set_cons_zero, List.set_cons_succ]
                refine held_skip 23 146 rfl rfl (by kernel_rfl) (by kernel_rfl) (by kernel_rfl) (fun _ _ _ h => h) (by rfl) ⟨y0, y1, y2⟩ ?_
                try simp only [List.setIfInBounds_toArray, List.set_cons_zero, List.set_cons_succ]
                refine held_skip 24 147 rfl rfl (by kernel_rfl) (by kernel_rfl) (by kernel_rfl) (fun _ _ _ h => h) (by rfl) ⟨y0, y1, y2⟩ ?_
                try simp only [List.setIfInBounds_toArray, List.set_cons_zero, List.set_cons_succ]
                refine held_skip 25 148 rfl rfl (by kernel_rfl) (by kernel_rfl) (by kernel_rfl) (fun _ _ _ h => h) (by rfl) ⟨y0, y1, y2⟩ ?_
                try simp only [List.setIfInBounds_toArray, List.set_cons_zero, List.set_cons_succ]
                refine held_skip 26 149 rfl rfl (by kernel_rfl) (by kernel_rfl) (by kernel_rfl) (fun _ _ _ h => h) (by rfl) ⟨y0, y1, y2⟩ ?_
                try simp only [List.setIfInBounds_toArray, List.set_cons_zero, List.set_cons_succ]
                refine held_skip 27 150 rfl rfl (by kernel_rfl) (by kernel_rfl) (by kernel_rfl) (fun _ _ _ h => h) (by rfl) ⟨y0, y1, y2⟩ ?_
                try simp only [List.setIfInBounds_toArray, List.set_cons_zero, List.set_cons_succ]
                refine held_skip 28 151 rfl rfl (by kernel_rfl) (by kernel_rfl) (by kernel_rfl) (fun _ _ _ h => h) (by rfl) ⟨y0, y1, y2⟩ ?_
                try simp only [List.setIfInBounds_toArray, List.set_cons_zero, List.set_cons_succ]
                refine held_skip 29 152 rfl rfl (by kernel_rfl) (by kernel_rfl) (by kernel_rfl) (fun _ _ _ h => h) (by rfl) ⟨y0, y1, y2⟩ ?_
                try simp only [List.setIfInBounds_toArray, List.set_cons_zero, List.set_cons_succ]
                refine held_skip 30 153 rfl rfl (by kernel_rfl) (by kernel_rfl) (by kernel_rfl) (fun _ _ _ h => h) (by rfl) ⟨y0, y1, y2⟩ ?_
                try simp only [List.setIfInBounds_toArray, List.set_cons_zero, List.set_cons_succ]
                refine held_skip 31 154 rfl rfl (by kernel_rfl) (by kernel_rfl) (by kernel_rfl) (fun _ _ _ h => h) (by rfl) ⟨y0, y1, y2⟩ ?_
                try simp only [List.setIfInBounds_toArray, List.set_cons_zero, List.set_cons_succ]
                refine held_skip 32 155 rfl rfl (by kernel_rfl) (by kernel_rfl) (by kernel_rfl) (fun _ _ _ h => h) (by rfl) ⟨y0, y1, y2⟩ ?_
                try simp only [List.setIfInBounds_toArray, List.set_cons_zero, List.set_cons_succ]
                refine held_take 33 156 (v := ?_) rfl rfl (by kernel_rfl) (by kernel_rfl) (by kernel_rfl) (fun _ _ _ h => h) (by rfl) ?_ ⟨y0, y1, y2⟩ ?_
                rotate_left
                · (intro w hSw; (try dsimp only at hSw); try simp only [List.getElem_toArray, List.getElem_cons_zero, List.getElem_cons_succ]; go_simp; try (with_reducible rfl))
                try simp only [List.setIfInBounds_toArray, List.set_cons_zero, List.set_cons_succ]
                refine held_take 34 157 (v := ?_) rfl rfl (by kernel_rfl) (by kernel_rfl) (by kernel_rfl) (fun _ _ _ h => h) (by rfl) ?_ ⟨y0, y1, y2⟩ ?_
                rotate_left
                · (intro w hSw; (try dsimp only at hSw); try simp only [List.getElem_toArray, List.getElem_cons_zero, List.getElem_cons_succ]; go_simp; try (with_reducible rfl))
                try simp only [List.setIfInBounds_toArray, List.set_cons_zero, List.set_cons_succ]
                refine wpAnyH_done (by kernel_rfl) ?_ _
                go_wp2
                go_roundw
                case rel => exact ⟨d + 1, by omega, by go_num, D9.out, R9.out⟩
                case measure => simp [intOf]; omega
              · cases hnt : (nx == (t : Int))
                · have E := Lib.hid (show s.offer t d = ((d : Int), mm, qq) by rw [OF.out, HD.out, hnt]; rfl)
                  have x := X.out
                  rw [E.out] at x
                  obtain ⟨x0, x1, x2⟩ := x
                  dsimp only at x0 x1 x2
                  go_upto_region 30 with (go_at_call 26; (with_reducible refine (HRR.out _ (D.out.alloc _)).mono ?_); rintro e w9 ⟨rfl, q9, rfl⟩; have D9 := Lib.hid (nd_drew ((D.out.alloc (.cells #[.int .i64 d, .int .i64 mm, .int .u32 qq] 71)).drewN q9)); have R9 := Lib.hid (rdO_drew (rdO_drewN (RO.out.below ((Below.refl _ _).alloc (Nat.le_refl _) (.cells #[.int .i64 d, .int .i64 mm, .int .u32 qq] 71))) q9)); have y0 : ((wr.alloc (.cells #[.int .i64 d, .int .i64 mm, .int .u32 qq] 71)).drewN q9).cell? ⟨wr.heap.size, 0, none⟩ = some (.int .i64 d) := cell_new_at _ _ 0; have y1 : ((wr.alloc (.cells #[.int .i64 d, .int .i64 mm, .int .u32 qq] 71)).drewN q9).cell? ⟨wr.heap.size, 1, none⟩ = some (.int .i64 mm) := cell_new_at _ _ 1; have y2 : ((wr.alloc (.cells #[.int .i64 d, .int .i64 mm, .int .u32 qq] 71)).drewN q9).cell? ⟨wr.heap.size, 2, none⟩ = some (.int .u32 qq) := cell_new_at _ _ 2; clear x0 x1 x2)
                  generalize (wr.alloc _).drewN q9 = W at D9 R9 y0 y1 y2 ⊢
                  refine wp_region_held_drew (S := (fun w' => w'.cell? ⟨wr.heap.size, 0, none⟩ = some (.int .i64 d) ∧ w'.cell? ⟨wr.heap.size, 1, none⟩ = some (.int .i64 mm) ∧ w'.cell? ⟨wr.heap.size, 2, none⟩ = some (.int .u32 qq))) (by kernel_rfl) ⟨y0, y1, y2⟩ (fun _ => ?_)
                  refine held_take 0 123 (v := ?_) rfl rfl (by kernel_rfl) (by kernel_rfl) (by kernel_rfl) (fun _ _ _ h => h) (by rfl) ?_ ⟨y0, y1, y2⟩ ?_
                  rotate_left
                  · (intro w hSw; (try dsimp only at hSw); try simp only [List.getElem_toArray, List.getElem_cons_zero, List.getElem_cons_succ]; go_simp; try (with_reducible rfl))
                  try simp only [List.setIfInBounds_toArray, List.set_cons_zero, List.set_cons_succ]
                  refine held_take 1 124 (v := ?_) rfl rfl (by kernel_rfl) (by kernel_rfl) (by kernel_rfl) (fun _ _ _ h => h) (by rfl) ?_ ⟨y0, y1, y2⟩ ?_
                  rotate_left
                  · (intro w hSw; (try dsimp only at hSw); try simp only [List.getElem_toArray, List.getElem_cons_zero, List.getElem_cons_succ]; go_simp; try (with_reducible rfl))
                  try simp only [List.setIfInBounds_toArray, List.set_cons_zero, List.set_cons_succ]
                  refine held_take 2 125 (v := ?_) rfl rfl (by kernel_rfl) (by kernel_rfl) (by kernel_rfl) (fun _ _ _ h => h) (by rfl) ?_ ⟨y0, y1, y2⟩ ?_
                  rotate_left
                  · (intro w hSw; (try dsimp only at hSw); try simp only [List.getElem_toArray, List.getElem_cons_zero, List.getElem_cons_succ]; go_simp; try (with_reducible rfl))
                  try simp only [List.setIfInBounds_toArray, List.set_cons_zero, List.set_cons_succ]
                  refine held_take 3 126 (v := ?_) rfl rfl (by kernel_rfl) (by kernel_rfl) (by kernel_rfl) (fun _ _ _ h => h) (by rfl) ?_ ⟨y0, y1, y2⟩ ?_
                  rotate_left
                  · (intro w hSw; (try dsimp only at hSw); try simp only [List.getElem_toArray, List.getElem_cons_zero, List.getElem_cons_succ]; go_simp; try (with_reducible rfl))
                  try simp only [List.setIfInBounds_toArray, List.set_cons_zero, List.set_cons_succ]
                  refine held_take 4 127 (v := ?_) rfl rfl (by kernel_rfl) (by kernel_rfl) (by kernel_rfl) (fun _ _ _ h => h) (by rfl) ?_ ⟨y0, y1, y2⟩ ?_
                  rotate_left
                  · (intro w hSw; (try dsimp only at hSw); try simp only [List.getElem_toArray, List.getElem_cons_zero, List.getElem_cons_succ]; go_simp; try (with_reducible rfl))
                  try simp only [List.setIfInBounds_toArray, List.set_cons_zero, List.set_cons_succ]
                  refine held_take 5 128 (v := ?_) rfl rfl (by kernel_rfl) (by kernel_rfl) (by kernel_rfl) (fun _ _ _ h => h) (by rfl) ?_ ⟨y0, y1, y2⟩ ?_
                  rotate_left
                  · (intro w hSw; (try dsimp only at hSw); try simp only [List.getElem_toArray, List.getElem_cons_zero, List.getElem_cons_succ]; go_simp; try (with_reducible rfl))
                  try simp only [List.setIfInBounds_toArray, List.set_cons_zero, List.set_cons_succ]
                  refine held_take 6 129 (v := ?_) rfl rfl (by kernel_rfl) (by kernel_rfl) (by kernel_rfl) (fun _ _ _ h => h) (by rfl) ?_ ⟨y0, y1, y2⟩ ?_
                  rotate_left
                  · (intro w hSw; (try dsimp only at hSw); try simp only [List.getElem_toArray, List.getElem_cons_zero, List.getElem_cons_succ]; go_simp; try (with_reducible rfl))
                  try simp only [List.setIfInBounds_toArray, List.set_cons_zero, List.set_cons_succ]
                  refine held_skip 7 130 rfl rfl (by kernel_rfl) (by kernel_rfl) (by kernel_rfl) (fun _ _ _ h => h) (by rfl) ⟨y0, y1, y2⟩ ?_
                  try simp only [List.setIfInBounds_toArray, List.set_cons_zero, List.set_cons_succ]
                  refine held_skip 8 131 rfl rfl (by kernel_rfl) (by kernel_rfl) (by kernel_rfl) (fun _ _ _ h => h) (by rfl) ⟨y0, y1, y2⟩ ?_
                  try simp only [List.setIfInBounds_toArray, List.set_cons_zero, List.set_cons_succ]
                  refine held_skip 9 132 rfl rfl (by kernel_rfl) (by kernel_rfl) (by kernel_rfl) (fun _ _ _ h => h) (by rfl) ⟨y0, y1, y2⟩ ?_
                  try simp only [List.setIfInBounds_toArray, List.set_cons_zero, List.set_cons_succ]
                  refine held_skip 10 133 rfl rfl (by kernel_rfl) (by kernel_rfl) (by kernel_rfl) (fun _ _ _ h => h) (by rfl) ⟨y0, y1, y2⟩ ?_
                  try simp only [List.setIfInBounds_toArray, List.set_cons_zero, List.set_cons_succ]
                  refine held_skip 11 134 rfl rfl (by kernel_rfl) (by kernel_rfl) (by kernel_rfl) (fun _ _ _ h => h) (by rfl) ⟨y0, y1, y2⟩ ?_
                  try simp only [List.setIfInBounds_toArray, List.set_cons_zero, List.set_cons_succ]
                  refine held_skip 12 135 rfl rfl (by kernel_rfl) (by kernel_rfl) (by kernel_rfl) (fun _ _ _ h => h) (by rfl) ⟨y0, y1, y2⟩ ?_
                  try simp only [List.setIfInBounds_toArray, List.set_cons_zero, List.set_cons_succ]
                  refine held_skip 13 136 rfl rfl (by kernel_rfl) (by kernel_rfl) (by kernel_rfl) (fun _ _ _ h => h) (by rfl) ⟨y0, y1, y2⟩ ?_
                  try simp only [List.setIfInBounds_toArray, List.set_cons_zero, List.set_cons_succ]
                  refine held_skip 14 137 rfl rfl (by kernel_rfl) (by kernel_rfl) (by kernel_rfl) (fun _ _ _ h => h) (by rfl) ⟨y0, y1, y2⟩ ?_
                  try simp only [List.setIfInBounds_toArray, List.set_cons_zero, List.set_cons_succ]
                  refine held_take 15 138 (v := ?_) rfl rfl (by kernel_rfl) (by kernel_rfl) (by kernel_rfl) (fun _ _ _ h => h) (by rfl) ?_ ⟨y0, y1, y2⟩ ?_
                  rotate_left
                  · (intro w hSw; (try dsimp only at hSw); try simp only [List.getElem_toArray, List.getElem_cons_zero, List.getElem_cons_succ]; go_simp; try (with_reducible rfl))
                  try simp only [List.setIfInBounds_toArray, List.set_cons_zero, List.set_cons_succ]
                  refine held_take 16 139 (v := ?_) rfl rfl (by kernel_rfl) (by kernel_rfl) (by kernel_rfl) (fun _ _ _ h => h) (by rfl) ?_ ⟨y0, y1, y2⟩ ?_
                  rotate_left
                  · (intro w hSw; (try dsimp only at hSw); try simp only [List.getElem_toArray, List.getElem_cons_zero, List.getElem_cons_succ]; go_simp; try (with_reducible rfl))
                  try simp only [List.setIfInBounds_toArray, List.set_cons_zero, List.set_cons_succ]
                  refine held_take 17 140 (v := ?_) rfl rfl (by kernel_rfl) (by kernel_rfl) (by kernel_rfl) (fun _ _ _ h => h) (by rfl) ?_ ⟨y0, y1, y2⟩ ?_
                  rotate_left
                  · (intro w hSw; (try dsimp only at hSw); try simp only [List.getElem_toArray, List.getElem_cons_zero, List.getElem_cons_succ]; go_simp; try (with_reducible rfl))
                  try simp only [List.setIfInBounds_toArray, List.set_cons_zero, List.set_cons_succ]
                  refine held_take 18 141 (v := ?_) rfl rfl (by kernel_rfl) (by kernel_rfl) (by kernel_rfl) (fun _ _ _ h => h) (by rfl) ?_ ⟨y0, y1, y2⟩ ?_
                  rotate_left
                  · (intro w hSw; (try dsimp only at hSw); try simp only [List.getElem_toArray, List.getElem_cons_zero, List.getElem_cons_succ]; go_simp; try (with_reducible rfl))
                  try simp only [List.setIfInBounds_toArray, List.set_cons_zero, List.set_cons_succ]
                  refine held_take 19 142 (v := ?_) rfl rfl (by kernel_rfl) (by kernel_rfl) (by kernel_rfl) (fun _ _ _ h => h) (by rfl) ?_ ⟨y0, y1, y2⟩ ?_
                  rotate_left
                  · (intro w hSw; (try dsimp only at hSw); try simp only [List.getElem_toArray, List.getElem_cons_zero, List.getElem_cons_succ]; go_simp; try (with_reducible rfl))
                  try simp only [List.setIfInBounds_toArray, List.set_cons_zero, List.set_cons_succ]
                  refine held_take 20 143 (v := ?_) rfl rfl (by kernel_rfl) (by kernel_rfl) (by kernel_rfl) (fun _ _ _ h => h) (by rfl) ?_ ⟨y0, y1, y2⟩ ?_
                  rotate_left
                  · (intro w hSw; (try dsimp only at hSw); try simp only [List.getElem_toArray, List.getElem_cons_zero, List.getElem_cons_succ]; go_simp; try (with_reducible rfl))
                  try simp only [List.setIfInBounds_toArray, List.set_cons_zero, List.set_cons_succ]
                  refine held_take 21 144 (v := ?_) rfl rfl (by kernel_rfl) (by kernel_rfl) (by kernel_rfl) (fun _ _ _ h => h) (by rfl) ?_ ⟨y0, y1, y2⟩ ?_
                  rotate_left
                  · (intro w hSw; (try dsimp only at hSw); try simp only [List.getElem_toArray, List.getElem_cons_zero, List.getElem_cons_succ]; go_simp; try (with_reducible rfl))
                  try simp only [List.setIfInBounds_toArray, List.set_cons_zero, List.set_cons_succ]
                  refine held_take 22 145 (v := ?_) rfl rfl (by kernel_rfl) (by kernel_rfl) (by kernel_rfl) (fun _ _ _ h => h) (by rfl) ?_ ⟨y0, y1, y2⟩ ?_
                  rotate_left
                  · (intro w hSw; (try dsimp only at hSw); try simp only [List.getElem_toArray, List.getElem_cons_zero, List.getElem_cons_succ]; go_simp; try (with_reducible rfl))
                  try simp only [List.setIfInBounds_toArray, List.set_cons_zero, List.set_cons_succ]
                  refine held_take 23 146 (v := ?_) rfl rfl (by kernel_rfl) (by kernel_rfl) (by kernel_rfl) (fun _ _ _ h => h) (by rfl) ?_ ⟨y0, y1, y2⟩ ?_
                  rotate_left
                  · (intro w hSw; (try dsimp only at hSw); try simp only [List.getElem_toArray, List.getElem_cons_zero, List.getElem_cons_succ]; go_simp; try (with_reducible rfl))
                  try simp only [List.setIfInBounds_toArray, List.set_cons_zero, List.set_cons_succ]
                  refine held_call 24 147 rfl rfl (by kernel_rfl) (by rfl) (fun K hK => ?_)
                  try simp only [List.getElem_toArray, List.getElem_cons_zero, List.getElem_cons_succ]
                  go_simp
                  (go_at_call 36; (with_reducible refine (metric_any mm qq hsm _).mono ?_); rintro e w' ⟨rfl, rfl⟩)
                  try go_wp2_with fail
                  try simp only [Act.put, List.setIfInBounds_toArray, List.set_cons_zero, List.set_cons_succ]
                  refine hK.out _ _ _ ⟨y0, y1, y2⟩ ?_
                  clear hK K
                  refine held_take 25 148 (v := ?_) rfl rfl (by kernel_rfl) (by kernel_rfl) (by kernel_rfl) (fun _ _ _ h => h) (by rfl) ?_ ⟨y0, y1, y2⟩ ?_
                  rotate_left
                  · (intro w hSw; (try dsimp only at hSw); try simp only [List.getElem_toArray, List.getElem_cons_zero, List.getElem_cons_succ]; go_simp; try (with_reducible rfl))
                  try simp only [List.setIfInBounds_toArray, List.set_cons_zero, List.set_cons_succ]
                  refine held_take 26 149 (v := ?_) rfl rfl (by kernel_rfl) (by kernel_rfl) (by kernel_rfl) (fun _ _ _ h => h) (by rfl) ?_ ⟨y0, y1, y2⟩ ?_
                  rotate_left
                  · (intro w hSw; (try dsimp only at hSw); try simp only [List.getElem_toArray, List.getElem_cons_zero, List.getElem_cons_succ]; go_simp; try (with_reducible rfl))
                  try simp only [List.setIfInBounds_toArray, List.set_cons_zero, List.set_cons_succ]
                  refine held_take 27 150 (v := ?_) rfl rfl (by kernel_rfl) (by kernel_rfl) (by kernel_rfl) (fun _ _ _ h => h) (by rfl) ?_ ⟨y0, y1, y2⟩ ?_
                  rotate_left
                  · (intro w hSw; (try dsimp only at hSw); try simp only [List.getElem_toArray, List.getElem_cons_zero, List.getElem_cons_succ]; go_simp; try (with_reducible rfl))
                  try simp only [List.setIfInBounds_toArray, List.set_cons_zero, List.set_cons_succ]
                  refine held_take 28 151 (v := ?_) rfl rfl (by kernel_rfl) (by kernel_rfl) (by kernel_rfl) (fun _ _ _ h => h) (by rfl) ?_ ⟨y0, y1, y2⟩ ?_
                  rotate_left
                  · (intro w hSw; (try dsimp only at hSw); try simp only [List.getElem_toArray, List.getElem_cons_zero, List.getElem_cons_succ]; go_simp; try (with_reducible rfl))
                  try simp only [List.setIfInBounds_toArray, List.set_cons_zero, List.set_cons_succ]
                  refine held_take 29 152 (v := ?_) rfl rfl (by kernel_rfl) (by kernel_rfl) (by kernel_rfl) (fun _ _ _ h => h) (by rfl) ?_ ⟨y0, y1, y2⟩ ?_
                  rotate_left
                  · (intro w hSw; (try dsimp only at hSw); try simp only [List.getElem_toArray, List.getElem_cons_zero, List.getElem_cons_succ]; go_simp; try (with_reducible rfl))
                  try simp only [List.setIfInBounds_toArray, List.set_cons_zero, List.set_cons_succ]
                  refine held_call 30 153 rfl rfl (by kernel_rfl) (by rfl) (fun K hK => ?_)
                  try simp only [List.getElem_toArray, List.getElem_cons_zero, List.getElem_cons_succ]
                  go_simp
                  (go_at_call 37; (with_reducible refine (Feas.seq_any mm qq hsq _).mono ?_); rintro e w' ⟨rfl, rfl⟩)
                  try go_wp2_with fail
                  try simp only [Act.put, List.setIfInBounds_toArray, List.set_cons_zero, List.set_cons_succ]
                  refine hK.out _ _ _ ⟨y0, y1, y2⟩ ?_
                  clear hK K
                  refine held_take 31 154 (v := ?_) rfl rfl (by kernel_rfl) (by kernel_rfl) (by kernel_rfl) (fun _ _ _ h => h) (by rfl) ?_ ⟨y0, y1, y2⟩ ?_
                  rotate_left
                  · (intro w hSw; (try dsimp only at hSw); try simp only [List.getElem_toArray, List.getElem_cons_zero, List.getElem_cons_succ]; go_simp; try (with_reducible rfl))
                  try simp only [List.setIfInBounds_toArray, List.set_cons_zero, List.set_cons_succ]
                  refine held_take 32 155 (v := ?_) rfl rfl (by kernel_rfl) (by kernel_rfl) (by kernel_rfl) (fun _ _ _ h => h) (by rfl) ?_ ⟨y0, y1, y2⟩ ?_
                  rotate_left
                  · (intro w hSw; (try dsimp only at hSw); try simp only [List.getElem_toArray, List.getElem_cons_zero, List.getElem_cons_succ]; go_simp; try (with_reducible rfl))
                  try simp only [List.setIfInBounds_toArray, List.set_cons_zero, List.set_cons_succ]
                  refine held_take 33 156 (v := ?_) rfl rfl (by kernel_rfl) (by kernel_rfl) (by kernel_rfl) (fun _ _ _ h => h) (by rfl) ?_ ⟨y0, y1, y2⟩ ?_
                  rotate_left
                  · (intro w hSw; (try dsimp only at hSw); try simp only [List.getElem_toArray, List.getElem_cons_zero, List.getElem_cons_succ]; go_simp; try (with_reducible rfl))
                  try simp only [List.setIfInBounds_toArray, List.set_cons_zero, List.set_cons_succ]
                  refine held_take 34 157 (v := ?_) rfl rfl (by kernel_rfl) (by kernel_rfl) (by kernel_rfl) (fun _ _ _ h => h) (by rfl) ?_ ⟨y0, y1, y2⟩ ?_
                  rotate_left
                  · (intro w hSw; (try dsimp only at hSw); try simp only [List.getElem_toArray, List.getElem_cons_zero, List.getElem_cons_succ]; go_simp; try (with_reducible rfl))
                  try simp only [List.setIfInBounds_toArray, List.set_cons_zero, List.set_cons_succ]
                  refine wpAnyH_done (by kernel_rfl) ?_ _
                  go_wp2
                  go_roundw
                  case rel => exact ⟨d + 1, by omega, by go_num, D9.out, R9.out⟩
                  case measure => simp [intOf]; omega
                · have E := Lib.hid (show s.offer t d = ((d : Int), 65535, 0) by rw [OF.out, HD.out, hnt]; rfl)
                  have x := X.out
                  rw [E.out] at x
                  obtain ⟨x0, x1, x2⟩ := x
                  dsimp only at x0 x1 x2
                  go_upto_region 30 with (go_at_call 26; (with_reducible refine (HRR.out _ (D.out.alloc _)).mono ?_); rintro e w9 ⟨rfl, q9, rfl⟩; have D9 := Lib.hid (nd_drew ((D.out.alloc (.cells #[.int .i64 d, .int .i64 65535, .int .u32 0] 71)).drewN q9)); have R9 := Lib.hid (rdO_drew (rdO_drewN (RO.out.below ((Below.refl _ _).alloc (Nat.le_refl _) (.cells #[.int .i64 d, .int .i64 65535, .int .u32 0] 71))) q9)); have y0 : ((wr.alloc (.cells #[.int .i64 d, .int .i64 65535, .int .u32 0] 71)).drewN q9).cell? ⟨wr.heap.size, 0, none⟩ = some (.int .i64 d) := cell_new_at _ _ 0; have y1 : ((wr.alloc (.cells #[.int .i64 d, .int .i64 65535, .int .u32 0] 71)).drewN q9).cell? ⟨wr.heap.size, 1, none⟩ = some (.int .i64 65535) := cell_new_at _ _ 1; have y2 : ((wr.alloc (.cells #[.int .i64 d, .int .i64 65535, .int .u32 0] 71)).drewN q9).cell? ⟨wr.heap.size, 2, none⟩ = some (.int .u32 0) := cell_new_at _ _ 2; clear x0 x1 x2)
                  generalize (wr.alloc _).drewN q9 = W at D9 R9 y0 y1 y2 ⊢
                  refine wp_region_held_drew (S := (fun w' => w'.cell? ⟨wr.heap.size, 0, none⟩ = some (.int .i64 d) ∧ w'.cell? ⟨wr.heap.size, 1, none⟩ = some (.int .i64 65535) ∧ w'.cell? ⟨wr.heap.size, 2, none⟩ = some (.int .u32 0))) (by kernel_rfl) ⟨y0, y1, y2⟩ (fun _ => ?_)
                  refine held_take 0 123 (v := ?_) rfl rfl (by kernel_rfl) (by kernel_rfl) (by kernel_rfl) (fun _ _ _ h => h) (by rfl) ?_ ⟨y0, y1, y2⟩ ?_
                  rotate_left
                  · (intro w hSw; (try dsimp only at hSw); try simp only [List.getElem_toArray, List.getElem_cons_zero, List.getElem_cons_succ]; go_simp; try (with_reducible rfl))
                  try simp only [List.setIfInBounds_toArray, List.set_cons_zero, List.set_cons_succ]
                  refine held_take 1 124 (v := ?_) rfl rfl (by kernel_rfl) (by kernel_rfl) (by kernel_rfl) (fun _ _ _ h => h) (by rfl) ?_ ⟨y0, y1, y2⟩ ?_
                  rotate_left
                  · (intro w hSw; (try dsimp only at hSw); try simp only [List.getElem_toArray, List.getElem_cons_zero, List.getElem_cons_succ]; go_simp; try (with_reducible rfl))
                  try simp only [List.setIfInBounds_toArray, List.set_cons_zero, List.set_cons_succ]
                  refine held_take 2 125 (v := ?_) rfl rfl (by kernel_rfl) (by kernel_rfl) (by kernel_rfl) (fun _ _ _ h => h) (by rfl) ?_ ⟨y0, y1, y2⟩ ?_
                  rotate_left
                  · (intro w hSw; (try dsimp only at hSw); try simp only [List.getElem_toArray, List.getElem_cons_zero, List.getElem_cons_succ]; go_simp; try (with_reducible rfl))
                  try simp only [List.setIfInBounds_toArray, List.set_cons_zero, List.set_cons_succ]
                  refine held_take 3 126 (v := ?_) rfl rfl (by kernel_rfl) (by kernel_rfl) (by kernel_rfl) (fun _ _ _ h => h) (by rfl) ?_ ⟨y0, y1, y2⟩ ?_
                  rotate_left
                  · (intro w hSw; (try dsimp only at hSw); try simp only [List.getElem_toArray, List.getElem_cons_zero, List.getElem_cons_succ]; go_simp; try (with_reducible rfl))
                  try simp only [List.setIfInBounds_toArray, List.set_cons_zero, List.set_cons_succ]
                  refine held_take 4 127 (v := ?_) rfl rfl (by kernel_rfl) (by kernel_rfl) (by kernel_rfl) (fun _ _ _ h => h) (by rfl) ?_ ⟨y0, y1, y2⟩ ?_
                  rotate_left
                  · (intro w hSw; (try dsimp only at hSw); try simp only [List.getElem_toArray, List.getElem_cons_zero, List.getElem_cons_succ]; go_simp; try (with_reducible rfl))
                  try simp only [List.setIfInBounds_toArray, List.set_cons_zero, List.set_cons_succ]
                  refine held_take 5 128 (v := ?_) rfl rfl (by kernel_rfl) (by kernel_rfl) (by kernel_rfl) (fun _ _ _ h => h) (by rfl) ?_ ⟨y0, y1, y2⟩ ?_
                  rotate_left
                  · (intro w hSw; (try dsimp only at hSw); try simp only [List.getElem_toArray, List.getElem_cons_zero, List.getElem_cons_succ]; go_simp; try (with_reducible rfl))
                  try simp only [List.setIfInBounds_toArray, List.set_cons_zero, List.set_cons_succ]
                  refine held_take 6 129 (v := ?_) rfl rfl (by kernel_rfl) (by kernel_rfl) (by kernel_rfl) (fun _ _ _ h => h) (by rfl) ?_ ⟨y0, y1, y2⟩ ?_
                  rotate_left
                  · (intro w hSw; (try dsimp only at hSw); try simp only [List.getElem_toArray, List.getElem_cons_zero, List.getElem_cons_succ]; go_simp; try (with_reducible rfl))
                  try simp only [List.setIfInBounds_toArray, List.set_cons_zero, List.set_cons_succ]
                  refine held_take 7 130 (v := ?_) rfl rfl (by kernel_rfl) (by kernel_rfl) (by kernel_rfl) (fun _ _ _ h => h) (by rfl) ?_ ⟨y0, y1, y2⟩ ?_
                  rotate_left
                  · (intro w hSw; (try dsimp only at hSw); try simp only [List.getElem_toArray, List.getElem_cons_zero, List.getElem_cons_succ]; go_simp; try (with_reducible rfl))
                  try simp only [List.setIfInBounds_toArray, List.set_cons_zero, List.set_cons_succ]
                  refine held_take 8 131 (v := ?_) rfl rfl (by kernel_rfl) (by kernel_rfl) (by kernel_rfl) (fun _ _ _ h => h) (by rfl) ?_ ⟨y0, y1, y2⟩ ?_
                  rotate_left
                  · (intro w hSw; (try dsimp only at hSw); try simp only [List.getElem_toArray, List.getElem_cons_zero, List.getElem_cons_succ]; go_simp; try (with_reducible rfl))
                  try simp only [List.setIfInBounds_toArray, List.set_cons_zero, List.set_cons_succ]
                  refine held_take 9 132 (v := ?_) rfl rfl (by kernel_rfl) (by kernel_rfl) (by kernel_rfl) (fun _ _ _ h => h) (by rfl) ?_ ⟨y0, y1, y2⟩ ?_
                  rotate_left
                  · (intro w hSw; (try dsimp only at hSw); try simp only [List.getElem_toArray, List.getElem_cons_zero, List.getElem_cons_succ]; go_simp; try (with_reducible rfl))
                  try simp only [List.setIfInBounds_toArray, List.set_cons_zero, List.set_cons_succ]
                  refine held_take 10 133 (v := ?_) rfl rfl (by kernel_rfl) (by kernel_rfl) (by kernel_rfl) (fun _ _ _ h => h) (by rfl) ?_ ⟨y0, y1, y2⟩ ?_
                  rotate_left
                  · (intro w hSw; (try dsimp only at hSw); try simp only [List.getElem_toArray, List.getElem_cons_zero, List.getElem_cons_succ]; go_simp; try (with_reducible rfl))
                  try simp only [List.setIfInBounds_toArray, List.set_cons_zero, List.set_cons_succ]
                  refine held_take 11 134 (v := ?_) rfl rfl (by kernel_rfl) (by kernel_rfl) (by kernel_rfl) (fun _ _ _ h => h) (by rfl) ?_ ⟨y0, y1, y2⟩ ?_
                  rotate_left
                  · (intro w hSw; (try dsimp only at hSw); try simp only [List.getElem_toArray, List.getElem_cons_zero, List.getElem_cons_succ]; go_simp; try (with_reducible rfl))
                  try simp only [List.setIfInBounds_toArray, List.set_cons_zero, List.set_cons_succ]
                  refine held_take 12 135 (v := ?_) rfl rfl (by kernel_rfl) (by kernel_rfl) (by kernel_rfl) (fun _ _ _ h => h) (by rfl) ?_ ⟨y0, y1, y2⟩ ?_
                  rotate_left
                  · (intro w hSw; (try dsimp only at hSw); try simp only [List.getElem_toArray, List.getElem_cons_zero, List.getElem_cons_succ]; go_simp; try (with_reducible rfl))
                  try simp only [List.setIfInBounds_toArray, List.set_cons_zero, List.set_cons_succ]
                  refine held_take 13 136 (v := ?_) rfl rfl (by kernel_rfl) (by kernel_rfl) (by kernel_rfl) (fun _ _ _ h => h) (by rfl) ?_ ⟨y0, y1, y2⟩ ?_
                  rotate_left
                  · (intro w hSw; (try dsimp only at hSw); try simp only [List.getElem_toArray, List.getElem_cons_zero, List.getElem_cons_succ]; go_simp; try (with_reducible rfl))
                  try simp only [List.setIfInBounds_toArray, List.set_cons_zero, List.set_cons_succ]
                  refine held_take 14 137 (v := ?_) rfl rfl (by kernel_rfl) (by kernel_rfl) (by kernel_rfl) (fun _ _ _ h => h) (by rfl) ?_ ⟨y0, y1, y2⟩ ?_
                  rotate_left
                  · (intro w hSw; (try dsimp only at hSw); try simp only [List.getElem_toArray, List.getElem_cons_zero, List.getElem_cons_succ]; go_simp; try (with_reducible rfl))
                  try simp only [List.setIfInBounds_toArray, List.set_cons_zero, List.set_cons_succ]
                  refine held_take 15 138 (v := ?_) rfl rfl (by kernel_rfl) (by kernel_rfl) (by kernel_rfl) (fun _ _ _ h => h) (by rfl) ?_ ⟨y0, y1, y2⟩ ?_
                  rotate_left
                  · (intro w hSw; (try dsimp only at hSw); try simp only [List.getElem_toArray, List.getElem_cons_zero, List.getElem_cons_succ]; go_simp; try (with_reducible rfl))
                  try simp only [List.setIfInBounds_toArray, List.set_cons_zero, List.set_cons_succ]
                  refine held_take 16 139 (v := ?_) rfl rfl (by kernel_rfl) (by kernel_rfl) (by kernel_rfl) (fun _ _ _ h => h) (by rfl) ?_ ⟨y0, y1, y2⟩ ?_
                  rotate_left
                  · (intro w hSw; (try dsimp only at hSw); try simp only [List.getElem_toArray, List.getElem_cons_zero, List.getElem_cons_succ]; go_simp; try (with_reducible rfl))
                  try simp only [List.setIfInBounds_toArray, List.set_cons_zero, List.set_cons_succ]
                  refine held_take 17 140 (v := ?_) rfl rfl (by kernel_rfl) (by kernel_rfl) (by kernel_rfl) (fun _ _ _ h => h) (by rfl) ?_ ⟨y0, y1, y2⟩ ?_
                  rotate_left
                  · (intro w hSw; (try dsimp only at hSw); try simp only [List.getElem_toArray, List.getElem_cons_zero, List.getElem_cons_succ]; go_simp; try (with_reducible rfl))
                  try simp only [List.setIfInBounds_toArray, List.set_cons_zero, List.set_cons_succ]
                  refine held_take 18 141 (v := ?_) rfl rfl (by kernel_rfl) (by kernel_rfl) (by kernel_rfl) (fun _ _ _ h => h) (by rfl) ?_ ⟨y0, y1, y2⟩ ?_
                  rotate_left
                  · (intro w hSw; (try dsimp only at hSw); try simp only [List.getElem_toArray, List.getElem_cons_zero, List.getElem_cons_succ]; go_simp; try (with_reducible rfl))
                  try simp only [List.setIfInBounds_toArray, List.set_cons_zero, List.set_cons_succ]
                  refine held_take 19 142 (v := ?_) rfl rfl (by kernel_rfl) (by kernel_rfl) (by kernel_rfl) (fun _ _ _ h => h) (by rfl) ?_ ⟨y0, y1, y2⟩ ?_
                  rotate_left
                  · (intro w hSw; (try dsimp only at hSw); try simp only [List.getElem_toArray, List.getElem_cons_zero, List.getElem_cons_succ]; go_simp; try (with_reducible rfl))
                  try simp only [List.setIfInBounds_toArray, List.set_cons_zero, List.set_cons_succ]
                  refine held_take 20 143 (v := ?_) rfl rfl (by kernel_rfl) (by kernel_rfl) (by kernel_rfl) (fun _ _ _ h => h) (by rfl) ?_ ⟨y0, y1, y2⟩ ?_
                  rotate_left
                  · (intro w hSw; (try dsimp only at hSw); try simp only [List.getElem_toArray, List.getElem_cons_zero, List.getElem_cons_succ]; go_simp; try (with_reducible rfl))
                  try simp only [List.setIfInBounds_toArray, List.set_cons_zero, List.set_cons_succ]
                  refine held_skip 21 144 rfl rfl (by kernel_rfl) (by kernel_rfl) (by kernel_rfl) (fun _ _ _ h => h) (by rfl) ⟨y0, y1, y2⟩ ?_
                  try simp only [List.setIfInBounds_toArray, List.set_cons_zero, List.set_cons_succ]
                  refine held_skip 22 145 rfl rfl (by kernel_rfl) (by kernel_rfl) (by kernel_rfl) (fun _ _ _ h => h) (by rfl) ⟨y0, y1, y2⟩ ?_
                  try simp only [List.setIfInBounds_toArray, List.set_cons_zero, List.set_cons_succ]
                  refine held_skip 23 146 rfl rfl (by kernel_rfl) (by kernel_rfl) (by kernel_rfl) (fun _ _ _ h => h) (by rfl) ⟨y0, y1, y2⟩ ?_
                  try simp only [List.setIfInBounds_toArray, List.set_cons_zero, List.set_cons_succ]
                  refine held_skip 24 147 rfl rfl (by kernel_rfl) (by kernel_rfl) (by kernel_rfl) (fun _ _ _ h => h) (by rfl) ⟨y0, y1, y2⟩ ?_
                  try simp only [List.setIfInBounds_toArray, List.set_cons_zero, List.set_cons_succ]
                  refine held_skip 25 148 rfl rfl (by kernel_rfl) (by kernel_rfl) (by kernel_rfl) (fun _ _ _ h => h) (by rfl) ⟨y0, y1, y2⟩ ?_
                  try simp only [List.setIfInBounds_toArray, List.set_cons_zero, List.set_cons_succ]
                  refine held_skip 26 149 rfl rfl (by kernel_rfl) (by kernel_rfl) (by kernel_rfl) (fun _ _ _ h => h) (by rfl) ⟨y0, y1, y2⟩ ?_
                  try simp only [List.setIfInBounds_toArray, List.set_cons_zero, List.set_cons_succ]
                  refine held_skip 27 150 rfl rfl (by kernel_rfl) (by kernel_rfl) (by kernel_rfl) (fun _ _ _ h => h) (by rfl) ⟨y0, y1, y2⟩ ?_
                  try simp only [List.setIfInBounds_toArray, List.set_cons_zero, List.set_cons_succ]
                  refine held_skip 28 151 rfl rfl (by kernel_rfl) (by kernel_rfl) (by kernel_rfl) (fun _ _ _ h => h) (by rfl) ⟨y0, y1, y2⟩ ?_
                  try simp only [List.setIfInBounds_toArray, List.set_cons_zero, List.set_cons_succ]
                  refine held_skip 29 152 rfl rfl (by kernel_rfl) (by kernel_rfl) (by kernel_rfl) (fun _ _ _ h => h) (by rfl) ⟨y0, y1, y2⟩ ?_
                  try simp only [List.setIfInBounds_toArray, List.set_cons_zero, List.set_cons_succ]
                  refine held_skip 30 153 rfl rfl (by kernel_rfl) (by kernel_rfl) (by kernel_rfl) (fun _ _ _ h => h) (by rfl) ⟨y0, y1, y2⟩ ?_
                  try simp only [List.setIfInBounds_toArray, List.set_cons_zero, List.set_cons_succ]
                  refine held_skip 31 154 rfl rfl (by kernel_rfl) (by kernel_rfl) (by kernel_rfl) (fun _ _ _ h => h) (by rfl) ⟨y0, y1, y2⟩ ?_
                  try simp only [List.setIfInBounds_toArray, List.set_cons_zero, List.set_cons_succ]
                  refine held_skip 32 155 rfl rfl (by kernel_rfl) (by kernel_rfl) (by kernel_rfl) (fun _ _ _ h => h) (by rfl) ⟨y0, y1, y2⟩ ?_
                  try simp only [List.setIfInBounds_toArray, List.set_cons_zero, List.set_cons_succ]
                  refine held_take 33 156 (v := ?_) rfl rfl (by kernel_rfl) (by kernel_rfl) (by kernel_rfl) (fun _ _ _ h => h) (by rfl) ?_ ⟨y0, y1, y2⟩ ?_
                  rotate_left
                  · (intro w hSw; (try dsimp only at hSw); try simp only [List.getElem_toArray, List.getElem_cons_zero, List.getElem_cons_succ]; go_simp; try (with_reducible rfl))
                  try simp only [List.setIfInBounds_toArray, List.set_cons_zero, List.set_cons_succ]
                  refine held_take 34 157 (v := ?_) rfl rfl (by kernel_rfl) (by kernel_rfl) (by kernel_rfl) (fun _ _ _ h => h) (by rfl) ?_ ⟨y0, y1, y2⟩ ?_
                  rotate_left
                  · (intro w hSw; (try dsimp only at hSw); try simp only [List.getElem_toArray, List.getElem_cons_zero, List.getElem_cons_succ]; go_simp; try (with_reducible rfl))
                  try simp only [List.setIfInBounds_toArray, List.set_cons_zero, List.set_cons_succ]
                  refine wpAnyH_done (by kernel_rfl) ?_ _
                  go_wp2
                  go_roundw
                  case rel => exact ⟨d + 1, by omega, by go_num, D9.out, R9.out⟩
                  case measure => simp [intOf]; omega
            · obtain rfl : L = d := by omega
              by_cases hu0 : u = 0
              · have e : L = n := by rw [HL.out, if_pos hu0]
                subst e
                subst hu0
                have hll : ((L : Int) != (L : Int)) = false := by simp
                go_wp2
                go_roundw
                case rel => exact ⟨t + 1, _, by omega, by go_num, HN2.out, D.out⟩
                case measure => simp [intOf]; omega
              · have hu1 : (u == 0) = false := by simpa using hu0
                clear hu0
                go_wp2
                go_roundw
                case rel => exact ⟨t + 1, _, by omega, by go_num, HN2.out, D.out⟩
                case measure => simp [intOf]; omega
        · obtain rfl : t = n := by omega
          go_wp2
          go_ret
          exact ⟨rfl, M.out.bel⟩
end EngineTells
end Go.Proofs.Ytcmknllefnahkaa
