/-
  Package network: Told, Hear, link. Conditions: those that each theorem names.
-/
import Derived.Test.YtebkpjefdaieaaaNet2
namespace Go.Proofs.Ytebkpjefdaieaaa
open Go.RowKit FR FP H2 OW
set_option linter.unusedVariables false
set_option linter.unusedSimpArgs false
namespace Net
open Eng GG
/-- a node that has told t -/
def tl (s : St) (t : Int) : St := if upv s t = 0 then s.tells t s.n else s
theorem tl_same (s : St) (t : Int) : (tl s t).id = s.id ∧ (tl s t).n = s.n := by unfold tl; split <;> exact ⟨rfl, rfl⟩
theorem wf_tl {s : St} (h : Wf s) (t : Int) : Wf (tl s t) := by unfold tl; split; exact wf_tells s t _ h; exact h
/-- how many offers t is told -/
def told_len (s : St) (t : Int) : Nat := if upv s t = 0 then s.n else 0
theorem tell_rd {w : World} {b : Nat} {s : St} (h : IsN w b s) (hw : Wf s) (t : Int) : Calls Try.prog 42 #[.pointer (some ⟨b, 0, none⟩), .int .i64 t] w fun e w' => (∃ A cap, e = .returned (.tuple #[.slice A (told_len s t) cap, .int .i64 (upv s t)]) ∧ RdT w' A (told_len s t) (s.offer t)) ∧ IsN w' b (tl s t) ∧ Only (fun i => i = b) w w' := by
  by_cases hz : upv s t = 0
  · unfold told_len tl
    rw [if_pos hz, if_pos hz]
    refine (tell_any b s t w h hw hz).mono fun e w' ⟨⟨v, he, hv⟩, hn, ho⟩ => ?_
    obtain ⟨A, cap, rfl, hr⟩ := rdT_own hv
    exact ⟨⟨A, cap, by rw [he, hz], hr⟩, hn, ho⟩
  · unfold told_len tl
    rw [if_neg hz, if_neg hz]
    exact (tell_no b s t w h hw hz).mono fun e w' ⟨he, hw⟩ => ⟨⟨none, 0, he, fun i hi => by omega, fun h => by omega⟩, hw ▸ h, hw ▸ Only.refl _ _⟩
theorem smO_offer' (s : St) (t : Int) (k : Nat) (hw : Wf s) : SmO (s.offer t) k := smO_offer s t k hw
set_option maxHeartbeats 1600000 in
theorem told_any {base b : Nat} {ly : Lay} {S : NetV} (w : World) (h : IsNet w base b ly S) (i : Nat) (hi : i < S.n) (t : Int) : Calls Try.prog 21 #[.pointer (some ⟨b, 0, none⟩), .int .i64 i, .int .i64 t] w fun e w' => (∃ A cap, e = .returned (.tuple #[.slice A (told_len (S.x i) t) cap, .int .i64 (upv (S.x i) t)]) ∧ RdT w' A (told_len (S.x i) t) ((S.x i).offer t)) ∧ IsNet w' base b ly (S.upd i (tl (S.x i) t)) ∧ After base w w' := by
  have H := Lib.hid h
  have hw := h.wf i hi
  have HT := Lib.hid (tell_rd (h.node i hi) hw.1 t)
  have HW := Lib.hid hw
  have i0 : (0 : Int) ≤ (i : Int) := by omega
  clear h hw
  go_enter Try.func21, Try.ntmps21
  go_wp2_with (first
    | (go_at_call 34; (with_reducible refine (at_ok w H.out i hi).mono ?_); rintro e w' ⟨rfl, rfl⟩)
    | (go_at_call 42; (with_reducible refine (HT.out).mono ?_); rintro e w4 ⟨⟨A, cap, rfl, hr⟩, hn, ho⟩; have HR := Lib.hid hr; have HN := Lib.hid hn; have HO := Lib.hid ho; clear hr hn ho))
  go_ret2
  exact ⟨⟨A, cap, rfl, HR.out⟩, H.out.node_set hi HN.out ⟨wf_tl HW.out.1 t, (tl_same _ t).1.trans HW.out.2.1, (tl_same _ t).2.trans HW.out.2.2⟩ HO.out, H.out.after_node hi HO.out⟩
set_option maxHeartbeats 1600000 in
theorem told_bad {base b : Nat} {ly : Lay} {S : NetV} (w : World) (h : IsNet w base b ly S) (i : Int) (hi : GG.ok S.n i = false) (t : Int) : Calls Try.prog 21 #[.pointer (some ⟨b, 0, none⟩), .int .i64 i, .int .i64 t] w fun e w' => e = .returned (.tuple #[.slice none 0 0, .int .i64 2]) ∧ w = w' := by
  have H := Lib.hid h
  clear h
  go_enter Try.func21, Try.ntmps21
  go_wp2_with (go_at_call 34; (with_reducible refine (at_bad w H.out i hi).mono ?_); rintro e w' ⟨rfl, rfl⟩)
  go_ret2
  exact ⟨rfl, rfl⟩
set_option maxHeartbeats 1600000 in
theorem told_nil (i t : Int) (w : World) : Calls Try.prog 21 #[.pointer none, .int .i64 i, .int .i64 t] w fun e w' => e = .returned (.tuple #[.slice none 0 0, .int .i64 10]) ∧ w = w' := by
  go_enter Try.func21, Try.ntmps21
  go_wp2_with (go_at_call 34; (with_reducible refine (at_nil i w).mono ?_); rintro e w' ⟨rfl, rfl⟩)
  go_ret2
  exact ⟨rfl, rfl⟩
set_option maxHeartbeats 1600000 in
theorem hear_any {base b : Nat} {ly : Lay} {S : NetV} (w : World) (h : IsNet w base b ly S) (i : Nat) (hi : i < S.n) (t : Int) (A : Option Addr) (k cap : Nat) (f : Nat → Int × Int × Int) (hk : k ≤ 6) (hr : RdT w A k f) (hs : SmO f k) : Calls Try.prog 23 #[.pointer (some ⟨b, 0, none⟩), .int .i64 i, .int .i64 t, .slice A k cap] w fun e w' => e = .returned (.int .i64 (hea (S.x i) t f k)) ∧ IsNet w' base b ly (S.upd i ((S.x i).hear t f k)) ∧ After base w w' := by
  have H := Lib.hid h
  have hw := h.wf i hi
  have HT := Lib.hid (Eng.hear_any (ly.nb i) (S.x i) t A k cap f w (h.node i hi) hw.1 (by unfold maxLen; omega) hr.1 (hr.ne (h.node i hi)))
  have HW := Lib.hid hw
  have HS := Lib.hid hs
  have i0 : (0 : Int) ≤ (i : Int) := by omega
  clear h hw hr hs
  go_enter Try.func23, Try.ntmps23
  go_wp2_with (first
    | (go_at_call 34; (with_reducible refine (at_ok w H.out i hi).mono ?_); rintro e w' ⟨rfl, rfl⟩)
    | (go_at_call 43; (with_reducible refine (HT.out).mono ?_); rintro e w4 ⟨rfl, hn, ho⟩; have HN := Lib.hid hn; have HO := Lib.hid ho; clear hn ho))
  go_ret
  exact ⟨rfl, H.out.node_set hi HN.out ⟨wf_hear HW.out.1 t f k HS.out, (hear_same _ t f k).1.trans HW.out.2.1, (hear_same _ t f k).2.trans HW.out.2.2⟩ HO.out, H.out.after_node hi HO.out⟩
set_option maxHeartbeats 1600000 in
theorem hear_bad {base b : Nat} {ly : Lay} {S : NetV} (w : World) (h : IsNet w base b ly S) (i : Int) (hi : GG.ok S.n i = false) (t : Int) (v : Value) : Calls Try.prog 23 #[.pointer (some ⟨b, 0, none⟩), .int .i64 i, .int .i64 t, v] w fun e w' => e = .returned (.int .i64 2) ∧ w = w' := by
  have H := Lib.hid h
  clear h
  go_enter Try.func23, Try.ntmps23
  go_wp2_with (go_at_call 34; (with_reducible refine (at_bad w H.out i hi).mono ?_); rintro e w' ⟨rfl, rfl⟩)
  go_ret
  exact ⟨rfl, rfl⟩
set_option maxHeartbeats 1600000 in
theorem hear_nil (i t : Int) (v : Value) (w : World) : Calls Try.prog 23 #[.pointer none, .int .i64 i, .int .i64 t, v] w fun e w' => e = .returned (.int .i64 10) ∧ w = w' := by
  go_enter Try.func23, Try.ntmps23
  go_wp2_with (go_at_call 34; (with_reducible refine (at_nil i w).mono ?_); rintro e w' ⟨rfl, rfl⟩)
  go_ret
  exact ⟨rfl, rfl⟩
/-- what a link makes of a network -/
def NetV.link (S : NetV) (a b : Nat) (x : Int) : NetV := (({ S with c := lnc S.n S.c a b x } : NetV).upd a ((S.x a).link b x)).upd b ((S.x b).link a x)
set_option maxRecDepth 100000 in
set_option maxHeartbeats 4000000 in
theorem link_ok {base b : Nat} {ly : Lay} {S : NetV} (w : World) (h : IsNet w base b ly S) (i j : Nat) (hi : i < S.n) (hj : j < S.n) (hij : i ≠ j) (x : Int) (h0 : 0 ≤ x) (h1 : x ≤ 1000) : Calls Try.prog 31 #[.pointer (some ⟨b, 0, none⟩), .int .i64 i, .int .i64 j, .int .i64 x] w fun e w' => e = .returned (.int .i64 0) ∧ IsNet w' base b ly (S.link i j x) ∧ After base w w' := by
  have H := Lib.hid h
  have hl : lnk S.n (i : Int) (j : Int) x = 0 := by
    unfold GG.lnk
    rw [if_pos ⟨by simp [GG.ok]; omega, by simp [GG.ok]; omega, by omega⟩, if_neg (by omega)]
  have hg := GG.link_any ly.g S.n S.c i j x w h.gr
  rw [hl] at hg
  have HG := Lib.hid hg
  have i0 : (0 : Int) ≤ (i : Int) := by omega
  have j0 : (0 : Int) ≤ (j : Int) := by omega
  have i1 : (i : Int) < (S.n : Int) := by omega
  have j1 : (j : Int) < (S.n : Int) := by omega
  have hn := h.n6
  have x0 := h.c0
  have HD := Lib.hid (good_lnc (n := S.n) h.good (i : Int) (j : Int) x)
  clear h hg hl
  go_enter Try.func31, Try.ntmps31
  go_upto_region 4 with (go_at_call 47; (with_reducible refine (HG.out).mono ?_); rintro e w4 ⟨rfl, hg1, ho⟩; have H1 := Lib.hid (H.out.graph_set hg1 HD.out ho); have A1 := Lib.hid (After.of_only ho H.out.gt H.out.lo.2.1 H.out.lo.2.2.2.2); clear hg1 ho)
  have hk1 := H1.out.node i hi
  have e1 : ({ S with c := lnc S.n S.c i j x } : NetV).x i = S.x i := rfl
  rw [e1] at hk1
  have HL1 := Lib.hid (Eng.link_any (ly.nb i) (S.x i) j x w4 hk1)
  have c1 := H1.out.c1
  have cn1 := H1.out.cn hi
  clear hk1 e1
  go_upto_region 5 with (go_at_call 48; (with_reducible refine (HL1.out).mono ?_); rintro e w5 ⟨rfl, hn1, ho⟩; have H2 := Lib.hid (H1.out.node_set hi hn1 ⟨wf_link (H.out.wf i hi).1 j x, (link_same _ j x).1.trans (H.out.wf i hi).2.1, (link_same _ j x).2.1.trans (H.out.wf i hi).2.2⟩ ho); have A2 := Lib.hid (A1.out.trans (H1.out.after_node hi ho)); clear hn1 ho c1 cn1)
  have hk2 := H2.out.node j hj
  have e2 : (({ S with c := lnc S.n S.c i j x } : NetV).upd i ((S.x i).link j x)).x j = S.x j := by
    show (if j = i then _ else S.x j) = S.x j
    rw [if_neg (fun e => hij e.symm)]
  rw [e2] at hk2
  have HL2 := Lib.hid (Eng.link_any (ly.nb j) (S.x j) i x w5 hk2)
  have c1 := H2.out.c1
  have cn1 := H2.out.cn hj
  clear hk2 e2
  go_wp2_with (go_at_call 48; (with_reducible refine (HL2.out).mono ?_); rintro e w6 ⟨rfl, hn1, ho⟩; have H3 := Lib.hid (H2.out.node_set hj hn1 ⟨wf_link (H.out.wf j hj).1 i x, (link_same _ i x).1.trans (H.out.wf j hj).2.1, (link_same _ i x).2.1.trans (H.out.wf j hj).2.2⟩ ho); have A3 := Lib.hid (A2.out.trans (H2.out.after_node hj ho)); clear hn1 ho c1 cn1)
  go_ret
  exact ⟨rfl, H3.out, A3.out⟩
set_option maxHeartbeats 1600000 in
theorem link_bad {base b : Nat} {ly : Lay} {S : NetV} (w : World) (h : IsNet w base b ly S) (i j x : Int) (hl : lnk S.n i j x ≠ 0) : Calls Try.prog 31 #[.pointer (some ⟨b, 0, none⟩), .int .i64 i, .int .i64 j, .int .i64 x] w fun e w' => e = .returned (.int .i64 (lnk S.n i j x)) ∧ w = w' := by
  have hg := GG.link_bad ly.g S.n S.c i j x w h.gr hl
  have x0 := h.c0
  generalize lnk S.n i j x = u at hg hl
  have hu : (u == 0) = false := by simpa using hl
  have HG := Lib.hid hg
  clear h hg hl
  go_enter Try.func31, Try.ntmps31
  go_wp2_with (go_at_call 47; (with_reducible refine (HG.out).mono ?_); rintro e w4 ⟨rfl, rfl⟩)
  go_ret
  exact ⟨rfl, rfl⟩
end Net
end Go.Proofs.Ytebkpjefdaieaaa
