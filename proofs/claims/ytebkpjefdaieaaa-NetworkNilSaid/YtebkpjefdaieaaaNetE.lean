/-
  Package network: Do, all acts. Conditions: those that each theorem names.
-/
import Derived.Test.YtebkpjefdaieaaaNetD
namespace Go.Proofs.Ytebkpjefdaieaaa
open Go.RowKit FR FP H2 OW
set_option linter.unusedVariables false
set_option linter.unusedSimpArgs false
namespace Net
open Eng GG
set_option maxRecDepth 1000000 in
set_option maxHeartbeats 8000000 in
theorem bad_2 {base b : Nat} {ly : Lay} {S : NetV} (a c n : Int) (w : World) (h : IsNet w base b ly S) (hok : GG.ok S.n a = false) : Calls Try.prog 13 #[.pointer (some ⟨b, 0, none⟩), .agg #[.int .i64 2, .int .i64 a, .int .i64 c, .int .i64 n]] w fun e w' => ∃ x S', e = .returned (.int .i64 x) ∧ DoR S 2 a c n x S' ∧ IsNet w' base b ly S' ∧ After base w w' := by
  have HR := Lib.hid (show DoR S 2 a c n 2 S by unfold DoR; rw [if_neg (by decide), if_neg (by decide), if_pos (by decide), hok]; exact ⟨rfl, rfl⟩)
  have HL := Lib.hid (fun (w1 : World) (hn : IsNet w1 base b ly S) => at_bad w1 hn a hok)
  clear hok
  have D := doF w b 2 a c n
  have H := Lib.hid (h.below D.bel)
  have A0 := Lib.hid (h.after_below D.bel)
  have HX := Lib.hid D
  clear h D
  go_enter Try.func13, Try.ntmps13
  go_upto_region 18 with fail
  change Code.wp _ _ _ _ (doW w b 2 a c n)
  generalize doW w b 2 a c n = W at H A0 HX ⊢
  have x0 := HX.out.box.cell
  have a0 := HX.out.a0
  have a1 := HX.out.a1
  have a2 := HX.out.a2
  have a3 := HX.out.a3
  go_wp2_with (go_at_call 34; (with_reducible refine (HL.out W H.out).mono ?_); rintro e w5 ⟨rfl, rfl⟩)
  go_ret
  exact ⟨_, _, rfl, HR.out, H.out, A0.out⟩
set_option maxRecDepth 1000000 in
set_option maxHeartbeats 8000000 in
theorem bad_6 {base b : Nat} {ly : Lay} {S : NetV} (a c n : Int) (w : World) (h : IsNet w base b ly S) (hok : GG.ok S.n a = false) : Calls Try.prog 13 #[.pointer (some ⟨b, 0, none⟩), .agg #[.int .i64 6, .int .i64 a, .int .i64 c, .int .i64 n]] w fun e w' => ∃ x S', e = .returned (.int .i64 x) ∧ DoR S 6 a c n x S' ∧ IsNet w' base b ly S' ∧ After base w w' := by
  have HR := Lib.hid (show DoR S 6 a c n 2 S by unfold DoR; rw [if_neg (by decide), if_neg (by decide), if_pos (by decide), hok]; exact ⟨rfl, rfl⟩)
  have HL := Lib.hid (fun (w1 : World) (hn : IsNet w1 base b ly S) => at_bad w1 hn a hok)
  clear hok
  have D := doF w b 6 a c n
  have H := Lib.hid (h.below D.bel)
  have A0 := Lib.hid (h.after_below D.bel)
  have HX := Lib.hid D
  clear h D
  go_enter Try.func13, Try.ntmps13
  go_upto_region 18 with fail
  change Code.wp _ _ _ _ (doW w b 6 a c n)
  generalize doW w b 6 a c n = W at H A0 HX ⊢
  have x0 := HX.out.box.cell
  have a0 := HX.out.a0
  have a1 := HX.out.a1
  have a2 := HX.out.a2
  have a3 := HX.out.a3
  go_wp2_with (go_at_call 34; (with_reducible refine (HL.out W H.out).mono ?_); rintro e w5 ⟨rfl, rfl⟩)
  go_ret
  exact ⟨_, _, rfl, HR.out, H.out, A0.out⟩
set_option maxRecDepth 1000000 in
set_option maxHeartbeats 8000000 in
theorem bad_7 {base b : Nat} {ly : Lay} {S : NetV} (a c n : Int) (w : World) (h : IsNet w base b ly S) (hok : GG.ok S.n a = false) : Calls Try.prog 13 #[.pointer (some ⟨b, 0, none⟩), .agg #[.int .i64 7, .int .i64 a, .int .i64 c, .int .i64 n]] w fun e w' => ∃ x S', e = .returned (.int .i64 x) ∧ DoR S 7 a c n x S' ∧ IsNet w' base b ly S' ∧ After base w w' := by
  have HR := Lib.hid (show DoR S 7 a c n 2 S by unfold DoR; rw [if_neg (by decide), if_neg (by decide), if_pos (by decide), hok]; exact ⟨rfl, rfl⟩)
  have HL := Lib.hid (fun (w1 : World) (hn : IsNet w1 base b ly S) => at_bad w1 hn a hok)
  clear hok
  have D := doF w b 7 a c n
  have H := Lib.hid (h.below D.bel)
  have A0 := Lib.hid (h.after_below D.bel)
  have HX := Lib.hid D
  clear h D
  go_enter Try.func13, Try.ntmps13
  go_upto_region 18 with fail
  change Code.wp _ _ _ _ (doW w b 7 a c n)
  generalize doW w b 7 a c n = W at H A0 HX ⊢
  have x0 := HX.out.box.cell
  have a0 := HX.out.a0
  have a1 := HX.out.a1
  have a2 := HX.out.a2
  have a3 := HX.out.a3
  go_wp2_with (go_at_call 34; (with_reducible refine (HL.out W H.out).mono ?_); rintro e w5 ⟨rfl, rfl⟩)
  go_ret
  exact ⟨_, _, rfl, HR.out, H.out, A0.out⟩
set_option maxRecDepth 1000000 in
set_option maxHeartbeats 8000000 in
theorem do_tick {base b : Nat} {ly : Lay} {S : NetV} (i : Nat) (c n : Int) (w : World) (h : IsNet w base b ly S) (hm : S.m.length ≤ 300) (hi : i < S.n) : Calls Try.prog 13 #[.pointer (some ⟨b, 0, none⟩), .agg #[.int .i64 2, .int .i64 i, .int .i64 c, .int .i64 n]] w fun e w' => ∃ x S', e = .returned (.int .i64 x) ∧ DoR S 2 i c n x S' ∧ IsNet w' base b ly S' ∧ After base w w' := by
  have hok : GG.ok S.n (i : Int) = true := by simp [GG.ok]; omega
  have hbn := h.n6
  by_cases hbig : 300 < S.m.length + (nbl S.c i S.n).length
  · have HR := Lib.hid (show DoR S 2 i c n 7 S by unfold DoR; rw [if_neg (by decide), if_neg (by decide), if_pos (by decide), hok, if_pos rfl, if_pos rfl]; simp only [Int.toNat_natCast]; rw [if_pos hbig]; simp)
    have HT := Lib.hid (fun (w1 : World) (hn : IsNet w1 base b ly S) => tick_full w1 hn hm i hi hbig)
    have HA := Lib.hid (fun (w1 : World) (hn : IsNet w1 base b ly S) => at_ok w1 hn i hi)
    clear hok hbig hm
    have D := doF w b 2 i c n
    have H := Lib.hid (h.below D.bel)
    have A0 := Lib.hid (h.after_below D.bel)
    have HX := Lib.hid D
    clear h D
    go_enter Try.func13, Try.ntmps13
    go_upto_region 18 with fail
    change Code.wp _ _ _ _ (doW w b 2 i c n)
    generalize doW w b 2 i c n = W at H A0 HX ⊢
    have x0 := HX.out.box.cell
    have a0 := HX.out.a0
    have a1 := HX.out.a1
    have a2 := HX.out.a2
    have a3 := HX.out.a3
    go_wp2_with (first
      | (go_at_call 34; (with_reducible refine (HA.out W H.out).mono ?_); rintro e w5 ⟨rfl, rfl⟩)
      | (go_at_call 35; (with_reducible refine (HT.out W H.out).mono ?_); rintro e w6 ⟨rfl, hn5, ha5⟩; have N5 := Lib.hid hn5; have A5 := Lib.hid ha5; clear hn5 ha5))
    go_ret
    exact ⟨_, _, rfl, HR.out, N5.out, A0.out.trans A5.out⟩
  · have HR := Lib.hid (fun ms (hms : IsMsgs (S.x i) i (nbl S.c i S.n) ms) => (show DoR S 2 i c n 0 (S.ticked i (nbl S.c i S.n) ms) by unfold DoR; rw [if_neg (by decide), if_neg (by decide), if_pos (by decide), hok, if_pos rfl, if_pos rfl]; simp only [Int.toNat_natCast]; rw [if_neg hbig]; exact ⟨trivial, ms, hms, rfl⟩))
    have HT := Lib.hid (fun (w1 : World) (hn : IsNet w1 base b ly S) => tick_ok w1 hn hm i hi hbig)
    have HA := Lib.hid (fun (w1 : World) (hn : IsNet w1 base b ly S) => at_ok w1 hn i hi)
    clear hok hbig hm
    have D := doF w b 2 i c n
    have H := Lib.hid (h.below D.bel)
    have A0 := Lib.hid (h.after_below D.bel)
    have HX := Lib.hid D
    clear h D
    go_enter Try.func13, Try.ntmps13
    go_upto_region 18 with fail
    change Code.wp _ _ _ _ (doW w b 2 i c n)
    generalize doW w b 2 i c n = W at H A0 HX ⊢
    have x0 := HX.out.box.cell
    have a0 := HX.out.a0
    have a1 := HX.out.a1
    have a2 := HX.out.a2
    have a3 := HX.out.a3
    go_wp2_with (first
      | (go_at_call 34; (with_reducible refine (HA.out W H.out).mono ?_); rintro e w5 ⟨rfl, rfl⟩)
      | (go_at_call 35; (with_reducible refine (HT.out W H.out).mono ?_); rintro e w6 ⟨⟨rfl, ms, hms, hn5⟩, ha5⟩; have N5 := Lib.hid hn5; have A5 := Lib.hid ha5; have MS := Lib.hid hms; clear hn5 ha5 hms))
    go_ret
    exact ⟨_, _, rfl, HR.out ms MS.out, N5.out, A0.out.trans A5.out⟩
set_option maxRecDepth 1000000 in
set_option maxHeartbeats 8000000 in
theorem do_fresh {base b : Nat} {ly : Lay} {S : NetV} (i : Nat) (c n : Int) (w : World) (h : IsNet w base b ly S) (hi : i < S.n) : Calls Try.prog 13 #[.pointer (some ⟨b, 0, none⟩), .agg #[.int .i64 6, .int .i64 i, .int .i64 c, .int .i64 n]] w fun e w' => ∃ x S', e = .returned (.int .i64 x) ∧ DoR S 6 i c n x S' ∧ IsNet w' base b ly S' ∧ After base w w' := by
  have hok : GG.ok S.n (i : Int) = true := by simp [GG.ok]; omega
  have hbn := h.n6
  have HR := Lib.hid (show DoR S 6 i c n (freshv (S.x i)) (S.upd i (Net.fresh (S.x i))) by unfold DoR; rw [if_neg (by decide), if_neg (by decide), if_pos (by decide), hok, if_pos rfl, if_neg (by decide), if_pos rfl]; exact ⟨rfl, rfl⟩)
  have HT := Lib.hid (fun (w1 : World) (hn : IsNet w1 base b ly S) => fresh_all (ly.nb i) (S.x i) w1 (hn.node i hi) (hn.wf i hi).1)
  have HA := Lib.hid (fun (w1 : World) (hn : IsNet w1 base b ly S) => at_ok w1 hn i hi)
  clear hok
  have D := doF w b 6 i c n
  have H := Lib.hid (h.below D.bel)
  have A0 := Lib.hid (h.after_below D.bel)
  have HX := Lib.hid D
  clear h D
  go_enter Try.func13, Try.ntmps13
  go_upto_region 18 with fail
  change Code.wp _ _ _ _ (doW w b 6 i c n)
  generalize doW w b 6 i c n = W at H A0 HX ⊢
  have x0 := HX.out.box.cell
  have a0 := HX.out.a0
  have a1 := HX.out.a1
  have a2 := HX.out.a2
  have a3 := HX.out.a3
  go_wp2_with (first
    | (go_at_call 34; (with_reducible refine (HA.out W H.out).mono ?_); rintro e w5 ⟨rfl, rfl⟩)
    | (go_at_call 36; (with_reducible refine (HT.out W H.out).mono ?_); rintro e w6 ⟨rfl, hn5, hw5, ho5⟩; have N5 := Lib.hid (H.out.node_set hi hn5 ⟨hw5, (fresh_same _).1.trans (H.out.wf i hi).2.1, (fresh_same _).2.1.trans (H.out.wf i hi).2.2⟩ ho5); have A5 := Lib.hid (H.out.after_node hi ho5); clear hn5 hw5 ho5))
  go_ret
  exact ⟨_, _, rfl, HR.out, N5.out, A0.out.trans A5.out⟩
set_option maxRecDepth 1000000 in
set_option maxHeartbeats 8000000 in
theorem do_restart {base b : Nat} {ly : Lay} {S : NetV} (i : Nat) (c n : Int) (w : World) (h : IsNet w base b ly S) (hi : i < S.n) : Calls Try.prog 13 #[.pointer (some ⟨b, 0, none⟩), .agg #[.int .i64 7, .int .i64 i, .int .i64 c, .int .i64 n]] w fun e w' => ∃ x S', e = .returned (.int .i64 x) ∧ DoR S 7 i c n x S' ∧ IsNet w' base b ly S' ∧ After base w w' := by
  have hok : GG.ok S.n (i : Int) = true := by simp [GG.ok]; omega
  have hbn := h.n6
  have HR := Lib.hid (show DoR S 7 i c n 0 (S.upd i (S.x i).clear) by unfold DoR; rw [if_neg (by decide), if_neg (by decide), if_pos (by decide), hok, if_pos rfl, if_neg (by decide), if_neg (by decide)]; exact ⟨rfl, rfl⟩)
  have HT := Lib.hid (fun (w1 : World) (hn : IsNet w1 base b ly S) => restart_any (ly.nb i) (S.x i) w1 (hn.node i hi))
  have HA := Lib.hid (fun (w1 : World) (hn : IsNet w1 base b ly S) => at_ok w1 hn i hi)
  clear hok
  have D := doF w b 7 i c n
  have H := Lib.hid (h.below D.bel)
  have A0 := Lib.hid (h.after_below D.bel)
  have HX := Lib.hid D
  clear h D
  go_enter Try.func13, Try.ntmps13
  go_upto_region 18 with fail
  change Code.wp _ _ _ _ (doW w b 7 i c n)
  generalize doW w b 7 i c n = W at H A0 HX ⊢
  have x0 := HX.out.box.cell
  have a0 := HX.out.a0
  have a1 := HX.out.a1
  have a2 := HX.out.a2
  have a3 := HX.out.a3
  go_wp2_with (first
    | (go_at_call 34; (with_reducible refine (HA.out W H.out).mono ?_); rintro e w5 ⟨rfl, rfl⟩)
    | (go_at_call 37; (with_reducible refine (HT.out W H.out).mono ?_); rintro e w6 ⟨rfl, hn5, ho5⟩; have N5 := Lib.hid (H.out.node_set hi hn5 ⟨wf_clear (H.out.wf i hi).1, (H.out.wf i hi).2.1, (H.out.wf i hi).2.2⟩ ho5); have A5 := Lib.hid (H.out.after_node hi ho5); clear hn5 ho5))
  go_ret
  exact ⟨_, _, rfl, HR.out, N5.out, A0.out.trans A5.out⟩
set_option maxRecDepth 1000000 in
set_option maxHeartbeats 8000000 in
theorem do_other {base b : Nat} {ly : Lay} {S : NetV} (k a c n : Int) (w : World) (h : IsNet w base b ly S) (h1 : k ≠ 1) (h2 : k ≠ 2) (h3 : k ≠ 3) (h4 : k ≠ 4) (h5 : k ≠ 5) (h6 : k ≠ 6) (h7 : k ≠ 7) : Calls Try.prog 13 #[.pointer (some ⟨b, 0, none⟩), .agg #[.int .i64 k, .int .i64 a, .int .i64 c, .int .i64 n]] w fun e w' => ∃ x S', e = .returned (.int .i64 x) ∧ DoR S k a c n x S' ∧ IsNet w' base b ly S' ∧ After base w w' := by
  have HR := Lib.hid (show DoR S k a c n 1 S by unfold DoR; rw [if_neg h1, if_neg (by omega), if_neg (by omega)]; exact ⟨rfl, rfl⟩)
  have b1 : (k == 1) = false := by simpa using h1
  have b2 : (k == 2) = false := by simpa using h2
  have b3 : (k == 3) = false := by simpa using h3
  have b4 : (k == 4) = false := by simpa using h4
  have b5 : (k == 5) = false := by simpa using h5
  have b6 : (k == 6) = false := by simpa using h6
  have b7 : (k == 7) = false := by simpa using h7
  clear h1 h2 h3 h4 h5 h6 h7
  have D := doF w b k a c n
  have H := Lib.hid (h.below D.bel)
  have A0 := Lib.hid (h.after_below D.bel)
  have HX := Lib.hid D
  clear h D
  go_enter Try.func13, Try.ntmps13
  go_upto_region 6 with fail
  change Code.wp _ _ _ _ (doW w b k a c n)
  generalize doW w b k a c n = W at H A0 HX ⊢
  have x0 := HX.out.box.cell
  have a0 := HX.out.a0
  have a1 := HX.out.a1
  have a2 := HX.out.a2
  have a3 := HX.out.a3
  go_wp2
  go_ret
  exact ⟨_, _, rfl, HR.out, H.out, A0.out⟩
theorem do_any {base b : Nat} {ly : Lay} {S : NetV} (k a c n : Int) (w : World) (h : IsNet w base b ly S) (hm : S.m.length ≤ 300) : Calls Try.prog 13 #[.pointer (some ⟨b, 0, none⟩), .agg #[.int .i64 k, .int .i64 a, .int .i64 c, .int .i64 n]] w fun e w' => ∃ x S', e = .returned (.int .i64 x) ∧ DoR S k a c n x S' ∧ IsNet w' base b ly S' ∧ After base w w' := by
  by_cases h1 : k = 1
  · subst h1; exact do_link a c n w h
  by_cases h3 : k = 3
  · subst h3; exact do_bring a c n w h hm
  by_cases h4 : k = 4
  · subst h4; exact do_lose a c n w h hm
  by_cases h5 : k = 5
  · subst h5; exact do_again a c n w h hm
  by_cases h2 : k = 2
  · subst h2
    cases hok : GG.ok S.n a
    · exact bad_2 a c n w h hok
    · obtain ⟨i, rfl, hi⟩ := ok_nat hok
      exact do_tick i c n w h hm hi
  by_cases h6 : k = 6
  · subst h6
    cases hok : GG.ok S.n a
    · exact bad_6 a c n w h hok
    · obtain ⟨i, rfl, hi⟩ := ok_nat hok
      exact do_fresh i c n w h hi
  by_cases h7 : k = 7
  · subst h7
    cases hok : GG.ok S.n a
    · exact bad_7 a c n w h hok
    · obtain ⟨i, rfl, hi⟩ := ok_nat hok
      exact do_restart i c n w h hi
  exact do_other k a c n w h h1 h2 h3 h4 h5 h6 h7
set_option maxRecDepth 1000000 in
set_option maxHeartbeats 8000000 in
theorem do_nil (k a c n : Int) (w : World) : Calls Try.prog 13 #[.pointer none, .agg #[.int .i64 k, .int .i64 a, .int .i64 c, .int .i64 n]] w fun e w' => e = .returned (.int .i64 10) ∧ Below w.heap.size w w' := by
  go_enter Try.func13, Try.ntmps13
  go_wp2
  go_ret
  exact ⟨rfl, ((Below.refl _ _).alloc (Nat.le_refl _) _).alloc (by simp) _⟩
end Net
end Go.Proofs.Ytebkpjefdaieaaa
