/-
  Package network: New, Next, Metrics, Far. Conditions: those that each theorem names.
-/
import Derived.Test.YtebkpjefdaieaaaNet3
namespace Go.Proofs.Ytebkpjefdaieaaa
open Go.RowKit FR FP H2 OW
set_option linter.unusedVariables false
set_option linter.unusedSimpArgs false
namespace Net
open Eng GG
def ints (F : Nat → Int) (k : Nat) : List Value := (List.range k).map fun i => Value.int .i64 (F i)
theorem ints_succ (F : Nat → Int) (k : Nat) : ints F (k + 1) = ints F k ++ [.int .i64 (F k)] := by simp [ints, List.range_succ]
theorem ints_len (F : Nat → Int) (k : Nat) : (ints F k).length = k := by simp [ints]
theorem own_row {w : World} {base n : Nat} {v : Value} {F : Nat → Int} (h : w.ownsRow base 3 1 v n (ints F n)) : ∃ A c, v = .slice A n c ∧ Ints w A n F ∧ (∀ g o, A = some ⟨g, o, none⟩ → base ≤ g ∧ g < w.heap.size) := by
  rcases h.2 with ⟨rfl, rfl⟩ | ⟨g, cap, cur, rfl, hb, hh, hn, hm, hs, ht⟩
  · exact ⟨none, 0, rfl, fun i hi => by omega, fun g o e => by cases e⟩
  · refine ⟨some ⟨g, 0, none⟩, cap, rfl, fun i hi => ⟨g, 0, rfl, blk_lt hh, ?_⟩, fun g' o e => by cases e; exact ⟨hb, blk_lt hh⟩⟩
    rw [blk_cell hh]
    have e : (ints F n)[i]? = some (.int .i64 (F i)) := by simp [ints, hi]
    rw [← ht] at e
    simp only [Nat.zero_add]
    rw [← Array.getElem?_toList]
    rw [List.getElem?_take] at e
    split at e
    · exact e
    · cases e
set_option maxRecDepth 100000 in
set_option maxHeartbeats 8000000 in
theorem next_ok {base b : Nat} {ly : Lay} {S : NetV} (w : World) (h : IsNet w base b ly S) (d : Nat) (hd : d < S.n) : Calls Try.prog 19 #[.pointer (some ⟨b, 0, none⟩), .int .i64 d] w fun e w' => (∃ v, e = .returned v ∧ w'.ownsRow w.heap.size 3 1 v S.n (ints (fun i => ((S.x i).route d).1) S.n)) ∧ Below w.heap.size w w' := by
  obtain ⟨i0, hi, hz0, hz1, hz2⟩ := info_parts infoI
  have HI := Lib.hid hi
  have H := Lib.hid h
  have hn6 := h.n6
  have c1 := h.c1
  have d0 : (0 : Int) ≤ (d : Int) := by omega
  clear h hi
  go_enter Try.func19, Try.ntmps19
  go_upto_region 5 with (go_at_call 34; (with_reducible refine (at_ok w H.out d hd).mono ?_); rintro e w' ⟨rfl, rfl⟩)
  go_loopw [4, 25] (fun s4 s25 wr => ∃ (k : Nat) (sv : Value), k ≤ S.n ∧ s25 = .int .i64 k ∧ sv = s4 ∧ wr.ownsRow w.heap.size 3 1 sv k (ints (fun i => ((S.x i).route d).1) k) ∧ Below w.heap.size w wr) (fun _ s25 _ => S.n - (intOf s25).toNat)
  case atStart => exact ⟨0, _, by omega, rfl, rfl, by show w.ownsRow w.heap.size 3 1 (.slice none 0 0) 0 []; exact World.ownsRow_nil _ _ _ _, Below.refl _ _⟩
  case round =>
    obtain ⟨k, sv, hk, rfl, rfl, ho, hb⟩ := hrel
    have HO := Lib.hid ho
    have HB := Lib.hid hb
    clear ho hb
    by_cases hlt : k < S.n
    · have hlt' : (k : Int) < (S.n : Int) := by omega
      have k0 : (0 : Int) ≤ (k : Int) := by omega
      have hnet := H.out.below HB.out
      have cn := hnet.cn hlt
      have HRT := Lib.hid (route_any (ly.nb k) (S.x k) d wr (hnet.node k hlt) (H.out.wf k hlt).1)
      clear hnet
      go_upto_region 8 with (go_at_call 39; (with_reducible refine (HRT.out).mono ?_); rintro e w4 ⟨rfl, q4, rfl⟩; have HO1 := Lib.hid (own_drewN HO.out q4); have HB1 := Lib.hid (HB.out.trans (((Only.refl (fun _ => False) wr).drewN q4).below HB.out.size (fun _ _ e => e))))
      generalize wr.drewN q4 = W at HO1 HB1 ⊢
      generalize hF : ((S.x k).route d).1 = z
      have HS := Lib.hid (show ints (fun i => ((S.x i).route d).1) (k + 1) = ints (fun i => ((S.x i).route d).1) k ++ [.int .i64 z] by rw [ints_succ, ← hF])
      clear hF
      go_wp2_with (at_builtin; refine wpList_append_lies _ rfl (.tmp 36) (.tmp 38) 35 rfl w.heap.size 3 i0 _ 1 8 Try.underlying35 HI.out hz0 hz1 hz2 rfl (by omega) sv k _ rfl (HO1.out.alloc _) ⟨W.heap.size, 0, none⟩ 1 1 [.int .i64 z] rfl rfl (cell_one_new _ _ _) (by simp [Value.oneCell']) (by omega) (by unfold maxLen; omega) (by omega) (by have := HB1.out.size; simp; omega) (W.heap.size + 1) (by simp) ?_; intro g2 cap2 w8 hown1 hgrow1 hat1 hlt1; have HO2 := Lib.hid hown1; have HB2 := Lib.hid (OW.app_below HB1.out HO1.out hgrow1); clear hown1 hgrow1 hat1 hlt1)
      go_roundw
      case rel => exact ⟨k + 1, _, by omega, by go_num, rfl, by rw [HS.out]; exact HO2.out, HB2.out⟩
      case measure => simp [intOf]; omega
    · obtain rfl : k = S.n := by omega
      go_wp2
      go_ret
      exact ⟨⟨_, rfl, HO.out⟩, HB.out⟩
set_option maxHeartbeats 1600000 in
theorem next_bad {base b : Nat} {ly : Lay} {S : NetV} (w : World) (h : IsNet w base b ly S) (d : Int) (hd : GG.ok S.n d = false) : Calls Try.prog 19 #[.pointer (some ⟨b, 0, none⟩), .int .i64 d] w fun e w' => e = .returned (.slice none 0 0) ∧ w = w' := by
  have H := Lib.hid h
  clear h
  go_enter Try.func19, Try.ntmps19
  go_wp2_with (go_at_call 34; (with_reducible refine (at_bad w H.out d hd).mono ?_); rintro e w' ⟨rfl, rfl⟩)
  go_ret
  exact ⟨rfl, rfl⟩
set_option maxHeartbeats 1600000 in
theorem next_nil (d : Int) (w : World) : Calls Try.prog 19 #[.pointer none, .int .i64 d] w fun e w' => e = .returned (.slice none 0 0) ∧ w = w' := by
  go_enter Try.func19, Try.ntmps19
  go_wp2_with (go_at_call 34; (with_reducible refine (at_nil d w).mono ?_); rintro e w' ⟨rfl, rfl⟩)
  go_ret
  exact ⟨rfl, rfl⟩
set_option maxRecDepth 100000 in
set_option maxHeartbeats 8000000 in
theorem metrics_ok {base b : Nat} {ly : Lay} {S : NetV} (w : World) (h : IsNet w base b ly S) (d : Nat) (hd : d < S.n) : Calls Try.prog 17 #[.pointer (some ⟨b, 0, none⟩), .int .i64 d] w fun e w' => (∃ v, e = .returned v ∧ w'.ownsRow w.heap.size 3 1 v S.n (ints (fun i => ((S.x i).route d).2.1.1) S.n)) ∧ Below w.heap.size w w' := by
  obtain ⟨i0, hi, hz0, hz1, hz2⟩ := info_parts infoI
  have HI := Lib.hid hi
  have H := Lib.hid h
  have hn6 := h.n6
  have c1 := h.c1
  have d0 : (0 : Int) ≤ (d : Int) := by omega
  clear h hi
  go_enter Try.func17, Try.ntmps17
  go_upto_region 5 with (go_at_call 34; (with_reducible refine (at_ok w H.out d hd).mono ?_); rintro e w' ⟨rfl, rfl⟩)
  go_loopw [4, 25] (fun s4 s25 wr => ∃ (k : Nat) (sv : Value), k ≤ S.n ∧ s25 = .int .i64 k ∧ sv = s4 ∧ wr.ownsRow w.heap.size 3 1 sv k (ints (fun i => ((S.x i).route d).2.1.1) k) ∧ Below w.heap.size w wr) (fun _ s25 _ => S.n - (intOf s25).toNat)
  case atStart => exact ⟨0, _, by omega, rfl, rfl, by show w.ownsRow w.heap.size 3 1 (.slice none 0 0) 0 []; exact World.ownsRow_nil _ _ _ _, Below.refl _ _⟩
  case round =>
    obtain ⟨k, sv, hk, rfl, rfl, ho, hb⟩ := hrel
    have HO := Lib.hid ho
    have HB := Lib.hid hb
    clear ho hb
    by_cases hlt : k < S.n
    · have hlt' : (k : Int) < (S.n : Int) := by omega
      have k0 : (0 : Int) ≤ (k : Int) := by omega
      have hnet := H.out.below HB.out
      have cn := hnet.cn hlt
      have HRT := Lib.hid (route_any (ly.nb k) (S.x k) d wr (hnet.node k hlt) (H.out.wf k hlt).1)
      obtain ⟨⟨hm0, hm1⟩, hsq⟩ := route_range (S.x k) (H.out.wf k hlt).1 d
      clear hnet
      go_upto_region 8 with (go_at_call 39; (with_reducible refine (HRT.out).mono ?_); rintro e w4 ⟨rfl, q4, rfl⟩; have HO1 := Lib.hid (own_drewN HO.out q4); have HB1 := Lib.hid (HB.out.trans (((Only.refl (fun _ => False) wr).drewN q4).below HB.out.size (fun _ _ e => e))))
      generalize wr.drewN q4 = W at HO1 HB1 ⊢
      have HS0 := Lib.hid (ints_succ (fun i => ((S.x i).route d).2.1.1) k)
      obtain ⟨⟨z, zs⟩, hF⟩ : ∃ z, ((S.x k).route d).2.1 = z := ⟨_, rfl⟩
      have HS := Lib.hid (show ints (fun i => ((S.x i).route d).2.1.1) (k + 1) = ints (fun i => ((S.x i).route d).2.1.1) k ++ [.int .i64 z] by rw [HS0.out, hF])
      rw [hF] at hm0 hm1 hsq ⊢
      dsimp only at hm0 hm1 hsq ⊢
      have hsm : Sm z := ⟨hm0, by omega⟩
      clear hF HS0
      go_wp2_with (first
        | (go_at_call 40; (with_reducible refine (Feas.metric_any z zs hsm _).mono ?_); rintro e w5 ⟨rfl, rfl⟩)
        | (at_builtin; refine wpList_append_lies _ rfl (.tmp 36) (.tmp 39) 35 rfl w.heap.size 3 i0 _ 1 8 Try.underlying35 HI.out hz0 hz1 hz2 rfl (by omega) sv k _ rfl (HO1.out.alloc _) ⟨W.heap.size, 0, none⟩ 1 1 [.int .i64 z] rfl rfl (cell_one_new _ _ _) (by simp [Value.oneCell']) (by omega) (by unfold maxLen; omega) (by omega) (by have := HB1.out.size; simp; omega) (W.heap.size + 1) (by simp) ?_; intro g2 cap2 w8 hown1 hgrow1 hat1 hlt1; have HO2 := Lib.hid hown1; have HB2 := Lib.hid (OW.app_below HB1.out HO1.out hgrow1); clear hown1 hgrow1 hat1 hlt1))
      go_roundw
      case rel => exact ⟨k + 1, _, by omega, by go_num, rfl, by rw [HS.out]; exact HO2.out, HB2.out⟩
      case measure => simp [intOf]; omega
    · obtain rfl : k = S.n := by omega
      go_wp2
      go_ret
      exact ⟨⟨_, rfl, HO.out⟩, HB.out⟩
set_option maxHeartbeats 1600000 in
theorem metrics_bad {base b : Nat} {ly : Lay} {S : NetV} (w : World) (h : IsNet w base b ly S) (d : Int) (hd : GG.ok S.n d = false) : Calls Try.prog 17 #[.pointer (some ⟨b, 0, none⟩), .int .i64 d] w fun e w' => e = .returned (.slice none 0 0) ∧ w = w' := by
  have H := Lib.hid h
  clear h
  go_enter Try.func17, Try.ntmps17
  go_wp2_with (go_at_call 34; (with_reducible refine (at_bad w H.out d hd).mono ?_); rintro e w' ⟨rfl, rfl⟩)
  go_ret
  exact ⟨rfl, rfl⟩
set_option maxHeartbeats 1600000 in
theorem metrics_nil (d : Int) (w : World) : Calls Try.prog 17 #[.pointer none, .int .i64 d] w fun e w' => e = .returned (.slice none 0 0) ∧ w = w' := by
  go_enter Try.func17, Try.ntmps17
  go_wp2_with (go_at_call 34; (with_reducible refine (at_nil d w).mono ?_); rintro e w' ⟨rfl, rfl⟩)
  go_ret
  exact ⟨rfl, rfl⟩
set_option maxHeartbeats 1600000 in
theorem far_any {base b : Nat} {ly : Lay} {S : NetV} (w : World) (h : IsNet w base b ly S) (d : Nat) (hd : d < S.n) : Calls Try.prog 18 #[.pointer (some ⟨b, 0, none⟩), .int .i64 d] w fun e w' => (∃ gf F, e = .returned (.slice (some ⟨gf, 0, none⟩) S.n S.n) ∧ w.heap.size ≤ gf ∧ GG.Far w' gf S.n F ∧ GP.IsFar S.n S.c d F) ∧ Below w.heap.size w w' := by
  have x0 := h.c0
  have HF := Lib.hid (GG.far_ok ly.g S.n S.c d w h.gr hd h.good.sym h.good.low h.good.high)
  clear h
  go_enter Try.func18, Try.ntmps18
  go_wp2_with (go_at_call 41; (with_reducible refine (HF.out).mono ?_); rintro e w5 ⟨⟨gf, F, rfl, hr⟩, hb⟩; have HR := Lib.hid hr; have HB := Lib.hid hb; clear hr hb)
  go_ret
  exact ⟨⟨gf, F, rfl, HR.out⟩, HB.out⟩
set_option maxHeartbeats 1600000 in
theorem far_nil (d : Int) (w : World) : Calls Try.prog 18 #[.pointer none, .int .i64 d] w fun e w' => e = .returned (.slice none 0 0) ∧ w = w' := by
  go_enter Try.func18, Try.ntmps18
  go_wp2
  go_ret
  exact ⟨rfl, rfl⟩
end Net
end Go.Proofs.Ytebkpjefdaieaaa
