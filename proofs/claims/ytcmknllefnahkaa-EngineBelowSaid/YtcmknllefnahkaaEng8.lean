/-
  Package engine: Tell. Conditions: those that each theorem names.
-/
import Derived.Test.YtcmknllefnahkaaEng7
import Derived.Test.YtcmknllefnahkaaOwn
import Derived.ProofKit
namespace Go.Proofs.Ytcmknllefnahkaa
open Go.RowKit FR FP H2 OW
set_option linter.unusedVariables false
set_option linter.unusedSimpArgs false
namespace Eng
open Feas
attribute [local go_sem] st_dv
/-- is goal d hidden from t? -/
def St.hid (s : St) (t : Int) (d : Nat) : Bool := !(s.route d).2.2 || ((s.route d).1 == t)
/-- what t is told of goal d -/
def St.offer (s : St) (t : Int) (d : Nat) : Int × Int × Int := if s.hid t d = true then ((d : Int), 65535, 0) else ((d : Int), (s.route d).2.1.1, (s.route d).2.1.2)
/-- is what is told of d the best that was ever told? -/
def St.best (s : St) (t : Int) (d : Nat) : Bool := !s.hid t d && !((d : Int) == (s.id : Int)) && (decide (65535 ≤ (s.told d).1) || bet (s.route d).2.1.1 (s.route d).2.1.2 (s.told d).1 (s.told d).2)
def St.tells (s : St) (t : Int) (k : Nat) : St := { s with told := fun d => if d < k ∧ s.best t d = true then (s.route d).2.1 else s.told d }
def cellsO (f : Nat → Int × Int × Int) (k : Nat) : List Value := (List.range k).flatMap fun i => [.int .i64 (f i).1, .int .i64 (f i).2.1, .int .u32 (f i).2.2]
theorem cellsO_succ (f : Nat → Int × Int × Int) (k : Nat) : cellsO f (k + 1) = cellsO f k ++ [.int .i64 (f k).1, .int .i64 (f k).2.1, .int .u32 (f k).2.2] := by simp [cellsO, List.range_succ]
theorem route_tells (s : St) (t : Int) (k d : Nat) (h : k ≤ d) : (s.tells t k).route d = s.route d := by
  have e : (s.tells t k).told d = s.told d := by unfold St.tells; dsimp only; rw [if_neg (by omega)]
  unfold St.route St.pick
  simp only [Int.toNat_natCast, e]
  rfl
theorem route_range (s : St) (hw : Wf s) (d : Nat) : (0 ≤ (s.route d).2.1.1 ∧ (s.route d).2.1.1 ≤ 65535) ∧ Sm (s.route d).2.1.2 := by
  unfold St.route
  split
  · exact ⟨⟨by decide, by decide⟩, ⟨by decide, by decide⟩⟩
  split
  · exact ⟨⟨Int.le_refl _, by show (0 : Int) ≤ 65535; decide⟩, hw.seq⟩
  split
  · exact ⟨⟨by decide, by decide⟩, ⟨by decide, by decide⟩⟩
  · exact ⟨addm_range _ (hw.inn _ _).1.1, (hw.inn _ _).2⟩
theorem wf_tells (s : St) (t : Int) (k : Nat) (hw : Wf s) : Wf (s.tells t k) := ⟨hw.cost, hw.inn, fun d => by
  unfold St.tells
  dsimp only
  split
  · exact route_range s hw d
  · exact hw.told d, hw.seq⟩
theorem St.tells_val (s : St) (t : Int) (k j : Nat) : (s.tells t k).val j = if 44 ≤ j ∧ j < 50 then dp (if j - 44 < k ∧ s.best t (j - 44) = true then (s.route ((j - 44 : Nat) : Int)).2.1 else s.told (j - 44)) else s.val j := by
  by_cases e : 44 ≤ j ∧ j < 50
  · rw [if_pos e]
    unfold St.val St.tells
    rw [if_neg (by omega), if_neg (by omega), if_neg (by omega), if_neg (by omega), if_pos e.2]
  · rw [if_neg e]
    unfold St.val St.tells
    repeat' split
    all_goals first | rfl | (exfalso; omega)
theorem tells_zero (s : St) (t : Int) : s.tells t 0 = s := by
  unfold St.tells
  simp
theorem IsN.tell_no {w : World} {b : Nat} {s : St} {t : Int} {k : Nat} (h : IsN w b (s.tells t k)) (hb : s.best t k = false) : IsN w b (s.tells t (k + 1)) := by
  have e : s.tells t (k + 1) = s.tells t k := by
    unfold St.tells
    congr 1
    funext d
    by_cases hd : d = k
    · subst hd; simp [hb]
    · simp only [show d < k + 1 ↔ d < k by omega]
  rw [e]; exact h
theorem IsN.tell_yes {w : World} {b : Nat} {s : St} {t : Int} {k : Nat} (h : IsN w b (s.tells t k)) (hk : k < 6) (hb : s.best t k = true) : IsN (w.setCell ⟨b, 44 + k, none⟩ (dp (s.route k).2.1)) b (s.tells t (k + 1)) :=
  h.set (44 + k) _ (by omega) (by rw [St.tells_val, if_pos (by omega), if_pos ⟨by omega, by rw [Nat.add_sub_cancel_left]; exact hb⟩, Nat.add_sub_cancel_left]) (fun j hj hne => by
    rw [St.tells_val, St.tells_val]
    by_cases e : 44 ≤ j ∧ j < 50
    · rw [if_pos e, if_pos e]
      simp only [show (j - 44 < k + 1) = (j - 44 < k) from propext ⟨fun h => by omega, fun h => by omega⟩]
    · rw [if_neg e, if_neg e]) h.id h.n6
theorem IsN.app {w w1 : World} {b : Nat} {s : St} {v : Value} {o : Obj} (h : IsN w b s) (hne : v.ownBlock ≠ some b) (hg : (w.alloc o).grownBy w1 v.ownBlock) : IsN w1 b s := by
  obtain ⟨⟨cs, h1, h2⟩, h3, h4⟩ := h
  exact ⟨⟨cs, app_obj h1 hne hg, h2⟩, h3, h4⟩
theorem infoO : (Try.prog.info? 71).map (fun i => (i.zero, i.size, i.bytes)) = some (some (.agg #[.int .i64 0, .int .i64 0, .int .u32 0]), 3, 24) := by kernel_rfl
theorem three_cells (w : World) (x y z : Value) (t : TypeId) : ∀ j u, [x, y, z][j]? = some u → (w.alloc (.cells #[x, y, z] t (0, 0))).cell? ((⟨w.heap.size, 0, none⟩ : Addr).add j) = some u :=
  World.news_of_block (cs := #[x, y, z]) (heap_alloc_new w _)
/-- all that t is told -/
def St.told_ (s : St) (t : Int) : List Value := cellsO (s.offer t) s.n
set_option maxRecDepth 100000 in
set_option maxHeartbeats 16000000 in
theorem tell_any (b : Nat) (s : St) (t : Int) (w : World) (h : IsN w b s) (hw : Wf s) (hu : upv s t = 0) : Calls Try.prog 18 #[.pointer (some ⟨b, 0, none⟩), .int .i64 t] w fun e w' => (∃ v, e = .returned (.tuple #[v, .int .i64 0]) ∧ w'.ownsRow w.heap.size 71 3 v s.n (s.told_ t)) ∧ IsN w' b (s.tells t s.n) ∧ Only (fun i => i = b) w w' := by
  obtain ⟨i0, hi, hz0, hz1, hz2⟩ := info_parts infoO
  have HI := Lib.hid hi
  have H := Lib.hid h
  have HW := Lib.hid hw
  have hn6 := h.n6
  have hup := up_any b s t w h hw
  rw [hu] at hup
  have HUP := Lib.hid hup
  have hbw := Lib.hid (show b < w.heap.size from blk_lt h.blk.choose_spec.1)
  have hcn := h.cn
  clear hup h hw hi hu
  go_enter Try.func18, Try.ntmps18
  go_upto_region 5 with (go_at_call 42; refine (HUP.out).mono ?_; rintro e w' ⟨rfl, rfl⟩)
  go_loopw [4, 22] (fun s4 s22 wr => ∃ (k : Nat) (sv : Value), k ≤ s.n ∧ s22 = .int .i64 k ∧ sv = s4 ∧ wr.ownsRow w.heap.size 71 3 sv k (cellsO (s.offer t) k) ∧ IsN wr b (s.tells t k) ∧ Only (fun i => i = b) w wr) (fun _ s22 _ => s.n - (intOf s22).toNat)
  case atStart => exact ⟨0, _, by omega, rfl, rfl, World.ownsRow_nil _ _ _ _, by rw [tells_zero]; exact H.out, Only.refl _ _⟩
  case round =>
    obtain ⟨k, sv, hk, rfl, rfl, ho, hn, hs⟩ := hrel
    have HO0 := Lib.hid ho
    have HN0 := Lib.hid hn
    have HS0 := Lib.hid hs
    clear ho hn hs
    by_cases hlt : k < s.n
    · have hlt' : (k : Int) < (s.n : Int) := by omega
      have k0 : (0 : Int) ≤ (k : Int) := by omega
      have k6 : (k : Int) < 6 := by omega
      have hk6 : k < 6 := by omega
      have hrt := route_any b (s.tells t k) k wr HN0.out (wf_tells s t k HW.out)
      rw [route_tells s t k k (Nat.le_refl _)] at hrt
      obtain ⟨⟨hm0, hm1⟩, hsq⟩ := route_range s HW.out k
      have hof : s.offer t k = if s.hid t k = true then ((k : Int), 65535, 0) else ((k : Int), (s.route k).2.1.1, (s.route k).2.1.2) := rfl
      have hhd : s.hid t k = (!(s.route k).2.2 || ((s.route k).1 == t)) := rfl
      have hbs : s.best t k = (!s.hid t k && !((k : Int) == (s.id : Int)) && (decide (65535 ≤ (s.told k).1) || bet (s.route k).2.1.1 (s.route k).2.1.2 (s.told k).1 (s.told k).2)) := rfl
      have hty := fun (W : World) (hn : IsN W b (s.tells t k)) (hb : s.best t k = true) => hn.tell_yes hk6 hb
      obtain ⟨nx, ⟨m, q⟩, ok, hr⟩ : ∃ nx mq ok, s.route k = (nx, mq, ok) := ⟨_, _, _, rfl⟩
      rw [hr] at hrt hm0 hm1 hsq hof hhd hbs hty
      dsimp only at hrt hm0 hm1 hsq hof hhd hbs hty
      have HRT := Lib.hid hrt
      have HTY := Lib.hid hty
      have htk : (s.tells t k).told k = s.told k := by unfold St.tells; dsimp only; rw [if_neg (by omega)]
      have HTK := Lib.hid htk
      have hst := HW.out.told k
      have hsm : Sm m := ⟨hm0, by omega⟩
      have hst1 : Sm (s.told k).1 := ⟨hst.1.1, by have := hst.1.2; omega⟩
      have hst2 := hst.2
      have HHD := Lib.hid hhd
      have HBS := Lib.hid hbs
      have HF := Lib.hid hof
      have HNB0 := own_not HO0.out hbw.out
      have HNB := Lib.hid HNB0
      clear hrt hty hr htk hhd hbs hof HNB0 hst
      go_upto_region 8 with (go_at_call 26; refine (HRT.out).mono ?_; rintro e w' ⟨rfl, q0, rfl⟩)
      have HO := Lib.hid (own_drewN HO0.out q0)
      have HN := Lib.hid (HN0.out.drewN q0)
      have HS := Lib.hid (HS0.out.drewN q0)
      generalize wr.drewN q0 = W at HO HN HS ⊢
      clear HO0 HN0 HS0 HRT
      by_cases hh : s.hid t k = true
      · have hof2 : s.offer t k = ((k : Int), 65535, 0) := by rw [HF.out, if_pos hh]
        have HOF := Lib.hid hof2
        have hb2 : s.best t k = false := by rw [HBS.out, hh]; rfl
        have HB2 := Lib.hid hb2
        rw [HHD.out] at hh
        clear hof2 hb2
        cases ok
        all_goals
          try (have hnt : (nx == t) = true := by simpa using hh)
          clear hh
          go_wp2_with (at_builtin; go_loud (refine wpList_append_lies _ rfl (.tmp 39) (.tmp 42) 31 rfl w.heap.size 71 i0 _ 3 24 Try.underlying31 HI.out hz0 hz1 hz2 rfl (by omega) sv k _ rfl (HO.out.alloc _) ⟨W.heap.size, 0, none⟩ 1 1 [.int .i64 k, .int .i64 65535, .int .u32 0] rfl rfl (three_cells _ _ _ _ _) (by simp [Value.oneCell']) (by omega) (by unfold maxLen; omega) (by omega) (by have := HS.out.size; simp; omega) (W.heap.size + 1) (by simp) ?_; intro g2 cap2 w3 hown1 hgrow1 hat1 hlt1; have HO2 := Lib.hid (show w3.ownsRow w.heap.size 71 3 _ (k + 1) (cellsO (s.offer t) (k + 1)) by rw [cellsO_succ, HOF.out]; exact hown1); have HN2 := Lib.hid (HN.out.app HNB.out hgrow1); have HS2 := Lib.hid (app_only HS.out HO.out (Nat.le_refl _) hgrow1); clear hown1 hgrow1 hat1 hlt1))
          go_roundw
          case rel => exact ⟨k + 1, _, by omega, by go_num, rfl, HO2.out, HN2.out.tell_no HB2.out, HS2.out⟩
          case measure => simp [intOf]; omega
      · have hof2 : s.offer t k = ((k : Int), m, q) := by rw [HF.out, if_neg hh]
        have HOF := Lib.hid hof2
        have hh2 : s.hid t k = false := by simpa using hh
        have hb0 : s.best t k = (!((k : Int) == (s.id : Int)) && (decide (65535 ≤ (s.told k).1) || bet m q (s.told k).1 (s.told k).2)) := by rw [HBS.out, hh2]; rfl
        rw [HHD.out] at hh2
        have hok : ok = true := by cases ok; cases hh2; rfl
        subst hok
        have hnt : (nx == t) = false := by simpa using hh2
        clear hof2 hh hh2 HBS HHD HF
        have hn1 : (s.n : Int) ≤ 6 := by omega
        by_cases hid : (k : Int) = (s.id : Int)
        · have hid1 : ((k : Int) == (s.id : Int)) = true := by simp [hid]
          have hid2 : ((k : Int) != (s.id : Int)) = false := by simp [hid]
          have HB2 := Lib.hid (show s.best t k = false by rw [hb0, hid1]; rfl)
          clear hid hb0
          go_wp2_with (first
            | (go_at_call 36; refine (metric_any m q hsm _).mono ?_; rintro e w' ⟨rfl, rfl⟩)
            | (go_at_call 37; refine (Feas.seq_any m q hsq _).mono ?_; rintro e w' ⟨rfl, rfl⟩)
            | (go_at_call 33; refine (far_any _ _ hst1 _).mono ?_; rintro e w' ⟨rfl, rfl⟩)
            | (go_at_call 32; refine (bet_any _ _ _ _ hsm hsq hst1 hst2 _).mono ?_; rintro e w' ⟨rfl, rfl⟩)
            | (at_builtin; refine wpList_append_lies _ rfl (.tmp 44) (.tmp 51) 31 rfl w.heap.size 71 i0 _ 3 24 Try.underlying31 HI.out hz0 hz1 hz2 rfl (by omega) sv k _ rfl (HO.out.alloc _) ⟨W.heap.size, 0, none⟩ 1 1 [.int .i64 k, .int .i64 m, .int .u32 q] rfl rfl (three_cells _ _ _ _ _) (by simp [Value.oneCell']) (by omega) (by unfold maxLen; omega) (by omega) (by have := HS.out.size; simp; omega) (W.heap.size + 1) (by simp) ?_; intro g2 cap2 w3 hown1 hgrow1 hat1 hlt1; have HO2 := Lib.hid (show w3.ownsRow w.heap.size 71 3 _ (k + 1) (cellsO (s.offer t) (k + 1)) by rw [cellsO_succ, HOF.out]; exact hown1); have HN2 := Lib.hid (HN.out.app HNB.out hgrow1); have HS2 := Lib.hid (app_only HS.out HO.out (Nat.le_refl _) hgrow1); have x1 : w3.cell? ⟨b, 0, none⟩ = some (.int .i64 s.id) := HN2.out.cid; have x2 : w3.cell? ⟨b, 44 + k, none⟩ = some (dp (s.told k)) := HTK.out ▸ HN2.out.ctold hk6; have x3 := HN2.out.free (44 + k); clear hown1 hgrow1 hat1 hlt1))
          go_roundw
          case rel => exact ⟨k + 1, _, by omega, by go_num, rfl, HO2.out, HN2.out.tell_no HB2.out, HS2.out⟩
          case measure => simp [intOf]; omega
        · have hid1 : ((k : Int) == (s.id : Int)) = false := by simpa using hid
          have hid2 : ((k : Int) != (s.id : Int)) = true := by simpa using hid
          rw [hid1] at hb0
          by_cases hfar : 65535 ≤ (s.told k).1
          · have HB2 := Lib.hid (show s.best t k = true by rw [hb0]; simp [hfar])
            have hfar' : decide (65535 ≤ (s.told k).1) = true := by simpa using hfar
            clear hid hb0
            go_wp2_with (first
              | (go_at_call 36; refine (metric_any m q hsm _).mono ?_; rintro e w' ⟨rfl, rfl⟩)
              | (go_at_call 37; refine (Feas.seq_any m q hsq _).mono ?_; rintro e w' ⟨rfl, rfl⟩)
              | (go_at_call 33; refine (far_any _ _ hst1 _).mono ?_; rintro e w' ⟨rfl, rfl⟩)
              | (go_at_call 32; refine (bet_any _ _ _ _ hsm hsq hst1 hst2 _).mono ?_; rintro e w' ⟨rfl, rfl⟩)
              | (at_builtin; refine wpList_append_lies _ rfl (.tmp 44) (.tmp 51) 31 rfl w.heap.size 71 i0 _ 3 24 Try.underlying31 HI.out hz0 hz1 hz2 rfl (by omega) sv k _ rfl (HO.out.alloc _) ⟨W.heap.size, 0, none⟩ 1 1 [.int .i64 k, .int .i64 m, .int .u32 q] rfl rfl (three_cells _ _ _ _ _) (by simp [Value.oneCell']) (by omega) (by unfold maxLen; omega) (by omega) (by have := HS.out.size; simp; omega) (W.heap.size + 1) (by simp) ?_; intro g2 cap2 w3 hown1 hgrow1 hat1 hlt1; have HO2 := Lib.hid (show w3.ownsRow w.heap.size 71 3 _ (k + 1) (cellsO (s.offer t) (k + 1)) by rw [cellsO_succ, HOF.out]; exact hown1); have HN2 := Lib.hid (HN.out.app HNB.out hgrow1); have HS2 := Lib.hid (app_only HS.out HO.out (Nat.le_refl _) hgrow1); have x1 : w3.cell? ⟨b, 0, none⟩ = some (.int .i64 s.id) := HN2.out.cid; have x2 : w3.cell? ⟨b, 44 + k, none⟩ = some (dp (s.told k)) := HTK.out ▸ HN2.out.ctold hk6; have x3 := HN2.out.free (44 + k); clear hown1 hgrow1 hat1 hlt1))
            go_roundw
            case rel => exact ⟨k + 1, _, by omega, by go_num, rfl, (Only.setCell (Only.refl (fun i => i = b) w3) (p := ⟨b, 44 + k, none⟩) (fun _ => rfl) _).own HO2.out (fun x hx e => own_not HO2.out hbw.out (e ▸ hx)), HTY.out w3 HN2.out HB2.out, HS2.out.setCell (p := ⟨b, 44 + k, none⟩) (fun _ => rfl) _⟩
            case measure => simp [intOf]; omega
          · have hfar' : decide (65535 ≤ (s.told k).1) = false := by simpa using hfar
            cases hbt : bet m q (s.told k).1 (s.told k).2
            · have HB2 := Lib.hid (show s.best t k = false by rw [hb0, hfar', hbt]; rfl)
              clear hid hb0
              go_wp2_with (first
                | (go_at_call 36; refine (metric_any m q hsm _).mono ?_; rintro e w' ⟨rfl, rfl⟩)
                | (go_at_call 37; refine (Feas.seq_any m q hsq _).mono ?_; rintro e w' ⟨rfl, rfl⟩)
                | (go_at_call 33; refine (far_any _ _ hst1 _).mono ?_; rintro e w' ⟨rfl, rfl⟩)
                | (go_at_call 32; refine (bet_any _ _ _ _ hsm hsq hst1 hst2 _).mono ?_; rintro e w' ⟨rfl, rfl⟩)
                | (at_builtin; refine wpList_append_lies _ rfl (.tmp 44) (.tmp 51) 31 rfl w.heap.size 71 i0 _ 3 24 Try.underlying31 HI.out hz0 hz1 hz2 rfl (by omega) sv k _ rfl (HO.out.alloc _) ⟨W.heap.size, 0, none⟩ 1 1 [.int .i64 k, .int .i64 m, .int .u32 q] rfl rfl (three_cells _ _ _ _ _) (by simp [Value.oneCell']) (by omega) (by unfold maxLen; omega) (by omega) (by have := HS.out.size; simp; omega) (W.heap.size + 1) (by simp) ?_; intro g2 cap2 w3 hown1 hgrow1 hat1 hlt1; have HO2 := Lib.hid (show w3.ownsRow w.heap.size 71 3 _ (k + 1) (cellsO (s.offer t) (k + 1)) by rw [cellsO_succ, HOF.out]; exact hown1); have HN2 := Lib.hid (HN.out.app HNB.out hgrow1); have HS2 := Lib.hid (app_only HS.out HO.out (Nat.le_refl _) hgrow1); have x1 : w3.cell? ⟨b, 0, none⟩ = some (.int .i64 s.id) := HN2.out.cid; have x2 : w3.cell? ⟨b, 44 + k, none⟩ = some (dp (s.told k)) := HTK.out ▸ HN2.out.ctold hk6; have x3 := HN2.out.free (44 + k); clear hown1 hgrow1 hat1 hlt1))
              go_roundw
              case rel => exact ⟨k + 1, _, by omega, by go_num, rfl, HO2.out, HN2.out.tell_no HB2.out, HS2.out⟩
              case measure => simp [intOf]; omega
            · have HB2 := Lib.hid (show s.best t k = true by rw [hb0, hfar', hbt]; rfl)
              clear hid hb0
              go_wp2_with (first
                | (go_at_call 36; refine (metric_any m q hsm _).mono ?_; rintro e w' ⟨rfl, rfl⟩)
                | (go_at_call 37; refine (Feas.seq_any m q hsq _).mono ?_; rintro e w' ⟨rfl, rfl⟩)
                | (go_at_call 33; refine (far_any _ _ hst1 _).mono ?_; rintro e w' ⟨rfl, rfl⟩)
                | (go_at_call 32; refine (bet_any _ _ _ _ hsm hsq hst1 hst2 _).mono ?_; rintro e w' ⟨rfl, rfl⟩)
                | (at_builtin; refine wpList_append_lies _ rfl (.tmp 44) (.tmp 51) 31 rfl w.heap.size 71 i0 _ 3 24 Try.underlying31 HI.out hz0 hz1 hz2 rfl (by omega) sv k _ rfl (HO.out.alloc _) ⟨W.heap.size, 0, none⟩ 1 1 [.int .i64 k, .int .i64 m, .int .u32 q] rfl rfl (three_cells _ _ _ _ _) (by simp [Value.oneCell']) (by omega) (by unfold maxLen; omega) (by omega) (by have := HS.out.size; simp; omega) (W.heap.size + 1) (by simp) ?_; intro g2 cap2 w3 hown1 hgrow1 hat1 hlt1; have HO2 := Lib.hid (show w3.ownsRow w.heap.size 71 3 _ (k + 1) (cellsO (s.offer t) (k + 1)) by rw [cellsO_succ, HOF.out]; exact hown1); have HN2 := Lib.hid (HN.out.app HNB.out hgrow1); have HS2 := Lib.hid (app_only HS.out HO.out (Nat.le_refl _) hgrow1); have x1 : w3.cell? ⟨b, 0, none⟩ = some (.int .i64 s.id) := HN2.out.cid; have x2 : w3.cell? ⟨b, 44 + k, none⟩ = some (dp (s.told k)) := HTK.out ▸ HN2.out.ctold hk6; have x3 := HN2.out.free (44 + k); clear hown1 hgrow1 hat1 hlt1))
              go_roundw
              case rel => exact ⟨k + 1, _, by omega, by go_num, rfl, (Only.setCell (Only.refl (fun i => i = b) w3) (p := ⟨b, 44 + k, none⟩) (fun _ => rfl) _).own HO2.out (fun x hx e => own_not HO2.out hbw.out (e ▸ hx)), HTY.out w3 HN2.out HB2.out, HS2.out.setCell (p := ⟨b, 44 + k, none⟩) (fun _ => rfl) _⟩
              case measure => simp [intOf]; omega
    · obtain rfl : k = s.n := by omega
      go_wp2
      go_ret2
      exact ⟨⟨_, rfl, HO0.out⟩, HN0.out, HS0.out⟩
set_option maxHeartbeats 1600000 in
theorem tell_no (b : Nat) (s : St) (t : Int) (w : World) (h : IsN w b s) (hw : Wf s) (hu : upv s t ≠ 0) : Calls Try.prog 18 #[.pointer (some ⟨b, 0, none⟩), .int .i64 t] w fun e w' => e = .returned (.tuple #[.slice none 0 0, .int .i64 (upv s t)]) ∧ w = w' := by
  have hup := up_any b s t w h hw
  generalize upv s t = u at hup hu
  have hu' : (u == 0) = false := by simp [hu]
  have HUP := Lib.hid hup
  clear hup h hw hu
  go_enter Try.func18, Try.ntmps18
  go_wp2_with (go_at_call 42; refine (HUP.out).mono ?_; rintro e w' ⟨rfl, rfl⟩)
  go_ret2
  exact ⟨rfl, rfl⟩
set_option maxHeartbeats 1600000 in
theorem tell_nil (t : Int) (w : World) : Calls Try.prog 18 #[.pointer none, .int .i64 t] w fun e w' => e = .returned (.tuple #[.slice none 0 0, .int .i64 10]) ∧ w = w' := by
  go_enter Try.func18, Try.ntmps18
  go_wp2_with (go_at_call 42; refine (up_nil t w).mono ?_; rintro e w' ⟨rfl, rfl⟩)
  go_ret2
  exact ⟨rfl, rfl⟩
end Eng
end Go.Proofs.Ytcmknllefnahkaa
