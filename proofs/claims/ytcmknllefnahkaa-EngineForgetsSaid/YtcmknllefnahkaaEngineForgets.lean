/-
  EngineForgets: the walk. Conditions: none.
-/
import Derived.Test.YtcmknllefnahkaaForgP
namespace Go.Proofs.Ytcmknllefnahkaa
open Go.RowKit FR FP H2 OW
set_option linter.unusedVariables false
set_option linter.unusedSimpArgs false
namespace EngineForgets
open Feas Eng
theorem infoD : (Try.prog.info? 55).map (fun i => (i.zero, i.size, i.bytes)) = some (some (.complex .f64 0 0), 1, 16) := by kernel_rfl
def toldRow (s : St) (k : Nat) : List Value := (List.range k).map fun d => dp (s.told d)
theorem toldRow_succ (s : St) (k : Nat) : toldRow s (k + 1) = toldRow s k ++ [dp (s.told k)] := by simp [toldRow, List.range_succ]
theorem toldRow_get (s : St) (n k : Nat) (h : k < n) : (toldRow s n)[k]? = some (dp (s.told k)) := by simp [toldRow, h]
theorem nd_clear {w0 w : World} {b : Nat} {s : St} (h : Nd w0 w b s) : Calls Try.prog 23 #[.pointer (some ⟨b, 0, none⟩)] w fun e w' => e = .returned (.tuple #[]) ∧ Nd w0 w' b s.clear ∧ Only (fun i => i = b) w w' :=
  (restart_any b s w h.isn).mono fun e w' ⟨he, hi, ho⟩ => ⟨he, h.only hi (wf_clear h.wf) ho, ho⟩
theorem nd_drew {w0 w : World} {b : Nat} {s : St} (h : Nd w0 w b s) : Nd w0 w.drew b s := ⟨h.isn.drew, h.wf, h.bel.trans (((Only.refl (fun _ => False) w).drew).below h.bel.size (fun _ _ e => e)), h.new⟩
theorem row_keep {w w' : World} {b base size n : Nat} {e : TypeId} {v : Value} {xs : List Value} (ho : Only (fun i => i = b) w w') (h : w.ownsRow base e size v n xs) (hne : v.ownBlock ≠ some b) : w'.ownsRow base e size v n xs := ho.own h (fun k hk e => hne (e ▸ hk))
theorem row_drewN {w : World} {base size n : Nat} {e : TypeId} {v : Value} {xs : List Value} (h : w.ownsRow base e size v n xs) (q : Nat) : (w.drewN q).ownsRow base e size v n xs := h
attribute [local go_sem] order_sm cmp_eq
attribute [local irreducible] s2 s3 s5
set_option maxRecDepth 1000000 in
set_option maxHeartbeats 16000000 in
theorem walk (n0 c0 : Int) (v : Value) (w : World) (_ : (Lit.int .i64 n0).wf = true) (_ : (Lit.int .i64 c0).wf = true) (wv : IsOf w v) : Calls Try.prog 5 #[.int .i64 n0, .int .i64 c0, v] w fun e w' => e = .returned (.bool true) ∧ Below w.heap.size w w' := by
  obtain ⟨A, m, cap, f, rfl, hm, hf, hsm⟩ := wv
  have HF := Lib.hid hf
  have HM := Lib.hid hm
  have HSM := Lib.hid hsm
  unfold maxLen at hm
  clear hf hsm
  obtain ⟨r, hr, hrr⟩ := remk n0 5 (by omega)
  obtain ⟨n, hn⟩ : ∃ n : Nat, n = 2 + r := ⟨_, rfl⟩
  have hn2 : 2 ≤ n := by omega
  have hn6 : n ≤ 6 := by omega
  obtain ⟨q, hq, hqq⟩ := remk c0 1000 (by omega)
  obtain ⟨c, hc⟩ : ∃ c : Int, c = 1 + (q : Int) := ⟨_, rfl⟩
  have hc1 : 1 ≤ c := by omega
  have hc2 : c ≤ 1000 := by omega
  have e5 : ((5 : Nat) : Int) = 5 := rfl
  rw [e5] at hrr
  have e1 : ((1000 : Nat) : Int) = 1000 := rfl
  rw [e1] at hqq
  have w1 : IntKind.i64.wrap (r : Int) = (r : Int) := IntWalk.i64_in _ (by omega)
  have w2 : IntKind.i64.wrap (2 + (r : Int)) = (n : Int) := by rw [IntWalk.i64_in _ (by omega)]; omega
  have w4 : IntKind.i64.wrap (q : Int) = (q : Int) := IntWalk.i64_in _ (by omega)
  have w5 : IntKind.i64.wrap (1 + (q : Int)) = c := by rw [IntWalk.i64_in _ (by omega)]; omega
  have h50 : decide ((50 : Int) < (m : Int)) = decide (50 < m) := by congr 1; exact propext ⟨fun h => by omega, fun h => by omega⟩
  clear hn hc e5 e1 h50
  obtain ⟨i0, hi0, hz0, hz1, hz2⟩ := info_parts infoD
  have HI := Lib.hid hi0
  clear hi0
  by_cases hbig : (50 : Int) < (m : Int)
  · go_enter Try.func5, Try.ntmps5
    go_wp2_with (first
      | (go_at_call 9; with_reducible refine (awake_any w).mono ?_; rintro e w1 ⟨rfl, hb⟩; have HB1 := Lib.hid hb; clear hb)
      | (go_at_call 9; with_reducible refine (awake_any w1).mono ?_; rintro e w3 ⟨rfl, hb⟩; have HB3 := Lib.hid (HB1.out.trans (hb.mono HB1.out.size)); clear hb))
    go_ret
    exact ⟨rfl, HB3.out⟩
  have hl1 := lnk1 n c hn2 (by omega) hc2
  have hlk := fun (w3 : World) (b : Nat) (h : Nd w w3 b (new 0 n)) => nd_link h 1 c
  rw [hl1] at hlk
  have HLK := Lib.hid hlk
  clear hlk hl1
  go_enter Try.func5, Try.ntmps5
  go_upto_region 7 with (first
    | (go_at_call 9; with_reducible refine (awake_any w).mono ?_; rintro e w1 ⟨rfl, hb⟩; have HB1 := Lib.hid hb; clear hb)
    | (go_at_call 11; with_reducible refine (nd_new0 n w w1 HB1.out (by omega) hn6).mono ?_; rintro e w3 ⟨b, rfl, hi, _⟩; have N3 := Lib.hid hi; clear hi)
    | (go_at_call 13; with_reducible refine (HLK.out w3 b N3.out).mono ?_; rintro e w4 ⟨rfl, hi, _⟩; have N4 := Lib.hid hi; clear hi))
  have hhr := nd_hear0 N4.out 1 A m cap f HM.out HF.out HSM.out
  by_cases hh0 : hea ((new 0 n).link 1 c) 1 f m ≠ 0
  · generalize hea ((new 0 n).link 1 c) 1 f m = z at hhr hh0
    have hz : (z == 0) = false := by simpa using hh0
    have HHR := Lib.hid hhr
    clear hhr hh0
    go_wp2_with (go_at_call 15; with_reducible refine (HHR.out).mono ?_; rintro e w5 ⟨rfl, hi, _⟩; have N5 := Lib.hid hi; clear hi)
    go_ret
    exact ⟨rfl, N5.out.bel⟩
  have hh0 := Decidable.not_not.1 hh0
  rw [hh0] at hhr
  have HHR := Lib.hid hhr
  have HH0 := Lib.hid hh0
  clear hhr hh0
  go_upto_if 55 with (go_at_call 15; with_reducible refine (HHR.out).mono ?_; rintro e w5 ⟨rfl, hi, _⟩; have N5 := Lib.hid (show Nd w w5 b (s2 n c f m) by unfold s2; exact hi); clear hi)
  go_cut [7] (fun s7 wx => s7 = .pointer (some ⟨b, 0, none⟩) ∧ Nd w wx b (s3 n c f m))
  case first =>
    by_cases h2 : 2 < n
    · have h2' : (2 : Int) < (n : Int) := by omega
      go_wp2_with (first
        | (go_at_call 13; with_reducible refine (nd_link N5.out 2 1).mono ?_; rintro e w6 ⟨rfl, hi, _⟩; have N6 := Lib.hid hi; clear hi)
        | (go_at_call 18; with_reducible refine (nd_tell_any N6.out 2).mono ?_; rintro e w7 ⟨⟨v7, rfl, _⟩, ⟨s7, hn7, hs7⟩, _⟩; have N7 := Lib.hid hn7; have HS7 := Lib.hid hs7; clear hn7 hs7))
      go_meet
      case rel =>
        have e : s3 n c f m = s7 := by
          rw [HS7.out, (link_same _ 2 1).2.1, (s2_same n c f m).2]
          unfold s3
          rw [if_pos h2]
        rw [e]
        exact ⟨rfl, N7.out⟩
    · have h2' : ¬ (2 : Int) < (n : Int) := by omega
      go_wp2
      go_meet
      case rel =>
        have e : s3 n c f m = s2 n c f m := by
          unfold s3
          rw [if_neg h2]
        rw [e]
        exact ⟨rfl, N5.out⟩
  case rest =>
    obtain ⟨rfl, hcut⟩ := hcut
    have N6 := Lib.hid hcut
    clear hcut
    have S3 := Lib.hid (s3_same n c f m)
    have AG := Lib.hid (again n c f m hn2 hc1 hc2 HH0.out)
    have hs5 : s5 n c f m = (s3 n c f m).clear.hear 1 f m := by unfold s5; rfl
    have H5 := Lib.hid hs5
    have S5 := Lib.hid (show (s5 n c f m).n = n by rw [hs5]; exact (hear_same _ 1 f m).2.trans S3.out.2)
    clear hs5
    have HTW := Lib.hid N6.out.wf.told
    generalize s3 n c f m = t3 at N6 S3 AG H5 HTW
    generalize s5 n c f m = t5 at AG H5 S5
    go_upto_region 14 with fail
    go_loopw [9, 61] (fun s9 s61 wr => ∃ (d : Nat) (sv : Value), d ≤ n ∧ s61 = .int .i64 d ∧ sv = s9 ∧ wr.ownsRow w.heap.size 55 1 sv d (toldRow t3 d) ∧ Nd w wr b t3) (fun _ s61 _ => n - (intOf s61).toNat)
    case atStart => exact ⟨0, _, by omega, rfl, rfl, World.ownsRow_nil _ _ _ _, N6.out⟩
    case round =>
      obtain ⟨d, sv, hd, rfl, rfl, ho, hnd⟩ := hrel
      have HO := Lib.hid ho
      have M := Lib.hid hnd
      clear ho hnd N6
      by_cases hdn : d < n
      · have hdn' : (d : Int) < (n : Int) := by omega
        have d0 : (0 : Int) ≤ (d : Int) := by omega
        have htd := told_any b t3 d wr M.out.isn (by rw [S3.out.2]; exact hdn)
        have HTD := Lib.hid htd
        clear htd
        go_wp2_with (first
          | (go_at_call 30; with_reducible refine (HTD.out).mono ?_; rintro e w7 ⟨rfl, rfl⟩)
          | (at_builtin; refine wpList_append_lies _ rfl (.tmp 64) (.tmp 68) 69 rfl w.heap.size 55 i0 _ 1 16 Try.underlying69 HI.out hz0 hz1 hz2 rfl (by omega) sv d _ rfl (HO.out.alloc _) ⟨wr.heap.size, 0, none⟩ 1 1 [dp (t3.told d)] rfl rfl (cell_one_new _ _ _) (by simp [Value.oneCell']) (by omega) (by unfold maxLen; omega) (by omega) (by have := M.out.bel.size; simp; omega) (wr.heap.size + 1) (by simp) ?_; intro g2 cap2 w8 hown1 hgrow1 hat1 hlt1; have HO2 := Lib.hid (show w8.ownsRow w.heap.size 55 1 _ (d + 1) (toldRow t3 (d + 1)) by rw [toldRow_succ]; exact hown1); have M2 := Lib.hid (show Nd w w8 b t3 from ⟨M.out.isn.app (own_ne_blk HO.out M.out.isn.blk.choose_spec.1 (by decide)) hgrow1, M.out.wf, app_below M.out.bel HO.out hgrow1, M.out.new⟩); clear hown1 hgrow1 hat1 hlt1))
        go_roundw
        case rel => exact ⟨d + 1, _, by omega, by go_num, rfl, HO2.out, M2.out⟩
        case measure => simp [intOf]; omega
      · obtain rfl : n = d := by omega
        have HNB := Lib.hid (own_ne_blk HO.out M.out.isn.blk.choose_spec.1 (by decide))
        go_upto_region 20 with (go_at_call 23; with_reducible refine (nd_clear M.out).mono ?_; rintro e w8 ⟨rfl, hi, ho⟩; have M1 := Lib.hid hi; have R1 := Lib.hid (row_keep ho HO.out HNB.out); clear hi ho)
        go_loopw [74] (fun s74 wr => ∃ d : Nat, d ≤ n ∧ s74 = .int .i64 d ∧ wr.ownsRow w.heap.size 55 1 sv n (toldRow t3 n) ∧ Nd w wr b t3.clear) (fun s74 _ => n - (intOf s74).toNat)
        case atStart => exact ⟨0, by omega, rfl, R1.out, M1.out⟩
        case round =>
          obtain ⟨d, hd, rfl, ho, hnd⟩ := hrel
          have R := Lib.hid ho
          have D := Lib.hid hnd
          clear ho hnd M1 R1
          by_cases hdn : d < n
          · have hdn' : (d : Int) < (n : Int) := by omega
            have d0 : (0 : Int) ≤ (d : Int) := by omega
            have hrt := nd_route D.out d
            have hro := route_clear t3 S3.out.1 d (by rw [S3.out.2]; exact hdn)
            have htd := fun (w9 : World) (h : Nd w w9 b t3.clear) => told_any b t3.clear d w9 h.isn (by show d < t3.n; rw [S3.out.2]; exact hdn)
            have htc : t3.clear.told d = t3.told d := rfl
            rw [htc] at htd
            obtain ⟨nx, mq, ok, hr⟩ : ∃ nx mq ok, t3.clear.route d = (nx, mq, ok) := ⟨_, _, _, rfl⟩
            rw [hr] at hrt hro
            dsimp only at hrt hro
            subst hro
            have HRT := Lib.hid hrt
            have HTD := Lib.hid htd
            clear hrt hr htc htd
            obtain ⟨g, cap', rfl, hg, hc', hgl⟩ := own_form R.out (by omega)
            obtain ⟨T, hT⟩ : ∃ T, t3.told d = T := ⟨_, rfl⟩
            have hTw := D.out.wf.told d
            have hTw' : (0 ≤ T.1 ∧ T.1 ≤ 65535) ∧ Sm T.2 := hT ▸ hTw
            have hs1 : Sm T.1 := ⟨hTw'.1.1, by have := hTw'.1.2; omega⟩
            have hs2 := hTw'.2
            have hcell := own_cell R.out d (dp (t3.told d)) (toldRow_get t3 n d hdn)
            rw [hT] at hcell
            have HCELL := Lib.hid hcell
            have HTD' := Lib.hid (fun (w9 : World) (h : Nd w w9 b t3.clear) => hT ▸ HTD.out w9 h)
            clear hTw hTw' hT hcell HTD
            by_cases hd0 : d = 0
            all_goals
              first | (have hdz : ((d : Int) == 0) = true := by simp [hd0]) | (have hdz : ((d : Int) == 0) = false := by simp; omega)
              clear hd0
              go_upto_region 23 with (go_at_call 26; (with_reducible refine (HRT.out).mono ?_); rintro e w9 ⟨rfl, q9, rfl⟩; have D9 := Lib.hid (D.out.drewN q9); have R9 := Lib.hid (row_drewN R.out q9); have C9 := Lib.hid (show (wr.drewN q9).cell? ⟨g, d, none⟩ = some (dp T) from HCELL.out))
              generalize wr.drewN q9 = w9 at D9 R9 C9 ⊢
              have D9' := Lib.hid (nd_drew D9.out)
              have c9 := C9.out
              refine wp_region_held_drew (S := (fun w' => w'.cell? ⟨g, d, none⟩ = some (dp T))) (by kernel_rfl) c9 (fun _ => ?_)
              refine held_take 0 84 (v := ?_) rfl rfl (by kernel_rfl) (by kernel_rfl) (by kernel_rfl) (fun _ _ _ h => h) (by rfl) ?_ c9 ?_
              rotate_left
              · (intro w hSw; (try dsimp only at hSw); try simp only [List.getElem_toArray, List.getElem_cons_zero, List.getElem_cons_succ]; go_simp; try (with_reducible rfl))
              try simp only [List.setIfInBounds_toArray, List.set_cons_zero, List.set_cons_succ]
              refine held_take 1 85 (v := ?_) rfl rfl (by kernel_rfl) (by kernel_rfl) (by kernel_rfl) (fun _ _ _ h => h) (by rfl) ?_ c9 ?_
              rotate_left
              · (intro w hSw; (try dsimp only at hSw); try simp only [List.getElem_toArray, List.getElem_cons_zero, List.getElem_cons_succ]; go_simp; try (with_reducible rfl))
              try simp only [List.setIfInBounds_toArray, List.set_cons_zero, List.set_cons_succ]
              refine held_take 2 86 (v := ?_) rfl rfl (by kernel_rfl) (by kernel_rfl) (by kernel_rfl) (fun _ _ _ h => h) (by rfl) ?_ c9 ?_
              rotate_left
              · (intro w hSw; (try dsimp only at hSw); try simp only [List.getElem_toArray, List.getElem_cons_zero, List.getElem_cons_succ]; go_simp; try (with_reducible rfl))
              try simp only [List.setIfInBounds_toArray, List.set_cons_zero, List.set_cons_succ]
              refine held_take 3 87 (v := ?_) rfl rfl (by kernel_rfl) (by kernel_rfl) (by kernel_rfl) (fun _ _ _ h => h) (by rfl) ?_ c9 ?_
              rotate_left
              · (intro w hSw; (try dsimp only at hSw); try simp only [List.getElem_toArray, List.getElem_cons_zero, List.getElem_cons_succ]; go_simp; try (with_reducible rfl))
              try simp only [List.setIfInBounds_toArray, List.set_cons_zero, List.set_cons_succ]
              refine held_take 4 88 (v := ?_) rfl rfl (by kernel_rfl) (by kernel_rfl) (by kernel_rfl) (fun _ _ _ h => h) (by rfl) ?_ c9 ?_
              rotate_left
              · (intro w hSw; (try dsimp only at hSw); try simp only [List.getElem_toArray, List.getElem_cons_zero, List.getElem_cons_succ]; go_simp; try (with_reducible rfl))
              try simp only [List.setIfInBounds_toArray, List.set_cons_zero, List.set_cons_succ]
              refine held_take 5 89 (v := ?_) rfl rfl (by kernel_rfl) (by kernel_rfl) (by kernel_rfl) (fun _ _ _ h => h) (by rfl) ?_ c9 ?_
              rotate_left
              · (intro w hSw; (try dsimp only at hSw); try simp only [List.getElem_toArray, List.getElem_cons_zero, List.getElem_cons_succ]; go_simp; try (with_reducible rfl))
              try simp only [List.setIfInBounds_toArray, List.set_cons_zero, List.set_cons_succ]
              refine held_take 6 90 (v := ?_) rfl rfl (by kernel_rfl) (by kernel_rfl) (by kernel_rfl) (fun _ _ _ h => h) (by rfl) ?_ c9 ?_
              rotate_left
              · (intro w hSw; (try dsimp only at hSw); try simp only [List.getElem_toArray, List.getElem_cons_zero, List.getElem_cons_succ]; go_simp; try (with_reducible rfl))
              try simp only [List.setIfInBounds_toArray, List.set_cons_zero, List.set_cons_succ]
              refine held_take 8 92 (v := ?_) rfl rfl (by kernel_rfl) (by kernel_rfl) (by kernel_rfl) (fun _ _ _ h => h) (by rfl) ?_ c9 ?_
              rotate_left
              · (intro w hSw; (try dsimp only at hSw); try simp only [List.getElem_toArray, List.getElem_cons_zero, List.getElem_cons_succ]; go_simp; try (with_reducible rfl))
              try simp only [List.setIfInBounds_toArray, List.set_cons_zero, List.set_cons_succ]
              refine held_take 9 93 (v := ?_) rfl rfl (by kernel_rfl) (by kernel_rfl) (by kernel_rfl) (fun _ _ _ h => h) (by rfl) ?_ c9 ?_
              rotate_left
              · (intro w hSw; (try dsimp only at hSw); try simp only [List.getElem_toArray, List.getElem_cons_zero, List.getElem_cons_succ]; go_simp; try (with_reducible rfl))
              try simp only [List.setIfInBounds_toArray, List.set_cons_zero, List.set_cons_succ]
              refine held_take 10 94 (v := ?_) rfl rfl (by kernel_rfl) (by kernel_rfl) (by kernel_rfl) (fun _ _ _ h => h) (by rfl) ?_ c9 ?_
              rotate_left
              · (intro w hSw; (try dsimp only at hSw); try simp only [List.getElem_toArray, List.getElem_cons_zero, List.getElem_cons_succ]; go_simp; try (with_reducible rfl))
              try simp only [List.setIfInBounds_toArray, List.set_cons_zero, List.set_cons_succ]
              refine held_take 11 95 (v := ?_) rfl rfl (by kernel_rfl) (by kernel_rfl) (by kernel_rfl) (fun _ _ _ h => h) (by rfl) ?_ c9 ?_
              rotate_left
              · (intro w hSw; (try dsimp only at hSw); try simp only [List.getElem_toArray, List.getElem_cons_zero, List.getElem_cons_succ]; go_simp; try (with_reducible rfl))
              try simp only [List.setIfInBounds_toArray, List.set_cons_zero, List.set_cons_succ]
              refine held_call 7 91 rfl rfl (by kernel_rfl) (by rfl) (fun K hK => ?_)
              try simp only [List.getElem_toArray, List.getElem_cons_zero, List.getElem_cons_succ]
              go_simp
              ((with_reducible refine (HTD'.out _ D9'.out).mono ?_); rintro e w2 ⟨rfl, rfl⟩)
              try go_wp2_with fail
              try simp only [Act.put, List.setIfInBounds_toArray, List.set_cons_zero, List.set_cons_succ]
              refine hK.out _ _ _ c9 ?_
              clear hK K
              refine held_take 12 96 (v := ?_) rfl rfl (by kernel_rfl) (by kernel_rfl) (by kernel_rfl) (fun _ _ _ h => h) (by rfl) ?_ c9 ?_
              rotate_left
              · (intro w hSw; (try dsimp only at hSw); try simp only [List.getElem_toArray, List.getElem_cons_zero, List.getElem_cons_succ]; go_simp; try (with_reducible rfl))
              try simp only [List.setIfInBounds_toArray, List.set_cons_zero, List.set_cons_succ]
              refine held_take 13 97 (v := ?_) rfl rfl (by kernel_rfl) (by kernel_rfl) (by kernel_rfl) (fun _ _ _ h => h) (by rfl) ?_ c9 ?_
              rotate_left
              · (intro w hSw; (try dsimp only at hSw); try simp only [List.getElem_toArray, List.getElem_cons_zero, List.getElem_cons_succ]; go_simp; try (with_reducible rfl))
              try simp only [List.setIfInBounds_toArray, List.set_cons_zero, List.set_cons_succ]
              refine wpAnyH_done (by kernel_rfl) ?_ _
              go_wp2
              go_roundw
              case rel => exact ⟨d + 1, by omega, by go_num, R9.out, D9'.out⟩
              case measure => simp [intOf]; omega
          · obtain rfl : n = d := by omega
            go_upto_region 28 with ((go_at_call 15); (with_reducible refine (nd_hear0 D.out 1 A m cap f HM.out HF.out HSM.out).mono ?_); rintro e w9 ⟨rfl, hi, ho⟩; have M1 := Lib.hid (show Nd w w9 b t5 from H5.out ▸ hi); have R1 := Lib.hid (row_keep ho R.out HNB.out); clear hi ho)
            go_loopw [15] (fun s15 wr => ∃ d : Nat, 1 ≤ d ∧ d ≤ n ∧ s15 = .int .i64 d ∧ wr.ownsRow w.heap.size 55 1 sv n (toldRow t3 n) ∧ Nd w wr b t5) (fun s15 _ => n - (intOf s15).toNat)
            case atStart => exact ⟨1, by omega, by omega, rfl, R1.out, M1.out⟩
            case round =>
              obtain ⟨d, hd1, hd, rfl, ho, hnd⟩ := hrel
              have R := Lib.hid ho
              have D := Lib.hid hnd
              clear ho hnd M1 R1
              by_cases hdn : d < n
              · have hdn' : (d : Int) < (n : Int) := by omega
                have d0 : (0 : Int) ≤ (d : Int) := by omega
                have hrt := nd_route D.out d
                have hag := AG.out d hd1 hdn
                obtain ⟨⟨hm0, hm1⟩, hsq⟩ := route_range t5 D.out.wf d
                obtain ⟨g, cap', rfl, hg, hc', hgl⟩ := own_form R.out (by omega)
                have hcell := own_cell R.out d (dp (t3.told d)) (toldRow_get t3 n d hdn)
                have hTw := HTW.out d
                obtain ⟨nx, ⟨mm, qq⟩, ok, hr⟩ : ∃ nx mq ok, t5.route d = (nx, mq, ok) := ⟨_, _, _, rfl⟩
                rw [hr] at hrt hag hm0 hm1 hsq
                dsimp only at hrt hag hm0 hm1 hsq
                obtain ⟨⟨T1, T2⟩, hT⟩ : ∃ T, t3.told d = T := ⟨_, rfl⟩
                rw [hT] at hcell hag hTw
                dsimp only at hcell hag hTw
                have hs1 : Sm T1 := ⟨hTw.1.1, by have := hTw.1.2; omega⟩
                have hs2 := hTw.2
                have hs3 : Sm mm := ⟨hm0, by omega⟩
                have hbs : bet mm qq mm qq = false := ChS.bet_self mm qq
                have HRT := Lib.hid hrt
                have HCELL := Lib.hid hcell
                clear hTw hT hcell hr hrt
                cases ok
                · clear hag
                  go_upto_region 31 with (go_at_call 26; (with_reducible refine (HRT.out).mono ?_); rintro e w9 ⟨rfl, q9, rfl⟩; have D9 := Lib.hid (D.out.drewN q9); have R9 := Lib.hid (row_drewN R.out q9); have C9 := Lib.hid (show (wr.drewN q9).cell? ⟨g, d, none⟩ = some (dv T1 T2) from HCELL.out))
                  generalize wr.drewN q9 = w9 at D9 R9 C9 ⊢
                  have D9' := Lib.hid (nd_drew D9.out)
                  have c9 := C9.out
                  refine wp_region_held_drew (S := (fun w' => w'.cell? ⟨g, d, none⟩ = some (dv T1 T2))) (by kernel_rfl) c9 (fun _ => ?_)
                  refine held_take 0 114 (v := ?_) rfl rfl (by kernel_rfl) (by kernel_rfl) (by kernel_rfl) (fun _ _ _ h => h) (by rfl) ?_ c9 ?_
                  rotate_left
                  · (intro w hSw; (try dsimp only at hSw); try simp only [List.getElem_toArray, List.getElem_cons_zero, List.getElem_cons_succ]; go_simp; try (with_reducible rfl))
                  try simp only [List.setIfInBounds_toArray, List.set_cons_zero, List.set_cons_succ]
                  refine held_take 1 115 (v := ?_) rfl rfl (by kernel_rfl) (by kernel_rfl) (by kernel_rfl) (fun _ _ _ h => h) (by rfl) ?_ c9 ?_
                  rotate_left
                  · (intro w hSw; (try dsimp only at hSw); try simp only [List.getElem_toArray, List.getElem_cons_zero, List.getElem_cons_succ]; go_simp; try (with_reducible rfl))
                  try simp only [List.setIfInBounds_toArray, List.set_cons_zero, List.set_cons_succ]
                  refine held_skip 2 116 rfl rfl (by kernel_rfl) (by kernel_rfl) (by kernel_rfl) (fun _ _ _ h => h) (by rfl) c9 ?_
                  try simp only [List.setIfInBounds_toArray, List.set_cons_zero, List.set_cons_succ]
                  refine held_skip 3 117 rfl rfl (by kernel_rfl) (by kernel_rfl) (by kernel_rfl) (fun _ _ _ h => h) (by rfl) c9 ?_
                  try simp only [List.setIfInBounds_toArray, List.set_cons_zero, List.set_cons_succ]
                  refine held_skip 4 118 rfl rfl (by kernel_rfl) (by kernel_rfl) (by kernel_rfl) (fun _ _ _ h => h) (by rfl) c9 ?_
                  try simp only [List.setIfInBounds_toArray, List.set_cons_zero, List.set_cons_succ]
                  refine held_skip 5 119 rfl rfl (by kernel_rfl) (by kernel_rfl) (by kernel_rfl) (fun _ _ _ h => h) (by rfl) c9 ?_
                  try simp only [List.setIfInBounds_toArray, List.set_cons_zero, List.set_cons_succ]
                  refine held_skip 6 120 rfl rfl (by kernel_rfl) (by kernel_rfl) (by kernel_rfl) (fun _ _ _ h => h) (by rfl) c9 ?_
                  try simp only [List.setIfInBounds_toArray, List.set_cons_zero, List.set_cons_succ]
                  refine held_skip 7 121 rfl rfl (by kernel_rfl) (by kernel_rfl) (by kernel_rfl) (fun _ _ _ h => h) (by rfl) c9 ?_
                  try simp only [List.setIfInBounds_toArray, List.set_cons_zero, List.set_cons_succ]
                  refine held_take 8 122 (v := ?_) rfl rfl (by kernel_rfl) (by kernel_rfl) (by kernel_rfl) (fun _ _ _ h => h) (by rfl) ?_ c9 ?_
                  rotate_left
                  · (intro w hSw; (try dsimp only at hSw); try simp only [List.getElem_toArray, List.getElem_cons_zero, List.getElem_cons_succ]; go_simp; try (with_reducible rfl))
                  try simp only [List.setIfInBounds_toArray, List.set_cons_zero, List.set_cons_succ]
                  refine held_take 9 123 (v := ?_) rfl rfl (by kernel_rfl) (by kernel_rfl) (by kernel_rfl) (fun _ _ _ h => h) (by rfl) ?_ c9 ?_
                  rotate_left
                  · (intro w hSw; (try dsimp only at hSw); try simp only [List.getElem_toArray, List.getElem_cons_zero, List.getElem_cons_succ]; go_simp; try (with_reducible rfl))
                  try simp only [List.setIfInBounds_toArray, List.set_cons_zero, List.set_cons_succ]
                  refine held_skip 10 124 rfl rfl (by kernel_rfl) (by kernel_rfl) (by kernel_rfl) (fun _ _ _ h => h) (by rfl) c9 ?_
                  try simp only [List.setIfInBounds_toArray, List.set_cons_zero, List.set_cons_succ]
                  refine held_skip 11 125 rfl rfl (by kernel_rfl) (by kernel_rfl) (by kernel_rfl) (fun _ _ _ h => h) (by rfl) c9 ?_
                  try simp only [List.setIfInBounds_toArray, List.set_cons_zero, List.set_cons_succ]
                  refine held_skip 12 126 rfl rfl (by kernel_rfl) (by kernel_rfl) (by kernel_rfl) (fun _ _ _ h => h) (by rfl) c9 ?_
                  try simp only [List.setIfInBounds_toArray, List.set_cons_zero, List.set_cons_succ]
                  refine held_skip 13 127 rfl rfl (by kernel_rfl) (by kernel_rfl) (by kernel_rfl) (fun _ _ _ h => h) (by rfl) c9 ?_
                  try simp only [List.setIfInBounds_toArray, List.set_cons_zero, List.set_cons_succ]
                  refine held_skip 14 128 rfl rfl (by kernel_rfl) (by kernel_rfl) (by kernel_rfl) (fun _ _ _ h => h) (by rfl) c9 ?_
                  try simp only [List.setIfInBounds_toArray, List.set_cons_zero, List.set_cons_succ]
                  refine held_skip 15 129 rfl rfl (by kernel_rfl) (by kernel_rfl) (by kernel_rfl) (fun _ _ _ h => h) (by rfl) c9 ?_
                  try simp only [List.setIfInBounds_toArray, List.set_cons_zero, List.set_cons_succ]
                  refine held_skip 16 130 rfl rfl (by kernel_rfl) (by kernel_rfl) (by kernel_rfl) (fun _ _ _ h => h) (by rfl) c9 ?_
                  try simp only [List.setIfInBounds_toArray, List.set_cons_zero, List.set_cons_succ]
                  refine held_skip 17 131 rfl rfl (by kernel_rfl) (by kernel_rfl) (by kernel_rfl) (fun _ _ _ h => h) (by rfl) c9 ?_
                  try simp only [List.setIfInBounds_toArray, List.set_cons_zero, List.set_cons_succ]
                  refine held_skip 18 132 rfl rfl (by kernel_rfl) (by kernel_rfl) (by kernel_rfl) (fun _ _ _ h => h) (by rfl) c9 ?_
                  try simp only [List.setIfInBounds_toArray, List.set_cons_zero, List.set_cons_succ]
                  refine held_skip 19 133 rfl rfl (by kernel_rfl) (by kernel_rfl) (by kernel_rfl) (fun _ _ _ h => h) (by rfl) c9 ?_
                  try simp only [List.setIfInBounds_toArray, List.set_cons_zero, List.set_cons_succ]
                  refine held_skip 20 134 rfl rfl (by kernel_rfl) (by kernel_rfl) (by kernel_rfl) (fun _ _ _ h => h) (by rfl) c9 ?_
                  try simp only [List.setIfInBounds_toArray, List.set_cons_zero, List.set_cons_succ]
                  refine held_skip 21 135 rfl rfl (by kernel_rfl) (by kernel_rfl) (by kernel_rfl) (fun _ _ _ h => h) (by rfl) c9 ?_
                  try simp only [List.setIfInBounds_toArray, List.set_cons_zero, List.set_cons_succ]
                  refine held_skip 22 136 rfl rfl (by kernel_rfl) (by kernel_rfl) (by kernel_rfl) (fun _ _ _ h => h) (by rfl) c9 ?_
                  try simp only [List.setIfInBounds_toArray, List.set_cons_zero, List.set_cons_succ]
                  refine held_take 23 137 (v := ?_) rfl rfl (by kernel_rfl) (by kernel_rfl) (by kernel_rfl) (fun _ _ _ h => h) (by rfl) ?_ c9 ?_
                  rotate_left
                  · (intro w hSw; (try dsimp only at hSw); try simp only [List.getElem_toArray, List.getElem_cons_zero, List.getElem_cons_succ]; go_simp; try (with_reducible rfl))
                  try simp only [List.setIfInBounds_toArray, List.set_cons_zero, List.set_cons_succ]
                  refine wpAnyH_done (by kernel_rfl) ?_ _
                  go_wp2
                  go_roundw
                  case rel => exact ⟨d + 1, by omega, by omega, by go_num, R9.out, D9'.out⟩
                  case measure => simp [intOf]; omega
                · by_cases hf : 65535 ≤ T1
                  · have hf' : decide (65535 ≤ T1) = true := by simpa using hf
                    clear hag
                    go_upto_region 31 with (go_at_call 26; (with_reducible refine (HRT.out).mono ?_); rintro e w9 ⟨rfl, q9, rfl⟩; have D9 := Lib.hid (D.out.drewN q9); have R9 := Lib.hid (row_drewN R.out q9); have C9 := Lib.hid (show (wr.drewN q9).cell? ⟨g, d, none⟩ = some (dv T1 T2) from HCELL.out))
                    generalize wr.drewN q9 = w9 at D9 R9 C9 ⊢
                    have D9' := Lib.hid (nd_drew D9.out)
                    have c9 := C9.out
                    refine wp_region_held_drew (S := (fun w' => w'.cell? ⟨g, d, none⟩ = some (dv T1 T2))) (by kernel_rfl) c9 (fun _ => ?_)
                    refine held_take 0 114 (v := ?_) rfl rfl (by kernel_rfl) (by kernel_rfl) (by kernel_rfl) (fun _ _ _ h => h) (by rfl) ?_ c9 ?_
                    rotate_left
                    · (intro w hSw; (try dsimp only at hSw); try simp only [List.getElem_toArray, List.getElem_cons_zero, List.getElem_cons_succ]; go_simp; try (with_reducible rfl))
                    try simp only [List.setIfInBounds_toArray, List.set_cons_zero, List.set_cons_succ]
                    refine held_take 1 115 (v := ?_) rfl rfl (by kernel_rfl) (by kernel_rfl) (by kernel_rfl) (fun _ _ _ h => h) (by rfl) ?_ c9 ?_
                    rotate_left
                    · (intro w hSw; (try dsimp only at hSw); try simp only [List.getElem_toArray, List.getElem_cons_zero, List.getElem_cons_succ]; go_simp; try (with_reducible rfl))
                    try simp only [List.setIfInBounds_toArray, List.set_cons_zero, List.set_cons_succ]
                    refine held_take 2 116 (v := ?_) rfl rfl (by kernel_rfl) (by kernel_rfl) (by kernel_rfl) (fun _ _ _ h => h) (by rfl) ?_ c9 ?_
                    rotate_left
                    · (intro w hSw; (try dsimp only at hSw); try simp only [List.getElem_toArray, List.getElem_cons_zero, List.getElem_cons_succ]; go_simp; try (with_reducible rfl))
                    try simp only [List.setIfInBounds_toArray, List.set_cons_zero, List.set_cons_succ]
                    refine held_take 3 117 (v := ?_) rfl rfl (by kernel_rfl) (by kernel_rfl) (by kernel_rfl) (fun _ _ _ h => h) (by rfl) ?_ c9 ?_
                    rotate_left
                    · (intro w hSw; (try dsimp only at hSw); try simp only [List.getElem_toArray, List.getElem_cons_zero, List.getElem_cons_succ]; go_simp; try (with_reducible rfl))
                    try simp only [List.setIfInBounds_toArray, List.set_cons_zero, List.set_cons_succ]
                    refine held_take 4 118 (v := ?_) rfl rfl (by kernel_rfl) (by kernel_rfl) (by kernel_rfl) (fun _ _ _ h => h) (by rfl) ?_ c9 ?_
                    rotate_left
                    · (intro w hSw; (try dsimp only at hSw); try simp only [List.getElem_toArray, List.getElem_cons_zero, List.getElem_cons_succ]; go_simp; try (with_reducible rfl))
                    try simp only [List.setIfInBounds_toArray, List.set_cons_zero, List.set_cons_succ]
                    refine held_take 5 119 (v := ?_) rfl rfl (by kernel_rfl) (by kernel_rfl) (by kernel_rfl) (fun _ _ _ h => h) (by rfl) ?_ c9 ?_
                    rotate_left
                    · (intro w hSw; (try dsimp only at hSw); try simp only [List.getElem_toArray, List.getElem_cons_zero, List.getElem_cons_succ]; go_simp; try (with_reducible rfl))
                    try simp only [List.setIfInBounds_toArray, List.set_cons_zero, List.set_cons_succ]
                    refine held_call 6 120 rfl rfl (by kernel_rfl) (by rfl) (fun K hK => ?_)
                    try simp only [List.getElem_toArray, List.getElem_cons_zero, List.getElem_cons_succ]
                    go_simp
                    (go_at_call 33; (with_reducible refine (far_any T1 T2 hs1 _).mono ?_); rintro e w2 ⟨rfl, rfl⟩)
                    try go_wp2_with fail
                    try simp only [Act.put, List.setIfInBounds_toArray, List.set_cons_zero, List.set_cons_succ]
                    refine hK.out _ _ _ c9 ?_
                    clear hK K
                    refine held_take 7 121 (v := ?_) rfl rfl (by kernel_rfl) (by kernel_rfl) (by kernel_rfl) (fun _ _ _ h => h) (by rfl) ?_ c9 ?_
                    rotate_left
                    · (intro w hSw; (try dsimp only at hSw); try simp only [List.getElem_toArray, List.getElem_cons_zero, List.getElem_cons_succ]; go_simp; try (with_reducible rfl))
                    try simp only [List.setIfInBounds_toArray, List.set_cons_zero, List.set_cons_succ]
                    refine held_take 8 122 (v := ?_) rfl rfl (by kernel_rfl) (by kernel_rfl) (by kernel_rfl) (fun _ _ _ h => h) (by rfl) ?_ c9 ?_
                    rotate_left
                    · (intro w hSw; (try dsimp only at hSw); try simp only [List.getElem_toArray, List.getElem_cons_zero, List.getElem_cons_succ]; go_simp; try (with_reducible rfl))
                    try simp only [List.setIfInBounds_toArray, List.set_cons_zero, List.set_cons_succ]
                    refine held_take 9 123 (v := ?_) rfl rfl (by kernel_rfl) (by kernel_rfl) (by kernel_rfl) (fun _ _ _ h => h) (by rfl) ?_ c9 ?_
                    rotate_left
                    · (intro w hSw; (try dsimp only at hSw); try simp only [List.getElem_toArray, List.getElem_cons_zero, List.getElem_cons_succ]; go_simp; try (with_reducible rfl))
                    try simp only [List.setIfInBounds_toArray, List.set_cons_zero, List.set_cons_succ]
                    refine held_skip 10 124 rfl rfl (by kernel_rfl) (by kernel_rfl) (by kernel_rfl) (fun _ _ _ h => h) (by rfl) c9 ?_
                    try simp only [List.setIfInBounds_toArray, List.set_cons_zero, List.set_cons_succ]
                    refine held_skip 11 125 rfl rfl (by kernel_rfl) (by kernel_rfl) (by kernel_rfl) (fun _ _ _ h => h) (by rfl) c9 ?_
                    try simp only [List.setIfInBounds_toArray, List.set_cons_zero, List.set_cons_succ]
                    refine held_skip 12 126 rfl rfl (by kernel_rfl) (by kernel_rfl) (by kernel_rfl) (fun _ _ _ h => h) (by rfl) c9 ?_
                    try simp only [List.setIfInBounds_toArray, List.set_cons_zero, List.set_cons_succ]
                    refine held_skip 13 127 rfl rfl (by kernel_rfl) (by kernel_rfl) (by kernel_rfl) (fun _ _ _ h => h) (by rfl) c9 ?_
                    try simp only [List.setIfInBounds_toArray, List.set_cons_zero, List.set_cons_succ]
                    refine held_skip 14 128 rfl rfl (by kernel_rfl) (by kernel_rfl) (by kernel_rfl) (fun _ _ _ h => h) (by rfl) c9 ?_
                    try simp only [List.setIfInBounds_toArray, List.set_cons_zero, List.set_cons_succ]
                    refine held_skip 15 129 rfl rfl (by kernel_rfl) (by kernel_rfl) (by kernel_rfl) (fun _ _ _ h => h) (by rfl) c9 ?_
                    try simp only [List.setIfInBounds_toArray, List.set_cons_zero, List.set_cons_succ]
                    refine held_skip 16 130 rfl rfl (by kernel_rfl) (by kernel_rfl) (by kernel_rfl) (fun _ _ _ h => h) (by rfl) c9 ?_
                    try simp only [List.setIfInBounds_toArray, List.set_cons_zero, List.set_cons_succ]
                    refine held_skip 17 131 rfl rfl (by kernel_rfl) (by kernel_rfl) (by kernel_rfl) (fun _ _ _ h => h) (by rfl) c9 ?_
                    try simp only [List.setIfInBounds_toArray, List.set_cons_zero, List.set_cons_succ]
                    refine held_skip 18 132 rfl rfl (by kernel_rfl) (by kernel_rfl) (by kernel_rfl) (fun _ _ _ h => h) (by rfl) c9 ?_
                    try simp only [List.setIfInBounds_toArray, List.set_cons_zero, List.set_cons_succ]
                    refine held_skip 19 133 rfl rfl (by kernel_rfl) (by kernel_rfl) (by kernel_rfl) (fun _ _ _ h => h) (by rfl) c9 ?_
                    try simp only [List.setIfInBounds_toArray, List.set_cons_zero, List.set_cons_succ]
                    refine held_skip 20 134 rfl rfl (by kernel_rfl) (by kernel_rfl) (by kernel_rfl) (fun _ _ _ h => h) (by rfl) c9 ?_
                    try simp only [List.setIfInBounds_toArray, List.set_cons_zero, List.set_cons_succ]
                    refine held_skip 21 135 rfl rfl (by kernel_rfl) (by kernel_rfl) (by kernel_rfl) (fun _ _ _ h => h) (by rfl) c9 ?_
                    try simp only [List.setIfInBounds_toArray, List.set_cons_zero, List.set_cons_succ]
                    refine held_skip 22 136 rfl rfl (by kernel_rfl) (by kernel_rfl) (by kernel_rfl) (fun _ _ _ h => h) (by rfl) c9 ?_
                    try simp only [List.setIfInBounds_toArray, List.set_cons_zero, List.set_cons_succ]
                    refine held_take 23 137 (v := ?_) rfl rfl (by kernel_rfl) (by kernel_rfl) (by kernel_rfl) (fun _ _ _ h => h) (by rfl) ?_ c9 ?_
                    rotate_left
                    · (intro w hSw; (try dsimp only at hSw); try simp only [List.getElem_toArray, List.getElem_cons_zero, List.getElem_cons_succ]; go_simp; try (with_reducible rfl))
                    try simp only [List.setIfInBounds_toArray, List.set_cons_zero, List.set_cons_succ]
                    refine wpAnyH_done (by kernel_rfl) ?_ _
                    go_wp2
                    go_roundw
                    case rel => exact ⟨d + 1, by omega, by omega, by go_num, R9.out, D9'.out⟩
                    case measure => simp [intOf]; omega
                  · have hf' : decide (65535 ≤ T1) = false := by simpa using hf
                    have he := hag rfl (by omega)
                    simp only [Prod.mk.injEq] at he
                    obtain ⟨h1, h2⟩ := he
                    have h1 := h1.symm
                    have h2 := h2.symm
                    subst h1 h2
                    clear hag
                    go_upto_region 31 with (go_at_call 26; (with_reducible refine (HRT.out).mono ?_); rintro e w9 ⟨rfl, q9, rfl⟩; have D9 := Lib.hid (D.out.drewN q9); have R9 := Lib.hid (row_drewN R.out q9); have C9 := Lib.hid (show (wr.drewN q9).cell? ⟨g, d, none⟩ = some (dv mm qq) from HCELL.out))
                    generalize wr.drewN q9 = w9 at D9 R9 C9 ⊢
                    have D9' := Lib.hid (nd_drew D9.out)
                    have c9 := C9.out
                    refine wp_region_held_drew (S := (fun w' => w'.cell? ⟨g, d, none⟩ = some (dv mm qq))) (by kernel_rfl) c9 (fun _ => ?_)
                    refine held_take 0 114 (v := ?_) rfl rfl (by kernel_rfl) (by kernel_rfl) (by kernel_rfl) (fun _ _ _ h => h) (by rfl) ?_ c9 ?_
                    rotate_left
                    · (intro w hSw; (try dsimp only at hSw); try simp only [List.getElem_toArray, List.getElem_cons_zero, List.getElem_cons_succ]; go_simp; try (with_reducible rfl))
                    try simp only [List.setIfInBounds_toArray, List.set_cons_zero, List.set_cons_succ]
                    refine held_take 1 115 (v := ?_) rfl rfl (by kernel_rfl) (by kernel_rfl) (by kernel_rfl) (fun _ _ _ h => h) (by rfl) ?_ c9 ?_
                    rotate_left
                    · (intro w hSw; (try dsimp only at hSw); try simp only [List.getElem_toArray, List.getElem_cons_zero, List.getElem_cons_succ]; go_simp; try (with_reducible rfl))
                    try simp only [List.setIfInBounds_toArray, List.set_cons_zero, List.set_cons_succ]
                    refine held_take 2 116 (v := ?_) rfl rfl (by kernel_rfl) (by kernel_rfl) (by kernel_rfl) (fun _ _ _ h => h) (by rfl) ?_ c9 ?_
                    rotate_left
                    · (intro w hSw; (try dsimp only at hSw); try simp only [List.getElem_toArray, List.getElem_cons_zero, List.getElem_cons_succ]; go_simp; try (with_reducible rfl))
                    try simp only [List.setIfInBounds_toArray, List.set_cons_zero, List.set_cons_succ]
                    refine held_take 3 117 (v := ?_) rfl rfl (by kernel_rfl) (by kernel_rfl) (by kernel_rfl) (fun _ _ _ h => h) (by rfl) ?_ c9 ?_
                    rotate_left
                    · (intro w hSw; (try dsimp only at hSw); try simp only [List.getElem_toArray, List.getElem_cons_zero, List.getElem_cons_succ]; go_simp; try (with_reducible rfl))
                    try simp only [List.setIfInBounds_toArray, List.set_cons_zero, List.set_cons_succ]
                    refine held_take 4 118 (v := ?_) rfl rfl (by kernel_rfl) (by kernel_rfl) (by kernel_rfl) (fun _ _ _ h => h) (by rfl) ?_ c9 ?_
                    rotate_left
                    · (intro w hSw; (try dsimp only at hSw); try simp only [List.getElem_toArray, List.getElem_cons_zero, List.getElem_cons_succ]; go_simp; try (with_reducible rfl))
                    try simp only [List.setIfInBounds_toArray, List.set_cons_zero, List.set_cons_succ]
                    refine held_take 5 119 (v := ?_) rfl rfl (by kernel_rfl) (by kernel_rfl) (by kernel_rfl) (fun _ _ _ h => h) (by rfl) ?_ c9 ?_
                    rotate_left
                    · (intro w hSw; (try dsimp only at hSw); try simp only [List.getElem_toArray, List.getElem_cons_zero, List.getElem_cons_succ]; go_simp; try (with_reducible rfl))
                    try simp only [List.setIfInBounds_toArray, List.set_cons_zero, List.set_cons_succ]
                    refine held_call 6 120 rfl rfl (by kernel_rfl) (by rfl) (fun K hK => ?_)
                    try simp only [List.getElem_toArray, List.getElem_cons_zero, List.getElem_cons_succ]
                    go_simp
                    (go_at_call 33; (with_reducible refine (far_any mm qq hs1 _).mono ?_); rintro e w2 ⟨rfl, rfl⟩)
                    try go_wp2_with fail
                    try simp only [Act.put, List.setIfInBounds_toArray, List.set_cons_zero, List.set_cons_succ]
                    refine hK.out _ _ _ c9 ?_
                    clear hK K
                    refine held_take 7 121 (v := ?_) rfl rfl (by kernel_rfl) (by kernel_rfl) (by kernel_rfl) (fun _ _ _ h => h) (by rfl) ?_ c9 ?_
                    rotate_left
                    · (intro w hSw; (try dsimp only at hSw); try simp only [List.getElem_toArray, List.getElem_cons_zero, List.getElem_cons_succ]; go_simp; try (with_reducible rfl))
                    try simp only [List.setIfInBounds_toArray, List.set_cons_zero, List.set_cons_succ]
                    refine held_take 8 122 (v := ?_) rfl rfl (by kernel_rfl) (by kernel_rfl) (by kernel_rfl) (fun _ _ _ h => h) (by rfl) ?_ c9 ?_
                    rotate_left
                    · (intro w hSw; (try dsimp only at hSw); try simp only [List.getElem_toArray, List.getElem_cons_zero, List.getElem_cons_succ]; go_simp; try (with_reducible rfl))
                    try simp only [List.setIfInBounds_toArray, List.set_cons_zero, List.set_cons_succ]
                    refine held_take 9 123 (v := ?_) rfl rfl (by kernel_rfl) (by kernel_rfl) (by kernel_rfl) (fun _ _ _ h => h) (by rfl) ?_ c9 ?_
                    rotate_left
                    · (intro w hSw; (try dsimp only at hSw); try simp only [List.getElem_toArray, List.getElem_cons_zero, List.getElem_cons_succ]; go_simp; try (with_reducible rfl))
                    try simp only [List.setIfInBounds_toArray, List.set_cons_zero, List.set_cons_succ]
                    refine held_take 10 124 (v := ?_) rfl rfl (by kernel_rfl) (by kernel_rfl) (by kernel_rfl) (fun _ _ _ h => h) (by rfl) ?_ c9 ?_
                    rotate_left
                    · (intro w hSw; (try dsimp only at hSw); try simp only [List.getElem_toArray, List.getElem_cons_zero, List.getElem_cons_succ]; go_simp; try (with_reducible rfl))
                    try simp only [List.setIfInBounds_toArray, List.set_cons_zero, List.set_cons_succ]
                    refine held_take 11 125 (v := ?_) rfl rfl (by kernel_rfl) (by kernel_rfl) (by kernel_rfl) (fun _ _ _ h => h) (by rfl) ?_ c9 ?_
                    rotate_left
                    · (intro w hSw; (try dsimp only at hSw); try simp only [List.getElem_toArray, List.getElem_cons_zero, List.getElem_cons_succ]; go_simp; try (with_reducible rfl))
                    try simp only [List.setIfInBounds_toArray, List.set_cons_zero, List.set_cons_succ]
                    refine held_take 12 126 (v := ?_) rfl rfl (by kernel_rfl) (by kernel_rfl) (by kernel_rfl) (fun _ _ _ h => h) (by rfl) ?_ c9 ?_
                    rotate_left
                    · (intro w hSw; (try dsimp only at hSw); try simp only [List.getElem_toArray, List.getElem_cons_zero, List.getElem_cons_succ]; go_simp; try (with_reducible rfl))
                    try simp only [List.setIfInBounds_toArray, List.set_cons_zero, List.set_cons_succ]
                    refine held_take 13 127 (v := ?_) rfl rfl (by kernel_rfl) (by kernel_rfl) (by kernel_rfl) (fun _ _ _ h => h) (by rfl) ?_ c9 ?_
                    rotate_left
                    · (intro w hSw; (try dsimp only at hSw); try simp only [List.getElem_toArray, List.getElem_cons_zero, List.getElem_cons_succ]; go_simp; try (with_reducible rfl))
                    try simp only [List.setIfInBounds_toArray, List.set_cons_zero, List.set_cons_succ]
                    refine held_take 14 128 (v := ?_) rfl rfl (by kernel_rfl) (by kernel_rfl) (by kernel_rfl) (fun _ _ _ h => h) (by rfl) ?_ c9 ?_
                    rotate_left
                    · (intro w hSw; (try dsimp only at hSw); try simp only [List.getElem_toArray, List.getElem_cons_zero, List.getElem_cons_succ]; go_simp; try (with_reducible rfl))
                    try simp only [List.setIfInBounds_toArray, List.set_cons_zero, List.set_cons_succ]
                    refine held_take 16 130 (v := ?_) rfl rfl (by kernel_rfl) (by kernel_rfl) (by kernel_rfl) (fun _ _ _ h => h) (by rfl) ?_ c9 ?_
                    rotate_left
                    · (intro w hSw; (try dsimp only at hSw); try simp only [List.getElem_toArray, List.getElem_cons_zero, List.getElem_cons_succ]; go_simp; try (with_reducible rfl))
                    try simp only [List.setIfInBounds_toArray, List.set_cons_zero, List.set_cons_succ]
                    refine held_take 17 131 (v := ?_) rfl rfl (by kernel_rfl) (by kernel_rfl) (by kernel_rfl) (fun _ _ _ h => h) (by rfl) ?_ c9 ?_
                    rotate_left
                    · (intro w hSw; (try dsimp only at hSw); try simp only [List.getElem_toArray, List.getElem_cons_zero, List.getElem_cons_succ]; go_simp; try (with_reducible rfl))
                    try simp only [List.setIfInBounds_toArray, List.set_cons_zero, List.set_cons_succ]
                    refine held_take 18 132 (v := ?_) rfl rfl (by kernel_rfl) (by kernel_rfl) (by kernel_rfl) (fun _ _ _ h => h) (by rfl) ?_ c9 ?_
                    rotate_left
                    · (intro w hSw; (try dsimp only at hSw); try simp only [List.getElem_toArray, List.getElem_cons_zero, List.getElem_cons_succ]; go_simp; try (with_reducible rfl))
                    try simp only [List.setIfInBounds_toArray, List.set_cons_zero, List.set_cons_succ]
                    refine held_take 19 133 (v := ?_) rfl rfl (by kernel_rfl) (by kernel_rfl) (by kernel_rfl) (fun _ _ _ h => h) (by rfl) ?_ c9 ?_
                    rotate_left
                    · (intro w hSw; (try dsimp only at hSw); try simp only [List.getElem_toArray, List.getElem_cons_zero, List.getElem_cons_succ]; go_simp; try (with_reducible rfl))
                    try simp only [List.setIfInBounds_toArray, List.set_cons_zero, List.set_cons_succ]
                    refine held_take 20 134 (v := ?_) rfl rfl (by kernel_rfl) (by kernel_rfl) (by kernel_rfl) (fun _ _ _ h => h) (by rfl) ?_ c9 ?_
                    rotate_left
                    · (intro w hSw; (try dsimp only at hSw); try simp only [List.getElem_toArray, List.getElem_cons_zero, List.getElem_cons_succ]; go_simp; try (with_reducible rfl))
                    try simp only [List.setIfInBounds_toArray, List.set_cons_zero, List.set_cons_succ]
                    refine held_take 21 135 (v := ?_) rfl rfl (by kernel_rfl) (by kernel_rfl) (by kernel_rfl) (fun _ _ _ h => h) (by rfl) ?_ c9 ?_
                    rotate_left
                    · (intro w hSw; (try dsimp only at hSw); try simp only [List.getElem_toArray, List.getElem_cons_zero, List.getElem_cons_succ]; go_simp; try (with_reducible rfl))
                    try simp only [List.setIfInBounds_toArray, List.set_cons_zero, List.set_cons_succ]
                    refine held_call 15 129 rfl rfl (by kernel_rfl) (by rfl) (fun K hK => ?_)
                    try simp only [List.getElem_toArray, List.getElem_cons_zero, List.getElem_cons_succ]
                    go_simp
                    (go_at_call 32; (with_reducible refine (bet_any mm qq mm qq hs1 hs2 hs3 hsq _).mono ?_); rintro e w2 ⟨rfl, rfl⟩)
                    try go_wp2_with fail
                    try simp only [Act.put, List.setIfInBounds_toArray, List.set_cons_zero, List.set_cons_succ]
                    refine hK.out _ _ _ c9 ?_
                    clear hK K
                    refine held_take 22 136 (v := ?_) rfl rfl (by kernel_rfl) (by kernel_rfl) (by kernel_rfl) (fun _ _ _ h => h) (by rfl) ?_ c9 ?_
                    rotate_left
                    · (intro w hSw; (try dsimp only at hSw); try simp only [List.getElem_toArray, List.getElem_cons_zero, List.getElem_cons_succ]; go_simp; try (with_reducible rfl))
                    try simp only [List.setIfInBounds_toArray, List.set_cons_zero, List.set_cons_succ]
                    refine held_take 23 137 (v := ?_) rfl rfl (by kernel_rfl) (by kernel_rfl) (by kernel_rfl) (fun _ _ _ h => h) (by rfl) ?_ c9 ?_
                    rotate_left
                    · (intro w hSw; (try dsimp only at hSw); try simp only [List.getElem_toArray, List.getElem_cons_zero, List.getElem_cons_succ]; go_simp; try (with_reducible rfl))
                    try simp only [List.setIfInBounds_toArray, List.set_cons_zero, List.set_cons_succ]
                    refine wpAnyH_done (by kernel_rfl) ?_ _
                    go_wp2
                    go_roundw
                    case rel => exact ⟨d + 1, by omega, by omega, by go_num, R9.out, D9'.out⟩
                    case measure => simp [intOf]; omega
              · obtain rfl : n = d := by omega
                go_wp2
                go_ret
                exact ⟨rfl, D.out.bel⟩
end EngineForgets
end Go.Proofs.Ytcmknllefnahkaa
