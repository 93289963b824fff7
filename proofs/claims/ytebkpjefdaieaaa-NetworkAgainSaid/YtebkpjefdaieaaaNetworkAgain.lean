/-
  NetworkAgain: the walk. Conditions: none.
-/
import Derived.Test.YtebkpjefdaieaaaNetMat
namespace Go.Proofs.Ytebkpjefdaieaaa
open Go.RowKit FR FP H2 OW
set_option linter.unusedVariables false
set_option linter.unusedSimpArgs false
namespace NetworkAgain
open Eng GG Net
/-- rows that were told: how far, of each goal -/
def vals (V : Nat → Value) (k : Nat) : List Value := (List.range k).map V
theorem vals_next (V : Nat → Value) (k : Nat) (v : Value) : vals (fun j => if j = k then v else V j) (k + 1) = vals V k ++ [v] := by
  unfold vals
  rw [List.range_succ, List.map_append]
  congr 1
  · refine List.map_congr_left (fun j hj => ?_)
    have : j < k := by simpa using hj
    have hne : ¬ j = k := by omega
    simp only [if_neg hne]
  · simp
def met (S : NetV) (d : Nat) (i : Nat) : Int := ((S.x i).route (d : Int)).2.1.1
theorem int_app {w w1 : World} {base size b2 d n : Nat} {v u : Value} {xs ys : List Value} {o : Obj} (h : w.ownsRow base 3 1 u n ys) (ho : w.ownsRow b2 35 size v d xs) (hg : (w.alloc o).grownBy w1 v.ownBlock) : OnlyT (fun t => t = 35) w w1 ∧ w1.ownsRow base 3 1 u n ys := by
  have o1 : OnlyT (fun t => t = 35) w w1 := ((OnlyT.refl (fun t => t = 35) w).alloc o).grown hg (fun k hk hlt => by
    obtain ⟨cs, t, fr, h1, h2⟩ := own_type ho hk (T := fun t => t = 35) rfl
    exact ⟨cs, t, fr, (Below.heap_alloc w o k (blk_lt h1)).trans h1, h2⟩)
  exact ⟨o1, o1.own h (by decide)⟩
theorem typ_app {w w1 : World} {size b2 d : Nat} {v : Value} {xs : List Value} {o : Obj} (ho : w.ownsRow b2 35 size v d xs) (hg : (w.alloc o).grownBy w1 v.ownBlock) : OnlyT (fun t => t = 35) w w1 :=
  ((OnlyT.refl (fun t => t = 35) w).alloc o).grown hg (fun k hk hlt => by
    obtain ⟨cs, t, fr, h1, h2⟩ := own_type ho hk (T := fun t => t = 35) rfl
    exact ⟨cs, t, fr, (Below.heap_alloc w o k (blk_lt h1)).trans h1, h2⟩)
theorem own_lower {w : World} {b b' size n : Nat} {e : TypeId} {v : Value} {xs : List Value} (h : w.ownsRow b e size v n xs) (hb : b' ≤ b) : w.ownsRow b' e size v n xs :=
  ⟨h.1, h.2.imp id (fun ⟨g, cap, cur, e, h2, r⟩ => ⟨g, cap, cur, e, Nat.le_trans hb h2, r⟩)⟩
theorem vals_get (V : Nat → Value) {n d : Nat} (h : d < n) : (vals V n)[d]? = some (V d) := by unfold vals; simp [h]
theorem heard_small {c : Nat → Nat → Int} {n a : Nat} (hn : n ≤ 6) (ha : a ≤ n) : heard c n a ≤ 36 := by
  have := heard_le c n a
  have : a * n ≤ 6 * 6 := Nat.mul_le_mul (by omega) hn
  omega
theorem same_true {n : Nat} {V U : Nat → Int} (h : ∀ i, i < n → V i = U i) : sam n n V U = true := sam_yes h
attribute [local irreducible] GG.lnk GG.lnc Far Row rows sam vals heard nbl
set_option maxRecDepth 1000000 in
set_option maxHeartbeats 32000000 in
theorem walk (n0 : Int) (v : Value) (w : World) (_ : (Lit.int .i64 n0).wf = true) (wv : IsActs w v) : Calls Try.prog 6 #[.int .i64 n0, v] w fun e w' => e = .returned (.bool true) ∧ Below w.heap.size w w' := by
  obtain ⟨i32, hi32, hz32a, hz32b, hz32c⟩ := info_parts info32
  have HI32 := Lib.hid hi32
  obtain ⟨A, m, cap, f, rfl, hm, hf⟩ := wv
  have HF := Lib.hid hf
  have HM := Lib.hid hm
  unfold maxLen at hm
  clear hf hi32
  obtain ⟨r, hr, hrr⟩ := remk n0 6 (by omega)
  obtain ⟨n, hn⟩ : ∃ n : Nat, n = 1 + r := ⟨_, rfl⟩
  have hn1 : 1 ≤ n := by omega
  have hn6 : n ≤ 6 := by omega
  have e6 : ((6 : Nat) : Int) = 6 := rfl
  rw [e6] at hrr
  have wa : IntKind.i64.wrap (r : Int) = (r : Int) := IntWalk.i64_in _ (by omega)
  have wb : IntKind.i64.wrap (1 + (r : Int)) = (n : Int) := by rw [IntWalk.i64_in _ (by omega)]; omega
  clear hn e6
  by_cases hfew : m ≤ 300
  · have hd : decide (m ≤ 300) = true := decide_eq_true hfew
    have hq := fun (w : World) => few_any A m cap w HM.out
    rw [hd] at hq
    have HQ := Lib.hid hq
    clear hd hq
    go_enter Try.func6, Try.ntmps6
    go_upto_region 9 with (first
      | (go_at_call 9; (with_reducible refine (awake_any w).mono ?_); rintro e w1 ⟨rfl, hb⟩; have HB1 := Lib.hid hb; have HF1 := Lib.hid (HF.out.below hb); clear hb)
      | (go_at_call 10; (with_reducible refine (HQ.out w1).mono ?_); rintro e w2 ⟨rfl, rfl⟩)
      | (go_at_call 11; (with_reducible refine (Net.new_any n w1 hn1 hn6).mono ?_); rintro e w2 ⟨⟨b, ly, rfl, hi⟩, hb⟩; have N2 := Lib.hid hi; have B2 := Lib.hid hb; clear hi hb)
      | (go_at_call 12; (with_reducible refine (make_any n w2 hn1 hn6).mono ?_); rintro e w3 ⟨⟨gm, cm, G, rfl, hmat⟩, hb⟩; have HM3 := Lib.hid hmat; have N3 := Lib.hid (N2.out.below hb); have B3 := Lib.hid (B2.out.trans (hb.mono B2.out.size)); clear hmat hb))
    have HBW := Lib.hid B2.out.size
    go_loopw [42] (fun s42 wr => ∃ (i : Nat) (S : NetV), i ≤ m ∧ s42 = .int .i64 i ∧ IsNet wr w1.heap.size b ly S ∧ Below w1.heap.size w1 wr ∧ S.n = n ∧ S.m.length ≤ 300 ∧ Pre S (1 + i) ∧ Mat wr w2.heap.size gm n cm G S.c) (fun s42 _ => m - (intOf s42).toNat)
    case atStart => exact ⟨0, _, by omega, rfl, N3.out, B3.out, rfl, Nat.zero_le _, pre_new n, HM3.out⟩
    case round =>
      obtain ⟨i, S, hi, rfl, hnet, hbel, hsn, hsm, hpre, hmat⟩ := hrel
      have N := Lib.hid hnet
      have B := Lib.hid hbel
      have HN := Lib.hid hsn
      have HL := Lib.hid hsm
      have HP := Lib.hid hpre
      have HMM := Lib.hid hmat
      clear hnet hbel hsn hsm hpre hmat N2 B2 N3 B3 HM3
      by_cases hlt : i < m
      · have hlt' : (i : Int) < (m : Int) := by omega
        have i0 : (0 : Int) ≤ (i : Int) := by omega
        obtain ⟨g, o, rfl, hg, x0, x1, x2, x3⟩ := (HF1.out.below B.out) i hlt
        generalize f i = q at x0 x1 x2 x3
        obtain ⟨kk, a, bb, X⟩ := q
        dsimp only at x0 x1 x2 x3
        have HBX := Lib.hid (heap_alloc_new wr (.cells #[.int .i64 kk, .int .i64 a, .int .i64 bb, .int .i64 X] 33))
        have HMA := Lib.hid (HMM.out.keep ((Below.refl _ _).alloc (Nat.le_refl _) (.cells #[.int .i64 kk, .int .i64 a, .int .i64 bb, .int .i64 X] 33)))
        by_cases h1 : kk = 1
        · subst h1
          by_cases hl : GG.lnk S.n a bb X = 0
          · have hdo := fun (w : World) (h : IsNet w w1.heap.size b ly S) => do_one a bb X w h HL.out
            obtain ⟨ia, ib, rfl, rfl, hia, hib, hne, hX0, hX1⟩ := lnk_nat hl
            rw [hl] at hdo
            simp only [if_true, Int.toNat_natCast] at hdo
            have HDO := Lib.hid hdo
            have HC := Lib.hid (link_c hl)
            rw [HN.out] at hia hib
            have HNE := Lib.hid hne
            clear hdo hl hne
            have a00 : (0 : Int) ≤ (ia : Int) := by omega
            have b00 : (0 : Int) ≤ (ib : Int) := by omega
            have an : (ia : Int) < (n : Int) := by omega
            have bn : (ib : Int) < (n : Int) := by omega
            go_upto_region 12 with (go_at_call 13; (with_reducible refine (HDO.out _ (ialloc N.out _)).mono ?_); rintro e w4 ⟨rfl, hn4, ha, hd⟩; have HD := Lib.hid hd; have N4 := Lib.hid hn4; have HM4 := Lib.hid (mat_after HMA.out ha); have HB4 := Lib.hid (ha.typ.obj HBX.out (by unfold netT; decide)); have B4 := Lib.hid (B.out.trans ((((Below.refl _ _).alloc (Nat.le_refl _) _).mono B.out.size).trans ha.bel)); have hwr : w1.heap.size ≤ wr.heap.size := B.out.size; have e0 : w4.cell? ⟨wr.heap.size, 0, none⟩ = some (.int .i64 1) := (by rw [blk_cell HB4.out]; rfl); clear hd hn4 ha)
            have e1 : w4.drew.cell? ⟨wr.heap.size, 1, none⟩ = some (.int .i64 ia) := (blk_cell (w := w4) HB4.out 1).trans rfl
            have e2 : w4.drew.cell? ⟨wr.heap.size, 2, none⟩ = some (.int .i64 ib) := (blk_cell (w := w4) HB4.out 2).trans rfl
            have e3 : w4.drew.cell? ⟨wr.heap.size, 3, none⟩ = some (.int .i64 X) := (blk_cell (w := w4) HB4.out 3).trans rfl
            have y1 : w4.drew.cell? ⟨gm, ia, none⟩ = some (.slice (some ⟨G ia, 0, none⟩) n n) := HM4.out.row hia
            have y2 : w4.drew.cell? ⟨gm, ib, none⟩ = some (.slice (some ⟨G ib, 0, none⟩) n n) := HM4.out.row hib
            have n1 : G ia ≠ wr.heap.size := Nat.ne_of_lt (far_lt (HMM.out.far ia hia))
            have n2 : G ib ≠ wr.heap.size := Nat.ne_of_lt (far_lt (HMM.out.far ib hib))
            have n3 := gm_ne HMM.out hia
            have n4 := gm_ne HMM.out hib
            have n5 : G ia ≠ G ib := fun e => HNE.out (HMM.out.inj ia ib hia hib e)
            have z1 : w4.drew.cell? ⟨G ia, ib, none⟩ = some (.int .i64 (S.c ia ib)) := HM4.out.cell hia hib
            have q1 : w4.drew.frozen? ⟨G ia, ib, none⟩ = false := (HM4.out.far ia hia).free ib
            have z4 : w4.cell? ⟨G ia, ib, none⟩ = some (.int .i64 (S.c ia ib)) := z1
            have q4 : w4.frozen? ⟨G ia, ib, none⟩ = false := q1
            have z2 : w4.drew.cell? ⟨G ib, ia, none⟩ = some (.int .i64 (S.c ib ia)) := HM4.out.cell hib hia
            have z2' : (w4.drew.setCell ⟨G ia, ib, none⟩ (.int .i64 X)).cell? ⟨G ib, ia, none⟩ = some (.int .i64 (S.c ib ia)) := cell_other z2 n5
            have z3 : (w4.setCell ⟨G ia, ib, none⟩ (.int .i64 X)).cell? ⟨G ib, ia, none⟩ = some (.int .i64 (S.c ib ia)) := z2'
            have q3 : (w4.setCell ⟨G ia, ib, none⟩ (.int .i64 X)).frozen? ⟨G ib, ia, none⟩ = false := (far_other (HM4.out.far ib hib) (p := ⟨G ia, ib, none⟩) n5 _).free ia
            clear e0
            refine wp_region_held_drew (S := (fun w' => w'.cell? ⟨wr.heap.size, 1, none⟩ = some (.int .i64 ia) ∧ w'.cell? ⟨wr.heap.size, 2, none⟩ = some (.int .i64 ib) ∧ w'.cell? ⟨wr.heap.size, 3, none⟩ = some (.int .i64 X) ∧ w'.cell? ⟨gm, ia, none⟩ = some (.slice (some ⟨G ia, 0, none⟩) n n) ∧ w'.cell? ⟨gm, ib, none⟩ = some (.slice (some ⟨G ib, 0, none⟩) n n))) (by kernel_rfl) ⟨e1, e2, e3, y1, y2⟩ (fun _ => ?_)
            refine held_take 0 55 (v := ?_) rfl rfl (by kernel_rfl) (by kernel_rfl) (by kernel_rfl) (fun _ _ _ h => h) (by rfl) ?_ ⟨e1, e2, e3, y1, y2⟩ ?_
            rotate_left
            · (intro w hSw; (try dsimp only at hSw); try simp only [List.getElem_toArray, List.getElem_cons_zero, List.getElem_cons_succ]; go_simp; try (with_reducible rfl))
            try simp only [List.setIfInBounds_toArray, List.set_cons_zero, List.set_cons_succ]
            refine held_take 1 56 (v := ?_) rfl rfl (by kernel_rfl) (by kernel_rfl) (by kernel_rfl) (fun _ _ _ h => h) (by rfl) ?_ ⟨e1, e2, e3, y1, y2⟩ ?_
            rotate_left
            · (intro w hSw; (try dsimp only at hSw); try simp only [List.getElem_toArray, List.getElem_cons_zero, List.getElem_cons_succ]; go_simp; try (with_reducible rfl))
            try simp only [List.setIfInBounds_toArray, List.set_cons_zero, List.set_cons_succ]
            refine held_take 2 57 (v := ?_) rfl rfl (by kernel_rfl) (by kernel_rfl) (by kernel_rfl) (fun _ _ _ h => h) (by rfl) ?_ ⟨e1, e2, e3, y1, y2⟩ ?_
            rotate_left
            · (intro w hSw; (try dsimp only at hSw); try simp only [List.getElem_toArray, List.getElem_cons_zero, List.getElem_cons_succ]; go_simp; try (with_reducible rfl))
            try simp only [List.setIfInBounds_toArray, List.set_cons_zero, List.set_cons_succ]
            refine held_take 3 58 (v := ?_) rfl rfl (by kernel_rfl) (by kernel_rfl) (by kernel_rfl) (fun _ _ _ h => h) (by rfl) ?_ ⟨e1, e2, e3, y1, y2⟩ ?_
            rotate_left
            · (intro w hSw; (try dsimp only at hSw); try simp only [List.getElem_toArray, List.getElem_cons_zero, List.getElem_cons_succ]; go_simp; try (with_reducible rfl))
            try simp only [List.setIfInBounds_toArray, List.set_cons_zero, List.set_cons_succ]
            refine held_take 4 59 (v := ?_) rfl rfl (by kernel_rfl) (by kernel_rfl) (by kernel_rfl) (fun _ _ _ h => h) (by rfl) ?_ ⟨e1, e2, e3, y1, y2⟩ ?_
            rotate_left
            · (intro w hSw; (try dsimp only at hSw); try simp only [List.getElem_toArray, List.getElem_cons_zero, List.getElem_cons_succ]; go_simp; try (with_reducible rfl))
            try simp only [List.setIfInBounds_toArray, List.set_cons_zero, List.set_cons_succ]
            refine held_take 5 60 (v := ?_) rfl rfl (by kernel_rfl) (by kernel_rfl) (by kernel_rfl) (fun _ _ _ h => h) (by rfl) ?_ ⟨e1, e2, e3, y1, y2⟩ ?_
            rotate_left
            · (intro w hSw; (try dsimp only at hSw); try simp only [List.getElem_toArray, List.getElem_cons_zero, List.getElem_cons_succ]; go_simp; try (with_reducible rfl))
            try simp only [List.setIfInBounds_toArray, List.set_cons_zero, List.set_cons_succ]
            refine held_take 6 61 (v := ?_) rfl rfl (by kernel_rfl) (by kernel_rfl) (by kernel_rfl) (fun _ _ _ h => h) (by rfl) ?_ ⟨e1, e2, e3, y1, y2⟩ ?_
            rotate_left
            · (intro w hSw; (try dsimp only at hSw); try simp only [List.getElem_toArray, List.getElem_cons_zero, List.getElem_cons_succ]; go_simp; try (with_reducible rfl))
            try simp only [List.setIfInBounds_toArray, List.set_cons_zero, List.set_cons_succ]
            refine held_take 7 62 (v := ?_) rfl rfl (by kernel_rfl) (by kernel_rfl) (by kernel_rfl) (fun _ _ _ h => h) (by rfl) ?_ ⟨e1, e2, e3, y1, y2⟩ ?_
            rotate_left
            · (intro w hSw; (try dsimp only at hSw); try simp only [List.getElem_toArray, List.getElem_cons_zero, List.getElem_cons_succ]; go_simp; try (with_reducible rfl))
            try simp only [List.setIfInBounds_toArray, List.set_cons_zero, List.set_cons_succ]
            refine held_take 8 63 (v := ?_) rfl rfl (by kernel_rfl) (by kernel_rfl) (by kernel_rfl) (fun _ _ _ h => h) (by rfl) ?_ ⟨e1, e2, e3, y1, y2⟩ ?_
            rotate_left
            · (intro w hSw; (try dsimp only at hSw); try simp only [List.getElem_toArray, List.getElem_cons_zero, List.getElem_cons_succ]; go_simp; try (with_reducible rfl))
            try simp only [List.setIfInBounds_toArray, List.set_cons_zero, List.set_cons_succ]
            refine held_take 9 64 (v := ?_) rfl rfl (by kernel_rfl) (by kernel_rfl) (by kernel_rfl) (fun _ _ _ h => h) (by rfl) ?_ ⟨e1, e2, e3, y1, y2⟩ ?_
            rotate_left
            · (intro w hSw; (try dsimp only at hSw); try simp only [List.getElem_toArray, List.getElem_cons_zero, List.getElem_cons_succ]; go_simp; try (with_reducible rfl))
            try simp only [List.setIfInBounds_toArray, List.set_cons_zero, List.set_cons_succ]
            refine held_take 10 65 (v := ?_) rfl rfl (by kernel_rfl) (by kernel_rfl) (by kernel_rfl) (fun _ _ _ h => h) (by rfl) ?_ ⟨e1, e2, e3, y1, y2⟩ ?_
            rotate_left
            · (intro w hSw; (try dsimp only at hSw); try simp only [List.getElem_toArray, List.getElem_cons_zero, List.getElem_cons_succ]; go_simp; try (with_reducible rfl))
            try simp only [List.setIfInBounds_toArray, List.set_cons_zero, List.set_cons_succ]
            refine held_take 11 66 (v := ?_) rfl rfl (by kernel_rfl) (by kernel_rfl) (by kernel_rfl) (fun _ _ _ h => h) (by rfl) ?_ ⟨e1, e2, e3, y1, y2⟩ ?_
            rotate_left
            · (intro w hSw; (try dsimp only at hSw); try simp only [List.getElem_toArray, List.getElem_cons_zero, List.getElem_cons_succ]; go_simp; try (with_reducible rfl))
            try simp only [List.setIfInBounds_toArray, List.set_cons_zero, List.set_cons_succ]
            refine held_take 12 67 (v := ?_) rfl rfl (by kernel_rfl) (by kernel_rfl) (by kernel_rfl) (fun _ _ _ h => h) (by rfl) ?_ ⟨e1, e2, e3, y1, y2⟩ ?_
            rotate_left
            · (intro w hSw; (try dsimp only at hSw); try simp only [List.getElem_toArray, List.getElem_cons_zero, List.getElem_cons_succ]; go_simp; try (with_reducible rfl))
            try simp only [List.setIfInBounds_toArray, List.set_cons_zero, List.set_cons_succ]
            refine held_take 13 68 (v := ?_) rfl rfl (by kernel_rfl) (by kernel_rfl) (by kernel_rfl) (fun _ _ _ h => h) (by rfl) ?_ ⟨e1, e2, e3, y1, y2⟩ ?_
            rotate_left
            · (intro w hSw; (try dsimp only at hSw); try simp only [List.getElem_toArray, List.getElem_cons_zero, List.getElem_cons_succ]; go_simp; try (with_reducible rfl))
            try simp only [List.setIfInBounds_toArray, List.set_cons_zero, List.set_cons_succ]
            refine held_take 14 69 (v := ?_) rfl rfl (by kernel_rfl) (by kernel_rfl) (by kernel_rfl) (fun _ _ _ h => h) (by rfl) ?_ ⟨e1, e2, e3, y1, y2⟩ ?_
            rotate_left
            · (intro w hSw; (try dsimp only at hSw); try simp only [List.getElem_toArray, List.getElem_cons_zero, List.getElem_cons_succ]; go_simp; try (with_reducible rfl))
            try simp only [List.setIfInBounds_toArray, List.set_cons_zero, List.set_cons_succ]
            refine held_take 15 70 (v := ?_) rfl rfl (by kernel_rfl) (by kernel_rfl) (by kernel_rfl) (fun _ _ _ h => h) (by rfl) ?_ ⟨e1, e2, e3, y1, y2⟩ ?_
            rotate_left
            · (intro w hSw; (try dsimp only at hSw); try simp only [List.getElem_toArray, List.getElem_cons_zero, List.getElem_cons_succ]; go_simp; try (with_reducible rfl))
            try simp only [List.setIfInBounds_toArray, List.set_cons_zero, List.set_cons_succ]
            refine held_take 16 71 (v := ?_) rfl rfl (by kernel_rfl) (by kernel_rfl) (by kernel_rfl) (fun _ _ _ h => h) (by rfl) ?_ ⟨e1, e2, e3, y1, y2⟩ ?_
            rotate_left
            · (intro w hSw; (try dsimp only at hSw); try simp only [List.getElem_toArray, List.getElem_cons_zero, List.getElem_cons_succ]; go_simp; try (with_reducible rfl))
            try simp only [List.setIfInBounds_toArray, List.set_cons_zero, List.set_cons_succ]
            refine held_take 17 72 (v := ?_) rfl rfl (by kernel_rfl) (by kernel_rfl) (by kernel_rfl) (fun _ _ _ h => h) (by rfl) ?_ ⟨e1, e2, e3, y1, y2⟩ ?_
            rotate_left
            · (intro w hSw; (try dsimp only at hSw); try simp only [List.getElem_toArray, List.getElem_cons_zero, List.getElem_cons_succ]; go_simp; try (with_reducible rfl))
            try simp only [List.setIfInBounds_toArray, List.set_cons_zero, List.set_cons_succ]
            refine held_take 18 73 (v := ?_) rfl rfl (by kernel_rfl) (by kernel_rfl) (by kernel_rfl) (fun _ _ _ h => h) (by rfl) ?_ ⟨e1, e2, e3, y1, y2⟩ ?_
            rotate_left
            · (intro w hSw; (try dsimp only at hSw); try simp only [List.getElem_toArray, List.getElem_cons_zero, List.getElem_cons_succ]; go_simp; try (with_reducible rfl))
            try simp only [List.setIfInBounds_toArray, List.set_cons_zero, List.set_cons_succ]
            refine held_do 19 rfl (by kernel_rfl) (by rfl) (fun K hK => ?_)
            try simp only [List.getElem_toArray, List.getElem_cons_zero, List.getElem_cons_succ]
            (go_simp; have e1 := cell_other (q := ⟨G ia, ib, none⟩) (u := .int .i64 X) e1 n1; have e2 := cell_other (q := ⟨G ia, ib, none⟩) (u := .int .i64 X) e2 n1; have e3 := cell_other (q := ⟨G ia, ib, none⟩) (u := .int .i64 X) e3 n1; have y1 := cell_other (q := ⟨G ia, ib, none⟩) (u := .int .i64 X) y1 n3; have y2 := cell_other (q := ⟨G ia, ib, none⟩) (u := .int .i64 X) y2 n3)
            try simp only [Act.put, List.setIfInBounds_toArray, List.set_cons_zero, List.set_cons_succ]
            refine hK.out _ _ _ ⟨e1, e2, e3, y1, y2⟩ ?_
            clear hK K
            refine held_take 20 74 (v := ?_) rfl rfl (by kernel_rfl) (by kernel_rfl) (by kernel_rfl) (fun _ _ _ h => h) (by rfl) ?_ ⟨e1, e2, e3, y1, y2⟩ ?_
            rotate_left
            · (intro w hSw; (try dsimp only at hSw); try simp only [List.getElem_toArray, List.getElem_cons_zero, List.getElem_cons_succ]; go_simp; try (with_reducible rfl))
            try simp only [List.setIfInBounds_toArray, List.set_cons_zero, List.set_cons_succ]
            refine held_do 21 rfl (by kernel_rfl) (by rfl) (fun K hK => ?_)
            try simp only [List.getElem_toArray, List.getElem_cons_zero, List.getElem_cons_succ]
            (go_simp; have e1 := cell_other (q := ⟨G ib, ia, none⟩) (u := .int .i64 X) e1 n2; have e2 := cell_other (q := ⟨G ib, ia, none⟩) (u := .int .i64 X) e2 n2; have e3 := cell_other (q := ⟨G ib, ia, none⟩) (u := .int .i64 X) e3 n2; have y1 := cell_other (q := ⟨G ib, ia, none⟩) (u := .int .i64 X) y1 n4; have y2 := cell_other (q := ⟨G ib, ia, none⟩) (u := .int .i64 X) y2 n4)
            try simp only [Act.put, List.setIfInBounds_toArray, List.set_cons_zero, List.set_cons_succ]
            refine hK.out _ _ _ ⟨e1, e2, e3, y1, y2⟩ ?_
            clear hK K
            refine wpAnyH_done (by kernel_rfl) ?_ _
            have HM6 := Lib.hid (mat_set (mat_set (mat_drew HM4.out) (a := ia) (b := ib) hia X) (a := ib) (b := ia) hib X)
            have N6 := Lib.hid (net_far (net_far N4.out.drew ((mat_drew HM4.out).far ia hia) ib (.int .i64 X)) (far_other ((mat_drew HM4.out).far ib hib) (p := ⟨G ia, ib, none⟩) n5 _) ia (.int .i64 X))
            have B6 := Lib.hid (below_set (below_set (below_drew B4.out) (p := ⟨G ia, ib, none⟩) (Nat.le_trans HBW.out (HM4.out.low ia hia)) (.int .i64 X)) (p := ⟨G ib, ia, none⟩) (Nat.le_trans HBW.out (HM4.out.low ib hib)) (.int .i64 X))
            clear y1 y2 z1 q1 z4 q4 z2 z2' z3 q3 n1 n2 n3 n4 n5 e1 e2 e3
            go_wp2
            go_roundw
            case rel => exact ⟨i + 1, _, by omega, by go_num, N6.out, B6.out, HN.out, HL.out, by have := HD.out.pre (ids_of N.out) HP.out; rw [show (1 : Int) + ((i + 1 : Nat) : Int) = 1 + (i : Int) + 1 by omega]; exact this, by rw [HC.out]; exact HM6.out⟩
            case measure => simp [intOf]; omega
          · have hdo := fun (w : World) (h : IsNet w w1.heap.size b ly S) => do_one a bb X w h HL.out
            rw [if_neg hl] at hdo
            generalize GG.lnk S.n a bb X = u at hdo hl
            have hu : (u == 0) = false := by simpa using hl
            have HDO := Lib.hid hdo
            clear hdo hl
            go_wp2_with (go_at_call 13; (with_reducible refine (HDO.out _ (ialloc N.out _)).mono ?_); rintro e w4 ⟨rfl, hn4, ha, hd⟩; have HD := Lib.hid hd; have N4 := Lib.hid hn4; have HM4 := Lib.hid (mat_after HMA.out ha); have B4 := Lib.hid (B.out.trans ((((Below.refl _ _).alloc (Nat.le_refl _) _).mono B.out.size).trans ha.bel)); clear hd hn4 ha)
            go_roundw
            case rel => exact ⟨i + 1, _, by omega, by go_num, N4.out, B4.out, HN.out, HL.out, by have := HD.out.pre (ids_of N.out) HP.out; rw [show (1 : Int) + ((i + 1 : Nat) : Int) = 1 + (i : Int) + 1 by omega]; exact this, HM4.out⟩
            case measure => simp [intOf]; omega
        · have h1' : (kk == 1) = false := by simpa using h1
          have H1 := Lib.hid h1
          clear h1
          go_wp2_with (go_at_call 13; (with_reducible refine (do_any kk a bb X _ (ialloc N.out _) HL.out).mono ?_); rintro e w4 ⟨x, S', rfl, hd, hn4, ha⟩; have HD := Lib.hid hd; have N4 := Lib.hid hn4; have HM4 := Lib.hid (mat_after HMA.out ha); have HB4 := Lib.hid (ha.typ.obj HBX.out (by unfold netT; decide)); have B4 := Lib.hid (B.out.trans ((((Below.refl _ _).alloc (Nat.le_refl _) _).mono B.out.size).trans ha.bel)); have e0 : w4.cell? ⟨wr.heap.size, 0, none⟩ = some (.int .i64 kk) := (by rw [blk_cell HB4.out]; rfl); clear hd hn4 ha)
          all_goals
            go_roundw
            case rel => exact ⟨i + 1, _, by omega, by go_num, N4.out, B4.out, (HD.out.few HL.out).2.trans HN.out, (HD.out.few HL.out).1, by have := HD.out.pre (ids_of N.out) HP.out; rw [show (1 : Int) + ((i + 1 : Nat) : Int) = 1 + (i : Int) + 1 by omega]; exact this, by rw [HD.out.same H1.out]; exact HM4.out⟩
            case measure => simp [intOf]; omega
      · obtain rfl : i = m := by omega
        have hlk : 1 + (i : Int) < 4294967290 := by omega
        have HLK := Lib.hid hlk
        clear hlk
        go_upto_region 16 with fail
        go_loop [10, 77] (fun s10 s77 => ∃ a t : Nat, a ≤ n ∧ s77 = .int .i64 a ∧ s10 = .int .i64 t ∧ t = heard S.c n a) (fun _ s77 => n - (intOf s77).toNat)
        case atStart => exact ⟨0, 0, by omega, rfl, rfl, by unfold heard; rfl⟩
        case round =>
          obtain ⟨a, t, ha, rfl, rfl, ht⟩ := hrel
          have HT := Lib.hid ht
          have t36 : t ≤ 36 := by rw [ht]; exact heard_small hn6 ha
          clear ht
          by_cases hla : a < n
          · have hla' : (a : Int) < (n : Int) := by omega
            have a00 : (0 : Int) ≤ (a : Int) := by omega
            have y1 := HMM.out.row hla
            go_upto_region 19 with fail
            go_loop [10, 81] (fun s10 s81 => ∃ bb u : Nat, bb ≤ n ∧ s81 = .int .i64 bb ∧ s10 = .int .i64 u ∧ u = t + (nbl S.c a bb).length) (fun _ s81 => n - (intOf s81).toNat)
            case atStart => exact ⟨0, t, by omega, rfl, rfl, by unfold nbl; rfl⟩
            case round =>
              obtain ⟨bb, u, hbb, rfl, rfl, hu⟩ := hrel
              have hll := nbl_len S.c a bb
              have HU := Lib.hid hu
              have u42 : u ≤ 42 := by omega
              clear hu hll
              by_cases hlb : bb < n
              · have hlb' : (bb : Int) < (n : Int) := by omega
                have b00 : (0 : Int) ≤ (bb : Int) := by omega
                have z1 := HMM.out.cell hla hlb
                have hnx : nbl S.c a (bb + 1) = if 0 < S.c a bb then nbl S.c a bb ++ [bb] else nbl S.c a bb := by rw [nbl]
                generalize S.c a bb = x at z1 hnx
                by_cases hx : 0 < x
                · rw [if_pos hx] at hnx
                  have HX := Lib.hid hnx
                  clear hnx
                  go_wp2
                  go_round
                  case rel => exact ⟨bb + 1, u + 1, by omega, by go_num, by go_num, by rw [HX.out, List.length_append, HU.out]; simp; omega⟩
                  case measure => simp [intOf]; omega
                · rw [if_neg hx] at hnx
                  have HX := Lib.hid hnx
                  clear hnx
                  go_wp2
                  go_round
                  case rel => exact ⟨bb + 1, u, by omega, by go_num, rfl, by rw [HX.out]; exact HU.out⟩
                  case measure => simp [intOf]; omega
              · obtain rfl : n = bb := by omega
                go_wp2
                go_round
                case rel => exact ⟨a + 1, u, by omega, by go_num, rfl, by rw [HU.out, HT.out, heard]⟩
                case measure => simp [intOf]; omega
          · obtain rfl : n = a := by omega
            have HS := settle_any wr N.out
            rw [HN.out, ← HT.out] at HS
            have hS1 := settle_same S
            have HS1 := Lib.hid hS1
            have HP1 := Lib.hid (pre_settle HP.out (by have := HLK.out; omega) (ids_of N.out) (wfs_of N.out) N.out.good)
            have HMT := Lib.hid (fun (d : Nat) (hd : d < S.n) (D : Nat → Int) (hF : GP.IsFar S.n S.c d D) (i : Nat) (hi : i < S.n) => settle_metric HP.out (by have := HLK.out; omega) (ids_of N.out) (wfs_of N.out) N.out.good hd hF hi)
            have HGD := Lib.hid N.out.good
            obtain ⟨K, hK⟩ : ∃ K : Nat, K = n * t := ⟨_, rfl⟩
            rw [← hK] at HS
            have HKK := Lib.hid hK
            have HST := Lib.hid HS
            clear hK HS hS1
            go_upto_region 28 with (go_at_call 14; (with_reducible refine (HST.out).mono ?_); rintro e w4 ⟨rfl, hn4, ha⟩; have N4 := Lib.hid hn4; have B4 := Lib.hid (B.out.trans ha.bel); clear hn4 ha)
            generalize S.settle = S1 at N4 HS1 HP1 HMT
            have HN1 := Lib.hid (HS1.out.1.trans HN.out)
            go_loopw [14, 99] (fun s14 s99 wr => ∃ (d : Nat) (sv : Value) (V : Nat → Value), d ≤ n ∧ s99 = .int .i64 d ∧ sv = s14 ∧ wr.ownsRow w1.heap.size 35 1 sv d (vals V d) ∧ (∀ j, j < d → wr.ownsRow w1.heap.size 3 1 (V j) n (ints (met S1 j) n)) ∧ IsNet wr w1.heap.size b ly S1 ∧ Below w1.heap.size w1 wr) (fun _ s99 _ => n - (intOf s99).toNat)
            case atStart => exact ⟨0, _, fun _ => .slice none 0 0, by omega, rfl, rfl, by unfold vals; exact World.ownsRow_nil _ _ _ _, fun j hj => by omega, N4.out, B4.out⟩
            case round =>
              obtain ⟨d, sv, V, hd, rfl, rfl, hown, hrows, hnet, hbel⟩ := hrel
              have HO := Lib.hid hown
              have HV := Lib.hid hrows
              have M := Lib.hid hnet
              have MB := Lib.hid hbel
              clear hown hrows hnet hbel N4 B4
              by_cases hdn : d < n
              · have hdn' : (d : Int) < (n : Int) := by omega
                have d0 : (0 : Int) ≤ (d : Int) := by omega
                have hms := metrics_ok wr M.out d (by rw [HN1.out]; exact hdn)
                rw [HN1.out] at hms
                have HMS := Lib.hid hms
                clear hms
                go_wp2_with (first
                  | (go_at_call 17; (with_reducible refine (HMS.out).mono ?_); rintro e w5 ⟨⟨v5, rfl, hv5⟩, hb5⟩; obtain ⟨A5, c5, rfl, _, _⟩ := own_row hv5; have HV5 := Lib.hid (show w5.ownsRow w1.heap.size 3 1 (.slice A5 n c5) n (ints (met S1 d) n) from own_lower hv5 MB.out.size); have HO5 := Lib.hid (GG.own_keep HO.out hb5); have HR5 := Lib.hid (fun j hj => GG.own_keep (HV.out j hj) hb5); have M5 := Lib.hid (M.out.below hb5); have MB5 := Lib.hid (MB.out.trans (hb5.mono MB.out.size)); clear hv5 hb5)
                  | (at_builtin; refine wpList_append_lies _ rfl (.tmp 102) (.tmp 106) 30 rfl w1.heap.size 35 i32 _ 1 24 Try.underlying30 HI32.out hz32a hz32b hz32c rfl (by omega) sv d _ rfl (HO5.out.alloc _) ⟨w5.heap.size, 0, none⟩ 1 1 [.slice A5 n c5] rfl rfl (cell_one_new _ _ _) (by simp [Value.oneCell']) (by omega) (by unfold maxLen; omega) (by omega) (by have := MB5.out.size; simp; omega) (w5.heap.size + 1) (by simp) ?_; intro g2 cap2 w8 hown1 hgrow1 hat1 hlt1; have HO8 := Lib.hid hown1; have o8 := typ_app HO5.out hgrow1; have M8 := Lib.hid (net_typ M5.out o8 (.inr rfl)); have HV8 := Lib.hid (o8.own HV5.out (by decide)); have HR8 := Lib.hid (fun j hj => o8.own (HR5.out j hj) (by decide)); have MB8 := Lib.hid (OW.app_below MB5.out HO5.out hgrow1); clear hown1 hgrow1 hat1 hlt1 o8))
                go_roundw
                case rel => exact ⟨d + 1, _, fun j => if j = d then .slice A5 n c5 else V j, by omega, by go_num, rfl, by rw [vals_next]; exact HO8.out, (fun j hj => by
                  dsimp only
                  by_cases e : j = d
                  · subst e; rw [if_pos rfl]; exact HV8.out
                  · rw [if_neg e]; exact HR8.out j (by omega)), M8.out, MB8.out⟩
                case measure => simp [intOf]; omega
              · obtain rfl : n = d := by omega
                have HS := settle_any wr M.out
                rw [HS1.out.2.1, HN1.out, ← HT.out, ← HKK.out] at HS
                have HST2 := Lib.hid HS
                have HS2 := Lib.hid (settle_same S1)
                have hp1k : 1 + (i : Int) + 1 < 4294967295 := by have := HLK.out; omega
                have HMT2 := Lib.hid (fun (d : Nat) (hd : d < S1.n) (D : Nat → Int) (hF : GP.IsFar S1.n S1.c d D) (i : Nat) (hi : i < S1.n) => settle_metric HP1.out hp1k (ids_of M.out) (wfs_of M.out) M.out.good hd hF hi)
                clear HS hp1k
                go_upto_region 34 with (go_at_call 14; (with_reducible refine (HST2.out).mono ?_); rintro e w5 ⟨rfl, hn5, ha⟩; have M5 := Lib.hid hn5; have MB5 := Lib.hid (MB.out.trans ha.bel); have HO5 := Lib.hid (ha.typ.own HO.out (by unfold netT; decide)); have HV5 := Lib.hid (fun j hj => int_own ha.typ (HV.out j hj)); clear hn5 ha)
                generalize S1.settle = S2 at M5 HS2 HMT2
                have HN2 := Lib.hid (HS2.out.1.trans HN1.out)
                obtain ⟨gs, cs, rfl, _, _, _⟩ := own_form HO5.out (by omega)
                have HEQ := Lib.hid (fun (d : Nat) (hd : d < n) => (show sam n n (met S1 d) (met S2 d) = true from same_true (fun i hi => by
                  obtain ⟨D, hD⟩ := far_ex (c := S.c) (n := S.n) HGD.out (show d < S.n by rw [HN.out]; exact hd)
                  have e1 := HMT.out d (by rw [HN.out]; exact hd) D hD i (by rw [HN.out]; exact hi)
                  have e2 := HMT2.out d (by rw [HN1.out]; exact hd) D (by rw [HS1.out.1, HS1.out.2.1]; exact hD) i (by rw [HN1.out]; exact hi)
                  exact e1.trans e2.symm)))
                go_loopw [112] (fun s112 wr => ∃ d : Nat, d ≤ n ∧ s112 = .int .i64 d ∧ wr.ownsRow w1.heap.size 35 1 (.slice (some ⟨gs, 0, none⟩) n cs) n (vals V n) ∧ (∀ j, j < n → wr.ownsRow w1.heap.size 3 1 (V j) n (ints (met S1 j) n)) ∧ IsNet wr w1.heap.size b ly S2 ∧ Below w1.heap.size w1 wr) (fun s112 _ => n - (intOf s112).toNat)
                case atStart => exact ⟨0, by omega, rfl, HO5.out, HV5.out, M5.out, MB5.out⟩
                case round =>
                  obtain ⟨d, hd, rfl, hown, hrows, hnet, hbel⟩ := hrel
                  have PO := Lib.hid hown
                  have PV := Lib.hid hrows
                  have P := Lib.hid hnet
                  have PB := Lib.hid hbel
                  clear hown hrows hnet hbel M5 MB5 HO5 HV5
                  by_cases hdn2 : d < n
                  · have hdn' : (d : Int) < (n : Int) := by omega
                    have d0 : (0 : Int) ≤ (d : Int) := by omega
                    obtain ⟨Ad, cd, hVd, hId, _⟩ := own_row (PV.out d hdn2)
                    have HId := Lib.hid hId
                    have y1 : wr.drew.cell? ⟨gs, d, none⟩ = some (.slice Ad n cd) := by rw [← hVd]; exact own_cell PO.out d _ (vals_get V hdn2)
                    have hms := metrics_ok wr.drew P.out.drew d (by rw [HN2.out]; exact hdn2)
                    rw [HN2.out] at hms
                    have HMS := Lib.hid hms
                    have HSM := Lib.hid (HEQ.out d hdn2)
                    clear hms hVd hId
                    go_upto_region 36 with fail
                    refine wp_region_held_drew (S := (fun w' => w'.cell? ⟨gs, d, none⟩ = some (.slice Ad n cd))) (by kernel_rfl) y1 (fun _ => ?_)
                    refine held_take 0 115 (v := ?_) rfl rfl (by kernel_rfl) (by kernel_rfl) (by kernel_rfl) (fun _ _ _ h => h) (by rfl) ?_ y1 ?_
                    rotate_left
                    · (intro w hSw; (try dsimp only at hSw); try simp only [List.getElem_toArray, List.getElem_cons_zero, List.getElem_cons_succ]; go_simp; try (with_reducible rfl))
                    try simp only [List.setIfInBounds_toArray, List.set_cons_zero, List.set_cons_succ]
                    refine held_take 1 116 (v := ?_) rfl rfl (by kernel_rfl) (by kernel_rfl) (by kernel_rfl) (fun _ _ _ h => h) (by rfl) ?_ y1 ?_
                    rotate_left
                    · (intro w hSw; (try dsimp only at hSw); try simp only [List.getElem_toArray, List.getElem_cons_zero, List.getElem_cons_succ]; go_simp; try (with_reducible rfl))
                    try simp only [List.setIfInBounds_toArray, List.set_cons_zero, List.set_cons_succ]
                    refine held_take 2 117 (v := ?_) rfl rfl (by kernel_rfl) (by kernel_rfl) (by kernel_rfl) (fun _ _ _ h => h) (by rfl) ?_ y1 ?_
                    rotate_left
                    · (intro w hSw; (try dsimp only at hSw); try simp only [List.getElem_toArray, List.getElem_cons_zero, List.getElem_cons_succ]; go_simp; try (with_reducible rfl))
                    try simp only [List.setIfInBounds_toArray, List.set_cons_zero, List.set_cons_succ]
                    refine held_take 3 118 (v := ?_) rfl rfl (by kernel_rfl) (by kernel_rfl) (by kernel_rfl) (fun _ _ _ h => h) (by rfl) ?_ y1 ?_
                    rotate_left
                    · (intro w hSw; (try dsimp only at hSw); try simp only [List.getElem_toArray, List.getElem_cons_zero, List.getElem_cons_succ]; go_simp; try (with_reducible rfl))
                    try simp only [List.setIfInBounds_toArray, List.set_cons_zero, List.set_cons_succ]
                    refine held_take 4 119 (v := ?_) rfl rfl (by kernel_rfl) (by kernel_rfl) (by kernel_rfl) (fun _ _ _ h => h) (by rfl) ?_ y1 ?_
                    rotate_left
                    · (intro w hSw; (try dsimp only at hSw); try simp only [List.getElem_toArray, List.getElem_cons_zero, List.getElem_cons_succ]; go_simp; try (with_reducible rfl))
                    try simp only [List.setIfInBounds_toArray, List.set_cons_zero, List.set_cons_succ]
                    refine held_take 5 120 (v := ?_) rfl rfl (by kernel_rfl) (by kernel_rfl) (by kernel_rfl) (fun _ _ _ h => h) (by rfl) ?_ y1 ?_
                    rotate_left
                    · (intro w hSw; (try dsimp only at hSw); try simp only [List.getElem_toArray, List.getElem_cons_zero, List.getElem_cons_succ]; go_simp; try (with_reducible rfl))
                    try simp only [List.setIfInBounds_toArray, List.set_cons_zero, List.set_cons_succ]
                    refine held_call 6 121 rfl rfl (by kernel_rfl) (by rfl) (fun K hK => ?_)
                    try simp only [List.getElem_toArray, List.getElem_cons_zero, List.getElem_cons_succ]
                    go_simp
                    (go_at_call 17; (with_reducible refine (HMS.out).mono ?_); rintro e w6 ⟨⟨v6, rfl, hv6⟩, hb6⟩; obtain ⟨A6, c6, rfl, hI6, _⟩ := own_row hv6; have HI6 := Lib.hid hI6; have HJ6 := Lib.hid (HId.out.keep (below_drew (Below.refl _ _) |>.trans hb6)); have P6 := Lib.hid (P.out.drew.below hb6); have PB6 := Lib.hid ((below_drew PB.out).trans (hb6.mono PB.out.size)); have PO6 := Lib.hid (GG.own_keep (GG.own_keep PO.out (below_drew (Below.refl _ _))) hb6); have PV6 := Lib.hid (fun j hj => GG.own_keep (GG.own_keep (PV.out j hj) (below_drew (Below.refl _ _))) hb6); have y1 := later hb6 y1; clear hv6 hb6 hI6)
                    try go_wp2_with fail
                    try simp only [Act.put, List.setIfInBounds_toArray, List.set_cons_zero, List.set_cons_succ]
                    refine hK.out _ _ _ y1 ?_
                    clear hK K
                    refine held_call 7 122 rfl rfl (by kernel_rfl) (by rfl) (fun K hK => ?_)
                    try simp only [List.getElem_toArray, List.getElem_cons_zero, List.getElem_cons_succ]
                    go_simp
                    (go_at_call 16; (refine (same_any Ad n cd (met S1 d) A6 n c6 (met S2 d) w6 (by omega) HJ6.out HI6.out).mono ?_); rw [HSM.out]; rintro e w7 ⟨rfl, hb7⟩; have P7 := Lib.hid (P6.out.below hb7); have PB7 := Lib.hid (PB6.out.trans (hb7.mono PB6.out.size)); have PO7 := Lib.hid (GG.own_keep PO6.out hb7); have PV7 := Lib.hid (fun j hj => GG.own_keep (PV6.out j hj) hb7); have y1 := later hb7 y1; clear hb7)
                    try go_wp2_with fail
                    try simp only [Act.put, List.setIfInBounds_toArray, List.set_cons_zero, List.set_cons_succ]
                    refine hK.out _ _ _ y1 ?_
                    clear hK K
                    refine held_take 8 123 (v := ?_) rfl rfl (by kernel_rfl) (by kernel_rfl) (by kernel_rfl) (fun _ _ _ h => h) (by rfl) ?_ y1 ?_
                    rotate_left
                    · (intro w hSw; (try dsimp only at hSw); try simp only [List.getElem_toArray, List.getElem_cons_zero, List.getElem_cons_succ]; go_simp; try (with_reducible rfl))
                    try simp only [List.setIfInBounds_toArray, List.set_cons_zero, List.set_cons_succ]
                    refine wpAnyH_done (by kernel_rfl) ?_ _
                    go_wp2
                    go_roundw
                    case rel => exact ⟨d + 1, by omega, by go_num, PO7.out, PV7.out, P7.out, PB7.out⟩
                    case measure => simp [intOf]; omega
                  · obtain rfl : n = d := by omega
                    have hwy := way_len wr P.out
                    rw [HS2.out.2.2] at hwy
                    have HWY := Lib.hid hwy
                    have hk1 : IntKind.i64.wrap ((t : Int) * (n : Int)) = (K : Int) := by
                      have e : ((K : Nat) : Int) = (t : Int) * (n : Int) := by rw [HKK.out, Nat.mul_comm]; exact Int.natCast_mul _ _
                      have : K ≤ 6 * 36 := by rw [HKK.out]; exact Nat.mul_le_mul hn6 t36
                      rw [← e, IntWalk.i64_in _ (by omega)]
                    have hk2 : ((K : Int) == (K : Int)) = true := by simp
                    clear hwy
                    go_wp2_with (go_at_call 20; (with_reducible refine (HWY.out).mono ?_); rintro e w6 ⟨rfl, rfl⟩)
                    go_ret
                    exact ⟨rfl, HB1.out.trans (PB.out.mono HB1.out.size)⟩
  · have hd : decide (m ≤ 300) = false := decide_eq_false hfew
    have hq := fun (w : World) => few_any A m cap w HM.out
    rw [hd] at hq
    have HQ := Lib.hid hq
    clear hd hq
    go_enter Try.func6, Try.ntmps6
    go_wp2_with (first
      | (go_at_call 9; (with_reducible refine (awake_any w).mono ?_); rintro e w1 ⟨rfl, hb⟩; have HB1 := Lib.hid hb; clear hb)
      | (go_at_call 10; (with_reducible refine (HQ.out w1).mono ?_); rintro e w2 ⟨rfl, rfl⟩)
      | (go_at_call 9; (with_reducible refine (awake_any w1).mono ?_); rintro e w2 ⟨rfl, hb⟩; have HB2 := Lib.hid (HB1.out.trans (hb.mono HB1.out.size)); clear hb))
    go_ret
    exact ⟨rfl, HB2.out⟩
end NetworkAgain
end Go.Proofs.Ytebkpjefdaieaaa
