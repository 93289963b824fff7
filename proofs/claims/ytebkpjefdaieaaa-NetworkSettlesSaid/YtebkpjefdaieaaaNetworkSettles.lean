/-
  NetworkSettles: the walk. Conditions: none.
-/
import Derived.Test.YtebkpjefdaieaaaNetMat
namespace Go.Proofs.Ytebkpjefdaieaaa
open Go.RowKit FR FP H2 OW
set_option linter.unusedVariables false
set_option linter.unusedSimpArgs false
namespace NetworkSettles
open Eng GG Net
def met (S : NetV) (d : Nat) (i : Nat) : Int := ((S.x i).route (d : Int)).2.1.1
def nex (S : NetV) (d : Nat) (i : Nat) : Int := ((S.x i).route (d : Int)).1
/-- how many messages are on the way, read out of memory -/
def qlen (b : Nat) (w : World) : Nat := match w.cell? ⟨b, 2, none⟩ with
  | some (.slice _ k _) => k
  | _ => 0
theorem qlen_is {w : World} {base b : Nat} {ly : Lay} {S : NetV} (h : IsNet w base b ly S) : qlen b w = S.m.length := by
  obtain ⟨A, c, hc⟩ := h.c2
  unfold qlen
  rw [hc]
theorem bring_less {S S' : NetV} {a b n e : Int} (h : DoR S 3 a b n e S') (h0 : 0 < S.m.length) : S'.m.length < S.m.length := by
  unfold DoR at h
  rw [if_neg (by decide), if_pos (by decide), if_neg (by omega)] at h
  obtain ⟨_, v, hv, h⟩ := h
  rw [if_pos rfl] at h
  subst h
  show (S.m.eraseIdx (whichM n S.m.length)).length < S.m.length
  rw [List.length_eraseIdx_of_lt (whichM_lt n h0).1]
  omega
theorem far_ints {w : World} {g n : Nat} {F : Nat → Int} (h : Far w g n F) : Ints w (some ⟨g, 0, none⟩) n F := fun i hi => ⟨g, 0, rfl, far_lt h, by rw [Nat.zero_add]; exact h.cell i hi⟩
theorem far_all {n : Nat} {c : Nat → Nat → Int} (hg : GG.Good c) : ∃ D : Nat → Nat → Int, ∀ d, d < n → GP.IsFar n c d (D d) := by
  have h : ∀ d : Nat, ∃ D : Nat → Int, d < n → GP.IsFar n c d D := fun d => by
    by_cases hd : d < n
    · obtain ⟨D, hD⟩ := far_ex hg hd
      exact ⟨D, fun _ => hD⟩
    · exact ⟨fun _ => 0, fun h => absurd h hd⟩
  exact Classical.axiomOfChoice h
/-- settled for all goals -/
def AllC (n : Nat) (c : Nat → Nat → Int) (Q : Nat → Int) (D : Nat → Nat → Int) (S : NetV) : Prop := ∀ d, d < n → Calm2 n c d (Q d) (D d) S
theorem allC_met {n : Nat} {c : Nat → Nat → Int} {Q : Nat → Int} {D : Nat → Nat → Int} {S : NetV} (h : AllC n c Q D S) (hF : ∀ d, d < n → GP.IsFar n c d (D d)) {d : Nat} (hd : d < n) {F : Nat → Int} (he : ∀ i, i < n → F i = D d i) : sam n n (met S d) F = true :=
  sam_yes (fun i hi => by rw [he i hi]; exact ((h d hd).set.route (hF d hd) hd hi).1)
theorem allC_do {n : Nat} {c : Nat → Nat → Int} {Q : Nat → Int} {D : Nat → Nat → Int} {S S' : NetV} {k a b x e : Int} (h : AllC n c Q D S) (hF : ∀ d, d < n → GP.IsFar n c d (D d)) (hd : DoR S k a b x e S') (hk : k = 2 ∨ k = 3) (hw : ∀ i, i < n → Wf (S'.x i)) : AllC n c Q D S' :=
  fun d hdn => hd.calm hk hw (h d hdn) (hF d hdn) hdn
theorem allC_of {S : NetV} {k : Int} {D : Nat → Nat → Int} (hp : Pre S k) (hk : k < 4294967295) (hi : Ids S) (hw : ∀ i, i < S.n → Wf (S.x i)) (hg : GG.Good S.c) (hF : ∀ d, d < S.n → GP.IsFar S.n S.c d (D d)) : AllC S.n S.c (fun d => (S.x d).seq + 1) D S.settle :=
  fun d hd => ⟨settled_of hp hk hi hw hg hd (hF d hd), fun v hv => by rw [(settle_same S).2.2] at hv; cases hv⟩
theorem same_met (A : Option Addr) (n c gF : Nat) (V F : Nat → Int) (w : World) (hn : n ≤ 6) (hs : sam n n V F = true) (hI : Ints w A n V) (hF : Far w gF n F) : Calls Try.prog 16 #[.slice A n c, .slice (some ⟨gF, 0, none⟩) n n] w fun e w' => e = .returned (.bool true) ∧ Below w.heap.size w w' := by
  have h := same_any A n c V (some ⟨gF, 0, none⟩) n n F w (by omega) hI (far_ints hF)
  rw [hs] at h
  exact h
theorem heard_small {c : Nat → Nat → Int} {n a : Nat} (hn : n ≤ 6) (ha : a ≤ n) : heard c n a ≤ 36 := by
  have := heard_le c n a
  have : a * n ≤ 6 * 6 := Nat.mul_le_mul (by omega) hn
  omega
theorem same_true {n : Nat} {V U : Nat → Int} (h : ∀ i, i < n → V i = U i) : sam n n V U = true := sam_yes h
attribute [local irreducible] GG.lnk GG.lnc Far Row rows sam nbl heard
set_option maxRecDepth 1000000 in
set_option maxHeartbeats 32000000 in
theorem walk (n0 : Int) (v : Value) (w : World) (_ : (Lit.int .i64 n0).wf = true) (wv : IsActs w v) : Calls Try.prog 3 #[.int .i64 n0, v] w fun e w' => e = .returned (.bool true) ∧ Below w.heap.size w w' := by
  obtain ⟨i32, hi32, hz32a, hz32b, hz32c⟩ := info_parts info32
  have HI32 := Lib.hid hi32
  obtain ⟨A, m, cap, f, rfl, hm, hf⟩ := wv
  have HF := Lib.hid hf
  have HM := Lib.hid hm
  unfold maxLen at hm
  clear hf hi32
  obtain ⟨r, hr, hrr⟩ := remk n0 6 (by omega)
  obtain ⟨n, hn⟩ : ∃ n : Nat, n = 1 + r := ⟨_, rfl⟩
  have hn1 : 1 ≤ n := by omega
  have hn6 : n ≤ 6 := by omega
  have e6 : ((6 : Nat) : Int) = 6 := rfl
  rw [e6] at hrr
  have wa : IntKind.i64.wrap (r : Int) = (r : Int) := IntWalk.i64_in _ (by omega)
  have wb : IntKind.i64.wrap (1 + (r : Int)) = (n : Int) := by rw [IntWalk.i64_in _ (by omega)]; omega
  clear hn e6
  by_cases hfew : m ≤ 300
  · have hd : decide (m ≤ 300) = true := decide_eq_true hfew
    have hq := fun (w : World) => few_any A m cap w HM.out
    rw [hd] at hq
    have HQ := Lib.hid hq
    clear hd hq
    go_enter Try.func3, Try.ntmps3
    go_upto_region 9 with (first
      | (go_at_call 9; (with_reducible refine (awake_any w).mono ?_); rintro e w1 ⟨rfl, hb⟩; have HB1 := Lib.hid hb; have HF1 := Lib.hid (HF.out.below hb); clear hb)
      | (go_at_call 10; (with_reducible refine (HQ.out w1).mono ?_); rintro e w2 ⟨rfl, rfl⟩)
      | (go_at_call 11; (with_reducible refine (Net.new_any n w1 hn1 hn6).mono ?_); rintro e w2 ⟨⟨b, ly, rfl, hi⟩, hb⟩; have N2 := Lib.hid hi; have B2 := Lib.hid hb; clear hi hb)
      | (go_at_call 12; (with_reducible refine (make_any n w2 hn1 hn6).mono ?_); rintro e w3 ⟨⟨gm, cm, G, rfl, hmat⟩, hb⟩; have HM3 := Lib.hid hmat; have N3 := Lib.hid (N2.out.below hb); have B3 := Lib.hid (B2.out.trans (hb.mono B2.out.size)); clear hmat hb))
    have HBW := Lib.hid B2.out.size
    go_loopw [40] (fun s40 wr => ∃ (i : Nat) (S : NetV), i ≤ m ∧ s40 = .int .i64 i ∧ IsNet wr w1.heap.size b ly S ∧ Below w1.heap.size w1 wr ∧ S.n = n ∧ S.m.length ≤ 300 ∧ Pre S (1 + i) ∧ Mat wr w2.heap.size gm n cm G S.c) (fun s40 _ => m - (intOf s40).toNat)
    case atStart => exact ⟨0, _, by omega, rfl, N3.out, B3.out, rfl, Nat.zero_le _, pre_new n, HM3.out⟩
    case round =>
      obtain ⟨i, S, hi, rfl, hnet, hbel, hsn, hsm, hpre, hmat⟩ := hrel
      have N := Lib.hid hnet
      have B := Lib.hid hbel
      have HN := Lib.hid hsn
      have HL := Lib.hid hsm
      have HP := Lib.hid hpre
      have HMM := Lib.hid hmat
      clear hnet hbel hsn hsm hpre hmat N2 B2 N3 B3 HM3
      by_cases hlt : i < m
      · have hlt' : (i : Int) < (m : Int) := by omega
        have i0 : (0 : Int) ≤ (i : Int) := by omega
        obtain ⟨g, o, rfl, hg, x0, x1, x2, x3⟩ := (HF1.out.below B.out) i hlt
        generalize f i = q at x0 x1 x2 x3
        obtain ⟨kk, a, bb, X⟩ := q
        dsimp only at x0 x1 x2 x3
        have HBX := Lib.hid (heap_alloc_new wr (.cells #[.int .i64 kk, .int .i64 a, .int .i64 bb, .int .i64 X] 33))
        have HMA := Lib.hid (HMM.out.keep ((Below.refl _ _).alloc (Nat.le_refl _) (.cells #[.int .i64 kk, .int .i64 a, .int .i64 bb, .int .i64 X] 33)))
        by_cases h1 : kk = 1
        · subst h1
          by_cases hl : GG.lnk S.n a bb X = 0
          · have hdo := fun (w : World) (h : IsNet w w1.heap.size b ly S) => do_one a bb X w h HL.out
            obtain ⟨ia, ib, rfl, rfl, hia, hib, hne, hX0, hX1⟩ := lnk_nat hl
            rw [hl] at hdo
            simp only [if_true, Int.toNat_natCast] at hdo
            have HDO := Lib.hid hdo
            have HC := Lib.hid (link_c hl)
            rw [HN.out] at hia hib
            have HNE := Lib.hid hne
            clear hdo hl hne
            have a00 : (0 : Int) ≤ (ia : Int) := by omega
            have b00 : (0 : Int) ≤ (ib : Int) := by omega
            have an : (ia : Int) < (n : Int) := by omega
            have bn : (ib : Int) < (n : Int) := by omega
            go_upto_region 12 with (go_at_call 13; (with_reducible refine (HDO.out _ (ialloc N.out _)).mono ?_); rintro e w4 ⟨rfl, hn4, ha, hd⟩; have HD := Lib.hid hd; have N4 := Lib.hid hn4; have HM4 := Lib.hid (mat_after HMA.out ha); have HB4 := Lib.hid (ha.typ.obj HBX.out (by unfold netT; decide)); have B4 := Lib.hid (B.out.trans ((((Below.refl _ _).alloc (Nat.le_refl _) _).mono B.out.size).trans ha.bel)); have hwr : w1.heap.size ≤ wr.heap.size := B.out.size; have e0 : w4.cell? ⟨wr.heap.size, 0, none⟩ = some (.int .i64 1) := (by rw [blk_cell HB4.out]; rfl); clear hd hn4 ha)
            have e1 : w4.drew.cell? ⟨wr.heap.size, 1, none⟩ = some (.int .i64 ia) := (blk_cell (w := w4) HB4.out 1).trans rfl
            have e2 : w4.drew.cell? ⟨wr.heap.size, 2, none⟩ = some (.int .i64 ib) := (blk_cell (w := w4) HB4.out 2).trans rfl
            have e3 : w4.drew.cell? ⟨wr.heap.size, 3, none⟩ = some (.int .i64 X) := (blk_cell (w := w4) HB4.out 3).trans rfl
            have y1 : w4.drew.cell? ⟨gm, ia, none⟩ = some (.slice (some ⟨G ia, 0, none⟩) n n) := HM4.out.row hia
            have y2 : w4.drew.cell? ⟨gm, ib, none⟩ = some (.slice (some ⟨G ib, 0, none⟩) n n) := HM4.out.row hib
            have n1 : G ia ≠ wr.heap.size := Nat.ne_of_lt (far_lt (HMM.out.far ia hia))
            have n2 : G ib ≠ wr.heap.size := Nat.ne_of_lt (far_lt (HMM.out.far ib hib))
            have n3 := gm_ne HMM.out hia
            have n4 := gm_ne HMM.out hib
            have n5 : G ia ≠ G ib := fun e => HNE.out (HMM.out.inj ia ib hia hib e)
            have z1 : w4.drew.cell? ⟨G ia, ib, none⟩ = some (.int .i64 (S.c ia ib)) := HM4.out.cell hia hib
            have q1 : w4.drew.frozen? ⟨G ia, ib, none⟩ = false := (HM4.out.far ia hia).free ib
            have z4 : w4.cell? ⟨G ia, ib, none⟩ = some (.int .i64 (S.c ia ib)) := z1
            have q4 : w4.frozen? ⟨G ia, ib, none⟩ = false := q1
            have z2 : w4.drew.cell? ⟨G ib, ia, none⟩ = some (.int .i64 (S.c ib ia)) := HM4.out.cell hib hia
            have z2' : (w4.drew.setCell ⟨G ia, ib, none⟩ (.int .i64 X)).cell? ⟨G ib, ia, none⟩ = some (.int .i64 (S.c ib ia)) := cell_other z2 n5
            have z3 : (w4.setCell ⟨G ia, ib, none⟩ (.int .i64 X)).cell? ⟨G ib, ia, none⟩ = some (.int .i64 (S.c ib ia)) := z2'
            have q3 : (w4.setCell ⟨G ia, ib, none⟩ (.int .i64 X)).frozen? ⟨G ib, ia, none⟩ = false := (far_other (HM4.out.far ib hib) (p := ⟨G ia, ib, none⟩) n5 _).free ia
            clear e0
            refine wp_region_held_drew (S := (fun w' => w'.cell? ⟨wr.heap.size, 1, none⟩ = some (.int .i64 ia) ∧ w'.cell? ⟨wr.heap.size, 2, none⟩ = some (.int .i64 ib) ∧ w'.cell? ⟨wr.heap.size, 3, none⟩ = some (.int .i64 X) ∧ w'.cell? ⟨gm, ia, none⟩ = some (.slice (some ⟨G ia, 0, none⟩) n n) ∧ w'.cell? ⟨gm, ib, none⟩ = some (.slice (some ⟨G ib, 0, none⟩) n n))) (by kernel_rfl) ⟨e1, e2, e3, y1, y2⟩ (fun _ => ?_)
            refine held_take 0 53 (v := ?_) rfl rfl (by kernel_rfl) (by kernel_rfl) (by kernel_rfl) (fun _ _ _ h => h) (by rfl) ?_ ⟨e1, e2, e3, y1, y2⟩ ?_
            rotate_left
            · (intro w hSw; (try dsimp only at hSw); try simp only [List.getElem_toArray, List.getElem_cons_zero, List.getElem_cons_succ]; go_simp; try (with_reducible rfl))
            try simp only [List.setIfInBounds_toArray, List.set_cons_zero, List.set_cons_succ]
            refine held_take 1 54 (v := ?_) rfl rfl (by kernel_rfl) (by kernel_rfl) (by kernel_rfl) (fun _ _ _ h => h) (by rfl) ?_ ⟨e1, e2, e3, y1, y2⟩ ?_
            rotate_left
            · (intro w hSw; (try dsimp only at hSw); try simp only [List.getElem_toArray, List.getElem_cons_zero, List.getElem_cons_succ]; go_simp; try (with_reducible rfl))
            try simp only [List.setIfInBounds_toArray, List.set_cons_zero, List.set_cons_succ]
            refine held_take 2 55 (v := ?_) rfl rfl (by kernel_rfl) (by kernel_rfl) (by kernel_rfl) (fun _ _ _ h => h) (by rfl) ?_ ⟨e1, e2, e3, y1, y2⟩ ?_
            rotate_left
            · (intro w hSw; (try dsimp only at hSw); try simp only [List.getElem_toArray, List.getElem_cons_zero, List.getElem_cons_succ]; go_simp; try (with_reducible rfl))
            try simp only [List.setIfInBounds_toArray, List.set_cons_zero, List.set_cons_succ]
            refine held_take 3 56 (v := ?_) rfl rfl (by kernel_rfl) (by kernel_rfl) (by kernel_rfl) (fun _ _ _ h => h) (by rfl) ?_ ⟨e1, e2, e3, y1, y2⟩ ?_
            rotate_left
            · (intro w hSw; (try dsimp only at hSw); try simp only [List.getElem_toArray, List.getElem_cons_zero, List.getElem_cons_succ]; go_simp; try (with_reducible rfl))
            try simp only [List.setIfInBounds_toArray, List.set_cons_zero, List.set_cons_succ]
            refine held_take 4 57 (v := ?_) rfl rfl (by kernel_rfl) (by kernel_rfl) (by kernel_rfl) (fun _ _ _ h => h) (by rfl) ?_ ⟨e1, e2, e3, y1, y2⟩ ?_
            rotate_left
            · (intro w hSw; (try dsimp only at hSw); try simp only [List.getElem_toArray, List.getElem_cons_zero, List.getElem_cons_succ]; go_simp; try (with_reducible rfl))
            try simp only [List.setIfInBounds_toArray, List.set_cons_zero, List.set_cons_succ]
            refine held_take 5 58 (v := ?_) rfl rfl (by kernel_rfl) (by kernel_rfl) (by kernel_rfl) (fun _ _ _ h => h) (by rfl) ?_ ⟨e1, e2, e3, y1, y2⟩ ?_
            rotate_left
            · (intro w hSw; (try dsimp only at hSw); try simp only [List.getElem_toArray, List.getElem_cons_zero, List.getElem_cons_succ]; go_simp; try (with_reducible rfl))
            try simp only [List.setIfInBounds_toArray, List.set_cons_zero, List.set_cons_succ]
            refine held_take 6 59 (v := ?_) rfl rfl (by kernel_rfl) (by kernel_rfl) (by kernel_rfl) (fun _ _ _ h => h) (by rfl) ?_ ⟨e1, e2, e3, y1, y2⟩ ?_
            rotate_left
            · (intro w hSw; (try dsimp only at hSw); try simp only [List.getElem_toArray, List.getElem_cons_zero, List.getElem_cons_succ]; go_simp; try (with_reducible rfl))
            try simp only [List.setIfInBounds_toArray, List.set_cons_zero, List.set_cons_succ]
            refine held_take 7 60 (v := ?_) rfl rfl (by kernel_rfl) (by kernel_rfl) (by kernel_rfl) (fun _ _ _ h => h) (by rfl) ?_ ⟨e1, e2, e3, y1, y2⟩ ?_
            rotate_left
            · (intro w hSw; (try dsimp only at hSw); try simp only [List.getElem_toArray, List.getElem_cons_zero, List.getElem_cons_succ]; go_simp; try (with_reducible rfl))
            try simp only [List.setIfInBounds_toArray, List.set_cons_zero, List.set_cons_succ]
            refine held_take 8 61 (v := ?_) rfl rfl (by kernel_rfl) (by kernel_rfl) (by kernel_rfl) (fun _ _ _ h => h) (by rfl) ?_ ⟨e1, e2, e3, y1, y2⟩ ?_
            rotate_left
            · (intro w hSw; (try dsimp only at hSw); try simp only [List.getElem_toArray, List.getElem_cons_zero, List.getElem_cons_succ]; go_simp; try (with_reducible rfl))
            try simp only [List.setIfInBounds_toArray, List.set_cons_zero, List.set_cons_succ]
            refine held_take 9 62 (v := ?_) rfl rfl (by kernel_rfl) (by kernel_rfl) (by kernel_rfl) (fun _ _ _ h => h) (by rfl) ?_ ⟨e1, e2, e3, y1, y2⟩ ?_
            rotate_left
            · (intro w hSw; (try dsimp only at hSw); try simp only [List.getElem_toArray, List.getElem_cons_zero, List.getElem_cons_succ]; go_simp; try (with_reducible rfl))
            try simp only [List.setIfInBounds_toArray, List.set_cons_zero, List.set_cons_succ]
            refine held_take 10 63 (v := ?_) rfl rfl (by kernel_rfl) (by kernel_rfl) (by kernel_rfl) (fun _ _ _ h => h) (by rfl) ?_ ⟨e1, e2, e3, y1, y2⟩ ?_
            rotate_left
            · (intro w hSw; (try dsimp only at hSw); try simp only [List.getElem_toArray, List.getElem_cons_zero, List.getElem_cons_succ]; go_simp; try (with_reducible rfl))
            try simp only [List.setIfInBounds_toArray, List.set_cons_zero, List.set_cons_succ]
            refine held_take 11 64 (v := ?_) rfl rfl (by kernel_rfl) (by kernel_rfl) (by kernel_rfl) (fun _ _ _ h => h) (by rfl) ?_ ⟨e1, e2, e3, y1, y2⟩ ?_
            rotate_left
            · (intro w hSw; (try dsimp only at hSw); try simp only [List.getElem_toArray, List.getElem_cons_zero, List.getElem_cons_succ]; go_simp; try (with_reducible rfl))
            try simp only [List.setIfInBounds_toArray, List.set_cons_zero, List.set_cons_succ]
            refine held_take 12 65 (v := ?_) rfl rfl (by kernel_rfl) (by kernel_rfl) (by kernel_rfl) (fun _ _ _ h => h) (by rfl) ?_ ⟨e1, e2, e3, y1, y2⟩ ?_
            rotate_left
            · (intro w hSw; (try dsimp only at hSw); try simp only [List.getElem_toArray, List.getElem_cons_zero, List.getElem_cons_succ]; go_simp; try (with_reducible rfl))
            try simp only [List.setIfInBounds_toArray, List.set_cons_zero, List.set_cons_succ]
            refine held_take 13 66 (v := ?_) rfl rfl (by kernel_rfl) (by kernel_rfl) (by kernel_rfl) (fun _ _ _ h => h) (by rfl) ?_ ⟨e1, e2, e3, y1, y2⟩ ?_
            rotate_left
            · (intro w hSw; (try dsimp only at hSw); try simp only [List.getElem_toArray, List.getElem_cons_zero, List.getElem_cons_succ]; go_simp; try (with_reducible rfl))
            try simp only [List.setIfInBounds_toArray, List.set_cons_zero, List.set_cons_succ]
            refine held_take 14 67 (v := ?_) rfl rfl (by kernel_rfl) (by kernel_rfl) (by kernel_rfl) (fun _ _ _ h => h) (by rfl) ?_ ⟨e1, e2, e3, y1, y2⟩ ?_
            rotate_left
            · (intro w hSw; (try dsimp only at hSw); try simp only [List.getElem_toArray, List.getElem_cons_zero, List.getElem_cons_succ]; go_simp; try (with_reducible rfl))
            try simp only [List.setIfInBounds_toArray, List.set_cons_zero, List.set_cons_succ]
            refine held_take 15 68 (v := ?_) rfl rfl (by kernel_rfl) (by kernel_rfl) (by kernel_rfl) (fun _ _ _ h => h) (by rfl) ?_ ⟨e1, e2, e3, y1, y2⟩ ?_
            rotate_left
            · (intro w hSw; (try dsimp only at hSw); try simp only [List.getElem_toArray, List.getElem_cons_zero, List.getElem_cons_succ]; go_simp; try (with_reducible rfl))
            try simp only [List.setIfInBounds_toArray, List.set_cons_zero, List.set_cons_succ]
            refine held_take 16 69 (v := ?_) rfl rfl (by kernel_rfl) (by kernel_rfl) (by kernel_rfl) (fun _ _ _ h => h) (by rfl) ?_ ⟨e1, e2, e3, y1, y2⟩ ?_
            rotate_left
            · (intro w hSw; (try dsimp only at hSw); try simp only [List.getElem_toArray, List.getElem_cons_zero, List.getElem_cons_succ]; go_simp; try (with_reducible rfl))
            try simp only [List.setIfInBounds_toArray, List.set_cons_zero, List.set_cons_succ]
            refine held_take 17 70 (v := ?_) rfl rfl (by kernel_rfl) (by kernel_rfl) (by kernel_rfl) (fun _ _ _ h => h) (by rfl) ?_ ⟨e1, e2, e3, y1, y2⟩ ?_
            rotate_left
            · (intro w hSw; (try dsimp only at hSw); try simp only [List.getElem_toArray, List.getElem_cons_zero, List.getElem_cons_succ]; go_simp; try (with_reducible rfl))
            try simp only [List.setIfInBounds_toArray, List.set_cons_zero, List.set_cons_succ]
            refine held_take 18 71 (v := ?_) rfl rfl (by kernel_rfl) (by kernel_rfl) (by kernel_rfl) (fun _ _ _ h => h) (by rfl) ?_ ⟨e1, e2, e3, y1, y2⟩ ?_
            rotate_left
            · (intro w hSw; (try dsimp only at hSw); try simp only [List.getElem_toArray, List.getElem_cons_zero, List.getElem_cons_succ]; go_simp; try (with_reducible rfl))
            try simp only [List.setIfInBounds_toArray, List.set_cons_zero, List.set_cons_succ]
            refine held_do 19 rfl (by kernel_rfl) (by rfl) (fun K hK => ?_)
            try simp only [List.getElem_toArray, List.getElem_cons_zero, List.getElem_cons_succ]
            (go_simp; have e1 := cell_other (q := ⟨G ia, ib, none⟩) (u := .int .i64 X) e1 n1; have e2 := cell_other (q := ⟨G ia, ib, none⟩) (u := .int .i64 X) e2 n1; have e3 := cell_other (q := ⟨G ia, ib, none⟩) (u := .int .i64 X) e3 n1; have y1 := cell_other (q := ⟨G ia, ib, none⟩) (u := .int .i64 X) y1 n3; have y2 := cell_other (q := ⟨G ia, ib, none⟩) (u := .int .i64 X) y2 n3)
            try simp only [Act.put, List.setIfInBounds_toArray, List.set_cons_zero, List.set_cons_succ]
            refine hK.out _ _ _ ⟨e1, e2, e3, y1, y2⟩ ?_
            clear hK K
            refine held_take 20 72 (v := ?_) rfl rfl (by kernel_rfl) (by kernel_rfl) (by kernel_rfl) (fun _ _ _ h => h) (by rfl) ?_ ⟨e1, e2, e3, y1, y2⟩ ?_
            rotate_left
            · (intro w hSw; (try dsimp only at hSw); try simp only [List.getElem_toArray, List.getElem_cons_zero, List.getElem_cons_succ]; go_simp; try (with_reducible rfl))
            try simp only [List.setIfInBounds_toArray, List.set_cons_zero, List.set_cons_succ]
            refine held_do 21 rfl (by kernel_rfl) (by rfl) (fun K hK => ?_)
            try simp only [List.getElem_toArray, List.getElem_cons_zero, List.getElem_cons_succ]
            (go_simp; have e1 := cell_other (q := ⟨G ib, ia, none⟩) (u := .int .i64 X) e1 n2; have e2 := cell_other (q := ⟨G ib, ia, none⟩) (u := .int .i64 X) e2 n2; have e3 := cell_other (q := ⟨G ib, ia, none⟩) (u := .int .i64 X) e3 n2; have y1 := cell_other (q := ⟨G ib, ia, none⟩) (u := .int .i64 X) y1 n4; have y2 := cell_other (q := ⟨G ib, ia, none⟩) (u := .int .i64 X) y2 n4)
            try simp only [Act.put, List.setIfInBounds_toArray, List.set_cons_zero, List.set_cons_succ]
            refine hK.out _ _ _ ⟨e1, e2, e3, y1, y2⟩ ?_
            clear hK K
            refine wpAnyH_done (by kernel_rfl) ?_ _
            have HM6 := Lib.hid (mat_set (mat_set (mat_drew HM4.out) (a := ia) (b := ib) hia X) (a := ib) (b := ia) hib X)
            have N6 := Lib.hid (net_far (net_far N4.out.drew ((mat_drew HM4.out).far ia hia) ib (.int .i64 X)) (far_other ((mat_drew HM4.out).far ib hib) (p := ⟨G ia, ib, none⟩) n5 _) ia (.int .i64 X))
            have B6 := Lib.hid (below_set (below_set (below_drew B4.out) (p := ⟨G ia, ib, none⟩) (Nat.le_trans HBW.out (HM4.out.low ia hia)) (.int .i64 X)) (p := ⟨G ib, ia, none⟩) (Nat.le_trans HBW.out (HM4.out.low ib hib)) (.int .i64 X))
            clear y1 y2 z1 q1 z4 q4 z2 z2' z3 q3 n1 n2 n3 n4 n5 e1 e2 e3
            go_wp2
            go_roundw
            case rel => exact ⟨i + 1, _, by omega, by go_num, N6.out, B6.out, HN.out, HL.out, by have := HD.out.pre (ids_of N.out) HP.out; rw [show (1 : Int) + ((i + 1 : Nat) : Int) = 1 + (i : Int) + 1 by omega]; exact this, by rw [HC.out]; exact HM6.out⟩
            case measure => simp [intOf]; omega
          · have hdo := fun (w : World) (h : IsNet w w1.heap.size b ly S) => do_one a bb X w h HL.out
            rw [if_neg hl] at hdo
            generalize GG.lnk S.n a bb X = u at hdo hl
            have hu : (u == 0) = false := by simpa using hl
            have HDO := Lib.hid hdo
            clear hdo hl
            go_wp2_with (go_at_call 13; (with_reducible refine (HDO.out _ (ialloc N.out _)).mono ?_); rintro e w4 ⟨rfl, hn4, ha, hd⟩; have HD := Lib.hid hd; have N4 := Lib.hid hn4; have HM4 := Lib.hid (mat_after HMA.out ha); have B4 := Lib.hid (B.out.trans ((((Below.refl _ _).alloc (Nat.le_refl _) _).mono B.out.size).trans ha.bel)); clear hd hn4 ha)
            go_roundw
            case rel => exact ⟨i + 1, _, by omega, by go_num, N4.out, B4.out, HN.out, HL.out, by have := HD.out.pre (ids_of N.out) HP.out; rw [show (1 : Int) + ((i + 1 : Nat) : Int) = 1 + (i : Int) + 1 by omega]; exact this, HM4.out⟩
            case measure => simp [intOf]; omega
        · have h1' : (kk == 1) = false := by simpa using h1
          have H1 := Lib.hid h1
          clear h1
          go_wp2_with (go_at_call 13; (with_reducible refine (do_any kk a bb X _ (ialloc N.out _) HL.out).mono ?_); rintro e w4 ⟨x, S', rfl, hd, hn4, ha⟩; have HD := Lib.hid hd; have N4 := Lib.hid hn4; have HM4 := Lib.hid (mat_after HMA.out ha); have HB4 := Lib.hid (ha.typ.obj HBX.out (by unfold netT; decide)); have B4 := Lib.hid (B.out.trans ((((Below.refl _ _).alloc (Nat.le_refl _) _).mono B.out.size).trans ha.bel)); have e0 : w4.cell? ⟨wr.heap.size, 0, none⟩ = some (.int .i64 kk) := (by rw [blk_cell HB4.out]; rfl); clear hd hn4 ha)
          all_goals
            go_roundw
            case rel => exact ⟨i + 1, _, by omega, by go_num, N4.out, B4.out, (HD.out.few HL.out).2.trans HN.out, (HD.out.few HL.out).1, by have := HD.out.pre (ids_of N.out) HP.out; rw [show (1 : Int) + ((i + 1 : Nat) : Int) = 1 + (i : Int) + 1 by omega]; exact this, by rw [HD.out.same H1.out]; exact HM4.out⟩
            case measure => simp [intOf]; omega
      · obtain rfl : i = m := by omega
        have hlk : 1 + (i : Int) < 4294967290 := by omega
        have HLK := Lib.hid hlk
        clear hlk
        obtain ⟨D, hD⟩ := far_all (n := n) N.out.good
        have HD := Lib.hid hD
        have HAC := Lib.hid (show AllC n S.c (fun d => (S.x d).seq + 1) D S.settle by
          have h1 := allC_of (D := D) HP.out (by have := HLK.out; omega) (ids_of N.out) (wfs_of N.out) N.out.good (by rw [HN.out]; exact hD)
          rw [HN.out] at h1
          exact h1)
        have HS1 := Lib.hid (settle_same S)
        have HST := Lib.hid (settle_any wr N.out)
        have HGD := Lib.hid N.out.good
        clear hD
        generalize (fun d => (S.x d).seq + 1) = Q at HAC
        go_upto_region 16 with (go_at_call 14; (with_reducible refine (HST.out).mono ?_); rintro e w4 ⟨rfl, hn4, ha⟩; have N4 := Lib.hid hn4; have B4 := Lib.hid (B.out.trans ha.bel); have HM4 := Lib.hid (mat_after HMM.out ha); clear hn4 ha)
        generalize S.settle = S1 at N4 HS1 HAC
        have HN1 := Lib.hid (HS1.out.1.trans HN.out)
        go_loopw [77] (fun s77 wr => ∃ d : Nat, d ≤ n ∧ s77 = .int .i64 d ∧ IsNet wr w1.heap.size b ly S1 ∧ Below w1.heap.size w1 wr ∧ Mat wr w2.heap.size gm n cm G S.c) (fun s77 _ => n - (intOf s77).toNat)
        case atStart => exact ⟨0, by omega, rfl, N4.out, B4.out, HM4.out⟩
        case round =>
          obtain ⟨d, hd, rfl, hnet, hbel, hmat⟩ := hrel
          have M := Lib.hid hnet
          have MB := Lib.hid hbel
          have MM := Lib.hid hmat
          clear hnet hbel hmat N4 B4 HM4
          by_cases hdn : d < n
          · have hdn' : (d : Int) < (n : Int) := by omega
            have d0 : (0 : Int) ≤ (d : Int) := by omega
            have HRF := Lib.hid (reffar_any w2.heap.size gm n cm d G S.c (D d) wr hn1 hn6 MM.out hdn HGD.out (HD.out d hdn))
            have hms := fun (w : World) (h : IsNet w w1.heap.size b ly S1) => metrics_ok w h d (by rw [HN1.out]; exact hdn)
            have hnx := fun (w : World) (h : IsNet w w1.heap.size b ly S1) => next_ok w h d (by rw [HN1.out]; exact hdn)
            have hfr := fun (w : World) (h : IsNet w w1.heap.size b ly S1) => Net.far_any w h d (by rw [HN1.out]; exact hdn)
            rw [HN1.out] at hms hnx hfr
            rw [HS1.out.2.1] at hfr
            have HMS := Lib.hid hms
            have HNX := Lib.hid hnx
            have HFR := Lib.hid hfr
            clear hms hnx hfr
            go_upto_region 19 with (go_at_call 15; (with_reducible refine (HRF.out).mono ?_); rintro e w5 ⟨⟨F, rfl, hF5, hFD⟩, hb5⟩; have M5 := Lib.hid (M.out.below hb5); have MB5 := Lib.hid (MB.out.trans (hb5.mono MB.out.size)); have MM5 := Lib.hid (MM.out.keep hb5); have FF5 := Lib.hid hF5; have HFD := Lib.hid hFD; clear hF5 hFD hb5)
            generalize wr.heap.size = gF at FF5 ⊢
            have HSM := Lib.hid (allC_met HAC.out HD.out hdn HFD.out)
            go_upto_region 22 with (first
              | (go_at_call 17; (with_reducible refine (HMS.out w5 M5.out).mono ?_); rintro e w6 ⟨⟨v6, rfl, hv6⟩, hb6⟩; obtain ⟨A6, c6, rfl, hI6, _⟩ := own_row hv6; have HI6 := Lib.hid (show Ints w6 A6 n (met S1 d) from hI6); have M6 := Lib.hid (M5.out.below hb6); have MB6 := Lib.hid (MB5.out.trans (hb6.mono MB5.out.size)); have MM6 := Lib.hid (MM5.out.keep hb6); have FF6 := Lib.hid (FF5.out.keep hb6); clear hv6 hb6 hI6)
              | (go_at_call 16; (with_reducible refine (same_met A6 n c6 gF (met S1 d) F w6 hn6 HSM.out HI6.out FF6.out).mono ?_); rintro e w7 ⟨rfl, hb7⟩; have M7 := Lib.hid (M6.out.below hb7); have MB7 := Lib.hid (MB6.out.trans (hb7.mono MB6.out.size)); have MM7 := Lib.hid (MM6.out.keep hb7); have FF7 := Lib.hid (FF6.out.keep hb7); clear hb7)
              | (go_at_call 18; (with_reducible refine (HFR.out w7 M7.out).mono ?_); rintro e w8 ⟨⟨g8, F8, rfl, _, hF8, hI8⟩, hb8⟩; have M8 := Lib.hid (M7.out.below hb8); have MB8 := Lib.hid (MB7.out.trans (hb8.mono MB7.out.size)); have MM8 := Lib.hid (MM7.out.keep hb8); have FF8 := Lib.hid (FF7.out.keep hb8); have HJ8 := Lib.hid (far_ints hF8); have HSF := Lib.hid (show sam n n F8 F = true from sam_yes (fun i hi => ((hI8.unique (HD.out d hdn)) i hi).trans (HFD.out i hi).symm)); clear hF8 hI8 hb8)
              | (go_at_call 16; (with_reducible refine (same_met (some ⟨g8, 0, none⟩) n n gF F8 F w8 hn6 HSF.out HJ8.out FF8.out).mono ?_); rintro e w9 ⟨rfl, hb9⟩; have M9 := Lib.hid (M8.out.below hb9); have MB9 := Lib.hid (MB8.out.trans (hb9.mono MB8.out.size)); have MM9 := Lib.hid (MM8.out.keep hb9); have FF9 := Lib.hid (FF8.out.keep hb9); clear hb9)
              | (go_at_call 19; (with_reducible refine (HNX.out w9 M9.out).mono ?_); rintro e wa ⟨⟨va, rfl, hva⟩, hba⟩; obtain ⟨Aa, ca, rfl, hIa, _⟩ := own_row hva; have HIa := Lib.hid (show Ints wa Aa n (nex S1 d) from hIa); have Ma := Lib.hid (M9.out.below hba); have MBa := Lib.hid (MB9.out.trans (hba.mono MB9.out.size)); have MMa := Lib.hid (MM9.out.keep hba); have FFa := Lib.hid (FF9.out.keep hba); clear hva hba hIa))
            have HRT := Lib.hid (fun (i : Nat) (hi : i < n) => (HAC.out d hdn).set.route (HD.out d hdn) hdn hi)
            have HHI := Lib.hid (fun (i : Nat) (hi : i < n) => (HD.out d hdn).high i hi)
            have HLO := Lib.hid (fun (i : Nat) (hi : i < n) => (HD.out d hdn).low i hi)
            have HZE := Lib.hid ((HD.out d hdn).zero)
            go_loopw [101] (fun s101 wr => ∃ i : Nat, i ≤ n ∧ s101 = .int .i64 i ∧ Below wa.heap.size wa wr) (fun s101 _ => n - (intOf s101).toNat)
            case atStart => exact ⟨0, by omega, rfl, Below.refl _ _⟩
            case round =>
              obtain ⟨i, hi, rfl, hbi⟩ := hrel
              have HBI := Lib.hid hbi
              clear hbi
              by_cases hin : i < n
              · have hin' : (i : Int) < (n : Int) := by omega
                have i0 : (0 : Int) ≤ (i : Int) := by omega
                obtain ⟨r1, r2, r3⟩ := HRT.out i hin
                obtain ⟨ga, oa, rfl, _, hca⟩ := HIa.out i hin
                have hbd : Below wa.heap.size wa wr.drew := below_drew HBI.out
                have c1 := later HBI.out hca
                have k1 := later HBI.out (FFa.out.cell i hin)
                have j1 := later hbd hca
                have j2 := later hbd (FFa.out.cell i hin)
                rw [HFD.out i hin] at j2 k1
                have l0 := HLO.out i hin
                have l1 := HHI.out i hin
                unfold nex at j1 c1
                by_cases hA : D d i < 65535 ∧ i ≠ d
                · rw [if_pos hA] at r3
                  obtain ⟨k, r4, hk, r5, r6, _, _⟩ := r3
                  rw [r4] at j1 c1
                  have j3 := later hbd (FFa.out.cell k hk)
                  rw [HFD.out k hk] at j3
                  have j4 := later hbd (MMa.out.row hin)
                  have j5 := later hbd (MMa.out.cell hin hk)
                  rw [r6] at j2 k1
                  have l2 := HLO.out k hk
                  have l3 := HHI.out k hk
                  have l4 := HGD.out.high i k
                  have l5 : D d k + S.c i k < 65535 := by omega
                  generalize D d k = y at j2 k1 j3 l2 l3 l5
                  generalize S.c i k = z at j2 k1 j5 r5 l4 l5
                  have k0 : (0 : Int) ≤ (k : Int) := by omega
                  have kn : (k : Int) < (n : Int) := by omega
                  have b1 : ((i : Int) != (d : Int)) = true := by have := hA.2; simp; omega
                  have b2 : ((y + z) != (y + z)) = false := by simp
                  have b3 : IntKind.i64.wrap (y + z) = y + z := IntWalk.i64_in _ (by omega)
                  clear r1 r2 r4 r6 hA l0 l1 hca hbd
                  go_upto_region 24 with fail
                  refine wp_region_held_drew (S := (fun w' => w'.cell? ⟨gF, i, none⟩ = some (.int .i64 (y + z)) ∧ w'.cell? ⟨gF, k, none⟩ = some (.int .i64 y) ∧ w'.cell? ⟨gm, i, none⟩ = some (.slice (some ⟨G i, 0, none⟩) n n) ∧ w'.cell? ⟨G i, k, none⟩ = some (.int .i64 z))) (by kernel_rfl) ⟨j2, j3, j4, j5⟩ (fun _ => ?_)
                  refine held_take 0 106 (v := ?_) rfl rfl (by kernel_rfl) (by kernel_rfl) (by kernel_rfl) (fun _ _ _ h => h) (by rfl) ?_ ⟨j2, j3, j4, j5⟩ ?_
                  rotate_left
                  · (intro w hSw; (try dsimp only at hSw); try simp only [List.getElem_toArray, List.getElem_cons_zero, List.getElem_cons_succ]; go_simp; try (with_reducible rfl))
                  try simp only [List.setIfInBounds_toArray, List.set_cons_zero, List.set_cons_succ]
                  refine held_take 1 107 (v := ?_) rfl rfl (by kernel_rfl) (by kernel_rfl) (by kernel_rfl) (fun _ _ _ h => h) (by rfl) ?_ ⟨j2, j3, j4, j5⟩ ?_
                  rotate_left
                  · (intro w hSw; (try dsimp only at hSw); try simp only [List.getElem_toArray, List.getElem_cons_zero, List.getElem_cons_succ]; go_simp; try (with_reducible rfl))
                  try simp only [List.setIfInBounds_toArray, List.set_cons_zero, List.set_cons_succ]
                  refine held_take 2 108 (v := ?_) rfl rfl (by kernel_rfl) (by kernel_rfl) (by kernel_rfl) (fun _ _ _ h => h) (by rfl) ?_ ⟨j2, j3, j4, j5⟩ ?_
                  rotate_left
                  · (intro w hSw; (try dsimp only at hSw); try simp only [List.getElem_toArray, List.getElem_cons_zero, List.getElem_cons_succ]; go_simp; try (with_reducible rfl))
                  try simp only [List.setIfInBounds_toArray, List.set_cons_zero, List.set_cons_succ]
                  refine held_take 3 109 (v := ?_) rfl rfl (by kernel_rfl) (by kernel_rfl) (by kernel_rfl) (fun _ _ _ h => h) (by rfl) ?_ ⟨j2, j3, j4, j5⟩ ?_
                  rotate_left
                  · (intro w hSw; (try dsimp only at hSw); try simp only [List.getElem_toArray, List.getElem_cons_zero, List.getElem_cons_succ]; go_simp; try (with_reducible rfl))
                  try simp only [List.setIfInBounds_toArray, List.set_cons_zero, List.set_cons_succ]
                  refine held_take 4 110 (v := ?_) rfl rfl (by kernel_rfl) (by kernel_rfl) (by kernel_rfl) (fun _ _ _ h => h) (by rfl) ?_ ⟨j2, j3, j4, j5⟩ ?_
                  rotate_left
                  · (intro w hSw; (try dsimp only at hSw); try simp only [List.getElem_toArray, List.getElem_cons_zero, List.getElem_cons_succ]; go_simp; try (with_reducible rfl))
                  try simp only [List.setIfInBounds_toArray, List.set_cons_zero, List.set_cons_succ]
                  refine held_take 5 111 (v := ?_) rfl rfl (by kernel_rfl) (by kernel_rfl) (by kernel_rfl) (fun _ _ _ h => h) (by rfl) ?_ ⟨j2, j3, j4, j5⟩ ?_
                  rotate_left
                  · (intro w hSw; (try dsimp only at hSw); try simp only [List.getElem_toArray, List.getElem_cons_zero, List.getElem_cons_succ]; go_simp; try (with_reducible rfl))
                  try simp only [List.setIfInBounds_toArray, List.set_cons_zero, List.set_cons_succ]
                  refine held_take 6 112 (v := ?_) rfl rfl (by kernel_rfl) (by kernel_rfl) (by kernel_rfl) (fun _ _ _ h => h) (by rfl) ?_ ⟨j2, j3, j4, j5⟩ ?_
                  rotate_left
                  · (intro w hSw; (try dsimp only at hSw); try simp only [List.getElem_toArray, List.getElem_cons_zero, List.getElem_cons_succ]; go_simp; try (with_reducible rfl))
                  try simp only [List.setIfInBounds_toArray, List.set_cons_zero, List.set_cons_succ]
                  refine held_take 7 113 (v := ?_) rfl rfl (by kernel_rfl) (by kernel_rfl) (by kernel_rfl) (fun _ _ _ h => h) (by rfl) ?_ ⟨j2, j3, j4, j5⟩ ?_
                  rotate_left
                  · (intro w hSw; (try dsimp only at hSw); try simp only [List.getElem_toArray, List.getElem_cons_zero, List.getElem_cons_succ]; go_simp; try (with_reducible rfl))
                  try simp only [List.setIfInBounds_toArray, List.set_cons_zero, List.set_cons_succ]
                  refine held_take 8 114 (v := ?_) rfl rfl (by kernel_rfl) (by kernel_rfl) (by kernel_rfl) (fun _ _ _ h => h) (by rfl) ?_ ⟨j2, j3, j4, j5⟩ ?_
                  rotate_left
                  · (intro w hSw; (try dsimp only at hSw); try simp only [List.getElem_toArray, List.getElem_cons_zero, List.getElem_cons_succ]; go_simp; try (with_reducible rfl))
                  try simp only [List.setIfInBounds_toArray, List.set_cons_zero, List.set_cons_succ]
                  refine held_take 9 115 (v := ?_) rfl rfl (by kernel_rfl) (by kernel_rfl) (by kernel_rfl) (fun _ _ _ h => h) (by rfl) ?_ ⟨j2, j3, j4, j5⟩ ?_
                  rotate_left
                  · (intro w hSw; (try dsimp only at hSw); try simp only [List.getElem_toArray, List.getElem_cons_zero, List.getElem_cons_succ]; go_simp; try (with_reducible rfl))
                  try simp only [List.setIfInBounds_toArray, List.set_cons_zero, List.set_cons_succ]
                  refine held_take 10 116 (v := ?_) rfl rfl (by kernel_rfl) (by kernel_rfl) (by kernel_rfl) (fun _ _ _ h => h) (by rfl) ?_ ⟨j2, j3, j4, j5⟩ ?_
                  rotate_left
                  · (intro w hSw; (try dsimp only at hSw); try simp only [List.getElem_toArray, List.getElem_cons_zero, List.getElem_cons_succ]; go_simp; try (with_reducible rfl))
                  try simp only [List.setIfInBounds_toArray, List.set_cons_zero, List.set_cons_succ]
                  refine held_take 11 117 (v := ?_) rfl rfl (by kernel_rfl) (by kernel_rfl) (by kernel_rfl) (fun _ _ _ h => h) (by rfl) ?_ ⟨j2, j3, j4, j5⟩ ?_
                  rotate_left
                  · (intro w hSw; (try dsimp only at hSw); try simp only [List.getElem_toArray, List.getElem_cons_zero, List.getElem_cons_succ]; go_simp; try (with_reducible rfl))
                  try simp only [List.setIfInBounds_toArray, List.set_cons_zero, List.set_cons_succ]
                  refine held_take 12 118 (v := ?_) rfl rfl (by kernel_rfl) (by kernel_rfl) (by kernel_rfl) (fun _ _ _ h => h) (by rfl) ?_ ⟨j2, j3, j4, j5⟩ ?_
                  rotate_left
                  · (intro w hSw; (try dsimp only at hSw); try simp only [List.getElem_toArray, List.getElem_cons_zero, List.getElem_cons_succ]; go_simp; try (with_reducible rfl))
                  try simp only [List.setIfInBounds_toArray, List.set_cons_zero, List.set_cons_succ]
                  refine held_take 13 119 (v := ?_) rfl rfl (by kernel_rfl) (by kernel_rfl) (by kernel_rfl) (fun _ _ _ h => h) (by rfl) ?_ ⟨j2, j3, j4, j5⟩ ?_
                  rotate_left
                  · (intro w hSw; (try dsimp only at hSw); try simp only [List.getElem_toArray, List.getElem_cons_zero, List.getElem_cons_succ]; go_simp; try (with_reducible rfl))
                  try simp only [List.setIfInBounds_toArray, List.set_cons_zero, List.set_cons_succ]
                  refine held_take 14 120 (v := ?_) rfl rfl (by kernel_rfl) (by kernel_rfl) (by kernel_rfl) (fun _ _ _ h => h) (by rfl) ?_ ⟨j2, j3, j4, j5⟩ ?_
                  rotate_left
                  · (intro w hSw; (try dsimp only at hSw); try simp only [List.getElem_toArray, List.getElem_cons_zero, List.getElem_cons_succ]; go_simp; try (with_reducible rfl))
                  try simp only [List.setIfInBounds_toArray, List.set_cons_zero, List.set_cons_succ]
                  refine held_take 15 121 (v := ?_) rfl rfl (by kernel_rfl) (by kernel_rfl) (by kernel_rfl) (fun _ _ _ h => h) (by rfl) ?_ ⟨j2, j3, j4, j5⟩ ?_
                  rotate_left
                  · (intro w hSw; (try dsimp only at hSw); try simp only [List.getElem_toArray, List.getElem_cons_zero, List.getElem_cons_succ]; go_simp; try (with_reducible rfl))
                  try simp only [List.setIfInBounds_toArray, List.set_cons_zero, List.set_cons_succ]
                  refine held_take 16 122 (v := ?_) rfl rfl (by kernel_rfl) (by kernel_rfl) (by kernel_rfl) (fun _ _ _ h => h) (by rfl) ?_ ⟨j2, j3, j4, j5⟩ ?_
                  rotate_left
                  · (intro w hSw; (try dsimp only at hSw); try simp only [List.getElem_toArray, List.getElem_cons_zero, List.getElem_cons_succ]; go_simp; try (with_reducible rfl))
                  try simp only [List.setIfInBounds_toArray, List.set_cons_zero, List.set_cons_succ]
                  refine held_take 17 123 (v := ?_) rfl rfl (by kernel_rfl) (by kernel_rfl) (by kernel_rfl) (fun _ _ _ h => h) (by rfl) ?_ ⟨j2, j3, j4, j5⟩ ?_
                  rotate_left
                  · (intro w hSw; (try dsimp only at hSw); try simp only [List.getElem_toArray, List.getElem_cons_zero, List.getElem_cons_succ]; go_simp; try (with_reducible rfl))
                  try simp only [List.setIfInBounds_toArray, List.set_cons_zero, List.set_cons_succ]
                  refine held_take 18 124 (v := ?_) rfl rfl (by kernel_rfl) (by kernel_rfl) (by kernel_rfl) (fun _ _ _ h => h) (by rfl) ?_ ⟨j2, j3, j4, j5⟩ ?_
                  rotate_left
                  · (intro w hSw; (try dsimp only at hSw); try simp only [List.getElem_toArray, List.getElem_cons_zero, List.getElem_cons_succ]; go_simp; try (with_reducible rfl))
                  try simp only [List.setIfInBounds_toArray, List.set_cons_zero, List.set_cons_succ]
                  refine held_take 19 125 (v := ?_) rfl rfl (by kernel_rfl) (by kernel_rfl) (by kernel_rfl) (fun _ _ _ h => h) (by rfl) ?_ ⟨j2, j3, j4, j5⟩ ?_
                  rotate_left
                  · (intro w hSw; (try dsimp only at hSw); try simp only [List.getElem_toArray, List.getElem_cons_zero, List.getElem_cons_succ]; go_simp; try (with_reducible rfl))
                  try simp only [List.setIfInBounds_toArray, List.set_cons_zero, List.set_cons_succ]
                  refine held_take 20 126 (v := ?_) rfl rfl (by kernel_rfl) (by kernel_rfl) (by kernel_rfl) (fun _ _ _ h => h) (by rfl) ?_ ⟨j2, j3, j4, j5⟩ ?_
                  rotate_left
                  · (intro w hSw; (try dsimp only at hSw); try simp only [List.getElem_toArray, List.getElem_cons_zero, List.getElem_cons_succ]; go_simp; try (with_reducible rfl))
                  try simp only [List.setIfInBounds_toArray, List.set_cons_zero, List.set_cons_succ]
                  refine held_take 21 127 (v := ?_) rfl rfl (by kernel_rfl) (by kernel_rfl) (by kernel_rfl) (fun _ _ _ h => h) (by rfl) ?_ ⟨j2, j3, j4, j5⟩ ?_
                  rotate_left
                  · (intro w hSw; (try dsimp only at hSw); try simp only [List.getElem_toArray, List.getElem_cons_zero, List.getElem_cons_succ]; go_simp; try (with_reducible rfl))
                  try simp only [List.setIfInBounds_toArray, List.set_cons_zero, List.set_cons_succ]
                  refine held_take 22 128 (v := ?_) rfl rfl (by kernel_rfl) (by kernel_rfl) (by kernel_rfl) (fun _ _ _ h => h) (by rfl) ?_ ⟨j2, j3, j4, j5⟩ ?_
                  rotate_left
                  · (intro w hSw; (try dsimp only at hSw); try simp only [List.getElem_toArray, List.getElem_cons_zero, List.getElem_cons_succ]; go_simp; try (with_reducible rfl))
                  try simp only [List.setIfInBounds_toArray, List.set_cons_zero, List.set_cons_succ]
                  refine held_take 23 129 (v := ?_) rfl rfl (by kernel_rfl) (by kernel_rfl) (by kernel_rfl) (fun _ _ _ h => h) (by rfl) ?_ ⟨j2, j3, j4, j5⟩ ?_
                  rotate_left
                  · (intro w hSw; (try dsimp only at hSw); try simp only [List.getElem_toArray, List.getElem_cons_zero, List.getElem_cons_succ]; go_simp; try (with_reducible rfl))
                  try simp only [List.setIfInBounds_toArray, List.set_cons_zero, List.set_cons_succ]
                  refine held_take 24 130 (v := ?_) rfl rfl (by kernel_rfl) (by kernel_rfl) (by kernel_rfl) (fun _ _ _ h => h) (by rfl) ?_ ⟨j2, j3, j4, j5⟩ ?_
                  rotate_left
                  · (intro w hSw; (try dsimp only at hSw); try simp only [List.getElem_toArray, List.getElem_cons_zero, List.getElem_cons_succ]; go_simp; try (with_reducible rfl))
                  try simp only [List.setIfInBounds_toArray, List.set_cons_zero, List.set_cons_succ]
                  refine held_take 25 131 (v := ?_) rfl rfl (by kernel_rfl) (by kernel_rfl) (by kernel_rfl) (fun _ _ _ h => h) (by rfl) ?_ ⟨j2, j3, j4, j5⟩ ?_
                  rotate_left
                  · (intro w hSw; (try dsimp only at hSw); try simp only [List.getElem_toArray, List.getElem_cons_zero, List.getElem_cons_succ]; go_simp; try (with_reducible rfl))
                  try simp only [List.setIfInBounds_toArray, List.set_cons_zero, List.set_cons_succ]
                  refine held_take 26 132 (v := ?_) rfl rfl (by kernel_rfl) (by kernel_rfl) (by kernel_rfl) (fun _ _ _ h => h) (by rfl) ?_ ⟨j2, j3, j4, j5⟩ ?_
                  rotate_left
                  · (intro w hSw; (try dsimp only at hSw); try simp only [List.getElem_toArray, List.getElem_cons_zero, List.getElem_cons_succ]; go_simp; try (with_reducible rfl))
                  try simp only [List.setIfInBounds_toArray, List.set_cons_zero, List.set_cons_succ]
                  refine held_take 27 133 (v := ?_) rfl rfl (by kernel_rfl) (by kernel_rfl) (by kernel_rfl) (fun _ _ _ h => h) (by rfl) ?_ ⟨j2, j3, j4, j5⟩ ?_
                  rotate_left
                  · (intro w hSw; (try dsimp only at hSw); try simp only [List.getElem_toArray, List.getElem_cons_zero, List.getElem_cons_succ]; go_simp; try (with_reducible rfl))
                  try simp only [List.setIfInBounds_toArray, List.set_cons_zero, List.set_cons_succ]
                  refine held_take 28 134 (v := ?_) rfl rfl (by kernel_rfl) (by kernel_rfl) (by kernel_rfl) (fun _ _ _ h => h) (by rfl) ?_ ⟨j2, j3, j4, j5⟩ ?_
                  rotate_left
                  · (intro w hSw; (try dsimp only at hSw); try simp only [List.getElem_toArray, List.getElem_cons_zero, List.getElem_cons_succ]; go_simp; try (with_reducible rfl))
                  try simp only [List.setIfInBounds_toArray, List.set_cons_zero, List.set_cons_succ]
                  refine held_take 29 135 (v := ?_) rfl rfl (by kernel_rfl) (by kernel_rfl) (by kernel_rfl) (fun _ _ _ h => h) (by rfl) ?_ ⟨j2, j3, j4, j5⟩ ?_
                  rotate_left
                  · (intro w hSw; (try dsimp only at hSw); try simp only [List.getElem_toArray, List.getElem_cons_zero, List.getElem_cons_succ]; go_simp; try (with_reducible rfl))
                  try simp only [List.setIfInBounds_toArray, List.set_cons_zero, List.set_cons_succ]
                  refine held_take 30 136 (v := ?_) rfl rfl (by kernel_rfl) (by kernel_rfl) (by kernel_rfl) (fun _ _ _ h => h) (by rfl) ?_ ⟨j2, j3, j4, j5⟩ ?_
                  rotate_left
                  · (intro w hSw; (try dsimp only at hSw); try simp only [List.getElem_toArray, List.getElem_cons_zero, List.getElem_cons_succ]; go_simp; try (with_reducible rfl))
                  try simp only [List.setIfInBounds_toArray, List.set_cons_zero, List.set_cons_succ]
                  refine held_take 31 137 (v := ?_) rfl rfl (by kernel_rfl) (by kernel_rfl) (by kernel_rfl) (fun _ _ _ h => h) (by rfl) ?_ ⟨j2, j3, j4, j5⟩ ?_
                  rotate_left
                  · (intro w hSw; (try dsimp only at hSw); try simp only [List.getElem_toArray, List.getElem_cons_zero, List.getElem_cons_succ]; go_simp; try (with_reducible rfl))
                  try simp only [List.setIfInBounds_toArray, List.set_cons_zero, List.set_cons_succ]
                  refine held_take 32 138 (v := ?_) rfl rfl (by kernel_rfl) (by kernel_rfl) (by kernel_rfl) (fun _ _ _ h => h) (by rfl) ?_ ⟨j2, j3, j4, j5⟩ ?_
                  rotate_left
                  · (intro w hSw; (try dsimp only at hSw); try simp only [List.getElem_toArray, List.getElem_cons_zero, List.getElem_cons_succ]; go_simp; try (with_reducible rfl))
                  try simp only [List.setIfInBounds_toArray, List.set_cons_zero, List.set_cons_succ]
                  refine held_take 33 139 (v := ?_) rfl rfl (by kernel_rfl) (by kernel_rfl) (by kernel_rfl) (fun _ _ _ h => h) (by rfl) ?_ ⟨j2, j3, j4, j5⟩ ?_
                  rotate_left
                  · (intro w hSw; (try dsimp only at hSw); try simp only [List.getElem_toArray, List.getElem_cons_zero, List.getElem_cons_succ]; go_simp; try (with_reducible rfl))
                  try simp only [List.setIfInBounds_toArray, List.set_cons_zero, List.set_cons_succ]
                  refine held_take 34 140 (v := ?_) rfl rfl (by kernel_rfl) (by kernel_rfl) (by kernel_rfl) (fun _ _ _ h => h) (by rfl) ?_ ⟨j2, j3, j4, j5⟩ ?_
                  rotate_left
                  · (intro w hSw; (try dsimp only at hSw); try simp only [List.getElem_toArray, List.getElem_cons_zero, List.getElem_cons_succ]; go_simp; try (with_reducible rfl))
                  try simp only [List.setIfInBounds_toArray, List.set_cons_zero, List.set_cons_succ]
                  refine held_take 35 141 (v := ?_) rfl rfl (by kernel_rfl) (by kernel_rfl) (by kernel_rfl) (fun _ _ _ h => h) (by rfl) ?_ ⟨j2, j3, j4, j5⟩ ?_
                  rotate_left
                  · (intro w hSw; (try dsimp only at hSw); try simp only [List.getElem_toArray, List.getElem_cons_zero, List.getElem_cons_succ]; go_simp; try (with_reducible rfl))
                  try simp only [List.setIfInBounds_toArray, List.set_cons_zero, List.set_cons_succ]
                  refine wpAnyH_done (by kernel_rfl) ?_ _
                  go_wp2
                  go_roundw
                  case rel => exact ⟨i + 1, by omega, by go_num, below_drew HBI.out⟩
                  case measure => simp [intOf]; omega
                · rw [if_neg hA] at r3
                  rw [r3] at j1 c1
                  by_cases e : i = d
                  · subst e
                    rw [HZE.out] at j2 k1
                    have b1 : ((i : Int) != (i : Int)) = false := by simp
                    clear r1 r2 r3 hA l0 l1 hca hbd
                    go_upto_region 24 with fail
                    refine wp_region_held_drew (S := (fun w' => w'.cell? ⟨gF, i, none⟩ = some (.int .i64 0))) (by kernel_rfl) j2 (fun _ => ?_)
                    refine held_take 0 106 (v := ?_) rfl rfl (by kernel_rfl) (by kernel_rfl) (by kernel_rfl) (fun _ _ _ h => h) (by rfl) ?_ j2 ?_
                    rotate_left
                    · (intro w hSw; (try dsimp only at hSw); try simp only [List.getElem_toArray, List.getElem_cons_zero, List.getElem_cons_succ]; go_simp; try (with_reducible rfl))
                    try simp only [List.setIfInBounds_toArray, List.set_cons_zero, List.set_cons_succ]
                    refine held_take 1 107 (v := ?_) rfl rfl (by kernel_rfl) (by kernel_rfl) (by kernel_rfl) (fun _ _ _ h => h) (by rfl) ?_ j2 ?_
                    rotate_left
                    · (intro w hSw; (try dsimp only at hSw); try simp only [List.getElem_toArray, List.getElem_cons_zero, List.getElem_cons_succ]; go_simp; try (with_reducible rfl))
                    try simp only [List.setIfInBounds_toArray, List.set_cons_zero, List.set_cons_succ]
                    refine held_take 2 108 (v := ?_) rfl rfl (by kernel_rfl) (by kernel_rfl) (by kernel_rfl) (fun _ _ _ h => h) (by rfl) ?_ j2 ?_
                    rotate_left
                    · (intro w hSw; (try dsimp only at hSw); try simp only [List.getElem_toArray, List.getElem_cons_zero, List.getElem_cons_succ]; go_simp; try (with_reducible rfl))
                    try simp only [List.setIfInBounds_toArray, List.set_cons_zero, List.set_cons_succ]
                    refine held_take 3 109 (v := ?_) rfl rfl (by kernel_rfl) (by kernel_rfl) (by kernel_rfl) (fun _ _ _ h => h) (by rfl) ?_ j2 ?_
                    rotate_left
                    · (intro w hSw; (try dsimp only at hSw); try simp only [List.getElem_toArray, List.getElem_cons_zero, List.getElem_cons_succ]; go_simp; try (with_reducible rfl))
                    try simp only [List.setIfInBounds_toArray, List.set_cons_zero, List.set_cons_succ]
                    refine held_take 4 110 (v := ?_) rfl rfl (by kernel_rfl) (by kernel_rfl) (by kernel_rfl) (fun _ _ _ h => h) (by rfl) ?_ j2 ?_
                    rotate_left
                    · (intro w hSw; (try dsimp only at hSw); try simp only [List.getElem_toArray, List.getElem_cons_zero, List.getElem_cons_succ]; go_simp; try (with_reducible rfl))
                    try simp only [List.setIfInBounds_toArray, List.set_cons_zero, List.set_cons_succ]
                    refine held_take 5 111 (v := ?_) rfl rfl (by kernel_rfl) (by kernel_rfl) (by kernel_rfl) (fun _ _ _ h => h) (by rfl) ?_ j2 ?_
                    rotate_left
                    · (intro w hSw; (try dsimp only at hSw); try simp only [List.getElem_toArray, List.getElem_cons_zero, List.getElem_cons_succ]; go_simp; try (with_reducible rfl))
                    try simp only [List.setIfInBounds_toArray, List.set_cons_zero, List.set_cons_succ]
                    refine held_take 6 112 (v := ?_) rfl rfl (by kernel_rfl) (by kernel_rfl) (by kernel_rfl) (fun _ _ _ h => h) (by rfl) ?_ j2 ?_
                    rotate_left
                    · (intro w hSw; (try dsimp only at hSw); try simp only [List.getElem_toArray, List.getElem_cons_zero, List.getElem_cons_succ]; go_simp; try (with_reducible rfl))
                    try simp only [List.setIfInBounds_toArray, List.set_cons_zero, List.set_cons_succ]
                    refine held_take 7 113 (v := ?_) rfl rfl (by kernel_rfl) (by kernel_rfl) (by kernel_rfl) (fun _ _ _ h => h) (by rfl) ?_ j2 ?_
                    rotate_left
                    · (intro w hSw; (try dsimp only at hSw); try simp only [List.getElem_toArray, List.getElem_cons_zero, List.getElem_cons_succ]; go_simp; try (with_reducible rfl))
                    try simp only [List.setIfInBounds_toArray, List.set_cons_zero, List.set_cons_succ]
                    refine held_take 8 114 (v := ?_) rfl rfl (by kernel_rfl) (by kernel_rfl) (by kernel_rfl) (fun _ _ _ h => h) (by rfl) ?_ j2 ?_
                    rotate_left
                    · (intro w hSw; (try dsimp only at hSw); try simp only [List.getElem_toArray, List.getElem_cons_zero, List.getElem_cons_succ]; go_simp; try (with_reducible rfl))
                    try simp only [List.setIfInBounds_toArray, List.set_cons_zero, List.set_cons_succ]
                    refine held_take 9 115 (v := ?_) rfl rfl (by kernel_rfl) (by kernel_rfl) (by kernel_rfl) (fun _ _ _ h => h) (by rfl) ?_ j2 ?_
                    rotate_left
                    · (intro w hSw; (try dsimp only at hSw); try simp only [List.getElem_toArray, List.getElem_cons_zero, List.getElem_cons_succ]; go_simp; try (with_reducible rfl))
                    try simp only [List.setIfInBounds_toArray, List.set_cons_zero, List.set_cons_succ]
                    refine held_take 10 116 (v := ?_) rfl rfl (by kernel_rfl) (by kernel_rfl) (by kernel_rfl) (fun _ _ _ h => h) (by rfl) ?_ j2 ?_
                    rotate_left
                    · (intro w hSw; (try dsimp only at hSw); try simp only [List.getElem_toArray, List.getElem_cons_zero, List.getElem_cons_succ]; go_simp; try (with_reducible rfl))
                    try simp only [List.setIfInBounds_toArray, List.set_cons_zero, List.set_cons_succ]
                    refine held_take 11 117 (v := ?_) rfl rfl (by kernel_rfl) (by kernel_rfl) (by kernel_rfl) (fun _ _ _ h => h) (by rfl) ?_ j2 ?_
                    rotate_left
                    · (intro w hSw; (try dsimp only at hSw); try simp only [List.getElem_toArray, List.getElem_cons_zero, List.getElem_cons_succ]; go_simp; try (with_reducible rfl))
                    try simp only [List.setIfInBounds_toArray, List.set_cons_zero, List.set_cons_succ]
                    refine held_take 12 118 (v := ?_) rfl rfl (by kernel_rfl) (by kernel_rfl) (by kernel_rfl) (fun _ _ _ h => h) (by rfl) ?_ j2 ?_
                    rotate_left
                    · (intro w hSw; (try dsimp only at hSw); try simp only [List.getElem_toArray, List.getElem_cons_zero, List.getElem_cons_succ]; go_simp; try (with_reducible rfl))
                    try simp only [List.setIfInBounds_toArray, List.set_cons_zero, List.set_cons_succ]
                    refine held_take 13 119 (v := ?_) rfl rfl (by kernel_rfl) (by kernel_rfl) (by kernel_rfl) (fun _ _ _ h => h) (by rfl) ?_ j2 ?_
                    rotate_left
                    · (intro w hSw; (try dsimp only at hSw); try simp only [List.getElem_toArray, List.getElem_cons_zero, List.getElem_cons_succ]; go_simp; try (with_reducible rfl))
                    try simp only [List.setIfInBounds_toArray, List.set_cons_zero, List.set_cons_succ]
                    refine held_take 14 120 (v := ?_) rfl rfl (by kernel_rfl) (by kernel_rfl) (by kernel_rfl) (fun _ _ _ h => h) (by rfl) ?_ j2 ?_
                    rotate_left
                    · (intro w hSw; (try dsimp only at hSw); try simp only [List.getElem_toArray, List.getElem_cons_zero, List.getElem_cons_succ]; go_simp; try (with_reducible rfl))
                    try simp only [List.setIfInBounds_toArray, List.set_cons_zero, List.set_cons_succ]
                    refine held_take 15 121 (v := ?_) rfl rfl (by kernel_rfl) (by kernel_rfl) (by kernel_rfl) (fun _ _ _ h => h) (by rfl) ?_ j2 ?_
                    rotate_left
                    · (intro w hSw; (try dsimp only at hSw); try simp only [List.getElem_toArray, List.getElem_cons_zero, List.getElem_cons_succ]; go_simp; try (with_reducible rfl))
                    try simp only [List.setIfInBounds_toArray, List.set_cons_zero, List.set_cons_succ]
                    refine held_take 16 122 (v := ?_) rfl rfl (by kernel_rfl) (by kernel_rfl) (by kernel_rfl) (fun _ _ _ h => h) (by rfl) ?_ j2 ?_
                    rotate_left
                    · (intro w hSw; (try dsimp only at hSw); try simp only [List.getElem_toArray, List.getElem_cons_zero, List.getElem_cons_succ]; go_simp; try (with_reducible rfl))
                    try simp only [List.setIfInBounds_toArray, List.set_cons_zero, List.set_cons_succ]
                    refine held_skip 17 123 rfl rfl (by kernel_rfl) (by kernel_rfl) (by kernel_rfl) (fun _ _ _ h => h) (by rfl) j2 ?_
                    try simp only [List.setIfInBounds_toArray, List.set_cons_zero, List.set_cons_succ]
                    refine held_skip 18 124 rfl rfl (by kernel_rfl) (by kernel_rfl) (by kernel_rfl) (fun _ _ _ h => h) (by rfl) j2 ?_
                    try simp only [List.setIfInBounds_toArray, List.set_cons_zero, List.set_cons_succ]
                    refine held_skip 19 125 rfl rfl (by kernel_rfl) (by kernel_rfl) (by kernel_rfl) (fun _ _ _ h => h) (by rfl) j2 ?_
                    try simp only [List.setIfInBounds_toArray, List.set_cons_zero, List.set_cons_succ]
                    refine held_skip 20 126 rfl rfl (by kernel_rfl) (by kernel_rfl) (by kernel_rfl) (fun _ _ _ h => h) (by rfl) j2 ?_
                    try simp only [List.setIfInBounds_toArray, List.set_cons_zero, List.set_cons_succ]
                    refine held_skip 21 127 rfl rfl (by kernel_rfl) (by kernel_rfl) (by kernel_rfl) (fun _ _ _ h => h) (by rfl) j2 ?_
                    try simp only [List.setIfInBounds_toArray, List.set_cons_zero, List.set_cons_succ]
                    refine held_skip 22 128 rfl rfl (by kernel_rfl) (by kernel_rfl) (by kernel_rfl) (fun _ _ _ h => h) (by rfl) j2 ?_
                    try simp only [List.setIfInBounds_toArray, List.set_cons_zero, List.set_cons_succ]
                    refine held_skip 23 129 rfl rfl (by kernel_rfl) (by kernel_rfl) (by kernel_rfl) (fun _ _ _ h => h) (by rfl) j2 ?_
                    try simp only [List.setIfInBounds_toArray, List.set_cons_zero, List.set_cons_succ]
                    refine held_skip 24 130 rfl rfl (by kernel_rfl) (by kernel_rfl) (by kernel_rfl) (fun _ _ _ h => h) (by rfl) j2 ?_
                    try simp only [List.setIfInBounds_toArray, List.set_cons_zero, List.set_cons_succ]
                    refine held_skip 25 131 rfl rfl (by kernel_rfl) (by kernel_rfl) (by kernel_rfl) (fun _ _ _ h => h) (by rfl) j2 ?_
                    try simp only [List.setIfInBounds_toArray, List.set_cons_zero, List.set_cons_succ]
                    refine held_skip 26 132 rfl rfl (by kernel_rfl) (by kernel_rfl) (by kernel_rfl) (fun _ _ _ h => h) (by rfl) j2 ?_
                    try simp only [List.setIfInBounds_toArray, List.set_cons_zero, List.set_cons_succ]
                    refine held_skip 27 133 rfl rfl (by kernel_rfl) (by kernel_rfl) (by kernel_rfl) (fun _ _ _ h => h) (by rfl) j2 ?_
                    try simp only [List.setIfInBounds_toArray, List.set_cons_zero, List.set_cons_succ]
                    refine held_skip 28 134 rfl rfl (by kernel_rfl) (by kernel_rfl) (by kernel_rfl) (fun _ _ _ h => h) (by rfl) j2 ?_
                    try simp only [List.setIfInBounds_toArray, List.set_cons_zero, List.set_cons_succ]
                    refine held_skip 29 135 rfl rfl (by kernel_rfl) (by kernel_rfl) (by kernel_rfl) (fun _ _ _ h => h) (by rfl) j2 ?_
                    try simp only [List.setIfInBounds_toArray, List.set_cons_zero, List.set_cons_succ]
                    refine held_skip 30 136 rfl rfl (by kernel_rfl) (by kernel_rfl) (by kernel_rfl) (fun _ _ _ h => h) (by rfl) j2 ?_
                    try simp only [List.setIfInBounds_toArray, List.set_cons_zero, List.set_cons_succ]
                    refine held_skip 31 137 rfl rfl (by kernel_rfl) (by kernel_rfl) (by kernel_rfl) (fun _ _ _ h => h) (by rfl) j2 ?_
                    try simp only [List.setIfInBounds_toArray, List.set_cons_zero, List.set_cons_succ]
                    refine held_skip 32 138 rfl rfl (by kernel_rfl) (by kernel_rfl) (by kernel_rfl) (fun _ _ _ h => h) (by rfl) j2 ?_
                    try simp only [List.setIfInBounds_toArray, List.set_cons_zero, List.set_cons_succ]
                    refine held_skip 33 139 rfl rfl (by kernel_rfl) (by kernel_rfl) (by kernel_rfl) (fun _ _ _ h => h) (by rfl) j2 ?_
                    try simp only [List.setIfInBounds_toArray, List.set_cons_zero, List.set_cons_succ]
                    refine held_take 34 140 (v := ?_) rfl rfl (by kernel_rfl) (by kernel_rfl) (by kernel_rfl) (fun _ _ _ h => h) (by rfl) ?_ j2 ?_
                    rotate_left
                    · (intro w hSw; (try dsimp only at hSw); try simp only [List.getElem_toArray, List.getElem_cons_zero, List.getElem_cons_succ]; go_simp; try (with_reducible rfl))
                    try simp only [List.setIfInBounds_toArray, List.set_cons_zero, List.set_cons_succ]
                    refine held_take 35 141 (v := ?_) rfl rfl (by kernel_rfl) (by kernel_rfl) (by kernel_rfl) (fun _ _ _ h => h) (by rfl) ?_ j2 ?_
                    rotate_left
                    · (intro w hSw; (try dsimp only at hSw); try simp only [List.getElem_toArray, List.getElem_cons_zero, List.getElem_cons_succ]; go_simp; try (with_reducible rfl))
                    try simp only [List.setIfInBounds_toArray, List.set_cons_zero, List.set_cons_succ]
                    refine wpAnyH_done (by kernel_rfl) ?_ _
                    go_wp2
                    go_roundw
                    case rel => exact ⟨i + 1, by omega, by go_num, below_drew HBI.out⟩
                    case measure => simp [intOf]; omega
                  · have hD5 : D d i = 65535 := by
                      have : ¬ D d i < 65535 := fun h => hA ⟨h, e⟩
                      omega
                    rw [hD5] at j2 k1
                    clear r1 r2 r3 hA l0 l1 hca hbd hD5 e
                    go_upto_region 24 with fail
                    refine wp_region_held_drew (S := (fun w' => w'.cell? ⟨gF, i, none⟩ = some (.int .i64 65535))) (by kernel_rfl) j2 (fun _ => ?_)
                    refine held_take 0 106 (v := ?_) rfl rfl (by kernel_rfl) (by kernel_rfl) (by kernel_rfl) (fun _ _ _ h => h) (by rfl) ?_ j2 ?_
                    rotate_left
                    · (intro w hSw; (try dsimp only at hSw); try simp only [List.getElem_toArray, List.getElem_cons_zero, List.getElem_cons_succ]; go_simp; try (with_reducible rfl))
                    try simp only [List.setIfInBounds_toArray, List.set_cons_zero, List.set_cons_succ]
                    refine held_take 1 107 (v := ?_) rfl rfl (by kernel_rfl) (by kernel_rfl) (by kernel_rfl) (fun _ _ _ h => h) (by rfl) ?_ j2 ?_
                    rotate_left
                    · (intro w hSw; (try dsimp only at hSw); try simp only [List.getElem_toArray, List.getElem_cons_zero, List.getElem_cons_succ]; go_simp; try (with_reducible rfl))
                    try simp only [List.setIfInBounds_toArray, List.set_cons_zero, List.set_cons_succ]
                    refine held_take 2 108 (v := ?_) rfl rfl (by kernel_rfl) (by kernel_rfl) (by kernel_rfl) (fun _ _ _ h => h) (by rfl) ?_ j2 ?_
                    rotate_left
                    · (intro w hSw; (try dsimp only at hSw); try simp only [List.getElem_toArray, List.getElem_cons_zero, List.getElem_cons_succ]; go_simp; try (with_reducible rfl))
                    try simp only [List.setIfInBounds_toArray, List.set_cons_zero, List.set_cons_succ]
                    refine held_take 3 109 (v := ?_) rfl rfl (by kernel_rfl) (by kernel_rfl) (by kernel_rfl) (fun _ _ _ h => h) (by rfl) ?_ j2 ?_
                    rotate_left
                    · (intro w hSw; (try dsimp only at hSw); try simp only [List.getElem_toArray, List.getElem_cons_zero, List.getElem_cons_succ]; go_simp; try (with_reducible rfl))
                    try simp only [List.setIfInBounds_toArray, List.set_cons_zero, List.set_cons_succ]
                    refine held_take 4 110 (v := ?_) rfl rfl (by kernel_rfl) (by kernel_rfl) (by kernel_rfl) (fun _ _ _ h => h) (by rfl) ?_ j2 ?_
                    rotate_left
                    · (intro w hSw; (try dsimp only at hSw); try simp only [List.getElem_toArray, List.getElem_cons_zero, List.getElem_cons_succ]; go_simp; try (with_reducible rfl))
                    try simp only [List.setIfInBounds_toArray, List.set_cons_zero, List.set_cons_succ]
                    refine held_take 5 111 (v := ?_) rfl rfl (by kernel_rfl) (by kernel_rfl) (by kernel_rfl) (fun _ _ _ h => h) (by rfl) ?_ j2 ?_
                    rotate_left
                    · (intro w hSw; (try dsimp only at hSw); try simp only [List.getElem_toArray, List.getElem_cons_zero, List.getElem_cons_succ]; go_simp; try (with_reducible rfl))
                    try simp only [List.setIfInBounds_toArray, List.set_cons_zero, List.set_cons_succ]
                    refine held_take 6 112 (v := ?_) rfl rfl (by kernel_rfl) (by kernel_rfl) (by kernel_rfl) (fun _ _ _ h => h) (by rfl) ?_ j2 ?_
                    rotate_left
                    · (intro w hSw; (try dsimp only at hSw); try simp only [List.getElem_toArray, List.getElem_cons_zero, List.getElem_cons_succ]; go_simp; try (with_reducible rfl))
                    try simp only [List.setIfInBounds_toArray, List.set_cons_zero, List.set_cons_succ]
                    refine held_take 7 113 (v := ?_) rfl rfl (by kernel_rfl) (by kernel_rfl) (by kernel_rfl) (fun _ _ _ h => h) (by rfl) ?_ j2 ?_
                    rotate_left
                    · (intro w hSw; (try dsimp only at hSw); try simp only [List.getElem_toArray, List.getElem_cons_zero, List.getElem_cons_succ]; go_simp; try (with_reducible rfl))
                    try simp only [List.setIfInBounds_toArray, List.set_cons_zero, List.set_cons_succ]
                    refine held_skip 8 114 rfl rfl (by kernel_rfl) (by kernel_rfl) (by kernel_rfl) (fun _ _ _ h => h) (by rfl) j2 ?_
                    try simp only [List.setIfInBounds_toArray, List.set_cons_zero, List.set_cons_succ]
                    refine held_skip 9 115 rfl rfl (by kernel_rfl) (by kernel_rfl) (by kernel_rfl) (fun _ _ _ h => h) (by rfl) j2 ?_
                    try simp only [List.setIfInBounds_toArray, List.set_cons_zero, List.set_cons_succ]
                    refine held_skip 10 116 rfl rfl (by kernel_rfl) (by kernel_rfl) (by kernel_rfl) (fun _ _ _ h => h) (by rfl) j2 ?_
                    try simp only [List.setIfInBounds_toArray, List.set_cons_zero, List.set_cons_succ]
                    refine held_take 11 117 (v := ?_) rfl rfl (by kernel_rfl) (by kernel_rfl) (by kernel_rfl) (fun _ _ _ h => h) (by rfl) ?_ j2 ?_
                    rotate_left
                    · (intro w hSw; (try dsimp only at hSw); try simp only [List.getElem_toArray, List.getElem_cons_zero, List.getElem_cons_succ]; go_simp; try (with_reducible rfl))
                    try simp only [List.setIfInBounds_toArray, List.set_cons_zero, List.set_cons_succ]
                    refine held_take 12 118 (v := ?_) rfl rfl (by kernel_rfl) (by kernel_rfl) (by kernel_rfl) (fun _ _ _ h => h) (by rfl) ?_ j2 ?_
                    rotate_left
                    · (intro w hSw; (try dsimp only at hSw); try simp only [List.getElem_toArray, List.getElem_cons_zero, List.getElem_cons_succ]; go_simp; try (with_reducible rfl))
                    try simp only [List.setIfInBounds_toArray, List.set_cons_zero, List.set_cons_succ]
                    refine held_take 13 119 (v := ?_) rfl rfl (by kernel_rfl) (by kernel_rfl) (by kernel_rfl) (fun _ _ _ h => h) (by rfl) ?_ j2 ?_
                    rotate_left
                    · (intro w hSw; (try dsimp only at hSw); try simp only [List.getElem_toArray, List.getElem_cons_zero, List.getElem_cons_succ]; go_simp; try (with_reducible rfl))
                    try simp only [List.setIfInBounds_toArray, List.set_cons_zero, List.set_cons_succ]
                    refine held_take 14 120 (v := ?_) rfl rfl (by kernel_rfl) (by kernel_rfl) (by kernel_rfl) (fun _ _ _ h => h) (by rfl) ?_ j2 ?_
                    rotate_left
                    · (intro w hSw; (try dsimp only at hSw); try simp only [List.getElem_toArray, List.getElem_cons_zero, List.getElem_cons_succ]; go_simp; try (with_reducible rfl))
                    try simp only [List.setIfInBounds_toArray, List.set_cons_zero, List.set_cons_succ]
                    refine held_take 15 121 (v := ?_) rfl rfl (by kernel_rfl) (by kernel_rfl) (by kernel_rfl) (fun _ _ _ h => h) (by rfl) ?_ j2 ?_
                    rotate_left
                    · (intro w hSw; (try dsimp only at hSw); try simp only [List.getElem_toArray, List.getElem_cons_zero, List.getElem_cons_succ]; go_simp; try (with_reducible rfl))
                    try simp only [List.setIfInBounds_toArray, List.set_cons_zero, List.set_cons_succ]
                    refine held_take 16 122 (v := ?_) rfl rfl (by kernel_rfl) (by kernel_rfl) (by kernel_rfl) (fun _ _ _ h => h) (by rfl) ?_ j2 ?_
                    rotate_left
                    · (intro w hSw; (try dsimp only at hSw); try simp only [List.getElem_toArray, List.getElem_cons_zero, List.getElem_cons_succ]; go_simp; try (with_reducible rfl))
                    try simp only [List.setIfInBounds_toArray, List.set_cons_zero, List.set_cons_succ]
                    refine held_skip 17 123 rfl rfl (by kernel_rfl) (by kernel_rfl) (by kernel_rfl) (fun _ _ _ h => h) (by rfl) j2 ?_
                    try simp only [List.setIfInBounds_toArray, List.set_cons_zero, List.set_cons_succ]
                    refine held_skip 18 124 rfl rfl (by kernel_rfl) (by kernel_rfl) (by kernel_rfl) (fun _ _ _ h => h) (by rfl) j2 ?_
                    try simp only [List.setIfInBounds_toArray, List.set_cons_zero, List.set_cons_succ]
                    refine held_skip 19 125 rfl rfl (by kernel_rfl) (by kernel_rfl) (by kernel_rfl) (fun _ _ _ h => h) (by rfl) j2 ?_
                    try simp only [List.setIfInBounds_toArray, List.set_cons_zero, List.set_cons_succ]
                    refine held_skip 20 126 rfl rfl (by kernel_rfl) (by kernel_rfl) (by kernel_rfl) (fun _ _ _ h => h) (by rfl) j2 ?_
                    try simp only [List.setIfInBounds_toArray, List.set_cons_zero, List.set_cons_succ]
                    refine held_skip 21 127 rfl rfl (by kernel_rfl) (by kernel_rfl) (by kernel_rfl) (fun _ _ _ h => h) (by rfl) j2 ?_
                    try simp only [List.setIfInBounds_toArray, List.set_cons_zero, List.set_cons_succ]
                    refine held_skip 22 128 rfl rfl (by kernel_rfl) (by kernel_rfl) (by kernel_rfl) (fun _ _ _ h => h) (by rfl) j2 ?_
                    try simp only [List.setIfInBounds_toArray, List.set_cons_zero, List.set_cons_succ]
                    refine held_skip 23 129 rfl rfl (by kernel_rfl) (by kernel_rfl) (by kernel_rfl) (fun _ _ _ h => h) (by rfl) j2 ?_
                    try simp only [List.setIfInBounds_toArray, List.set_cons_zero, List.set_cons_succ]
                    refine held_skip 24 130 rfl rfl (by kernel_rfl) (by kernel_rfl) (by kernel_rfl) (fun _ _ _ h => h) (by rfl) j2 ?_
                    try simp only [List.setIfInBounds_toArray, List.set_cons_zero, List.set_cons_succ]
                    refine held_skip 25 131 rfl rfl (by kernel_rfl) (by kernel_rfl) (by kernel_rfl) (fun _ _ _ h => h) (by rfl) j2 ?_
                    try simp only [List.setIfInBounds_toArray, List.set_cons_zero, List.set_cons_succ]
                    refine held_skip 26 132 rfl rfl (by kernel_rfl) (by kernel_rfl) (by kernel_rfl) (fun _ _ _ h => h) (by rfl) j2 ?_
                    try simp only [List.setIfInBounds_toArray, List.set_cons_zero, List.set_cons_succ]
                    refine held_skip 27 133 rfl rfl (by kernel_rfl) (by kernel_rfl) (by kernel_rfl) (fun _ _ _ h => h) (by rfl) j2 ?_
                    try simp only [List.setIfInBounds_toArray, List.set_cons_zero, List.set_cons_succ]
                    refine held_skip 28 134 rfl rfl (by kernel_rfl) (by kernel_rfl) (by kernel_rfl) (fun _ _ _ h => h) (by rfl) j2 ?_
                    try simp only [List.setIfInBounds_toArray, List.set_cons_zero, List.set_cons_succ]
                    refine held_skip 29 135 rfl rfl (by kernel_rfl) (by kernel_rfl) (by kernel_rfl) (fun _ _ _ h => h) (by rfl) j2 ?_
                    try simp only [List.setIfInBounds_toArray, List.set_cons_zero, List.set_cons_succ]
                    refine held_skip 30 136 rfl rfl (by kernel_rfl) (by kernel_rfl) (by kernel_rfl) (fun _ _ _ h => h) (by rfl) j2 ?_
                    try simp only [List.setIfInBounds_toArray, List.set_cons_zero, List.set_cons_succ]
                    refine held_skip 31 137 rfl rfl (by kernel_rfl) (by kernel_rfl) (by kernel_rfl) (fun _ _ _ h => h) (by rfl) j2 ?_
                    try simp only [List.setIfInBounds_toArray, List.set_cons_zero, List.set_cons_succ]
                    refine held_skip 32 138 rfl rfl (by kernel_rfl) (by kernel_rfl) (by kernel_rfl) (fun _ _ _ h => h) (by rfl) j2 ?_
                    try simp only [List.setIfInBounds_toArray, List.set_cons_zero, List.set_cons_succ]
                    refine held_skip 33 139 rfl rfl (by kernel_rfl) (by kernel_rfl) (by kernel_rfl) (fun _ _ _ h => h) (by rfl) j2 ?_
                    try simp only [List.setIfInBounds_toArray, List.set_cons_zero, List.set_cons_succ]
                    refine held_take 34 140 (v := ?_) rfl rfl (by kernel_rfl) (by kernel_rfl) (by kernel_rfl) (fun _ _ _ h => h) (by rfl) ?_ j2 ?_
                    rotate_left
                    · (intro w hSw; (try dsimp only at hSw); try simp only [List.getElem_toArray, List.getElem_cons_zero, List.getElem_cons_succ]; go_simp; try (with_reducible rfl))
                    try simp only [List.setIfInBounds_toArray, List.set_cons_zero, List.set_cons_succ]
                    refine held_take 35 141 (v := ?_) rfl rfl (by kernel_rfl) (by kernel_rfl) (by kernel_rfl) (fun _ _ _ h => h) (by rfl) ?_ j2 ?_
                    rotate_left
                    · (intro w hSw; (try dsimp only at hSw); try simp only [List.getElem_toArray, List.getElem_cons_zero, List.getElem_cons_succ]; go_simp; try (with_reducible rfl))
                    try simp only [List.setIfInBounds_toArray, List.set_cons_zero, List.set_cons_succ]
                    refine wpAnyH_done (by kernel_rfl) ?_ _
                    go_wp2
                    go_roundw
                    case rel => exact ⟨i + 1, by omega, by go_num, below_drew HBI.out⟩
                    case measure => simp [intOf]; omega
              · obtain rfl : n = i := by omega
                go_wp2
                go_roundw
                case rel => exact ⟨d + 1, by omega, by go_num, Ma.out.below HBI.out, MBa.out.trans (HBI.out.mono MBa.out.size), MMa.out.keep HBI.out⟩
                case measure => simp [intOf]; omega
          · obtain rfl : n = d := by omega
            have hm1 : S1.m.length ≤ 300 := by rw [HS1.out.2.2]; exact Nat.zero_le _
            have HM1 := Lib.hid hm1
            clear hm1
            go_upto_region 29 with fail
            go_loopw [145] (fun s145 wr => ∃ (a : Nat) (S2 : NetV), a ≤ n ∧ s145 = .int .i64 a ∧ IsNet wr w1.heap.size b ly S2 ∧ Below w1.heap.size w1 wr ∧ Mat wr w2.heap.size gm n cm G S.c ∧ S2.n = n ∧ S2.m.length ≤ 300 ∧ AllC n S.c Q D S2) (fun s145 _ => n - (intOf s145).toNat)
            case atStart => exact ⟨0, S1, by omega, rfl, M.out, MB.out, MM.out, HN1.out, HM1.out, HAC.out⟩
            case round =>
              obtain ⟨a, S2, ha, rfl, hnet, hbel, hmat, hsn, hsm, hac⟩ := hrel
              have P := Lib.hid hnet
              have PB := Lib.hid hbel
              have PM := Lib.hid hmat
              have PN := Lib.hid hsn
              have PL := Lib.hid hsm
              have PC := Lib.hid hac
              clear hnet hbel hmat hsn hsm hac M MB MM
              by_cases hla : a < n
              · have hla' : (a : Int) < (n : Int) := by omega
                have a00 : (0 : Int) ≤ (a : Int) := by omega
                go_wp2_with (go_at_call 13; (with_reducible refine (do_any 2 a 0 0 wr P.out PL.out).mono ?_); rintro e w4 ⟨x, S', rfl, hd, hn4, ha4⟩; have HDO := Lib.hid hd; have P4 := Lib.hid hn4; have PB4 := Lib.hid (PB.out.trans ha4.bel); have PM4 := Lib.hid (mat_after PM.out ha4); clear hd hn4 ha4)
                go_roundw
                case rel =>
                  have hn4 := (HDO.out.few PL.out).2.trans PN.out
                  exact ⟨a + 1, _, by omega, by go_num, P4.out, PB4.out, PM4.out, hn4, (HDO.out.few PL.out).1, allC_do PC.out HD.out HDO.out (.inl rfl) (fun i hi => wfs_of P4.out i (by rw [hn4]; exact hi))⟩
                case measure => simp [intOf]; omega
              · obtain rfl : n = a := by omega
                go_upto_region 33 with fail
                go_loopw [153] (fun _ wr => ∃ S3 : NetV, IsNet wr w1.heap.size b ly S3 ∧ Below w1.heap.size w1 wr ∧ Mat wr w2.heap.size gm n cm G S.c ∧ S3.n = n ∧ S3.m.length ≤ 300 ∧ AllC n S.c Q D S3) (fun _ wr => qlen b wr)
                case atStart => exact ⟨S2, P.out, PB.out, PM.out, PN.out, PL.out, PC.out⟩
                case round =>
                  obtain ⟨S3, hnet, hbel, hmat, hsn, hsm, hac⟩ := hrel
                  have R := Lib.hid hnet
                  have RB := Lib.hid hbel
                  have RM := Lib.hid hmat
                  have RN := Lib.hid hsn
                  have RL := Lib.hid hsm
                  have RC := Lib.hid hac
                  clear hnet hbel hmat hsn hac P PB PM PN PL PC
                  have HWY := Lib.hid (way_len wr R.out)
                  by_cases h0 : 0 < S3.m.length
                  · have h0' : (0 : Int) < (S3.m.length : Int) := by omega
                    have hq0 : (0 : Int) ≤ (S3.m.length : Int) := by omega
                    have hq3 : (S3.m.length : Int) ≤ 300 := by omega
                    clear hsm
                    go_wp2_with (first
                      | (go_at_call 20; (with_reducible refine (HWY.out).mono ?_); rintro e w4 ⟨rfl, rfl⟩)
                      | (go_at_call 13; (with_reducible refine (do_any 3 0 0 _ wr R.out RL.out).mono ?_); rintro e w4 ⟨x, S', rfl, hd, hn4, ha4⟩; have HDO := Lib.hid hd; have R4 := Lib.hid hn4; have RB4 := Lib.hid (RB.out.trans ha4.bel); have RM4 := Lib.hid (mat_after RM.out ha4); clear hd hn4 ha4))
                    go_roundw
                    case rel =>
                      have hn4 := (HDO.out.few RL.out).2.trans RN.out
                      exact ⟨_, R4.out, RB4.out, RM4.out, hn4, (HDO.out.few RL.out).1, allC_do RC.out HD.out HDO.out (.inr rfl) (fun i hi => wfs_of R4.out i (by rw [hn4]; exact hi))⟩
                    case measure =>
                      rw [qlen_is R4.out, qlen_is R.out]
                      exact bring_less HDO.out h0
                  · have h0' : ¬ (0 : Int) < (S3.m.length : Int) := by omega
                    go_upto_region 36 with (go_at_call 20; (with_reducible refine (HWY.out).mono ?_); rintro e w4 ⟨rfl, rfl⟩)
                    go_loopw [163] (fun s163 wr => ∃ d : Nat, d ≤ n ∧ s163 = .int .i64 d ∧ IsNet wr w1.heap.size b ly S3 ∧ Below w1.heap.size w1 wr ∧ Mat wr w2.heap.size gm n cm G S.c) (fun s163 _ => n - (intOf s163).toNat)
                    case atStart => exact ⟨0, by omega, rfl, R.out, RB.out, RM.out⟩
                    case round =>
                      obtain ⟨d, hd, rfl, hnet, hbel, hmat⟩ := hrel
                      have T := Lib.hid hnet
                      have TB := Lib.hid hbel
                      have TM := Lib.hid hmat
                      clear hnet hbel hmat R RB RM HWY
                      by_cases hdn : d < n
                      · have hdn' : (d : Int) < (n : Int) := by omega
                        have d0 : (0 : Int) ≤ (d : Int) := by omega
                        have hms := fun (w : World) (h : IsNet w w1.heap.size b ly S3) => metrics_ok w h d (by rw [RN.out]; exact hdn)
                        rw [RN.out] at hms
                        have HMS := Lib.hid hms
                        have HRF := Lib.hid (fun (w : World) (hm : Mat w w2.heap.size gm n cm G S.c) => reffar_any w2.heap.size gm n cm d G S.c (D d) w hn1 hn6 hm hdn HGD.out (HD.out d hdn))
                        clear hms
                        go_wp2_with (first
                          | (go_at_call 17; (with_reducible refine (HMS.out wr T.out).mono ?_); rintro e w6 ⟨⟨v6, rfl, hv6⟩, hb6⟩; obtain ⟨A6, c6, rfl, hI6, _⟩ := own_row hv6; have HI6 := Lib.hid (show Ints w6 A6 n (met S3 d) from hI6); have T6 := Lib.hid (T.out.below hb6); have TB6 := Lib.hid (TB.out.trans (hb6.mono TB.out.size)); have TM6 := Lib.hid (TM.out.keep hb6); clear hv6 hb6 hI6)
                          | (go_at_call 15; (with_reducible refine (HRF.out w6 TM6.out).mono ?_); rintro e w7 ⟨⟨F, rfl, hF7, hFD⟩, hb7⟩; have T7 := Lib.hid (T6.out.below hb7); have TB7 := Lib.hid (TB6.out.trans (hb7.mono TB6.out.size)); have TM7 := Lib.hid (TM6.out.keep hb7); have HF7 := Lib.hid hF7; have HI7 := Lib.hid (HI6.out.keep hb7); have HSM := Lib.hid (allC_met RC.out HD.out hdn hFD); clear hF7 hFD hb7)
                          | (go_at_call 16; (with_reducible refine (same_met A6 n c6 _ (met S3 d) F w7 hn6 HSM.out HI7.out HF7.out).mono ?_); rintro e w8 ⟨rfl, hb8⟩; have T8 := Lib.hid (T7.out.below hb8); have TB8 := Lib.hid (TB7.out.trans (hb8.mono TB7.out.size)); have TM8 := Lib.hid (TM7.out.keep hb8); clear hb8))
                        go_roundw
                        case rel => exact ⟨d + 1, by omega, by go_num, T8.out, TB8.out, TM8.out⟩
                        case measure => simp [intOf]; omega
                      · obtain rfl : n = d := by omega
                        go_wp2
                        go_ret
                        exact ⟨rfl, HB1.out.trans (TB.out.mono HB1.out.size)⟩
  · have hd : decide (m ≤ 300) = false := decide_eq_false hfew
    have hq := fun (w : World) => few_any A m cap w HM.out
    rw [hd] at hq
    have HQ := Lib.hid hq
    clear hd hq
    go_enter Try.func3, Try.ntmps3
    go_wp2_with (first
      | (go_at_call 9; (with_reducible refine (awake_any w).mono ?_); rintro e w1 ⟨rfl, hb⟩; have HB1 := Lib.hid hb; clear hb)
      | (go_at_call 10; (with_reducible refine (HQ.out w1).mono ?_); rintro e w2 ⟨rfl, rfl⟩)
      | (go_at_call 9; (with_reducible refine (awake_any w1).mono ?_); rintro e w2 ⟨rfl, hb⟩; have HB2 := Lib.hid (HB1.out.trans (hb.mono HB1.out.size)); clear hb))
    go_ret
    exact ⟨rfl, HB2.out⟩
end NetworkSettles
end Go.Proofs.Ytebkpjefdaieaaa
