/-
  The walk of the law GraphTells. Conditions: none.
-/
import Derived.Test.YtbghebncmfjgiaaMat
namespace Go.Proofs.Ytbghebncmfjgiaa
open Go Go.RowKit
set_option linter.unusedVariables false
set_option linter.unusedSimpArgs false
namespace GraphTells
open GG
theorem isg_drew {w : World} {g n : Nat} {c : Nat → Nat → Int} (h : IsG w g n c) : IsG w.drew g n c := ⟨h.blk, h.n1, h.n6⟩
theorem isg_other {w : World} {g n : Nat} {c : Nat → Nat → Int} (h : IsG w g n c) {q : Addr} (hq : q.block ≠ g) (v : Value) : IsG (w.setCell q v) g n c := by
  obtain ⟨⟨cs, h1, h2⟩, h3, h4⟩ := h
  exact ⟨⟨cs, (Below.heap_setCell w q v g (fun e => hq e.symm)).trans h1, h2⟩, h3, h4⟩
theorem mat_drew {w : World} {base gm n cap : Nat} {G : Nat → Nat} {c : Nat → Nat → Int} (h : Mat w base gm n cap G c) : Mat w.drew base gm n cap G c := ⟨(Only.drew (Only.refl (fun _ => False) w)).own h.own (fun _ _ h => h), fun j hj => Far.drew (h.far j hj), h.inj, h.low⟩
theorem cst_nat {n : Nat} {c : Nat → Nat → Int} {a b : Nat} (ha : a < n) (hb : b < n) : cst n c (a : Int) (b : Int) = c a b := by
  unfold cst
  rw [if_pos ⟨by simp [ok]; omega, by simp [ok]; omega⟩]
  rfl
theorem own_g {w : World} {base size d g n : Nat} {v : Value} {xs : List Value} {c : Nat → Nat → Int} (h : w.ownsRow base 32 size v d xs) (hg : IsG w g n c) : ∀ k, v.ownBlock = some k → ¬ (fun i => i = g) k := by
  rintro k hk rfl
  obtain ⟨cs, hb, _⟩ := hg.blk
  exact own_ne_blk h hb (by decide) hk
theorem mat_only {w w' : World} {base gm n cap g n' : Nat} {G : Nat → Nat} {c c' : Nat → Nat → Int} (h : Mat w base gm n cap G c) (hg : IsG w g n' c') (ho : Only (fun i => i = g) w w') : Mat w' base gm n cap G c :=
  ⟨ho.own h.own (own_g h.own hg), fun j hj => ho.obj (h.far j hj) (far_ne (h.far j hj) hg), h.inj, h.low⟩
theorem gm_ne {w : World} {base gm n cap : Nat} {G : Nat → Nat} {c : Nat → Nat → Int} (h : Mat w base gm n cap G c) {a : Nat} (ha : a < n) : G a ≠ gm := fun e =>
  own_ne_blk h.own (show w.heap[G a]? = _ from h.far a ha) (by decide) (by rw [e]; rfl)
theorem mat_set {w : World} {base gm n cap : Nat} {G : Nat → Nat} {c : Nat → Nat → Int} (h : Mat w base gm n cap G c) {a b : Nat} (ha : a < n) (x : Int) : Mat (w.setCell ⟨G a, b, none⟩ (.int .i64 x)) base gm n cap G (put c a b x) := by
  refine ⟨?_, fun j hj => ?_, h.inj, h.low⟩
  · refine ((Only.refl (fun i => i = G a) w).setCell (p := ⟨G a, b, none⟩) (fun _ => rfl) _).own h.own (fun k hk e => ?_)
    simp only [Value.ownBlock, Option.some.injEq] at hk
    exact gm_ne h ha (e.symm.trans hk.symm)
  · by_cases e : j = a
    · subst e
      exact ((h.far j hj).set b x).congr (fun i _ => by unfold put; simp)
    · exact (far_other (h.far j hj) (p := ⟨G a, b, none⟩) (fun he => e (h.inj j a hj ha he.symm)) _).congr (fun i _ => by unfold put; simp [e])
theorem cell_other {w : World} {q a : Addr} {u v : Value} (h : w.cell? a = some v) (hq : q.block ≠ a.block) : (w.setCell q u).cell? a = some v := (World.cell?_setCell_far w q a u hq).trans h
/-- number i alone may come up, and is carried out; it leaves no value -/
theorem held_do {P : Program} {ops : Array Oper} {Q : Exit → Act → World → Prop} {S : World → Prop} (i : Nat) {oi : Oper} {fuel : Nat} {listed : Array Bool} {T : Array Value} {D : List Deferred} {w : World} (hi : ops[i]? = some oi)
    (hr : Region.ready .any ops listed = [i]) (hw : Region.wanted oi (yielded ops T) = true)
    (h : ∀ K' : Act → World → Prop, Shut (∀ T D w, S w → wpAnyH P .any ops Q S fuel (listed.setIfInBounds i true) ⟨T, D⟩ w → K' ⟨T, D⟩ w) → Oper.wp P oi ⟨T, D⟩ w K' Q) : wpAnyH P .any ops Q S (fuel + 1) listed ⟨T, D⟩ w := by
  refine wpAnyH_ready hr (by simp) (AllReadyH.cons hi (fun K hK => ?_) AllReadyH.nil)
  rw [if_pos hw]
  exact h K (fun T D w hS h => hK.out _ _ hS (fun _ => h))
theorem same_far {n : Nat} {F F' : Nat → Int} (h : ∀ i, i < n → F' i = F i) : sam n n F F' = true := sam_yes (fun j hj => (h j hj).symm)
theorem bad2 {n : Nat} {a b x : Int} (h : ¬ (ok n a = true ∧ ok n b = true ∧ a ≠ b)) : lnk n a b x = 2 := by unfold lnk; rw [if_neg h]
attribute [local irreducible] lnk lnc Far Row cst rows sam
set_option maxRecDepth 100000 in
set_option maxHeartbeats 16000000 in
theorem walk (n0 : Int) (v1 : Value) (t0 : Int) (w : World) (_ : (Lit.int .i64 n0).wf = true) (h1 : IsLs w v1) (_ : (Lit.int .i64 t0).wf = true) : Calls Try.prog 3 #[.int .i64 n0, v1, .int .i64 t0] w fun e w' => e = .returned (.bool true) ∧ Below w.heap.size w w' := by
  obtain ⟨A, m, cap, LA, LB, LC, rfl, hm, hL⟩ := h1
  have HL := Lib.hid hL
  clear hL
  unfold maxLen at hm
  by_cases hbig : (100 : Int) < (m : Int)
  · go_enter Try.func3, Try.ntmps3
    go_wp2_with (first
      | (go_at_call 9; with_reducible refine (awake_any w).mono ?_; rintro e w1 ⟨rfl, hb⟩; have HB1 := Lib.hid hb; clear hb)
      | (go_at_call 9; with_reducible refine (awake_any w1).mono ?_; rintro e w2 ⟨rfl, hb⟩; have HB2 := Lib.hid (HB1.out.trans (hb.mono HB1.out.size)); clear hb))
    go_ret
    exact ⟨rfl, HB2.out⟩
  · by_cases hn0 : n0 < 1 ∨ 6 < n0
    · rcases Int.lt_or_le n0 1 with hn1 | hn1
      · go_enter Try.func3, Try.ntmps3
        go_wp2_with (first
          | (go_at_call 9; with_reducible refine (awake_any w).mono ?_; rintro e w1 ⟨rfl, hb⟩; have HB1 := Lib.hid hb; clear hb)
          | (go_at_call 10; refine (new_bad n0 w1 (.inl hn1)).mono ?_; rintro e w2 ⟨rfl, rfl⟩))
        go_ret
        exact ⟨rfl, HB1.out⟩
      · have hn1' : ¬ n0 < 1 := by omega
        have hn6 : 6 < n0 := by omega
        go_enter Try.func3, Try.ntmps3
        go_wp2_with (first
          | (go_at_call 9; with_reducible refine (awake_any w).mono ?_; rintro e w1 ⟨rfl, hb⟩; have HB1 := Lib.hid hb; clear hb)
          | (go_at_call 10; refine (new_bad n0 w1 (.inr hn6)).mono ?_; rintro e w2 ⟨rfl, rfl⟩))
        go_ret
        exact ⟨rfl, HB1.out⟩
    · obtain ⟨n, rfl⟩ : ∃ n : Nat, n0 = n := ⟨n0.toNat, by omega⟩
      have hn1 : 1 ≤ n := by omega
      have hn6 : n ≤ 6 := by omega
      have g1 : ¬ (n : Int) < 1 := by omega
      have g2 : ¬ 6 < (n : Int) := by omega
      clear hn0
      go_enter Try.func3, Try.ntmps3
      go_upto_region 3 with (go_at_call 9; with_reducible refine (awake_any w).mono ?_; rintro e w1 ⟨rfl, hb⟩; have HB1 := Lib.hid hb; clear hb)
      have HG0 := Lib.hid (new_isG w1 n hn1 hn6)
      have HN0 := Lib.hid ((Below.refl w1.heap.size w1).alloc (Nat.le_refl _) (.cells (#[Value.int .i64 n] ++ Array.replicate 36 (.int .i64 0)) 50))
      go_upto_region 8 with (first
        | (go_at_call 10; refine (new_any n w1 (by omega) (by omega)).mono ?_; rintro e w2 ⟨rfl, hw2⟩; have HG2 := Lib.hid (show IsG w2 w1.heap.size n (fun _ _ => 0) from hw2 ▸ HG0.out); have HB2 := Lib.hid (show Below w1.heap.size w1 w2 from hw2 ▸ HN0.out); clear hw2)
        | (go_at_call 11; refine (make_any n w2 hn1 hn6).mono ?_; rintro e w3 ⟨⟨gm, cm, G, rfl, hmat⟩, hb⟩; have HM3 := Lib.hid hmat; have HG3 := Lib.hid (HG2.out.keep hb); have HB3 := Lib.hid (HB2.out.trans (hb.mono HB2.out.size)); clear hmat hb))
      go_loopw [44] (fun s44 wr => ∃ (k : Nat) (c : Nat → Nat → Int), k ≤ m ∧ s44 = .int .i64 k ∧ GG.Good c ∧ IsG wr w1.heap.size n c ∧ Mat wr w2.heap.size gm n cm G c ∧ Below w1.heap.size w1 wr) (fun s44 _ => m - (intOf s44).toNat)
      case atStart => exact ⟨0, _, by omega, rfl, good_zero, HG3.out, HM3.out, HB3.out⟩
      case round =>
        obtain ⟨k, c, hk, rfl, hgood, hg, hmat, hb⟩ := hrel
        have HGC := Lib.hid hgood
        have HGG := Lib.hid hg
        have HMM := Lib.hid hmat
        have HBB := Lib.hid hb
        clear hgood hg hmat hb
        by_cases hlt : k < m
        · have hlt' : (k : Int) < (m : Int) := by omega
          have k00 : (0 : Int) ≤ (k : Int) := by omega
          obtain ⟨bo, oo, rfl, _, hc0, hc1, hc2⟩ := HL.out k hlt
          have hbb := HB1.out.trans (HBB.out.mono HB1.out.size)
          have x0 := later hbb hc0
          have x1 := later hbb hc1
          have x2 := later hbb hc2
          clear hc0 hc1 hc2 hbb
          go_upto_region 10 with fail
          have bal : Below wr.heap.size wr (wr.alloc (.cells #[.int .i64 (LA k), .int .i64 (LB k), .int .i64 (LC k)] 31)) := (Below.refl _ _).alloc (Nat.le_refl _) _
          have hblk : (wr.alloc (.cells #[.int .i64 (LA k), .int .i64 (LB k), .int .i64 (LC k)] 31)).heap[wr.heap.size]? = some (.cells #[.int .i64 (LA k), .int .i64 (LB k), .int .i64 (LC k)] 31 (0, 0)) := by simp only [World.alloc]; exact Array.getElem?_push_size
          generalize wr.alloc (.cells #[.int .i64 (LA k), .int .i64 (LB k), .int .i64 (LC k)] 31) = wo at bal hblk ⊢
          have e0 : wo.cell? ⟨wr.heap.size, 0, none⟩ = some (.int .i64 (LA k)) := by rw [blk_cell hblk 0]; rfl
          have e1 : wo.cell? ⟨wr.heap.size, 1, none⟩ = some (.int .i64 (LB k)) := by rw [blk_cell hblk 1]; rfl
          have e2 : wo.cell? ⟨wr.heap.size, 2, none⟩ = some (.int .i64 (LC k)) := by rw [blk_cell hblk 2]; rfl
          have HGo := Lib.hid (HGG.out.keep bal)
          have HMo := Lib.hid (HMM.out.keep bal)
          have HBo := Lib.hid (HBB.out.trans (bal.mono HBB.out.size))
          clear bal hblk x0 x1 x2
          by_cases c1 : LA k < 0
          · have hlk := bad2 (n := n) (a := LA k) (b := LB k) (x := LC k) (by rintro ⟨h, _⟩; simp [ok] at h; omega)
            go_wp2_with (go_at_call 12; refine (link_bad w1.heap.size n c (LA k) (LB k) (LC k) wo HGo.out (by rw [hlk]; decide)).mono ?_; rw [hlk]; rintro e w6 ⟨rfl, rfl⟩)
            go_roundw
            case rel => exact ⟨k + 1, c, by omega, by go_num, HGC.out, HGo.out, HMo.out, HBo.out⟩
            case measure => simp [intOf]; omega
          · by_cases c2 : (n : Int) ≤ LA k
            · have hlk := bad2 (n := n) (a := LA k) (b := LB k) (x := LC k) (by rintro ⟨h, _⟩; simp [ok] at h; omega)
              go_wp2_with (go_at_call 12; refine (link_bad w1.heap.size n c (LA k) (LB k) (LC k) wo HGo.out (by rw [hlk]; decide)).mono ?_; rw [hlk]; rintro e w6 ⟨rfl, rfl⟩)
              go_roundw
              case rel => exact ⟨k + 1, c, by omega, by go_num, HGC.out, HGo.out, HMo.out, HBo.out⟩
              case measure => simp [intOf]; omega
            · by_cases c3 : LB k < 0
              · have hlk := bad2 (n := n) (a := LA k) (b := LB k) (x := LC k) (by rintro ⟨_, h, _⟩; simp [ok] at h; omega)
                go_wp2_with (go_at_call 12; refine (link_bad w1.heap.size n c (LA k) (LB k) (LC k) wo HGo.out (by rw [hlk]; decide)).mono ?_; rw [hlk]; rintro e w6 ⟨rfl, rfl⟩)
                go_roundw
                case rel => exact ⟨k + 1, c, by omega, by go_num, HGC.out, HGo.out, HMo.out, HBo.out⟩
                case measure => simp [intOf]; omega
              · by_cases c4 : (n : Int) ≤ LB k
                · have hlk := bad2 (n := n) (a := LA k) (b := LB k) (x := LC k) (by rintro ⟨_, h, _⟩; simp [ok] at h; omega)
                  go_wp2_with (go_at_call 12; refine (link_bad w1.heap.size n c (LA k) (LB k) (LC k) wo HGo.out (by rw [hlk]; decide)).mono ?_; rw [hlk]; rintro e w6 ⟨rfl, rfl⟩)
                  go_roundw
                  case rel => exact ⟨k + 1, c, by omega, by go_num, HGC.out, HGo.out, HMo.out, HBo.out⟩
                  case measure => simp [intOf]; omega
                · by_cases c5 : LA k = LB k
                  · have hlk := bad2 (n := n) (a := LA k) (b := LB k) (x := LC k) (fun h => h.2.2 c5)
                    have c5' : (LA k == LB k) = true := by simp [c5]
                    clear c5
                    go_wp2_with (go_at_call 12; refine (link_bad w1.heap.size n c (LA k) (LB k) (LC k) wo HGo.out (by rw [hlk]; decide)).mono ?_; rw [hlk]; rintro e w6 ⟨rfl, rfl⟩)
                    go_roundw
                    case rel => exact ⟨k + 1, c, by omega, by go_num, HGC.out, HGo.out, HMo.out, HBo.out⟩
                    case measure => simp [intOf]; omega
                  · have c5' : (LA k == LB k) = false := by simp [c5]
                    have hoka : ok n (LA k) = true := by simp [ok]; omega
                    have hokb : ok n (LB k) = true := by simp [ok]; omega
                    by_cases c6 : LC k < 0
                    · have hlk : lnk n (LA k) (LB k) (LC k) = 1 := by unfold lnk; rw [if_pos ⟨hoka, hokb, c5⟩, if_pos (.inl c6)]
                      clear c5
                      go_wp2_with (go_at_call 12; refine (link_bad w1.heap.size n c (LA k) (LB k) (LC k) wo HGo.out (by rw [hlk]; decide)).mono ?_; rw [hlk]; rintro e w6 ⟨rfl, rfl⟩)
                      go_roundw
                      case rel => exact ⟨k + 1, c, by omega, by go_num, HGC.out, HGo.out, HMo.out, HBo.out⟩
                      case measure => simp [intOf]; omega
                    · by_cases c7 : 1000 < LC k
                      · have hlk : lnk n (LA k) (LB k) (LC k) = 1 := by unfold lnk; rw [if_pos ⟨hoka, hokb, c5⟩, if_pos (.inr c7)]
                        clear c5
                        go_wp2_with (go_at_call 12; refine (link_bad w1.heap.size n c (LA k) (LB k) (LC k) wo HGo.out (by rw [hlk]; decide)).mono ?_; rw [hlk]; rintro e w6 ⟨rfl, rfl⟩)
                        go_roundw
                        case rel => exact ⟨k + 1, c, by omega, by go_num, HGC.out, HGo.out, HMo.out, HBo.out⟩
                        case measure => simp [intOf]; omega
                      · obtain ⟨a, haa, han⟩ := ok_nat hoka
                        obtain ⟨b, hbb, hbn⟩ := ok_nat hokb
                        have hab : a ≠ b := fun e => c5 (by rw [haa, hbb, e])
                        clear hoka hokb c5
                        obtain ⟨X, hX⟩ : ∃ X, LC k = X := ⟨_, rfl⟩
                        rw [haa] at e0 c1 c2
                        rw [hbb] at e1 c3 c4
                        rw [haa, hbb] at c5'
                        rw [hX] at e2 c6 c7
                        have a00 : (0 : Int) ≤ (a : Int) := by omega
                        have b00 : (0 : Int) ≤ (b : Int) := by omega
                        have an : (a : Int) < (n : Int) := by omega
                        have bn : (b : Int) < (n : Int) := by omega
                        have HLK := Lib.hid (And.intro haa (And.intro hbb hX))
                        clear haa hbb hX
                        go_upto_region 11 with fail
                        have y1 : wo.drew.cell? ⟨gm, a, none⟩ = some (.slice (some ⟨G a, 0, none⟩) n n) := HMo.out.row han
                        have y2 : wo.drew.cell? ⟨gm, b, none⟩ = some (.slice (some ⟨G b, 0, none⟩) n n) := HMo.out.row hbn
                        have z1 : wo.drew.cell? ⟨G a, b, none⟩ = some (.int .i64 (c a b)) := HMo.out.cell han hbn
                        have z2 : wo.drew.cell? ⟨G b, a, none⟩ = some (.int .i64 (c b a)) := HMo.out.cell hbn han
                        have q1 : wo.drew.frozen? ⟨G a, b, none⟩ = false := (HMo.out.far a han).free b
                        have q2 : wo.drew.frozen? ⟨G b, a, none⟩ = false := (HMo.out.far b hbn).free a
                        have e0 : wo.drew.cell? ⟨wr.heap.size, 0, none⟩ = some (.int .i64 a) := e0
                        have e1 : wo.drew.cell? ⟨wr.heap.size, 1, none⟩ = some (.int .i64 b) := e1
                        have e2 : wo.drew.cell? ⟨wr.heap.size, 2, none⟩ = some (.int .i64 X) := e2
                        have n1 : G a ≠ wr.heap.size := Nat.ne_of_lt (far_lt (HMM.out.far a han))
                        have n2 : G b ≠ wr.heap.size := Nat.ne_of_lt (far_lt (HMM.out.far b hbn))
                        have n3 := gm_ne HMM.out han
                        have n4 := gm_ne HMM.out hbn
                        have n5 : G a ≠ G b := fun e => hab (HMM.out.inj a b han hbn e)
                        have z2' : (wo.drew.setCell ⟨G a, b, none⟩ (.int .i64 X)).cell? ⟨G b, a, none⟩ = some (.int .i64 (c b a)) := cell_other z2 n5
                        have z3 : (wo.setCell ⟨G a, b, none⟩ (.int .i64 X)).cell? ⟨G b, a, none⟩ = some (.int .i64 (c b a)) := z2'
                        have q3 : (wo.setCell ⟨G a, b, none⟩ (.int .i64 X)).frozen? ⟨G b, a, none⟩ = false := (far_other (HMo.out.far b hbn) (p := ⟨G a, b, none⟩) n5 _).free a
                        have z4 : wo.cell? ⟨G a, b, none⟩ = some (.int .i64 (c a b)) := z1
                        have q4 : wo.frozen? ⟨G a, b, none⟩ = false := q1
                        refine wp_region_held_drew (S := (fun w' => w'.cell? ⟨wr.heap.size, 0, none⟩ = some (.int .i64 a) ∧ w'.cell? ⟨wr.heap.size, 1, none⟩ = some (.int .i64 b) ∧ w'.cell? ⟨wr.heap.size, 2, none⟩ = some (.int .i64 X) ∧ w'.cell? ⟨gm, a, none⟩ = some (.slice (some ⟨G a, 0, none⟩) n n) ∧ w'.cell? ⟨gm, b, none⟩ = some (.slice (some ⟨G b, 0, none⟩) n n))) (by kernel_rfl) ⟨e0, e1, e2, y1, y2⟩ (fun _ => ?_)
                        refine held_take 0 48 (v := ?_) rfl rfl (by kernel_rfl) (by kernel_rfl) (by kernel_rfl) (fun _ _ _ h => h) (by rfl) ?_ ⟨e0, e1, e2, y1, y2⟩ ?_
                        rotate_left
                        · (intro w hSw; (try dsimp only at hSw); try simp only [List.getElem_toArray, List.getElem_cons_zero, List.getElem_cons_succ]; go_simp; try (with_reducible rfl))
                        try simp only [List.setIfInBounds_toArray, List.set_cons_zero, List.set_cons_succ]
                        refine held_take 1 49 (v := ?_) rfl rfl (by kernel_rfl) (by kernel_rfl) (by kernel_rfl) (fun _ _ _ h => h) (by rfl) ?_ ⟨e0, e1, e2, y1, y2⟩ ?_
                        rotate_left
                        · (intro w hSw; (try dsimp only at hSw); try simp only [List.getElem_toArray, List.getElem_cons_zero, List.getElem_cons_succ]; go_simp; try (with_reducible rfl))
                        try simp only [List.setIfInBounds_toArray, List.set_cons_zero, List.set_cons_succ]
                        refine held_take 2 50 (v := ?_) rfl rfl (by kernel_rfl) (by kernel_rfl) (by kernel_rfl) (fun _ _ _ h => h) (by rfl) ?_ ⟨e0, e1, e2, y1, y2⟩ ?_
                        rotate_left
                        · (intro w hSw; (try dsimp only at hSw); try simp only [List.getElem_toArray, List.getElem_cons_zero, List.getElem_cons_succ]; go_simp; try (with_reducible rfl))
                        try simp only [List.setIfInBounds_toArray, List.set_cons_zero, List.set_cons_succ]
                        refine held_take 3 51 (v := ?_) rfl rfl (by kernel_rfl) (by kernel_rfl) (by kernel_rfl) (fun _ _ _ h => h) (by rfl) ?_ ⟨e0, e1, e2, y1, y2⟩ ?_
                        rotate_left
                        · (intro w hSw; (try dsimp only at hSw); try simp only [List.getElem_toArray, List.getElem_cons_zero, List.getElem_cons_succ]; go_simp; try (with_reducible rfl))
                        try simp only [List.setIfInBounds_toArray, List.set_cons_zero, List.set_cons_succ]
                        refine held_take 4 52 (v := ?_) rfl rfl (by kernel_rfl) (by kernel_rfl) (by kernel_rfl) (fun _ _ _ h => h) (by rfl) ?_ ⟨e0, e1, e2, y1, y2⟩ ?_
                        rotate_left
                        · (intro w hSw; (try dsimp only at hSw); try simp only [List.getElem_toArray, List.getElem_cons_zero, List.getElem_cons_succ]; go_simp; try (with_reducible rfl))
                        try simp only [List.setIfInBounds_toArray, List.set_cons_zero, List.set_cons_succ]
                        refine held_take 5 53 (v := ?_) rfl rfl (by kernel_rfl) (by kernel_rfl) (by kernel_rfl) (fun _ _ _ h => h) (by rfl) ?_ ⟨e0, e1, e2, y1, y2⟩ ?_
                        rotate_left
                        · (intro w hSw; (try dsimp only at hSw); try simp only [List.getElem_toArray, List.getElem_cons_zero, List.getElem_cons_succ]; go_simp; try (with_reducible rfl))
                        try simp only [List.setIfInBounds_toArray, List.set_cons_zero, List.set_cons_succ]
                        refine held_take 6 54 (v := ?_) rfl rfl (by kernel_rfl) (by kernel_rfl) (by kernel_rfl) (fun _ _ _ h => h) (by rfl) ?_ ⟨e0, e1, e2, y1, y2⟩ ?_
                        rotate_left
                        · (intro w hSw; (try dsimp only at hSw); try simp only [List.getElem_toArray, List.getElem_cons_zero, List.getElem_cons_succ]; go_simp; try (with_reducible rfl))
                        try simp only [List.setIfInBounds_toArray, List.set_cons_zero, List.set_cons_succ]
                        refine held_take 7 55 (v := ?_) rfl rfl (by kernel_rfl) (by kernel_rfl) (by kernel_rfl) (fun _ _ _ h => h) (by rfl) ?_ ⟨e0, e1, e2, y1, y2⟩ ?_
                        rotate_left
                        · (intro w hSw; (try dsimp only at hSw); try simp only [List.getElem_toArray, List.getElem_cons_zero, List.getElem_cons_succ]; go_simp; try (with_reducible rfl))
                        try simp only [List.setIfInBounds_toArray, List.set_cons_zero, List.set_cons_succ]
                        refine held_take 8 56 (v := ?_) rfl rfl (by kernel_rfl) (by kernel_rfl) (by kernel_rfl) (fun _ _ _ h => h) (by rfl) ?_ ⟨e0, e1, e2, y1, y2⟩ ?_
                        rotate_left
                        · (intro w hSw; (try dsimp only at hSw); try simp only [List.getElem_toArray, List.getElem_cons_zero, List.getElem_cons_succ]; go_simp; try (with_reducible rfl))
                        try simp only [List.setIfInBounds_toArray, List.set_cons_zero, List.set_cons_succ]
                        refine held_take 9 57 (v := ?_) rfl rfl (by kernel_rfl) (by kernel_rfl) (by kernel_rfl) (fun _ _ _ h => h) (by rfl) ?_ ⟨e0, e1, e2, y1, y2⟩ ?_
                        rotate_left
                        · (intro w hSw; (try dsimp only at hSw); try simp only [List.getElem_toArray, List.getElem_cons_zero, List.getElem_cons_succ]; go_simp; try (with_reducible rfl))
                        try simp only [List.setIfInBounds_toArray, List.set_cons_zero, List.set_cons_succ]
                        refine held_take 10 58 (v := ?_) rfl rfl (by kernel_rfl) (by kernel_rfl) (by kernel_rfl) (fun _ _ _ h => h) (by rfl) ?_ ⟨e0, e1, e2, y1, y2⟩ ?_
                        rotate_left
                        · (intro w hSw; (try dsimp only at hSw); try simp only [List.getElem_toArray, List.getElem_cons_zero, List.getElem_cons_succ]; go_simp; try (with_reducible rfl))
                        try simp only [List.setIfInBounds_toArray, List.set_cons_zero, List.set_cons_succ]
                        refine held_take 11 59 (v := ?_) rfl rfl (by kernel_rfl) (by kernel_rfl) (by kernel_rfl) (fun _ _ _ h => h) (by rfl) ?_ ⟨e0, e1, e2, y1, y2⟩ ?_
                        rotate_left
                        · (intro w hSw; (try dsimp only at hSw); try simp only [List.getElem_toArray, List.getElem_cons_zero, List.getElem_cons_succ]; go_simp; try (with_reducible rfl))
                        try simp only [List.setIfInBounds_toArray, List.set_cons_zero, List.set_cons_succ]
                        refine held_take 12 60 (v := ?_) rfl rfl (by kernel_rfl) (by kernel_rfl) (by kernel_rfl) (fun _ _ _ h => h) (by rfl) ?_ ⟨e0, e1, e2, y1, y2⟩ ?_
                        rotate_left
                        · (intro w hSw; (try dsimp only at hSw); try simp only [List.getElem_toArray, List.getElem_cons_zero, List.getElem_cons_succ]; go_simp; try (with_reducible rfl))
                        try simp only [List.setIfInBounds_toArray, List.set_cons_zero, List.set_cons_succ]
                        refine held_take 13 61 (v := ?_) rfl rfl (by kernel_rfl) (by kernel_rfl) (by kernel_rfl) (fun _ _ _ h => h) (by rfl) ?_ ⟨e0, e1, e2, y1, y2⟩ ?_
                        rotate_left
                        · (intro w hSw; (try dsimp only at hSw); try simp only [List.getElem_toArray, List.getElem_cons_zero, List.getElem_cons_succ]; go_simp; try (with_reducible rfl))
                        try simp only [List.setIfInBounds_toArray, List.set_cons_zero, List.set_cons_succ]
                        refine held_take 14 62 (v := ?_) rfl rfl (by kernel_rfl) (by kernel_rfl) (by kernel_rfl) (fun _ _ _ h => h) (by rfl) ?_ ⟨e0, e1, e2, y1, y2⟩ ?_
                        rotate_left
                        · (intro w hSw; (try dsimp only at hSw); try simp only [List.getElem_toArray, List.getElem_cons_zero, List.getElem_cons_succ]; go_simp; try (with_reducible rfl))
                        try simp only [List.setIfInBounds_toArray, List.set_cons_zero, List.set_cons_succ]
                        refine held_take 15 63 (v := ?_) rfl rfl (by kernel_rfl) (by kernel_rfl) (by kernel_rfl) (fun _ _ _ h => h) (by rfl) ?_ ⟨e0, e1, e2, y1, y2⟩ ?_
                        rotate_left
                        · (intro w hSw; (try dsimp only at hSw); try simp only [List.getElem_toArray, List.getElem_cons_zero, List.getElem_cons_succ]; go_simp; try (with_reducible rfl))
                        try simp only [List.setIfInBounds_toArray, List.set_cons_zero, List.set_cons_succ]
                        refine held_take 16 64 (v := ?_) rfl rfl (by kernel_rfl) (by kernel_rfl) (by kernel_rfl) (fun _ _ _ h => h) (by rfl) ?_ ⟨e0, e1, e2, y1, y2⟩ ?_
                        rotate_left
                        · (intro w hSw; (try dsimp only at hSw); try simp only [List.getElem_toArray, List.getElem_cons_zero, List.getElem_cons_succ]; go_simp; try (with_reducible rfl))
                        try simp only [List.setIfInBounds_toArray, List.set_cons_zero, List.set_cons_succ]
                        refine held_take 17 65 (v := ?_) rfl rfl (by kernel_rfl) (by kernel_rfl) (by kernel_rfl) (fun _ _ _ h => h) (by rfl) ?_ ⟨e0, e1, e2, y1, y2⟩ ?_
                        rotate_left
                        · (intro w hSw; (try dsimp only at hSw); try simp only [List.getElem_toArray, List.getElem_cons_zero, List.getElem_cons_succ]; go_simp; try (with_reducible rfl))
                        try simp only [List.setIfInBounds_toArray, List.set_cons_zero, List.set_cons_succ]
                        refine held_take 18 66 (v := ?_) rfl rfl (by kernel_rfl) (by kernel_rfl) (by kernel_rfl) (fun _ _ _ h => h) (by rfl) ?_ ⟨e0, e1, e2, y1, y2⟩ ?_
                        rotate_left
                        · (intro w hSw; (try dsimp only at hSw); try simp only [List.getElem_toArray, List.getElem_cons_zero, List.getElem_cons_succ]; go_simp; try (with_reducible rfl))
                        try simp only [List.setIfInBounds_toArray, List.set_cons_zero, List.set_cons_succ]
                        refine held_do 19 rfl (by kernel_rfl) (by rfl) (fun K hK => ?_)
                        try simp only [List.getElem_toArray, List.getElem_cons_zero, List.getElem_cons_succ]
                        go_simp
                        have e0 := cell_other (q := ⟨G a, b, none⟩) (u := .int .i64 X) e0 n1
                        have e1 := cell_other (q := ⟨G a, b, none⟩) (u := .int .i64 X) e1 n1
                        have e2 := cell_other (q := ⟨G a, b, none⟩) (u := .int .i64 X) e2 n1
                        have y1 := cell_other (q := ⟨G a, b, none⟩) (u := .int .i64 X) y1 n3
                        have y2 := cell_other (q := ⟨G a, b, none⟩) (u := .int .i64 X) y2 n3
                        refine hK.out _ _ _ ⟨e0, e1, e2, y1, y2⟩ ?_
                        clear hK K
                        refine held_take 20 67 (v := ?_) rfl rfl (by kernel_rfl) (by kernel_rfl) (by kernel_rfl) (fun _ _ _ h => h) (by rfl) ?_ ⟨e0, e1, e2, y1, y2⟩ ?_
                        rotate_left
                        · (intro w hSw; (try dsimp only at hSw); try simp only [List.getElem_toArray, List.getElem_cons_zero, List.getElem_cons_succ]; go_simp; try (with_reducible rfl))
                        try simp only [List.setIfInBounds_toArray, List.set_cons_zero, List.set_cons_succ]
                        refine held_do 21 rfl (by kernel_rfl) (by rfl) (fun K hK => ?_)
                        try simp only [List.getElem_toArray, List.getElem_cons_zero, List.getElem_cons_succ]
                        go_simp
                        have e0 := cell_other (q := ⟨G b, a, none⟩) (u := .int .i64 X) e0 n2
                        have e1 := cell_other (q := ⟨G b, a, none⟩) (u := .int .i64 X) e1 n2
                        have e2 := cell_other (q := ⟨G b, a, none⟩) (u := .int .i64 X) e2 n2
                        have y1 := cell_other (q := ⟨G b, a, none⟩) (u := .int .i64 X) y1 n4
                        have y2 := cell_other (q := ⟨G b, a, none⟩) (u := .int .i64 X) y2 n4
                        refine hK.out _ _ _ ⟨e0, e1, e2, y1, y2⟩ ?_
                        clear hK K
                        refine wpAnyH_done (by kernel_rfl) ?_ _
                        have HM6 := Lib.hid (mat_set (mat_set (mat_drew HMo.out) (a := a) (b := b) han X) (a := b) (b := a) hbn X)
                        have HG6 := Lib.hid (isg_other (isg_other (isg_drew HGo.out) (q := ⟨G a, b, none⟩) (far_ne (HMo.out.far a han) HGo.out) (.int .i64 X)) (q := ⟨G b, a, none⟩) (far_ne (HMo.out.far b hbn) HGo.out) (.int .i64 X))
                        have HB6 := Lib.hid (below_set (below_set (below_drew HBo.out) (p := ⟨G a, b, none⟩) (Nat.le_trans HB2.out.size (HMo.out.low a han)) (.int .i64 X)) (p := ⟨G b, a, none⟩) (Nat.le_trans HB2.out.size (HMo.out.low b hbn)) (.int .i64 X))
                        change Exit.inBlock 2 _ Exit.normal _ ((wo.drew.setCell ⟨G a, b, none⟩ (.int .i64 X)).setCell ⟨G b, a, none⟩ (.int .i64 X))
                        clear y1 y2 z1 z2 q1 q2 n1 n2 n3 n4 n5 z2' z3 q3 z4 q4
                        generalize ((wo.drew.setCell ⟨G a, b, none⟩ (.int .i64 X)).setCell ⟨G b, a, none⟩ (.int .i64 X)) = W6 at HM6 HG6 HB6 e0 e1 e2 ⊢
                        have hx0 : 0 ≤ X := by omega
                        have hx1 : X ≤ 1000 := by omega
                        go_wp2_with (go_at_call 12; refine (link_ok w1.heap.size n c a b X W6 HG6.out han hbn hab hx0 hx1).mono ?_; rintro e w7 ⟨rfl, hg7, ho7⟩; have HM7 := Lib.hid (mat_only HM6.out HG6.out ho7); have HG7 := Lib.hid hg7; have HB7 := Lib.hid (below_only HB6.out (Nat.le_refl _) ho7); clear hg7 ho7)
                        go_roundw
                        case rel => exact ⟨k + 1, _, by omega, by go_num, good_put HGC.out a b X hx0 hx1, HG7.out, HM7.out, HB7.out⟩
                        case measure => simp [intOf]; omega
        · obtain rfl : k = m := by omega
          obtain ⟨U, hU⟩ : ∃ U, U = wr := ⟨_, rfl⟩
          subst hU
          go_upto_region 20 with fail
          go_loopw [117] (fun s117 wr => ∃ a : Nat, a ≤ n ∧ s117 = .int .i64 a ∧ Below U.heap.size U wr) (fun s117 _ => n - (intOf s117).toNat)
          case atStart => exact ⟨0, by omega, rfl, Below.refl _ _⟩
          case round =>
            obtain ⟨a, ha, rfl, hba⟩ := hrel
            have HBA := Lib.hid hba
            clear hba
            by_cases hla : a < n
            · have hla' : (a : Int) < (n : Int) := by omega
              have a00 : (0 : Int) ≤ (a : Int) := by omega
              go_upto_region 23 with fail
              go_loopw [121] (fun s121 wr => ∃ b : Nat, b ≤ n ∧ s121 = .int .i64 b ∧ Below U.heap.size U wr) (fun s121 _ => n - (intOf s121).toNat)
              case atStart => exact ⟨0, by omega, rfl, HBA.out⟩
              case round =>
                obtain ⟨b, hb, rfl, hbb⟩ := hrel
                have HBV := Lib.hid hbb
                clear hbb
                by_cases hlb : b < n
                · have hlb' : (b : Int) < (n : Int) := by omega
                  have b00 : (0 : Int) ≤ (b : Int) := by omega
                  have HD := Lib.hid (below_drew HBV.out)
                  have HGD := Lib.hid (show IsG wr.drew w1.heap.size n c from HGG.out.keep HD.out)
                  have y1 : wr.drew.cell? ⟨gm, a, none⟩ = some (.slice (some ⟨G a, 0, none⟩) n n) := later HD.out (HMM.out.row hla)
                  have z1 : wr.drew.cell? ⟨G a, b, none⟩ = some (.int .i64 (c a b)) := later HD.out (HMM.out.cell hla hlb)
                  have HCS := Lib.hid (show cst n c (a : Int) (b : Int) = c a b from cst_nat hla hlb)
                  obtain ⟨x, hx⟩ : ∃ x, c a b = x := ⟨_, rfl⟩
                  rw [hx] at z1 HCS
                  clear hx
                  go_upto_region 25 with fail
                  refine wp_region_held_drew (S := (fun w' => w'.cell? ⟨gm, a, none⟩ = some (.slice (some ⟨G a, 0, none⟩) n n) ∧ w'.cell? ⟨G a, b, none⟩ = some (.int .i64 x))) (by kernel_rfl) ⟨y1, z1⟩ (fun _ => ?_)
                  refine held_take 0 124 (v := ?_) rfl rfl (by kernel_rfl) (by kernel_rfl) (by kernel_rfl) (fun _ _ _ h => h) (by rfl) ?_ ⟨y1, z1⟩ ?_
                  rotate_left
                  · (intro w hSw; (try dsimp only at hSw); try simp only [List.getElem_toArray, List.getElem_cons_zero, List.getElem_cons_succ]; go_simp; try (with_reducible rfl))
                  try simp only [List.setIfInBounds_toArray, List.set_cons_zero, List.set_cons_succ]
                  refine held_take 1 125 (v := ?_) rfl rfl (by kernel_rfl) (by kernel_rfl) (by kernel_rfl) (fun _ _ _ h => h) (by rfl) ?_ ⟨y1, z1⟩ ?_
                  rotate_left
                  · (intro w hSw; (try dsimp only at hSw); try simp only [List.getElem_toArray, List.getElem_cons_zero, List.getElem_cons_succ]; go_simp; try (with_reducible rfl))
                  try simp only [List.setIfInBounds_toArray, List.set_cons_zero, List.set_cons_succ]
                  refine held_take 2 126 (v := ?_) rfl rfl (by kernel_rfl) (by kernel_rfl) (by kernel_rfl) (fun _ _ _ h => h) (by rfl) ?_ ⟨y1, z1⟩ ?_
                  rotate_left
                  · (intro w hSw; (try dsimp only at hSw); try simp only [List.getElem_toArray, List.getElem_cons_zero, List.getElem_cons_succ]; go_simp; try (with_reducible rfl))
                  try simp only [List.setIfInBounds_toArray, List.set_cons_zero, List.set_cons_succ]
                  refine held_take 4 128 (v := ?_) rfl rfl (by kernel_rfl) (by kernel_rfl) (by kernel_rfl) (fun _ _ _ h => h) (by rfl) ?_ ⟨y1, z1⟩ ?_
                  rotate_left
                  · (intro w hSw; (try dsimp only at hSw); try simp only [List.getElem_toArray, List.getElem_cons_zero, List.getElem_cons_succ]; go_simp; try (with_reducible rfl))
                  try simp only [List.setIfInBounds_toArray, List.set_cons_zero, List.set_cons_succ]
                  refine held_take 5 129 (v := ?_) rfl rfl (by kernel_rfl) (by kernel_rfl) (by kernel_rfl) (fun _ _ _ h => h) (by rfl) ?_ ⟨y1, z1⟩ ?_
                  rotate_left
                  · (intro w hSw; (try dsimp only at hSw); try simp only [List.getElem_toArray, List.getElem_cons_zero, List.getElem_cons_succ]; go_simp; try (with_reducible rfl))
                  try simp only [List.setIfInBounds_toArray, List.set_cons_zero, List.set_cons_succ]
                  refine held_take 6 130 (v := ?_) rfl rfl (by kernel_rfl) (by kernel_rfl) (by kernel_rfl) (fun _ _ _ h => h) (by rfl) ?_ ⟨y1, z1⟩ ?_
                  rotate_left
                  · (intro w hSw; (try dsimp only at hSw); try simp only [List.getElem_toArray, List.getElem_cons_zero, List.getElem_cons_succ]; go_simp; try (with_reducible rfl))
                  try simp only [List.setIfInBounds_toArray, List.set_cons_zero, List.set_cons_succ]
                  refine held_take 7 131 (v := ?_) rfl rfl (by kernel_rfl) (by kernel_rfl) (by kernel_rfl) (fun _ _ _ h => h) (by rfl) ?_ ⟨y1, z1⟩ ?_
                  rotate_left
                  · (intro w hSw; (try dsimp only at hSw); try simp only [List.getElem_toArray, List.getElem_cons_zero, List.getElem_cons_succ]; go_simp; try (with_reducible rfl))
                  try simp only [List.setIfInBounds_toArray, List.set_cons_zero, List.set_cons_succ]
                  refine held_take 8 132 (v := ?_) rfl rfl (by kernel_rfl) (by kernel_rfl) (by kernel_rfl) (fun _ _ _ h => h) (by rfl) ?_ ⟨y1, z1⟩ ?_
                  rotate_left
                  · (intro w hSw; (try dsimp only at hSw); try simp only [List.getElem_toArray, List.getElem_cons_zero, List.getElem_cons_succ]; go_simp; try (with_reducible rfl))
                  try simp only [List.setIfInBounds_toArray, List.set_cons_zero, List.set_cons_succ]
                  refine held_take 9 133 (v := ?_) rfl rfl (by kernel_rfl) (by kernel_rfl) (by kernel_rfl) (fun _ _ _ h => h) (by rfl) ?_ ⟨y1, z1⟩ ?_
                  rotate_left
                  · (intro w hSw; (try dsimp only at hSw); try simp only [List.getElem_toArray, List.getElem_cons_zero, List.getElem_cons_succ]; go_simp; try (with_reducible rfl))
                  try simp only [List.setIfInBounds_toArray, List.set_cons_zero, List.set_cons_succ]
                  refine held_take 10 134 (v := ?_) rfl rfl (by kernel_rfl) (by kernel_rfl) (by kernel_rfl) (fun _ _ _ h => h) (by rfl) ?_ ⟨y1, z1⟩ ?_
                  rotate_left
                  · (intro w hSw; (try dsimp only at hSw); try simp only [List.getElem_toArray, List.getElem_cons_zero, List.getElem_cons_succ]; go_simp; try (with_reducible rfl))
                  try simp only [List.setIfInBounds_toArray, List.set_cons_zero, List.set_cons_succ]
                  refine held_call 3 127 rfl rfl (by kernel_rfl) (by rfl) (fun K hK => ?_)
                  try simp only [List.getElem_toArray, List.getElem_cons_zero, List.getElem_cons_succ]
                  go_simp
                  (go_at_call 13; refine (cost_any w1.heap.size n c a b _ HGD.out).mono ?_; rw [HCS.out]; rintro e w7 ⟨rfl, rfl⟩)
                  try go_wp2_with fail
                  try simp only [Act.put, List.setIfInBounds_toArray, List.set_cons_zero, List.set_cons_succ]
                  refine hK.out _ _ _ ⟨y1, z1⟩ ?_
                  clear hK K
                  refine held_take 11 135 (v := ?_) rfl rfl (by kernel_rfl) (by kernel_rfl) (by kernel_rfl) (fun _ _ _ h => h) (by rfl) ?_ ⟨y1, z1⟩ ?_
                  rotate_left
                  · (intro w hSw; (try dsimp only at hSw); try simp only [List.getElem_toArray, List.getElem_cons_zero, List.getElem_cons_succ]; go_simp; try (with_reducible rfl))
                  try simp only [List.setIfInBounds_toArray, List.set_cons_zero, List.set_cons_succ]
                  refine wpAnyH_done (by kernel_rfl) ?_ _
                  go_wp2
                  go_roundw
                  case rel => exact ⟨b + 1, by omega, by go_num, HD.out⟩
                  case measure => simp [intOf]; omega
                · obtain rfl : b = n := by omega
                  go_wp2
                  go_roundw
                  case rel => exact ⟨a + 1, by omega, by go_num, HBV.out⟩
                  case measure => simp [intOf]; omega
            · obtain rfl : a = n := by omega
              have HGW := Lib.hid (HGG.out.keep HBA.out)
              have HMW := Lib.hid (HMM.out.keep HBA.out)
              have HBW := Lib.hid (HB1.out.trans ((HBB.out.trans (HBA.out.mono HBB.out.size)).mono HB1.out.size))
              by_cases ht : 0 ≤ t0 ∧ t0 < a
              · obtain ⟨t, rfl⟩ : ∃ t : Nat, t0 = t := ⟨t0.toNat, by omega⟩
                have htn : t < a := by omega
                have t1 : ¬ (t : Int) < 0 := by omega
                have t2 : ¬ (a : Int) ≤ (t : Int) := by omega
                clear ht
                go_wp2_with (first
                  | (go_at_call 14; refine (far_ok w1.heap.size a c t wr HGW.out htn HGC.out.sym HGC.out.low HGC.out.high).mono ?_; rintro e w8 ⟨⟨gf, F, rfl, _, hff, hif⟩, hb⟩; have HFF := Lib.hid hff; have HIF := Lib.hid hif; have HM8 := Lib.hid (HMW.out.keep hb); have HB8 := Lib.hid (HBW.out.trans (hb.mono HBW.out.size)); clear hff hif hb)
                  | (go_at_call 16; refine (reffar_any w2.heap.size gm a cm t G c F w8 hn1 hn6 HM8.out htn HGC.out HIF.out).mono ?_; rintro e w9 ⟨⟨F', rfl, hf', heq⟩, hb⟩; have HF' := Lib.hid hf'; have HEQ := Lib.hid (same_far heq); have HFF9 := Lib.hid (HFF.out.keep hb); have HB9 := Lib.hid (HB8.out.trans (hb.mono HB8.out.size)); clear hf' heq hb)
                  | (go_at_call 15; refine (same_any _ a a F _ a a F' w9 (by omega) HFF9.out.ints HF'.out.ints).mono ?_; rw [HEQ.out]; rintro e w10 ⟨rfl, hb⟩; have HB10 := Lib.hid (HB9.out.trans (hb.mono HB9.out.size)); clear hb))
                go_ret
                exact ⟨rfl, HB10.out⟩
              · have hokt : ok a t0 = false := by
                  simp only [ok, Bool.and_eq_false_iff, decide_eq_false_iff_not]
                  omega
                have HCT := Lib.hid (show cst a c t0 0 = 0 by unfold cst; rw [if_neg (by rw [hokt]; simp)])
                by_cases h0 : t0 < 0
                · go_wp2_with (first
                    | (go_at_call 14; refine (far_bad w1.heap.size a c t0 wr HGW.out hokt).mono ?_; rintro e w8 ⟨rfl, rfl⟩)
                    | (go_at_call 13; refine (cost_any w1.heap.size a c t0 0 wr HGW.out).mono ?_; rw [HCT.out]; rintro e w8 ⟨rfl, rfl⟩))
                  go_ret
                  exact ⟨rfl, HBW.out⟩
                · have h1 : (a : Int) ≤ t0 := by omega
                  go_wp2_with (first
                    | (go_at_call 14; refine (far_bad w1.heap.size a c t0 wr HGW.out hokt).mono ?_; rintro e w8 ⟨rfl, rfl⟩)
                    | (go_at_call 13; refine (cost_any w1.heap.size a c t0 0 wr HGW.out).mono ?_; rw [HCT.out]; rintro e w8 ⟨rfl, rfl⟩))
                  go_ret
                  exact ⟨rfl, HBW.out⟩
end GraphTells
end Go.Proofs.Ytbghebncmfjgiaa
