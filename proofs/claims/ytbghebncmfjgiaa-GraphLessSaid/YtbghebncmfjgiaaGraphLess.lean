/-
  The walk of the law GraphLess. Conditions: none.
-/
import Derived.Test.YtbghebncmfjgiaaLessP
namespace Go.Proofs.Ytbghebncmfjgiaa
open Go Go.RowKit
set_option linter.unusedVariables false
set_option linter.unusedSimpArgs false
namespace GraphLess
open GG
theorem info32 : (Try.prog.info? 32).map (fun i => (i.zero, i.size, i.bytes)) = some (some (.slice none 0 0), 1, 24) := by kernel_rfl
theorem own_keep {w w' : World} {base size n : Nat} {e : TypeId} {v : Value} {xs : List Value} (h : w.ownsRow base e size v n xs) (hb : Below w.heap.size w w') : w'.ownsRow base e size v n xs :=
  (Only.of_below (Only.refl (fun _ => False) w) hb).own h (fun _ _ h => h)
theorem far_zero (g n : Nat) (w : World) (h : IsG w g n (fun _ _ => 0)) (hn : 0 < n) : Calls Try.prog 14 #[.pointer (some ⟨g, 0, none⟩), .int .i64 0] w fun e w' => (∃ gf F, e = .returned (.slice (some ⟨gf, 0, none⟩) n n) ∧ Far w' gf n F ∧ GP.IsFar n (fun _ _ => 0) 0 F) ∧ Below w.heap.size w w' :=
  (far_ok g n (fun _ _ => 0) 0 w h hn good_zero.sym good_zero.low good_zero.high).mono fun e w' ⟨⟨gf, F, he, _, hf, hi⟩, hb⟩ => ⟨⟨gf, F, he, hf, hi⟩, hb⟩
theorem own_g {w : World} {base size d g n : Nat} {v : Value} {xs : List Value} {c : Nat → Nat → Int} (h : w.ownsRow base 32 size v d xs) (hg : IsG w g n c) : ∀ k, v.ownBlock = some k → ¬ (fun i => i = g) k := by
  rintro k hk rfl
  obtain ⟨cs, hb, _⟩ := hg.blk
  exact own_ne_blk h hb (by decide) hk
theorem far_only {w w' : World} {g g1 n m : Nat} {c : Nat → Nat → Int} {F : Nat → Int} (h : Far w g1 m F) (hg : IsG w g n c) (ho : Only (fun i => i = g) w w') : Far w' g1 m F := ho.obj h (far_ne h hg)
attribute [local irreducible] lnk lnc Far Row cst rows
set_option maxRecDepth 100000 in
set_option maxHeartbeats 16000000 in
theorem walk (n0 : Int) (v1 v2 : Value) (w : World) (_ : (Lit.int .i64 n0).wf = true) (h1 : IsLs w v1) (h2 : IsL1 w v2) : Calls Try.prog 7 #[.int .i64 n0, v1, v2] w fun e w' => e = .returned (.bool true) ∧ Below w.heap.size w w' := by
  obtain ⟨A, m, cap, LA, LB, LC, rfl, hm, hL⟩ := h1
  obtain ⟨ma, mb, mc, rfl⟩ := h2
  have HL := Lib.hid hL
  clear hL
  unfold maxLen at hm
  obtain ⟨n, hn1, hn6, hn⟩ := rem6 n0
  have hn' : IntKind.i64.wrap (1 + (IntKind.u64.wrap n0).tmod 6) = (n : Int) := by rw [← hn]; exact IntWalk.i64_in _ (by omega)
  have hnr : IntKind.i64.wrap ((IntKind.u64.wrap n0).tmod 6) = (IntKind.u64.wrap n0).tmod 6 := IntWalk.i64_in _ (by omega)
  have hn0 : (0 : Int) ≤ (n : Int) := by omega
  have hn2 := hn.symm
  clear hn
  by_cases hbig : (100 : Int) < (m : Int)
  · skip
    go_enter Try.func7, Try.ntmps7
    go_upto_region 1 with fail
    have bal : Below w.heap.size w (w.alloc (.cells #[.int .i64 ma, .int .i64 mb, .int .i64 mc] 31)) := (Below.refl _ _).alloc (Nat.le_refl _) _
    have hblk : (w.alloc (.cells #[.int .i64 ma, .int .i64 mb, .int .i64 mc] 31)).heap[w.heap.size]? = some (.cells #[.int .i64 ma, .int .i64 mb, .int .i64 mc] 31 (0, 0)) := by simp only [World.alloc]; exact Array.getElem?_push_size
    generalize w.alloc (.cells #[.int .i64 ma, .int .i64 mb, .int .i64 mc] 31) = w0 at bal hblk ⊢
    have HF0 := Lib.hid (show w0.cell? ⟨w.heap.size, 0, none⟩ = some (.int .i64 ma) by rw [blk_cell hblk 0]; rfl)
    have HF1 := Lib.hid (show w0.cell? ⟨w.heap.size, 1, none⟩ = some (.int .i64 mb) by rw [blk_cell hblk 1]; rfl)
    have HF2 := Lib.hid (show w0.cell? ⟨w.heap.size, 2, none⟩ = some (.int .i64 mc) by rw [blk_cell hblk 2]; rfl)
    have hlt0 := blk_lt hblk
    have BAL := Lib.hid bal
    clear bal hblk
    have HG0 := Lib.hid (new_isG w0 n hn1 hn6)
    have HB0 := Lib.hid ((Below.refl w0.heap.size w0).alloc (Nat.le_refl _) (.cells (#[Value.int .i64 n] ++ Array.replicate 36 (.int .i64 0)) 50))
    go_wp2_with (first
      | (go_at_call 10; with_reducible refine (new_any n w0 (by omega) (by omega)).mono ?_; rintro e w1 ⟨rfl, hw1⟩; have HG := Lib.hid (show IsG w1 w0.heap.size n (fun _ _ => 0) from hw1 ▸ HG0.out); have HB := Lib.hid (show Below w0.heap.size w0 w1 from hw1 ▸ HB0.out); clear hw1)
      | (go_at_call 9; with_reducible refine (awake_any w1).mono ?_; rintro e w2 ⟨rfl, hb⟩; have HG2 := Lib.hid (HG.out.keep hb); have HB2 := Lib.hid (HB.out.trans (hb.mono HB.out.size)); clear hb)
      | (go_at_call 9; with_reducible refine (awake_any w2).mono ?_; rintro e w3 ⟨rfl, hb⟩; have HB3 := Lib.hid (HB2.out.trans (hb.mono HB2.out.size)); clear hb))
    go_ret
    exact ⟨rfl, BAL.out.trans (HB3.out.mono BAL.out.size)⟩
  · obtain ⟨i3, hi3, hz3a, hz3b, hz3c⟩ := info_parts info32
    have HI3 := Lib.hid hi3
    clear hi3
    go_enter Try.func7, Try.ntmps7
    go_upto_region 1 with fail
    have bal : Below w.heap.size w (w.alloc (.cells #[.int .i64 ma, .int .i64 mb, .int .i64 mc] 31)) := (Below.refl _ _).alloc (Nat.le_refl _) _
    have hblk : (w.alloc (.cells #[.int .i64 ma, .int .i64 mb, .int .i64 mc] 31)).heap[w.heap.size]? = some (.cells #[.int .i64 ma, .int .i64 mb, .int .i64 mc] 31 (0, 0)) := by simp only [World.alloc]; exact Array.getElem?_push_size
    generalize w.alloc (.cells #[.int .i64 ma, .int .i64 mb, .int .i64 mc] 31) = w0 at bal hblk ⊢
    have HF0 := Lib.hid (show w0.cell? ⟨w.heap.size, 0, none⟩ = some (.int .i64 ma) by rw [blk_cell hblk 0]; rfl)
    have HF1 := Lib.hid (show w0.cell? ⟨w.heap.size, 1, none⟩ = some (.int .i64 mb) by rw [blk_cell hblk 1]; rfl)
    have HF2 := Lib.hid (show w0.cell? ⟨w.heap.size, 2, none⟩ = some (.int .i64 mc) by rw [blk_cell hblk 2]; rfl)
    have hlt0 := blk_lt hblk
    have BAL := Lib.hid bal
    clear bal hblk
    have HG0 := Lib.hid (new_isG w0 n hn1 hn6)
    have HB0 := Lib.hid ((Below.refl w0.heap.size w0).alloc (Nat.le_refl _) (.cells (#[Value.int .i64 n] ++ Array.replicate 36 (.int .i64 0)) 50))
    go_upto_region 6 with (first
      | (go_at_call 10; with_reducible refine (new_any n w0 (by omega) (by omega)).mono ?_; rintro e w1 ⟨rfl, hw1⟩; have HG := Lib.hid (show IsG w1 w0.heap.size n (fun _ _ => 0) from hw1 ▸ HG0.out); have HB := Lib.hid (show Below w0.heap.size w0 w1 from hw1 ▸ HB0.out); clear hw1)
      | (go_at_call 9; with_reducible refine (awake_any w1).mono ?_; rintro e w2 ⟨rfl, hb⟩; have HG2 := Lib.hid (HG.out.keep hb); have HB2 := Lib.hid (HB.out.trans (hb.mono HB.out.size)); clear hb))
    go_loopw [49] (fun s49 wr => ∃ (k : Nat) (c : Nat → Nat → Int), k ≤ m ∧ s49 = .int .i64 k ∧ GG.Good c ∧ IsG wr w0.heap.size n c ∧ Below w0.heap.size w0 wr) (fun s49 _ => m - (intOf s49).toNat)
    case atStart => exact ⟨0, _, by omega, rfl, good_zero, HG2.out, HB2.out⟩
    case round =>
      obtain ⟨k, c, hk, rfl, hgood, hg, hb⟩ := hrel
      have HGC := Lib.hid hgood
      have HGG := Lib.hid hg
      have HBB := Lib.hid hb
      clear hgood hg hb
      by_cases hlt : k < m
      · have hlt' : (k : Int) < (m : Int) := by omega
        have k00 : (0 : Int) ≤ (k : Int) := by omega
        obtain ⟨bo, oo, rfl, _, hc0, hc1, hc2⟩ := HL.out k hlt
        have hbb := BAL.out.trans (HBB.out.mono BAL.out.size)
        have x0 := later hbb hc0
        have x1 := later hbb hc1
        have x2 := later hbb hc2
        clear hc0 hc1 hc2 hbb
        have bal : Below wr.heap.size wr (wr.alloc (.cells #[.int .i64 (LA k), .int .i64 (LB k), .int .i64 (LC k)] 31)) := (Below.refl _ _).alloc (Nat.le_refl _) _
        have HGo := Lib.hid (HGG.out.keep bal)
        have HBo := Lib.hid (HBB.out.trans (bal.mono HBB.out.size))
        clear bal
        go_wp2_with (go_at_call 12; refine (link_any w0.heap.size n c (LA k) (LB k) (LC k) (wr.alloc (.cells #[.int .i64 (LA k), .int .i64 (LB k), .int .i64 (LC k)] 31)) HGo.out).mono ?_; rintro e w3 ⟨rfl, hg3, ho3⟩; have HG3 := Lib.hid hg3; have HB3 := Lib.hid (below_only HBo.out (Nat.le_refl _) ho3); clear hg3 ho3)
        go_roundw
        case rel => exact ⟨k + 1, _, by omega, by go_num, good_lnc HGC.out _ _ _, HG3.out, HB3.out⟩
        case measure => simp [intOf]; omega
      · obtain rfl : k = m := by omega
        obtain ⟨W, hW⟩ : ∃ W, W = wr := ⟨_, rfl⟩
        subst hW
        have x0 := later HBB.out HF0.out
        have x1 := later HBB.out HF1.out
        obtain ⟨was, hwas⟩ : ∃ x, cst n c ma mb = x := ⟨_, rfl⟩
        have HWAS := Lib.hid hwas
        clear hwas
        go_upto_region 13 with (go_at_call 13; refine (cost_any w0.heap.size n c ma mb W HGG.out).mono ?_; rw [HWAS.out]; rintro e w3 ⟨rfl, rfl⟩)
        clear x0 x1
        go_loopw [12, 69] (fun s12 s69 wr => ∃ (d : Nat) (v : Value) (G : Nat → Nat) (F : Nat → Nat → Int), v = s12 ∧ d ≤ n ∧ s69 = .int .i64 d ∧ wr.ownsRow W.heap.size 32 1 v d (rows G n d) ∧ (∀ j, j < d → Far wr (G j) n (F j) ∧ GP.IsFar n c j (F j)) ∧ Below W.heap.size W wr) (fun _ s69 _ => n - (intOf s69).toNat)
        case atStart => exact ⟨0, _, fun _ => 0, fun _ _ => 0, rfl, by omega, rfl, ⟨by unfold rows; rfl, .inl ⟨rfl, rfl⟩⟩, fun j hj => by omega, Below.refl _ _⟩
        case round =>
          obtain ⟨d, v, G, F, rfl, hd, rfl, hown, hfs, hbd⟩ := hrel
          have HO := Lib.hid hown
          have HFS := Lib.hid hfs
          have HBD := Lib.hid hbd
          clear hown hfs hbd
          by_cases hld : d < n
          · have hld' : (d : Int) < (n : Int) := by omega
            have d00 : (0 : Int) ≤ (d : Int) := by omega
            have HGD := Lib.hid (HGG.out.keep HBD.out)
            go_upto_region 16 with (first
              | (go_at_call 14; refine (far_ok w0.heap.size n c d wr HGD.out hld HGC.out.sym HGC.out.low HGC.out.high).mono ?_; rintro e w3 ⟨⟨gf, Ff, rfl, _, hff, hif⟩, hb⟩; have HFF := Lib.hid hff; have HIF := Lib.hid hif; have HO3 := Lib.hid (own_keep HO.out hb); have HFS3 := Lib.hid (fun j (hj : j < d) => (HFS.out j hj).1.keep hb); have HB3 := Lib.hid (HBD.out.trans (hb.mono HBD.out.size)); clear hff hif hb)
              | (at_builtin; refine wpList_append_lies _ rfl (.tmp 72) (.tmp 76) 28 rfl W.heap.size 32 i3 _ 1 24 Try.underlying28 HI3.out hz3a hz3b hz3c rfl (by omega) v d _ rfl (HO3.out.alloc _) ⟨w3.heap.size, 0, none⟩ 1 1 [.slice (some ⟨gf, 0, none⟩) n n] rfl rfl (cell_one_new _ _ _) (by simp [Value.oneCell']) (by omega) (by unfold maxLen; omega) (by omega) (by have := HB3.out.size; simp; omega) (w3.heap.size + 1) (by simp) ?_; intro g2 cap2 w5 hown1 hgrow1 hat1 hlt1; have HO5 := Lib.hid hown1; have HB5 := Lib.hid (app_below HB3.out HO3.out hgrow1); have HF5 := Lib.hid (far_app HFF.out HO3.out hgrow1); have HFS5 := Lib.hid (fun j (hj : j < d) => far_app (HFS3.out j hj) HO3.out hgrow1); clear hown1 hgrow1))
            go_wp2
            go_roundw
            case rel =>
              refine ⟨d + 1, _, fun j => if j = d then gf else G j, fun j => if j = d then Ff else F j, rfl, by omega, by go_num, by rw [rows_next]; exact HO5.out, fun j hj => ?_, HB5.out⟩
              by_cases e : j = d
              · subst e; simp only [if_true]; exact ⟨HF5.out, HIF.out⟩
              · simp only [if_neg e]; exact ⟨HFS5.out j (by omega), (HFS.out j (by omega)).2⟩
            case measure => simp [intOf]; omega
          · obtain rfl : d = n := by omega
            obtain ⟨U, hU⟩ : ∃ U, U = wr := ⟨_, rfl⟩
            subst hU
            have HGU := Lib.hid (HGG.out.keep HBD.out)
            have hbu := HBB.out.trans (HBD.out.mono HBB.out.size)
            have HBU := Lib.hid hbu
            have x0 := later hbu HF0.out
            have x1 := later hbu HF1.out
            have x2 := later hbu HF2.out
            clear hbu
            have hgb : w.heap.size ≠ w0.heap.size := Nat.ne_of_lt hlt0
            obtain ⟨l, hl⟩ : ∃ x, lnk d ma mb mc = x := ⟨_, rfl⟩
            have HLK := Lib.hid hl
            clear hl
            by_cases hl0 : l = 0
            · subst hl0
              by_cases hm0 : mc = 0
              · subst hm0
                go_wp2_with (go_at_call 12; refine (link_any w0.heap.size d c ma mb 0 U HGU.out).mono ?_; rw [HLK.out]; rintro e w6 ⟨rfl, hg6, ho6⟩; have x2 := ho6.cell x2 hgb; have HB6 := Lib.hid (below_only HBU.out (Nat.le_refl _) ho6); clear hg6 ho6)
                go_ret
                exact ⟨rfl, BAL.out.trans (HB6.out.mono BAL.out.size)⟩
              · have hm0' : (mc == 0) = false := by simp [hm0]
                by_cases hww : 0 < was ∧ was < mc
                · have hw1 := hww.1
                  have hw2 := hww.2
                  go_wp2_with (go_at_call 12; refine (link_any w0.heap.size d c ma mb mc U HGU.out).mono ?_; rw [HLK.out]; rintro e w6 ⟨rfl, hg6, ho6⟩; have x2 := ho6.cell x2 hgb; have HB6 := Lib.hid (below_only HBU.out (Nat.le_refl _) ho6); clear hg6 ho6)
                  go_ret
                  exact ⟨rfl, BAL.out.trans (HB6.out.mono BAL.out.size)⟩
                · have hmr : 0 ≤ mc := by
                    have h := HLK.out
                    unfold lnk at h
                    split at h
                    · split at h
                      · cases h
                      · omega
                    · cases h
                  have HLE := Lib.hid (lnc_less HGC.out HLK.out (show 0 < mc by omega) (show cst d c ma mb ≤ 0 ∨ mc ≤ cst d c ma mb by rw [HWAS.out]; omega))
                  have HGC2 := Lib.hid (good_lnc (n := d) HGC.out ma mb mc)
                  have hfu := own_form HO.out (by omega)
                  obtain ⟨gv, cv, rfl, _, _, _⟩ := hfu
                  have arms : True := trivial
                  by_cases hw1 : 0 < was
                  · have hw2 : ¬ was < mc := fun h => hww ⟨hw1, h⟩
                    go_upto_region 20 with (go_at_call 12; refine (link_any w0.heap.size d c ma mb mc U HGU.out).mono ?_; rw [HLK.out]; rintro e w6 ⟨rfl, hg6, ho6⟩; have x2 := ho6.cell x2 hgb; have HB6 := Lib.hid (below_only HBU.out (Nat.le_refl _) ho6); have HG6 := Lib.hid hg6; have HO6 := Lib.hid (ho6.own HO.out (own_g HO.out HGU.out)); have HFS6 := Lib.hid (fun j (hj : j < d) => far_only (HFS.out j hj).1 HGU.out ho6); clear hg6 ho6)
                    go_loopw [104] (fun s104 wr => ∃ a : Nat, a ≤ d ∧ s104 = .int .i64 a ∧ Below w6.heap.size w6 wr) (fun s104 _ => d - (intOf s104).toNat)
                    case atStart => exact ⟨0, by omega, rfl, Below.refl _ _⟩
                    case round =>
                      obtain ⟨a, ha, rfl, hba⟩ := hrel
                      have HBA := Lib.hid hba
                      clear hba
                      by_cases hla : a < d
                      · have hla' : (a : Int) < (d : Int) := by omega
                        have a00 : (0 : Int) ≤ (a : Int) := by omega
                        have HGA := Lib.hid (HG6.out.keep HBA.out)
                        go_upto_region 23 with (go_at_call 14; refine (far_ok w0.heap.size d (lnc d c ma mb mc) a wr HGA.out hla HGC2.out.sym HGC2.out.low HGC2.out.high).mono ?_; rintro e w7 ⟨⟨gx, Fx, rfl, _, hfx, hix⟩, hb⟩; have HFX := Lib.hid hfx; have HLS := Lib.hid (far_less (HFS.out a hla).2 hix HLE.out); have HB7 := Lib.hid (HBA.out.trans (hb.mono HBA.out.size)); clear hfx hix hb)
                        go_loopw [111] (fun s111 wr => ∃ b : Nat, b ≤ d ∧ s111 = .int .i64 b ∧ Below w7.heap.size w7 wr) (fun s111 _ => d - (intOf s111).toNat)
                        case atStart => exact ⟨0, by omega, rfl, Below.refl _ _⟩
                        case round =>
                          obtain ⟨b, hb, rfl, hbb⟩ := hrel
                          have HBZ := Lib.hid hbb
                          clear hbb
                          by_cases hlb : b < d
                          · have hlb' : (b : Int) < (d : Int) := by omega
                            have b00 : (0 : Int) ≤ (b : Int) := by omega
                            have h67 := HB7.out.trans (HBZ.out.mono HB7.out.size)
                            have y1 := later HBZ.out (HFX.out.cell b hlb)
                            have r1 : wr.cell? ⟨gv, a, none⟩ = some (.slice (some ⟨G a, 0, none⟩) d d) := later h67 (own_cell HO6.out a _ (by unfold rows; simp [hla]))
                            have z1 := later h67 ((HFS6.out a hla).cell b hlb)
                            have hls := HLS.out b hlb
                            obtain ⟨y, hy⟩ : ∃ y, Fx b = y := ⟨_, rfl⟩
                            obtain ⟨z, hz⟩ : ∃ z, F a b = z := ⟨_, rfl⟩
                            rw [hy] at y1 hls
                            rw [hz] at z1 hls
                            have hng : ¬ z < y := by omega
                            clear hy hz hls h67
                            go_wp2
                            go_roundw
                            case rel => exact ⟨b + 1, by omega, by go_num, HBZ.out⟩
                            case measure => simp [intOf]; omega
                          · obtain rfl : b = d := by omega
                            go_wp2
                            go_roundw
                            case rel => exact ⟨a + 1, by omega, by go_num, HB7.out.trans (HBZ.out.mono HB7.out.size)⟩
                            case measure => simp [intOf]; omega
                      · obtain rfl : a = d := by omega
                        obtain ⟨Y, hY⟩ : ∃ Y, Y = wr := ⟨_, rfl⟩
                        subst hY
                        have HGY := Lib.hid (new_isG Y a hn1 hn6)
                        have HBY := Lib.hid ((Below.refl Y.heap.size Y).alloc (Nat.le_refl _) (.cells (#[Value.int .i64 a] ++ Array.replicate 36 (.int .i64 0)) 50))
                        go_upto_region 31 with (first
                          | (go_at_call 10; refine (new_any a Y (by omega) (by omega)).mono ?_; rintro e w8 ⟨rfl, hw8⟩; have HG8 := Lib.hid (show IsG w8 Y.heap.size a (fun _ _ => 0) from hw8 ▸ HGY.out); have HB8 := Lib.hid (show Below Y.heap.size Y w8 from hw8 ▸ HBY.out); clear hw8)
                          | (go_at_call 14; refine (far_zero Y.heap.size a w8 HG8.out (by omega)).mono ?_; rintro e w9 ⟨⟨go, Fo, rfl, hfo, hio⟩, hb⟩; have HFO := Lib.hid hfo; have HIO := Lib.hid hio; have HB9 := Lib.hid (HB8.out.trans (hb.mono HB8.out.size)); clear hfo hio hb))
                        go_loopw [135] (fun s135 wr => ∃ b : Nat, b ≤ a ∧ s135 = .int .i64 b ∧ Below w9.heap.size w9 wr) (fun s135 _ => a - (intOf s135).toNat)
                        case atStart => exact ⟨0, by omega, rfl, Below.refl _ _⟩
                        case round =>
                          obtain ⟨b, hb, rfl, hbb⟩ := hrel
                          have HBZ := Lib.hid hbb
                          clear hbb
                          by_cases hlb : b < a
                          · have hlb' : (b : Int) < (a : Int) := by omega
                            have b00 : (0 : Int) ≤ (b : Int) := by omega
                            have y1 := later HBZ.out (HFO.out.cell b hlb)
                            by_cases hb0 : b = 0
                            · have hy : Fo b = 0 := by rw [hb0]; exact HIO.out.zero
                              rw [hy] at y1
                              have e1 : ((b : Int) == 0) = true := by simp [hb0]
                              have e2 : ¬ 0 < (b : Int) := by omega
                              clear hb0 hy
                              go_wp2
                              go_roundw
                              case rel => exact ⟨b + 1, by omega, by go_num, HBZ.out⟩
                              case measure => simp [intOf]; omega
                            · have hy : Fo b = 65535 := far_none HIO.out b hlb hb0
                              rw [hy] at y1
                              have e1 : ((b : Int) == 0) = false := by simp [hb0]
                              have e2 : 0 < (b : Int) := by omega
                              clear hb0 hy
                              go_wp2
                              go_roundw
                              case rel => exact ⟨b + 1, by omega, by go_num, HBZ.out⟩
                              case measure => simp [intOf]; omega
                          · obtain rfl : b = a := by omega
                            go_wp2
                            go_ret
                            have hA := HB6.out.trans (HBA.out.mono HB6.out.size)
                            have hB := hA.trans (HB9.out.mono hA.size)
                            have hC := hB.trans (HBZ.out.mono hB.size)
                            exact ⟨rfl, BAL.out.trans (hC.mono BAL.out.size)⟩
                  · go_upto_region 20 with (go_at_call 12; refine (link_any w0.heap.size d c ma mb mc U HGU.out).mono ?_; rw [HLK.out]; rintro e w6 ⟨rfl, hg6, ho6⟩; have x2 := ho6.cell x2 hgb; have HB6 := Lib.hid (below_only HBU.out (Nat.le_refl _) ho6); have HG6 := Lib.hid hg6; have HO6 := Lib.hid (ho6.own HO.out (own_g HO.out HGU.out)); have HFS6 := Lib.hid (fun j (hj : j < d) => far_only (HFS.out j hj).1 HGU.out ho6); clear hg6 ho6)
                    go_loopw [104] (fun s104 wr => ∃ a : Nat, a ≤ d ∧ s104 = .int .i64 a ∧ Below w6.heap.size w6 wr) (fun s104 _ => d - (intOf s104).toNat)
                    case atStart => exact ⟨0, by omega, rfl, Below.refl _ _⟩
                    case round =>
                      obtain ⟨a, ha, rfl, hba⟩ := hrel
                      have HBA := Lib.hid hba
                      clear hba
                      by_cases hla : a < d
                      · have hla' : (a : Int) < (d : Int) := by omega
                        have a00 : (0 : Int) ≤ (a : Int) := by omega
                        have HGA := Lib.hid (HG6.out.keep HBA.out)
                        go_upto_region 23 with (go_at_call 14; refine (far_ok w0.heap.size d (lnc d c ma mb mc) a wr HGA.out hla HGC2.out.sym HGC2.out.low HGC2.out.high).mono ?_; rintro e w7 ⟨⟨gx, Fx, rfl, _, hfx, hix⟩, hb⟩; have HFX := Lib.hid hfx; have HLS := Lib.hid (far_less (HFS.out a hla).2 hix HLE.out); have HB7 := Lib.hid (HBA.out.trans (hb.mono HBA.out.size)); clear hfx hix hb)
                        go_loopw [111] (fun s111 wr => ∃ b : Nat, b ≤ d ∧ s111 = .int .i64 b ∧ Below w7.heap.size w7 wr) (fun s111 _ => d - (intOf s111).toNat)
                        case atStart => exact ⟨0, by omega, rfl, Below.refl _ _⟩
                        case round =>
                          obtain ⟨b, hb, rfl, hbb⟩ := hrel
                          have HBZ := Lib.hid hbb
                          clear hbb
                          by_cases hlb : b < d
                          · have hlb' : (b : Int) < (d : Int) := by omega
                            have b00 : (0 : Int) ≤ (b : Int) := by omega
                            have h67 := HB7.out.trans (HBZ.out.mono HB7.out.size)
                            have y1 := later HBZ.out (HFX.out.cell b hlb)
                            have r1 : wr.cell? ⟨gv, a, none⟩ = some (.slice (some ⟨G a, 0, none⟩) d d) := later h67 (own_cell HO6.out a _ (by unfold rows; simp [hla]))
                            have z1 := later h67 ((HFS6.out a hla).cell b hlb)
                            have hls := HLS.out b hlb
                            obtain ⟨y, hy⟩ : ∃ y, Fx b = y := ⟨_, rfl⟩
                            obtain ⟨z, hz⟩ : ∃ z, F a b = z := ⟨_, rfl⟩
                            rw [hy] at y1 hls
                            rw [hz] at z1 hls
                            have hng : ¬ z < y := by omega
                            clear hy hz hls h67
                            go_wp2
                            go_roundw
                            case rel => exact ⟨b + 1, by omega, by go_num, HBZ.out⟩
                            case measure => simp [intOf]; omega
                          · obtain rfl : b = d := by omega
                            go_wp2
                            go_roundw
                            case rel => exact ⟨a + 1, by omega, by go_num, HB7.out.trans (HBZ.out.mono HB7.out.size)⟩
                            case measure => simp [intOf]; omega
                      · obtain rfl : a = d := by omega
                        obtain ⟨Y, hY⟩ : ∃ Y, Y = wr := ⟨_, rfl⟩
                        subst hY
                        have HGY := Lib.hid (new_isG Y a hn1 hn6)
                        have HBY := Lib.hid ((Below.refl Y.heap.size Y).alloc (Nat.le_refl _) (.cells (#[Value.int .i64 a] ++ Array.replicate 36 (.int .i64 0)) 50))
                        go_upto_region 31 with (first
                          | (go_at_call 10; refine (new_any a Y (by omega) (by omega)).mono ?_; rintro e w8 ⟨rfl, hw8⟩; have HG8 := Lib.hid (show IsG w8 Y.heap.size a (fun _ _ => 0) from hw8 ▸ HGY.out); have HB8 := Lib.hid (show Below Y.heap.size Y w8 from hw8 ▸ HBY.out); clear hw8)
                          | (go_at_call 14; refine (far_zero Y.heap.size a w8 HG8.out (by omega)).mono ?_; rintro e w9 ⟨⟨go, Fo, rfl, hfo, hio⟩, hb⟩; have HFO := Lib.hid hfo; have HIO := Lib.hid hio; have HB9 := Lib.hid (HB8.out.trans (hb.mono HB8.out.size)); clear hfo hio hb))
                        go_loopw [135] (fun s135 wr => ∃ b : Nat, b ≤ a ∧ s135 = .int .i64 b ∧ Below w9.heap.size w9 wr) (fun s135 _ => a - (intOf s135).toNat)
                        case atStart => exact ⟨0, by omega, rfl, Below.refl _ _⟩
                        case round =>
                          obtain ⟨b, hb, rfl, hbb⟩ := hrel
                          have HBZ := Lib.hid hbb
                          clear hbb
                          by_cases hlb : b < a
                          · have hlb' : (b : Int) < (a : Int) := by omega
                            have b00 : (0 : Int) ≤ (b : Int) := by omega
                            have y1 := later HBZ.out (HFO.out.cell b hlb)
                            by_cases hb0 : b = 0
                            · have hy : Fo b = 0 := by rw [hb0]; exact HIO.out.zero
                              rw [hy] at y1
                              have e1 : ((b : Int) == 0) = true := by simp [hb0]
                              have e2 : ¬ 0 < (b : Int) := by omega
                              clear hb0 hy
                              go_wp2
                              go_roundw
                              case rel => exact ⟨b + 1, by omega, by go_num, HBZ.out⟩
                              case measure => simp [intOf]; omega
                            · have hy : Fo b = 65535 := far_none HIO.out b hlb hb0
                              rw [hy] at y1
                              have e1 : ((b : Int) == 0) = false := by simp [hb0]
                              have e2 : 0 < (b : Int) := by omega
                              clear hb0 hy
                              go_wp2
                              go_roundw
                              case rel => exact ⟨b + 1, by omega, by go_num, HBZ.out⟩
                              case measure => simp [intOf]; omega
                          · obtain rfl : b = a := by omega
                            go_wp2
                            go_ret
                            have hA := HB6.out.trans (HBA.out.mono HB6.out.size)
                            have hB := hA.trans (HB9.out.mono hA.size)
                            have hC := hB.trans (HBZ.out.mono hB.size)
                            exact ⟨rfl, BAL.out.trans (hC.mono BAL.out.size)⟩
            · have hl0' : (l == 0) = false := by simp [hl0]
              have hl1 : (l != 0) = true := by simp [hl0]
              go_wp2_with (go_at_call 12; refine (link_any w0.heap.size d c ma mb mc U HGU.out).mono ?_; rw [HLK.out]; rintro e w6 ⟨rfl, hg6, ho6⟩; have HB6 := Lib.hid (below_only HBU.out (Nat.le_refl _) ho6); clear hg6 ho6)
              go_ret
              exact ⟨rfl, BAL.out.trans (HB6.out.mono BAL.out.size)⟩
end GraphLess
end Go.Proofs.Ytbghebncmfjgiaa
