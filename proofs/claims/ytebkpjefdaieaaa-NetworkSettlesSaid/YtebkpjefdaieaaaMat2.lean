/-
  Rows of rows: the document's Make and Far (for other seats). Conditions: those that each theorem names.
-/
import Derived.Test.YtebkpjefdaieaaaJe
import Derived.StillTailTactics
namespace Go.Proofs.Ytebkpjefdaieaaa
open Go Go.RowKit Go.Deep Go.Joins Go.ChangeShapes Go.WideShapes
set_option linter.unusedVariables false
set_option linter.unusedSimpArgs false
namespace GG
/-- rows of n numbers -/
def rows (G : Nat → Nat) (n d : Nat) : List Value := (List.range d).map fun j => .slice (some ⟨G j, 0, none⟩) n n
theorem rows_next (G : Nat → Nat) (n d g : Nat) : rows (fun j => if j = d then g else G j) n (d + 1) = rows G n d ++ [.slice (some ⟨g, 0, none⟩) n n] := by
  unfold rows
  rw [List.range_succ, List.map_append]
  congr 1
  · refine List.map_congr_left (fun j hj => ?_)
    have : j < d := by simpa using hj
    have hne : ¬ j = d := by omega
    simp only [if_neg hne]
  · simp
theorem far_app {w w1 : World} {base size n d : Nat} {v : Value} {xs : List Value} {o : Obj} {g : Nat} {F : Nat → Int} (h : Far w g n F) (ho : w.ownsRow base 35 size v d xs) (hg : (w.alloc o).grownBy w1 v.ownBlock) : Far w1 g n F :=
  ((Only.refl (fun i => v.ownBlock = some i) w).alloc o |>.grown hg (fun k hk _ => hk)).obj h (own_ne_blk ho h (by decide))
theorem own_keep {w w' : World} {base size n : Nat} {e : TypeId} {v : Value} {xs : List Value} (h : w.ownsRow base e size v n xs) (hb : Below w.heap.size w w') : w'.ownsRow base e size v n xs :=
  (Only.of_below (Only.refl (fun _ => False) w) hb).own h (fun _ _ h => h)
theorem info32 : (Try.prog.info? 35).map (fun i => (i.zero, i.size, i.bytes)) = some (some (.slice none 0 0), 1, 24) := by kernel_rfl
theorem far_const {w : World} {g n : Nat} {x : Int} (h : Row w g (List.replicate n x)) : Far w g n (fun _ => x) := by
  have e : List.replicate n x = (List.range n).map (fun _ => x) := by
    apply List.ext_getElem?
    intro k
    by_cases hk : k < n
    · simp [hk]
    · rw [List.getElem?_eq_none (by simp; omega), List.getElem?_eq_none (by simp; omega)]
  unfold Far
  rw [← e]; exact h
theorem far_lt {w : World} {g n : Nat} {F : Nat → Int} (h : Far w g n F) : g < w.heap.size := blk_lt h
/-- rows of rows: the outer row in block gm, row j in block G j -/
structure Mat (w : World) (base gm n cap : Nat) (G : Nat → Nat) (c : Nat → Nat → Int) : Prop where
  own : w.ownsRow base 35 1 (.slice (some ⟨gm, 0, none⟩) n cap) n (rows G n n)
  far : ∀ j, j < n → Far w (G j) n (c j)
  inj : ∀ j k, j < n → k < n → G j = G k → j = k
  low : ∀ j, j < n → base ≤ G j
theorem Mat.row {w : World} {base gm n cap : Nat} {G : Nat → Nat} {c : Nat → Nat → Int} (h : Mat w base gm n cap G c) {a : Nat} (ha : a < n) : w.cell? ⟨gm, a, none⟩ = some (.slice (some ⟨G a, 0, none⟩) n n) :=
  own_cell h.own a _ (by unfold rows; simp [ha])
theorem Mat.cell {w : World} {base gm n cap : Nat} {G : Nat → Nat} {c : Nat → Nat → Int} (h : Mat w base gm n cap G c) {a b : Nat} (ha : a < n) (hb : b < n) : w.cell? ⟨G a, b, none⟩ = some (.int .i64 (c a b)) := (h.far a ha).cell b hb
theorem Mat.keep {w w' : World} {base gm n cap : Nat} {G : Nat → Nat} {c : Nat → Nat → Int} (h : Mat w base gm n cap G c) (hb : Below w.heap.size w w') : Mat w' base gm n cap G c :=
  ⟨own_keep h.own hb, fun j hj => (h.far j hj).keep hb, h.inj, h.low⟩
attribute [local irreducible] Far Row rows
set_option maxRecDepth 100000 in
set_option maxHeartbeats 8000000 in
theorem make_any (n : Nat) (w : World) (hn1 : 1 ≤ n) (hn6 : n ≤ 6) :
    Calls Try.prog 12 #[.int .i64 n] w fun e w' => (∃ gm cap G, e = .returned (.slice (some ⟨gm, 0, none⟩) n cap) ∧ Mat w' w.heap.size gm n cap G (fun _ _ => 0)) ∧ Below w.heap.size w w' := by
  obtain ⟨i32, hi32, hz32a, hz32b, hz32c⟩ := info_parts info32
  obtain ⟨i3, hi3, hz3a, hz3b, hz3c⟩ := info_parts intinfo
  have HI32 := Lib.hid hi32
  have HI3 := Lib.hid hi3
  clear hi32 hi3
  go_enter Try.func12, Try.ntmps12
  go_upto_region 3 with fail
  go_loopw [3, 4] (fun s3 s4 wr => ∃ (d : Nat) (v : Value) (G : Nat → Nat), v = s3 ∧ d ≤ n ∧ s4 = .int .i64 d ∧ wr.ownsRow w.heap.size 35 1 v d (rows G n d) ∧ (∀ j, j < d → Far wr (G j) n (fun _ => 0) ∧ w.heap.size ≤ G j ∧ G j < wr.heap.size) ∧ (∀ j k, j < d → k < d → G j = G k → j = k) ∧ Below w.heap.size w wr) (fun _ s4 _ => n - (intOf s4).toNat)
  case atStart => exact ⟨0, _, fun _ => 0, rfl, by omega, rfl, ⟨by unfold rows; rfl, .inl ⟨rfl, rfl⟩⟩, fun j hj => by omega, fun j k hj => by omega, Below.refl _ _⟩
  case round =>
    obtain ⟨d, v, G, rfl, hd, rfl, hown, hfs, hinj, hb⟩ := hrel
    have HO := Lib.hid hown
    have HFS := Lib.hid hfs
    have HINJ := Lib.hid hinj
    have HB := Lib.hid hb
    clear hown hfs hinj hb
    by_cases hlt : d < n
    · have hlt' : (d : Int) < (n : Int) := by omega
      have d00 : (0 : Int) ≤ (d : Int) := by omega
      go_upto_region 4 with (first
        | (at_make; refine wpList_make_full _ rfl _ _ 35 rfl wr.heap.size 3 i3 _ 1 Try.underlying35 HI3.out hz3a hz3b _ _ _ _ n rfl rfl rfl rfl (by rw [hz3c]; omega) (by unfold maxLen; omega) (Nat.le_refl _) ?_; intro w2 hown2 hgrow2; have HR2 := Lib.hid (far_const (Row.of_own (made_zero n hn1 hn6 ▸ hown2))); have hb2 := below_none hgrow2; have HO2 := Lib.hid (own_keep HO.out hb2); have HB2 := Lib.hid (HB.out.trans (hb2.mono HB.out.size)); have HFS2 := Lib.hid (fun j (hj : j < d) => (HFS.out j hj).1.keep hb2); clear hown2 hgrow2 hb2)
        | (at_builtin; refine wpList_append_lies _ rfl (.tmp 10) (.tmp 13) 30 rfl w.heap.size 35 i32 _ 1 24 Try.underlying30 HI32.out hz32a hz32b hz32c rfl (by omega) v d _ rfl (HO2.out.alloc _) ⟨w2.heap.size, 0, none⟩ 1 1 [.slice (some ⟨wr.heap.size, 0, none⟩) n n] rfl rfl (cell_one_new _ _ _) (by simp [Value.oneCell']) (by omega) (by unfold maxLen; omega) (by omega) (by have := HB2.out.size; simp; omega) (w2.heap.size + 1) (by simp) ?_; intro g2 cap2 w5 hown1 hgrow1 hat1 hlt1; have HO5 := Lib.hid hown1; have HB5 := Lib.hid (app_below HB2.out HO2.out hgrow1); have HR5 := Lib.hid (far_app HR2.out HO2.out hgrow1); have HFS5 := Lib.hid (fun j (hj : j < d) => far_app (HFS2.out j hj) HO2.out hgrow1); clear hown1 hgrow1))
      go_wp2
      go_roundw
      case rel =>
        refine ⟨d + 1, _, fun j => if j = d then wr.heap.size else G j, rfl, by omega, by go_num, by rw [rows_next]; exact HO5.out, fun j hj => ?_, fun j k hj hk he => ?_, HB5.out⟩
        · by_cases e : j = d
          · subst e; simp only [if_true]; exact ⟨HR5.out, HB.out.size, far_lt HR5.out⟩
          · simp only [if_neg e]; exact ⟨HFS5.out j (by omega), (HFS.out j (by omega)).2.1, far_lt (HFS5.out j (by omega))⟩
        · by_cases e : j = d
          · by_cases e2 : k = d
            · omega
            · simp only [if_pos e, if_neg e2] at he
              have := (HFS.out k (by omega)).2.2
              omega
          · by_cases e2 : k = d
            · simp only [if_neg e, if_pos e2] at he
              have := (HFS.out j (by omega)).2.2
              omega
            · simp only [if_neg e, if_neg e2] at he
              exact HINJ.out j k (by omega) (by omega) he
      case measure => simp [intOf]; omega
    · obtain rfl : d = n := by omega
      obtain ⟨gm, cap, rfl, _, _, _⟩ := own_form HO.out (by omega)
      go_wp2
      go_ret
      exact ⟨⟨gm, cap, G, rfl, HO.out, fun j hj => (HFS.out j hj).1, HINJ.out, fun j hj => (HFS.out j hj).2.1⟩, HB.out⟩
theorem Far.drewx {w : World} {g n : Nat} {F : Nat → Int} (h : Far w g n F) : Far w.drew g n F := Far.drew h
set_option maxRecDepth 100000 in
set_option maxHeartbeats 8000000 in
theorem reffar_any (base gm n cap t : Nat) (G : Nat → Nat) (c : Nat → Nat → Int) (D : Nat → Int) (w : World) (hn1 : 1 ≤ n) (hn6 : n ≤ 6) (hm : Mat w base gm n cap G c) (ht : t < n) (hc : Good c) (hD : GP.IsFar n c t D) :
    Calls Try.prog 15 #[.slice (some ⟨gm, 0, none⟩) n cap, .int .i64 t] w fun e w' => (∃ F, e = .returned (.slice (some ⟨w.heap.size, 0, none⟩) n n) ∧ Far w' w.heap.size n F ∧ ∀ i, i < n → F i = D i) ∧ Below w.heap.size w w' := by
  obtain ⟨i3, hi3, hz3a, hz3b, hz3c⟩ := info_parts intinfo
  have HI3 := Lib.hid hi3
  have HM := Lib.hid hm
  have HDD := Lib.hid hD
  clear hi3 hm hD
  go_enter Try.func15, Try.ntmps15
  go_upto_region 4 with (at_make; refine wpList_make_full _ rfl _ _ 35 rfl w.heap.size 3 i3 _ 1 Try.underlying35 HI3.out hz3a hz3b _ _ _ _ n rfl rfl rfl rfl (by rw [hz3c]; omega) (by unfold maxLen; omega) (Nat.le_refl _) ?_; intro w2 hown2 hgrow2; have HR2 := Lib.hid (far_const (Row.of_own (made_zero n hn1 hn6 ▸ hown2))); have HB2 := Lib.hid (below_none hgrow2); clear hown2 hgrow2)
  obtain ⟨g, hg⟩ : ∃ g, w.heap.size = g := ⟨_, rfl⟩
  have hge : w.heap.size ≤ g := by omega
  have hR2 := HR2.out
  rw [hg] at hR2 ⊢
  have HR2 := Lib.hid hR2
  have HGE := Lib.hid hg
  clear hR2 hg
  go_loopw [7] (fun s7 wr => ∃ i : Nat, i ≤ n ∧ s7 = .int .i64 i ∧ Far wr g n (fun j => if j < i then 65535 else 0) ∧ Below w.heap.size w wr) (fun s7 _ => n - (intOf s7).toNat)
  case atStart => exact ⟨0, by omega, rfl, HR2.out.congr (fun j _ => by simp), HB2.out⟩
  case round =>
    obtain ⟨i, hi, rfl, hf, hb⟩ := hrel
    have HF := Lib.hid hf
    have HB := Lib.hid hb
    clear hf hb
    by_cases hlt : i < n
    · have hlt' : (i : Int) < (n : Int) := by omega
      have i00 : (0 : Int) ≤ (i : Int) := by omega
      have x1 := HF.out.cell i hlt
      have x2 := HF.out.free i
      go_wp2
      go_roundw
      case rel => exact ⟨i + 1, by omega, by go_num, (HF.out.set i 65535).congr (fun j _ => by
        by_cases e : j = i
        · subst e; simp
        · simp only [if_neg e]; by_cases h : j < i
          · rw [if_pos h, if_pos (by omega)]
          · rw [if_neg h, if_neg (by omega)]), below_set HB.out (p := ⟨g, i, none⟩) hge _⟩
      case measure => simp [intOf]; omega
    · obtain rfl : i = n := by omega
      have t0 : (0 : Int) ≤ (t : Int) := by omega
      have tn : (t : Int) < (i : Int) := by omega
      have x1 := HF.out.cell t ht
      have x2 := HF.out.free t
      go_upto_region 9 with fail
      have HF1 := Lib.hid ((HF.out.set t 0).congr (F' := fun j => if j = t then 0 else 65535) (fun j hj => by
        by_cases e : j = t
        · simp [e]
        · simp only [if_neg e]; rw [if_pos hj]))
      have HB1 := Lib.hid (below_set HB.out (p := ⟨g, t, none⟩) hge (.int .i64 0))
      generalize wr.setCell ⟨g, t, none⟩ (.int .i64 0) = W at HF1 HB1 ⊢
      go_loopw [8] (fun s8 wr => ∃ (k : Nat) (out : Nat → Int), k ≤ i ∧ s8 = .int .i64 k ∧ Far wr g i out ∧ GP.Bell i t D k out ∧ Below w.heap.size w wr) (fun s8 _ => i - (intOf s8).toNat)
      case atStart => exact ⟨0, _, by omega, rfl, HF1.out, GP.Bell.start HDD.out, HB1.out⟩
      case round =>
        obtain ⟨k, out, hk, rfl, hf, hbl, hb⟩ := hrel
        have HFK := Lib.hid hf
        have HBL := Lib.hid hbl
        have HBK := Lib.hid hb
        clear hf hbl hb
        by_cases hlk : k < i
        · have hlk' : (k : Int) < (i : Int) := by omega
          go_upto_region 12 with fail
          go_loopw [9] (fun s9 wr => ∃ (a : Nat) (out : Nat → Int), a ≤ i ∧ s9 = .int .i64 a ∧ Far wr g i out ∧ GP.In i c t D k a 0 out ∧ Below w.heap.size w wr) (fun s9 _ => i - (intOf s9).toNat)
          case atStart => exact ⟨0, _, by omega, rfl, HFK.out, HBL.out.begin, HBK.out⟩
          case round =>
            obtain ⟨a, out, ha, rfl, hf, hin, hb⟩ := hrel
            have HFA := Lib.hid hf
            have HIA := Lib.hid hin
            have HBA := Lib.hid hb
            clear hf hin hb
            by_cases hla : a < i
            · have hla' : (a : Int) < (i : Int) := by omega
              have a00 : (0 : Int) ≤ (a : Int) := by omega
              go_upto_region 15 with fail
              go_loopw [10] (fun s10 wr => ∃ (b : Nat) (out : Nat → Int), b ≤ i ∧ s10 = .int .i64 b ∧ Far wr g i out ∧ GP.In i c t D k a b out ∧ Below w.heap.size w wr) (fun s10 _ => i - (intOf s10).toNat)
              case atStart => exact ⟨0, _, by omega, rfl, HFA.out, HIA.out, HBA.out⟩
              case round =>
                obtain ⟨b, out, hb, rfl, hf, hin, hbb⟩ := hrel
                have HFB := Lib.hid hf
                have HIB := Lib.hid hin
                have HBB := Lib.hid hbb
                clear hf hin hbb
                by_cases hlb : b < i
                · have hlb' : (b : Int) < (i : Int) := by omega
                  have b00 : (0 : Int) ≤ (b : Int) := by omega
                  have x1 := HFB.out.cell a hla
                  have x2 := HFB.out.free a
                  have x3 := HFB.out.cell b hlb
                  have y1 := later HBB.out (HM.out.row hla)
                  have y2 := later HBB.out (HM.out.cell hla hlb)
                  have hstep := HIB.out.step HDD.out ht hlb
                  have HST := Lib.hid hstep
                  have hc0 := hc.low a b
                  have hc1 := hc.high a b
                  have hol := HIB.out.base.above b hlb
                  have hoh := HIB.out.base.cap b hlb
                  have hdl := HDD.out.low b hlb
                  clear hstep
                  by_cases hpos : 0 < c a b
                  · have hbs : ∀ j, j < i → (if j = a then (if out b + c a b < out a then out b + c a b else out a) else out j) = GP.bstep c out a b j := by
                      intro j _
                      unfold GP.bstep
                      rw [if_pos hpos]
                      by_cases e : j = a
                      · subst e; simp only [if_true]; split <;> omega
                      · simp only [if_neg e]
                    have HBS := Lib.hid hbs
                    clear hbs
                    have hwr : IntKind.i64.wrap (out b + c a b) = out b + c a b := IntWalk.i64_in _ (by omega)
                    go_upto_region 18 with fail
                    refine wp_region_still_tail 20 (by kernel_rfl) (by kernel_rfl) ?_
                    simp only [List.take_succ_cons, List.take_zero, List.drop_succ_cons, List.drop_zero]
                    change wpStill _ _ wr.drew _ _ _
                    repeat still_step
                    refine wpStill_nil ?_
                    change wpList _ _ _ _ _ wr.drew
                    go_wp2
                    go_roundw
                    case rel => exact ⟨b + 1, _, by omega, by go_num, Far.drew ((HFB.out.set a _).congr HBS.out), HST.out, below_drew (below_set HBB.out (p := ⟨g, a, none⟩) hge _)⟩
                    case measure => simp [intOf]; omega
                  · have hbs : ∀ j, j < i → out j = GP.bstep c out a b j := by
                      intro j _
                      unfold GP.bstep
                      rw [if_neg hpos]
                    have HBS := Lib.hid hbs
                    clear hbs
                    go_wp2
                    go_roundw
                    case rel => exact ⟨b + 1, _, by omega, by go_num, HFB.out.congr HBS.out, HST.out, HBB.out⟩
                    case measure => simp [intOf]; omega
                · obtain rfl : b = i := by omega
                  go_wp2
                  go_roundw
                  case rel => exact ⟨a + 1, _, by omega, by go_num, HFB.out, HIB.out.row HDD.out, HBB.out⟩
                  case measure => simp [intOf]; omega
            · obtain rfl : a = i := by omega
              go_wp2
              go_roundw
              case rel => exact ⟨k + 1, _, by omega, by go_num, HFA.out, HIA.out.round, HBA.out⟩
              case measure => simp [intOf]; omega
        · obtain rfl : k = i := by omega
          go_wp2
          go_ret
          have hg := HGE.out
          subst hg
          exact ⟨⟨out, rfl, HFK.out, GP.bell_end HDD.out HBL.out (Nat.le_refl _)⟩, HBK.out⟩
end GG
end Go.Proofs.Ytebkpjefdaieaaa
