/-
  graph.Far. Conditions: those that each theorem names.
-/
import Derived.Test.YtebkpjefdaieaaaGraphP
import Derived.ScopeJumps
import Derived.StillTailTactics
namespace Go.Proofs.Ytebkpjefdaieaaa
open Go Go.RowKit
set_option linter.unusedVariables false
set_option linter.unusedSimpArgs false
namespace GG
theorem IsG.keep {w w' : World} {g n : Nat} {c : Nat → Nat → Int} (h : IsG w g n c) (hb : Below w.heap.size w w') : IsG w' g n c := by
  obtain ⟨⟨cs, h1, h2⟩, h3, h4⟩ := h
  exact ⟨⟨cs, (hb.block g (blk_lt h1)).trans h1, h2⟩, h3, h4⟩
/-- n numbers in a block -/
def Far (w : World) (g n : Nat) (F : Nat → Int) : Prop := Row w g ((List.range n).map F)
theorem far_get (n : Nat) (F : Nat → Int) (i : Nat) (hi : i < n) : ((List.range n).map F).getD i 0 = F i := by
  rw [List.getD_eq_getElem?_getD, List.getElem?_map, List.getElem?_range hi]; rfl
theorem Far.cell {w : World} {g n : Nat} {F : Nat → Int} (h : Far w g n F) (i : Nat) (hi : i < n) : w.cell? ⟨g, i, none⟩ = some (.int .i64 (F i)) := by
  have := Row.cell h i (by simp; exact hi)
  rwa [far_get n F i hi] at this
theorem Far.free {w : World} {g n : Nat} {F : Nat → Int} (h : Far w g n F) (i : Nat) : w.frozen? ⟨g, i, none⟩ = false := Row.free h i
theorem Far.congr {w : World} {g n : Nat} {F F' : Nat → Int} (h : Far w g n F) (he : ∀ i, i < n → F i = F' i) : Far w g n F' := by
  have : (List.range n).map F = (List.range n).map F' := List.map_congr_left (fun i hi => he i (by simpa using hi))
  unfold Far at h ⊢
  rwa [← this]
theorem Far.set {w : World} {g n : Nat} {F : Nat → Int} (h : Far w g n F) (i : Nat) (x : Int) : Far (w.setCell ⟨g, i, none⟩ (.int .i64 x)) g n (fun j => if j = i then x else F j) := by
  have := Row.set h i x
  have e : ((List.range n).map F).set i x = (List.range n).map (fun j => if j = i then x else F j) := by
    apply List.ext_getElem?
    intro k
    rw [List.getElem?_set]
    simp only [List.getElem?_map, List.length_map, List.length_range]
    by_cases hk : k < n
    · rw [List.getElem?_range hk]
      by_cases e : i = k
      · subst e; simp [hk]
      · rw [if_neg e]; simp [Ne.symm e]
    · rw [List.getElem?_eq_none (by simp; omega)]
      by_cases e : i = k
      · subst e; simp [hk]
      · rw [if_neg e]; rfl
  unfold Far
  rwa [e] at this
theorem Far.keep {w w' : World} {g n : Nat} {F : Nat → Int} (h : Far w g n F) (hb : Below w.heap.size w w') : Far w' g n F := Row.keep h hb
/-- six marks in a block -/
def Marks (w : World) (g : Nat) (D : Nat → Bool) : Prop := w.heap[g]? = some (.cells ((List.range 6).map fun i => Value.bool (D i)).toArray 98 (0, 0))
theorem Marks.cell {w : World} {g : Nat} {D : Nat → Bool} (h : Marks w g D) (i : Nat) (hi : i < 6) : w.cell? ⟨g, i, none⟩ = some (.bool (D i)) := by
  rw [blk_cell h i]
  simp [hi]
theorem Marks.free {w : World} {g : Nat} {D : Nat → Bool} (h : Marks w g D) (i : Nat) : w.frozen? ⟨g, i, none⟩ = false := blk_free h i
theorem Marks.set {w : World} {g : Nat} {D : Nat → Bool} (h : Marks w g D) (i : Nat) (x : Bool) : Marks (w.setCell ⟨g, i, none⟩ (.bool x)) g (fun j => if j = i then x else D j) := by
  have := blk_set h i (.bool x)
  have e : ((List.range 6).map fun j => Value.bool (D j)).set i (.bool x) = (List.range 6).map (fun j => Value.bool (if j = i then x else D j)) := by
    apply List.ext_getElem?
    intro k
    rw [List.getElem?_set]
    simp only [List.getElem?_map, List.length_map, List.length_range]
    by_cases hk : k < 6
    · rw [List.getElem?_range hk]
      by_cases e : i = k
      · subst e; simp [hk]
      · rw [if_neg e]; simp [Ne.symm e]
    · rw [List.getElem?_eq_none (by simp; omega)]
      by_cases e : i = k
      · subst e; simp [hk]
      · rw [if_neg e]; rfl
  unfold Marks
  rw [this, List.setIfInBounds_toArray, e]
/-- a scope with one label: what holds at the label leads on from there -/
theorem scope_at {P : Program} {a : Act} {w : World} {Q : Exit → Act → World → Prop} {c rest : Code} (l : Nat) (J : Act → World → Prop) (μ : Act → World → Nat) (hf : findLabel c l = some (Code.skip.seq rest))
    (pass : ∀ a w, J a w → rest.wp P (Exit.jump l (fun a' w' => J a' w' ∧ μ a' w' < μ a w) Q) a w)
    (first : (∀ a w, J a w → rest.wp P (Exit.jump l J Q) a w) → c.wp P (Exit.jump l J Q) a w) : (Code.scope c).wp P Q a w :=
  wp_scope_jumps l J μ hf (first (fun a w hj => Code.wp_mono (fun e a' w' h => by
    cases e with
    | goto l' => exact ⟨h.1, h.2.1⟩
    | _ => exact h) (pass a w hj))) (fun a w hj => wp_seq (wp_skip (pass a w hj)))
/-- the frame at the label -/
def frame (g : Nat) (t : Int) (gf gd n : Nat) (U : Nat → Value) : Act := { tmps := #[.pointer (some ⟨g, 0, none⟩), .int .i64 t, undef, undef, .slice none 0 0, .slice (some ⟨gf, 0, none⟩) n n, .pointer (some ⟨gd, 0, none⟩), U 7, U 8, U 9, U 10, U 11, U 12, U 13, U 14, U 15, U 16, U 17, U 18, U 19, U 20, U 21, U 22, U 23, U 24, U 25, U 26, U 27, U 28, U 29, U 30, U 31, U 32, U 33, U 34, U 35, U 36, U 37, U 38, U 39, U 40, U 41, U 42, U 43, U 44, U 45, U 46, U 47, U 48, U 49, U 50, U 51, U 52, U 53, U 54, U 55, U 56, U 57, U 58, U 59, U 60, U 61, U 62, U 63, U 64, U 65, U 66, U 67, U 68, U 69, U 70, U 71, U 72, U 73, U 74, U 75, U 76, U 77, U 78, U 79, U 80, U 81, U 82, U 83, U 84, U 85, U 86, U 87, U 88], defers := [] }
/-- a mark's worth -/
def mark : Option Value → Bool
  | some (.bool b) => b
  | _ => false
/-- how many nodes are not done -/
def left (n : Nat) (a : Act) (w : World) : Nat :=
  match a.tmps.getD 6 undef with
  | .pointer (some p) => GP.undone (fun i => mark (w.cell? ⟨p.block, i, none⟩)) n
  | _ => 0
theorem left_is {g : Nat} {t : Int} {gf gd n : Nat} {U : Nat → Value} {w : World} {D : Nat → Bool} (h : Marks w gd D) (hn : n ≤ 6) : left n (frame g t gf gd n U) w = GP.undone D n := by
  have : left n (frame g t gf gd n U) w = GP.undone (fun i => mark (w.cell? ⟨gd, i, none⟩)) n := rfl
  rw [this]
  exact GP.undone_congr n (fun i hi => by rw [h.cell i (by omega)]; rfl)
/-- what holds at the label -/
structure At (w : World) (n : Nat) (c : Nat → Nat → Int) (t gf gd : Nat) (D : Nat → Bool) (F : Nat → Int) (w' : World) : Prop where
  marks : Marks w' gd D
  far : Far w' gf n F
  dij : GP.Dij n c t D F
  gf0 : w.heap.size ≤ gf
  gd0 : w.heap.size ≤ gd
  ne : gf ≠ gd
  bel : Below w.heap.size w w'
/-- a frame at the label, as the walk has it -/
theorem at_mk {w w' : World} {n : Nat} {c : Nat → Nat → Int} {g t gf gd : Nat} {D : Nat → Bool} {F : Nat → Int} {v7 v8 v9 v10 v11 v12 v13 v14 v15 v16 v17 v18 v19 v20 v21 v22 v23 v24 v25 v26 v27 v28 v29 v30 v31 v32 v33 v34 v35 v36 v37 v38 v39 v40 v41 v42 v43 v44 v45 v46 v47 v48 v49 v50 v51 v52 v53 v54 v55 v56 v57 v58 v59 v60 v61 v62 v63 v64 v65 v66 v67 v68 v69 v70 v71 v72 v73 v74 v75 v76 v77 v78 v79 v80 v81 v82 v83 v84 v85 v86 v87 v88 : Value} (h : At w n c t gf gd D F w') :
    ∃ gf' gd' U D' F', ({ tmps := List.toArray (Value.pointer (some ⟨g, 0, none⟩) :: Value.int .i64 t :: undef :: undef :: Value.slice none 0 0 :: Value.slice (some ⟨gf, 0, none⟩) n n :: Value.pointer (some ⟨gd, 0, none⟩) :: v7 :: v8 :: v9 :: v10 :: v11 :: v12 :: v13 :: v14 :: v15 :: v16 :: v17 :: v18 :: v19 :: v20 :: v21 :: v22 :: v23 :: v24 :: v25 :: v26 :: v27 :: v28 :: v29 :: v30 :: v31 :: v32 :: v33 :: v34 :: v35 :: v36 :: v37 :: v38 :: v39 :: v40 :: v41 :: v42 :: v43 :: v44 :: v45 :: v46 :: v47 :: v48 :: v49 :: v50 :: v51 :: v52 :: v53 :: v54 :: v55 :: v56 :: v57 :: v58 :: v59 :: v60 :: v61 :: v62 :: v63 :: v64 :: v65 :: v66 :: v67 :: v68 :: v69 :: v70 :: v71 :: v72 :: v73 :: v74 :: v75 :: v76 :: v77 :: v78 :: v79 :: v80 :: v81 :: v82 :: v83 :: v84 :: v85 :: v86 :: v87 :: v88 :: []), defers := [] } : Act) = frame g t gf' gd' n U ∧ At w n c t gf' gd' D' F' w' :=
  ⟨gf, gd, fun k => #[v7, v8, v9, v10, v11, v12, v13, v14, v15, v16, v17, v18, v19, v20, v21, v22, v23, v24, v25, v26, v27, v28, v29, v30, v31, v32, v33, v34, v35, v36, v37, v38, v39, v40, v41, v42, v43, v44, v45, v46, v47, v48, v49, v50, v51, v52, v53, v54, v55, v56, v57, v58, v59, v60, v61, v62, v63, v64, v65, v66, v67, v68, v69, v70, v71, v72, v73, v74, v75, v76, v77, v78, v79, v80, v81, v82, v83, v84, v85, v86, v87, v88].getD (k - 7) undef, D, F, rfl, h⟩
theorem left_mk {w' : World} {n g t gf gd : Nat} {D : Nat → Bool} {v7 v8 v9 v10 v11 v12 v13 v14 v15 v16 v17 v18 v19 v20 v21 v22 v23 v24 v25 v26 v27 v28 v29 v30 v31 v32 v33 v34 v35 v36 v37 v38 v39 v40 v41 v42 v43 v44 v45 v46 v47 v48 v49 v50 v51 v52 v53 v54 v55 v56 v57 v58 v59 v60 v61 v62 v63 v64 v65 v66 v67 v68 v69 v70 v71 v72 v73 v74 v75 v76 v77 v78 v79 v80 v81 v82 v83 v84 v85 v86 v87 v88 : Value} (h : Marks w' gd D) (hn : n ≤ 6) : left n { tmps := List.toArray (Value.pointer (some ⟨g, 0, none⟩) :: Value.int .i64 t :: undef :: undef :: Value.slice none 0 0 :: Value.slice (some ⟨gf, 0, none⟩) n n :: Value.pointer (some ⟨gd, 0, none⟩) :: v7 :: v8 :: v9 :: v10 :: v11 :: v12 :: v13 :: v14 :: v15 :: v16 :: v17 :: v18 :: v19 :: v20 :: v21 :: v22 :: v23 :: v24 :: v25 :: v26 :: v27 :: v28 :: v29 :: v30 :: v31 :: v32 :: v33 :: v34 :: v35 :: v36 :: v37 :: v38 :: v39 :: v40 :: v41 :: v42 :: v43 :: v44 :: v45 :: v46 :: v47 :: v48 :: v49 :: v50 :: v51 :: v52 :: v53 :: v54 :: v55 :: v56 :: v57 :: v58 :: v59 :: v60 :: v61 :: v62 :: v63 :: v64 :: v65 :: v66 :: v67 :: v68 :: v69 :: v70 :: v71 :: v72 :: v73 :: v74 :: v75 :: v76 :: v77 :: v78 :: v79 :: v80 :: v81 :: v82 :: v83 :: v84 :: v85 :: v86 :: v87 :: v88 :: []), defers := [] } w' = GP.undone D n :=
  left_is (g := g) (t := t) (gf := gf) (gd := gd) (U := fun k => #[v7, v8, v9, v10, v11, v12, v13, v14, v15, v16, v17, v18, v19, v20, v21, v22, v23, v24, v25, v26, v27, v28, v29, v30, v31, v32, v33, v34, v35, v36, v37, v38, v39, v40, v41, v42, v43, v44, v45, v46, v47, v48, v49, v50, v51, v52, v53, v54, v55, v56, v57, v58, v59, v60, v61, v62, v63, v64, v65, v66, v67, v68, v69, v70, v71, v72, v73, v74, v75, v76, v77, v78, v79, v80, v81, v82, v83, v84, v85, v86, v87, v88].getD (k - 7) undef) h hn
theorem far_other {w : World} {g n : Nat} {F : Nat → Int} (h : Far w g n F) {p : Addr} (hp : p.block ≠ g) (v : Value) : Far (w.setCell p v) g n F := (Below.heap_setCell w p v g (fun e => hp e.symm)).trans h
theorem marks_other {w : World} {g : Nat} {D : Nat → Bool} (h : Marks w g D) {p : Addr} (hp : p.block ≠ g) (v : Value) : Marks (w.setCell p v) g D := (Below.heap_setCell w p v g (fun e => hp e.symm)).trans h
theorem below_set {w w' : World} (h : Below w.heap.size w w') {p : Addr} (hp : w.heap.size ≤ p.block) (v : Value) : Below w.heap.size w (w'.setCell p v) :=
  (((Only.refl (fun i => w.heap.size ≤ i) w).of_below h).setCell (fun _ => hp) v).below (Nat.le_refl _) (fun i hi h => by omega)
theorem Far.drew {w : World} {g n : Nat} {F : Nat → Int} (h : Far w g n F) : Far w.drew g n F := h
theorem Marks.drew {w : World} {g : Nat} {D : Nat → Bool} (h : Marks w g D) : Marks w.drew g D := h
theorem marks_new (w : World) : Marks (w.alloc (.cells (Array.replicate 6 (.bool false)) 98)) w.heap.size (fun _ => false) := by
  have : (w.alloc (.cells (Array.replicate 6 (.bool false)) 98)).heap[w.heap.size]? = some (.cells (Array.replicate 6 (.bool false)) 98 (0, 0)) := by simp only [World.alloc]; exact Array.getElem?_push_size
  rw [Marks, this]
  rfl
theorem far_start {w : World} {g n t : Nat} (h : Row w g (List.replicate n 65535)) : Far (w.setCell ⟨g, t, none⟩ (.int .i64 0)) g n (fun i => if i = t then 0 else 65535) := by
  have e : List.replicate n (65535 : Int) = (List.range n).map (fun _ => 65535) := by
    apply List.ext_getElem?
    intro k
    by_cases hk : k < n
    · simp [hk]
    · rw [List.getElem?_eq_none (by simp; omega), List.getElem?_eq_none (by simp; omega)]
  have h2 : Far w g n (fun _ => 65535) := by unfold Far; rw [← e]; exact h
  exact h2.set t 0
/-- far, of which i are looked at -/
def mid (c : Nat → Nat → Int) (F : Nat → Int) (a i : Nat) (j : Nat) : Int := if j < i then GP.relax c F a j else F j
theorem mid_self (c : Nat → Nat → Int) (F : Nat → Int) (a i : Nat) (hc : 0 ≤ c a a) : mid c F a i a = F a := by
  unfold mid GP.relax
  split
  · split <;> omega
  · rfl
theorem mid_next (c : Nat → Nat → Int) (F : Nat → Int) (a i j : Nat) : mid c F a (i + 1) j = if j = i then GP.relax c F a i else mid c F a i j := by
  unfold mid
  by_cases e : j = i
  · subst e; rw [if_pos (by omega), if_pos rfl]
  · rw [if_neg e]
    by_cases h : j < i
    · rw [if_pos (by omega), if_pos h]
    · rw [if_neg (by omega), if_neg h]
attribute [local irreducible] GP.pick GP.relax mid left Far Marks
set_option maxRecDepth 1000000 in
set_option maxHeartbeats 16000000 in
theorem far_ok (g n : Nat) (c : Nat → Nat → Int) (t : Nat) (w : World) (h : IsG w g n c) (ht : t < n) (hs : ∀ i k, c i k = c k i) (hc0 : ∀ i k, 0 ≤ c i k) (hc1 : ∀ i k, c i k ≤ 1000) :
    Calls Try.prog 41 #[.pointer (some ⟨g, 0, none⟩), .int .i64 t] w fun e w' => (∃ gf F, e = .returned (.slice (some ⟨gf, 0, none⟩) n n) ∧ w.heap.size ≤ gf ∧ Far w' gf n F ∧ GP.IsFar n c t F) ∧ Below w.heap.size w w' := by
  have H := Lib.hid h
  have hn := h.n6
  have hn1 := h.n1
  have hlen := h.len
  clear h
  have hok : ok n (t : Int) = true := by simp [ok]; omega
  go_enter Try.func41, Try.ntmps41
  go_wp2
  refine scope_at 0 (fun a' w' => ∃ gf gd U D F, a' = frame g t gf gd n U ∧ At w n c t gf gd D F w') (left n) rfl ?_ (fun hrest => ?_)
  · rintro a' w' ⟨gf, gd, U, D, F, rfl, hat⟩
    have HAT := Lib.hid hat
    have HL := Lib.hid (left_is (g := g) (t := t) (gf := gf) (U := U) hat.marks hn)
    clear hat
    simp only [frame]
    obtain ⟨u, hu⟩ : ∃ u, u = w' := ⟨_, rfl⟩
    subst hu
    go_upto_region 8 with fail
    go_loopw [7, 27] (fun s7 s27 wr => wr = u ∧ ∃ i : Nat, i ≤ n ∧ s27 = .int .i64 i ∧ s7 = .int .i64 (GP.pick D F i)) (fun _ s27 _ => n - (intOf s27).toNat)
    case atStart => exact ⟨rfl, 0, by omega, rfl, by unfold GP.pick; rfl⟩
    case round =>
      obtain ⟨rfl, i, hi, rfl, rfl⟩ := hrel
      by_cases hlt : i < n
      · have hlt2 : (i : Int) < (n : Int) := by omega
        have i00 : (0 : Int) ≤ (i : Int) := by omega
        have i6 : (i : Int) < 6 := by omega
        have hdc := HAT.out.marks.cell i (by omega)
        have hfc := HAT.out.far.cell i hlt
        have hnext : GP.pick D F (i + 1) = if D i = false ∧ F i < 65535 ∧ (GP.pick D F i < 0 ∨ F i < F (GP.pick D F i).toNat) then (i : Int) else GP.pick D F i := by rw [GP.pick]
        have HN := Lib.hid hnext
        have hpick := GP.pick_is D F i
        clear hnext
        cases hD : D i
        · rw [hD] at hdc
          by_cases hF : F i < 65535
          · rcases hpick with ⟨hp, _⟩ | ⟨a, hp, ha, _⟩
            · have HP := Lib.hid (show GP.pick D F (i + 1) = (i : Int) by rw [HN.out, if_pos ⟨hD, hF, .inl (by omega)⟩])
              rw [hp]
              clear hp hD
              go_wp2
              go_roundw
              case rel => exact ⟨trivial, i + 1, by omega, by go_num, by rw [HP.out]⟩
              case measure => simp [intOf]; omega
            · have a0 : (0 : Int) ≤ (a : Int) := by omega
              have an : (a : Int) < (n : Int) := by omega
              have hfa := HAT.out.far.cell a (by omega)
              by_cases hFA : F i < F a
              · have HP := Lib.hid (show GP.pick D F (i + 1) = (i : Int) by rw [HN.out, hp, if_pos ⟨hD, hF, .inr (by simpa using hFA)⟩])
                rw [hp]
                clear hp hD
                go_wp2
                go_roundw
                case rel => exact ⟨trivial, i + 1, by omega, by go_num, by rw [HP.out]⟩
                case measure => simp [intOf]; omega
              · have HP := Lib.hid (show GP.pick D F (i + 1) = (a : Int) by
                  rw [HN.out, hp, if_neg]
                  rintro ⟨_, _, h | h⟩
                  · omega
                  · exact hFA (by simpa using h))
                rw [hp]
                clear hp hD
                go_wp2
                go_roundw
                case rel => exact ⟨trivial, i + 1, by omega, by go_num, by rw [HP.out]⟩
                case measure => simp [intOf]; omega
          · have HP := Lib.hid (show GP.pick D F (i + 1) = GP.pick D F i by rw [HN.out, if_neg (fun h => hF h.2.1)])
            clear hpick hD
            go_wp2
            go_roundw
            case rel => exact ⟨trivial, i + 1, by omega, by go_num, by rw [HP.out]⟩
            case measure => simp [intOf]; omega
        · have HP := Lib.hid (show GP.pick D F (i + 1) = GP.pick D F i by rw [HN.out, if_neg (fun h => by rw [hD] at h; cases h.1)])
          rw [hD] at hdc
          clear hpick hD
          go_wp2
          go_roundw
          case rel => exact ⟨trivial, i + 1, by omega, by go_num, by rw [HP.out]⟩
          case measure => simp [intOf]; omega
      · obtain rfl : i = n := by omega
        rcases GP.pick_is D F i with ⟨hp, hend⟩ | ⟨a, hp, han, hda, hfa, hmin⟩
        · have HE := Lib.hid hend
          rw [hp]
          clear hp hend
          go_wp2
          simp only [Exit.jump]
          go_ret
          exact ⟨⟨gf, F, rfl, HAT.out.gf0, HAT.out.far, HAT.out.dij.isFar hs HE.out⟩, HAT.out.bel⟩
        · have HM := Lib.hid hmin
          have HDA := Lib.hid hda
          have HFA := Lib.hid hfa
          rw [hp]
          have a0 : (0 : Int) ≤ (a : Int) := by omega
          have an : (a : Int) < (i : Int) := by omega
          have a6 : (a : Int) < 6 := by omega
          have a00 : ¬ (a : Int) < 0 := by omega
          have hdc := HAT.out.marks.cell a (by omega)
          have hdf := HAT.out.marks.free a
          clear hp hmin hda hfa
          go_upto_region 17 with fail
          have HW0 := Lib.hid (HAT.out.marks.set a true)
          have HF0 := Lib.hid (far_other HAT.out.far (p := ⟨gd, a, none⟩) (fun e => HAT.out.ne e.symm) (.bool true))
          have HB0 := Lib.hid (below_set HAT.out.bel (p := ⟨gd, a, none⟩) HAT.out.gd0 (.bool true))
          generalize wr.setCell ⟨gd, a, none⟩ (.bool true) = W at HW0 HF0 HB0 ⊢
          go_loopw [61] (fun s61 wr => ∃ k : Nat, k ≤ i ∧ s61 = .int .i64 k ∧ Far wr gf i (mid c F a k) ∧ Marks wr gd (fun j => if j = a then true else D j) ∧ Below w.heap.size w wr) (fun s61 _ => i - (intOf s61).toNat)
          case atStart => exact ⟨0, by omega, rfl, HF0.out.congr (fun j _ => by unfold mid; simp), HW0.out, HB0.out⟩
          case round =>
            obtain ⟨k, hk, rfl, hfar, hmk, hbel⟩ := hrel
            have HFR := Lib.hid hfar
            have HMK := Lib.hid hmk
            have HBL := Lib.hid hbel
            clear hfar hmk hbel
            by_cases hlt : k < i
            · have hlt2 : (k : Int) < (i : Int) := by omega
              have k00 : (0 : Int) ≤ (k : Int) := by omega
              have k6 : (k : Int) < 6 := by omega
              have hcc := later HBL.out (H.out.cost (show a < 6 by omega) (show k < 6 by omega))
              have hfk := HFR.out.cell k hlt
              have hfz := HFR.out.free k
              have hfa := HFR.out.cell a han
              have e1 : mid c F a k k = F k := by unfold mid; rw [if_neg (by omega)]
              have e2 : mid c F a k a = F a := mid_self c F a k (hc0 a a)
              rw [e1] at hfk
              rw [e2] at hfa
              have hca := hc0 a k
              have hcb := hc1 a k
              have hfal := HAT.out.dij.low a han
              have hfah := HAT.out.dij.high a han
              have hrl : GP.relax c F a k = if 0 < c a k then min (F k) (F a + c a k) else F k := by unfold GP.relax; rfl
              by_cases hpos : 0 < c a k
              · rw [if_pos hpos] at hrl
                have HRL := Lib.hid hrl
                obtain ⟨x, hx⟩ : ∃ x, c a k = x := ⟨_, rfl⟩
                obtain ⟨y, hy⟩ : ∃ y, F a = y := ⟨_, rfl⟩
                obtain ⟨z, hz⟩ : ∃ z, F k = z := ⟨_, rfl⟩
                rw [hx] at hcc hca hcb hpos
                rw [hy] at hfa hfal hfah
                rw [hz] at hfk
                have hwr : IntKind.i64.wrap (y + x) = y + x := IntWalk.i64_in _ (by omega)
                have HXYZ := Lib.hid (And.intro hx (And.intro hy hz))
                clear hx hy hz hrl e1 e2
                go_upto_region 21 with fail
                refine wp_region_still_tail 14 (by kernel_rfl) (by kernel_rfl) ?_
                simp only [List.take_succ_cons, List.take_zero, List.drop_succ_cons, List.drop_zero]
                change wpStill _ _ wr.drew _ _ _
                repeat still_step
                refine wpStill_nil ?_
                change wpList _ _ _ _ _ wr.drew
                go_wp2
                go_roundw
                case rel =>
                  have hv : (if y + x < z then y + x else z) = GP.relax c F a k := by
                    rw [HRL.out, HXYZ.out.1, HXYZ.out.2.1, HXYZ.out.2.2]
                    split <;> omega
                  refine ⟨k + 1, by omega, by go_num, Far.drew ((HFR.out.set k _).congr (fun j _ => ?_)), Marks.drew (marks_other HMK.out (p := ⟨gf, k, none⟩) HAT.out.ne _), below_drew (below_set HBL.out (p := ⟨gf, k, none⟩) HAT.out.gf0 _)⟩
                  rw [mid_next, hv]
                case measure => simp [intOf]; omega
              · rw [if_neg hpos] at hrl
                have HRL := Lib.hid hrl
                have e3 : c a k = 0 := by omega
                rw [e3] at hcc
                clear hrl e1 e2 e3 hca hcb hpos
                go_wp2
                go_roundw
                case rel => exact ⟨k + 1, by omega, by go_num, HFR.out.congr (fun j _ => by rw [mid_next]; split; (rename_i e; subst e; rw [HRL.out]; unfold mid; rw [if_neg (by omega)]); rfl), HMK.out, HBL.out⟩
                case measure => simp [intOf]; omega
            · obtain rfl : k = i := by omega
              have hdij := HAT.out.dij.step ht hc0 han HDA.out HFA.out HM.out
              have HD2 := Lib.hid hdij
              have hfin : Far wr gf k (GP.relax c F a) := HFR.out.congr (fun j hj => by unfold mid; rw [if_pos hj])
              have HFIN := Lib.hid hfin
              have hund := GP.undone_step (d := D) (d' := fun j => if j = a then true else D j) a k han HDA.out (by simp) (fun j hj => by simp [hj])
              have HUN := Lib.hid hund
              clear hdij hfin hund
              go_wp2
              go_step3
              exact ⟨rfl, at_mk ⟨HMK.out, HFIN.out, HD2.out, HAT.out.gf0, HAT.out.gd0, HAT.out.ne, HBL.out⟩, Nat.lt_of_lt_of_eq (Nat.lt_of_le_of_lt (Nat.le_of_eq (left_mk HMK.out hn)) (Nat.lt_of_succ_le (Nat.le_of_eq HUN.out))) HL.out.symm⟩
  · have HR := Lib.hid hrest
    clear hrest
    have HLEN := Lib.hid hlen
    have hlw : (w.alloc (.cells #[.int .i64 65535] 3)).cell? ⟨g, 0, none⟩ = some (.int .i64 n) := later ((Below.refl _ _).alloc (Nat.le_refl _) _) hlen
    clear hlen
    have hrep := repeat_any w.heap.size 0 n 1 65535 (w.alloc (.cells #[.int .i64 65535] 3)) hn1 hn (by have := cell_one_new w (.int .i64 65535) 3 0 (.int .i64 65535) rfl; rwa [Addr.add_lit] at this)
    have HREP := Lib.hid hrep
    clear hrep
    go_upto_region 4 with (first
      | (go_at_call 54; refine (is_any g n c t w H.out).mono ?_; rintro e w' ⟨rfl, rfl⟩; rw [hok])
      | (go_at_call 55; refine (HREP.out).mono ?_; rintro e w1 ⟨rfl, hrow, hb1⟩; have HROW := Lib.hid hrow; have HB1 := Lib.hid hb1; clear hrow hb1))
    have hfree := HROW.out.free t
    have hcell := HROW.out.cell t (by simpa using ht)
    have t0 : (0 : Int) ≤ (t : Int) := by omega
    have tn : (t : Int) < (n : Int) := by omega
    have hlt1 := blk_lt HROW.out
    have hsz : (w.alloc (.cells #[.int .i64 65535] 3)).heap.size = w.heap.size + 1 := by simp
    have HBA := Lib.hid (((Below.refl w.heap.size w).alloc (Nat.le_refl _) (.cells #[.int .i64 65535] 3)).trans (HB1.out.mono (by simp)))
    rw [hsz] at hfree hcell hlt1
    have HROW2 := Lib.hid (show Row w1 (w.heap.size + 1) (List.replicate n 65535) by have := HROW.out; rw [hsz] at this; exact this)
    clear hsz
    go_upto_region 6 with fail
    have HF1 := Lib.hid (far_start (t := t) HROW2.out)
    have HB2 := Lib.hid (below_set HBA.out (p := ⟨w.heap.size + 1, t, none⟩) (Nat.le_succ _) (.int .i64 0))
    have hz2 : w.heap.size + 1 < (w1.setCell ⟨w.heap.size + 1, t, none⟩ (.int .i64 0)).heap.size := by simpa using hlt1
    have hzW : (w1.setCell ⟨w.heap.size + 1, t, none⟩ (.int .i64 0)).heap.size = w1.heap.size := by simp
    generalize w1.setCell ⟨w.heap.size + 1, t, none⟩ (.int .i64 0) = W at HF1 HB2 hz2 hzW ⊢
    rw [← hzW]
    have HMN := Lib.hid (marks_new W)
    have HB3 := Lib.hid (HB2.out.alloc HB2.out.size (.cells (Array.replicate 6 (.bool false)) 98))
    have HF3 := Lib.hid (HF1.out.keep ((Below.refl _ _).alloc (Nat.le_refl _) (.cells (Array.replicate 6 (.bool false)) 98)))
    go_step3
    rename_i K hK
    exact hK _ _ (HR.out _ _ (at_mk ⟨HMN.out, HF3.out, GP.Dij.start, Nat.le_succ _, HB2.out.size, Nat.ne_of_lt hz2, HB3.out⟩))
end GG
end Go.Proofs.Ytebkpjefdaieaaa
