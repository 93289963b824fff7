/-
  Package network: New. Conditions: those that each theorem names.
-/
import Derived.Test.YtebkpjefdaieaaaNet4
namespace Go.Proofs.Ytebkpjefdaieaaa
open Go.RowKit FR FP H2 OW
set_option linter.unusedVariables false
set_option linter.unusedSimpArgs false
namespace Net
open Eng GG
def ptrs (nb : Nat → Nat) (k : Nat) : List Value := (List.range k).map fun i => Value.pointer (some ⟨nb i, 0, none⟩)
theorem ptrs_succ (nb : Nat → Nat) (k b : Nat) : ptrs (fun i => if i = k then b else nb i) (k + 1) = ptrs nb k ++ [.pointer (some ⟨b, 0, none⟩)] := by
  unfold ptrs
  rw [List.range_succ, List.map_append]
  congr 1
  · apply List.map_congr_left
    intro i hi
    rw [List.mem_range] at hi
    dsimp only
    rw [if_neg (by omega)]
  · simp
theorem infoP : (Try.prog.info? 56).map (fun i => (i.zero, i.size, i.bytes)) = some (some (.pointer none), 1, 8) := by kernel_rfl
/-- a network without links -/
def NetV.new (n : Nat) : NetV := ⟨n, fun _ _ => 0, fun i => Eng.new i n, []⟩
/-- a network that is being made -/
structure Half (w0 w : World) (g b n k : Nat) (sv : Value) (nb : Nat → Nat) : Prop where
  blk : w.heap[b]? = some (.cells #[.pointer (some ⟨g, 0, none⟩), sv, .slice none 0 0] 55 (0, 0))
  row : w.ownsRow w0.heap.size 56 1 sv k (ptrs nb k)
  gr : IsG w g n (fun _ _ => 0)
  node : ∀ i, i < k → IsN w (nb i) (Eng.new i n) ∧ w0.heap.size ≤ nb i
  inj : ∀ i j, i < k → j < k → nb i = nb j → i = j
  bel : Below w0.heap.size w0 w
  lo : w0.heap.size ≤ b ∧ w0.heap.size ≤ g
theorem Half.below {w0 w w' : World} {g b n k : Nat} {sv : Value} {nb : Nat → Nat} (h : Half w0 w g b n k sv nb) (hb : Below w.heap.size w w') : Half w0 w' g b n k sv nb :=
  ⟨(hb.block b (blk_lt h.blk)).trans h.blk, own_keep h.row hb, GG.IsG.keep h.gr hb, fun i hi => ⟨(h.node i hi).1.keep hb, (h.node i hi).2⟩, h.inj, h.bel.trans (hb.mono h.bel.size), h.lo⟩
theorem Half.next {w0 w w1 : World} {g b n k bn : Nat} {sv v : Value} {nb : Nat → Nat} {o : Obj} (h : Half w0 w g b n k sv nb) (hn : IsN w bn (Eng.new k n)) (hbn : w0.heap.size ≤ bn) (hnew : ∀ i, i < k → nb i < bn)
    (ho : w1.ownsRow w0.heap.size 56 1 v (k + 1) (ptrs nb k ++ [.pointer (some ⟨bn, 0, none⟩)])) (hg : (w.alloc o).grownBy w1 sv.ownBlock) : Half w0 (w1.setCell ⟨b, 1, none⟩ v) g b n (k + 1) v (fun i => if i = k then bn else nb i) := by
  have hk : ∀ {i : Nat} {cs : Array Value} {t : TypeId} {fr : Nat × Nat}, w.heap[i]? = some (Obj.cells cs t fr) → t ≠ 56 → sv.ownBlock ≠ some i := fun h1 h2 => own_ne_blk h.row h1 (fun e => h2 e.symm)
  have ob := app_obj h.blk (hk h.blk (by decide)) hg
  have hs : ∀ {i : Nat} {cs : Array Value} {t : TypeId} {fr : Nat × Nat}, w1.heap[i]? = some (Obj.cells cs t fr) → t ≠ 55 → (w1.setCell ⟨b, 1, none⟩ v).heap[i]? = some (Obj.cells cs t fr) := fun {i cs t fr} h1 h2 =>
    (Only.setCell (Only.refl (fun i => i = b) w1) (p := ⟨b, 1, none⟩) (fun _ => rfl) v).obj h1 (fun e => by subst e; rw [ob] at h1; cases h1; exact h2 rfl)
  refine ⟨?_, ?_, ?_, fun i hi => ?_, fun i j hi hj => ?_, ?_, h.lo⟩
  · exact blk_set ob 1 v
  · rw [ptrs_succ]
    exact (Only.setCell (Only.refl (fun i => i = b) w1) (p := ⟨b, 1, none⟩) (fun _ => rfl) v).own ho (fun q hq e => by subst e; exact own_ne_blk ho ob (by decide) hq)
  · obtain ⟨⟨cs, h1, h2⟩, h3, h4⟩ := h.gr
    exact ⟨⟨cs, hs (t := 82) (app_obj h1 (hk h1 (by decide)) hg) (by decide), h2⟩, h3, h4⟩
  · by_cases e : i = k
    · subst e
      rw [if_pos rfl]
      obtain ⟨⟨cs, h1, h2⟩, h3, h4⟩ := hn
      exact ⟨⟨⟨cs, hs (t := 88) (app_obj h1 (hk h1 (by decide)) hg) (by decide), h2⟩, h3, h4⟩, hbn⟩
    · rw [if_neg e]
      obtain ⟨⟨⟨cs, h1, h2⟩, h3, h4⟩, h5⟩ := h.node i (by omega)
      exact ⟨⟨⟨cs, hs (t := 88) (app_obj h1 (hk h1 (by decide)) hg) (by decide), h2⟩, h3, h4⟩, h5⟩
  · by_cases e : i = k
    · subst e
      rw [if_pos rfl]
      by_cases e2 : j = i
      · subst e2; intro _; rfl
      · rw [if_neg e2]
        intro h1
        have := hnew j (by omega)
        omega
    · rw [if_neg e]
      by_cases e2 : j = k
      · subst e2
        rw [if_pos rfl]
        intro h1
        have := hnew i (by omega)
        omega
      · rw [if_neg e2]
        exact h.inj i j (by omega) (by omega)
  · have hb1 := OW.app_below h.bel h.row hg
    exact ((Only.refl (fun i => w0.heap.size ≤ i) w0).of_below hb1 |>.setCell (p := ⟨b, 1, none⟩) (fun _ => h.lo.1) v).below (Nat.le_refl _) (fun i hi e => by omega)
set_option maxRecDepth 100000 in
set_option maxHeartbeats 8000000 in
theorem new_any (n : Nat) (w : World) (h1 : 1 ≤ n) (h6 : n ≤ 6) : Calls Try.prog 11 #[.int .i64 n] w fun e w' => (∃ b ly, e = .returned (.tuple #[.pointer (some ⟨b, 0, none⟩), .int .i64 0]) ∧ IsNet w' w.heap.size b ly (NetV.new n)) ∧ Below w.heap.size w w' := by
  obtain ⟨i0, hi, hz0, hz1, hz2⟩ := info_parts infoP
  have HI := Lib.hid hi
  clear hi
  have HG := Lib.hid (GG.new_any (n : Int) w (by omega) (by omega))
  have HH : Half w ((w.alloc (.cells (#[Value.int .i64 n] ++ Array.replicate 36 (.int .i64 0)) 82)).alloc (.cells #[.pointer (some ⟨w.heap.size, 0, none⟩), .slice none 0 0, .slice none 0 0] 55)) w.heap.size (w.heap.size + 1) n 0 (.slice none 0 0) (fun _ => 0) := by
    refine ⟨?_, World.ownsRow_nil _ _ _ _, ?_, fun i hi => by omega, fun i j hi => by omega, ?_, by omega, by omega⟩
    · have := heap_alloc_new (w.alloc (.cells (#[Value.int .i64 n] ++ Array.replicate 36 (.int .i64 0)) 82)) (.cells #[.pointer (some ⟨w.heap.size, 0, none⟩), .slice none 0 0, .slice none 0 0] 55)
      simpa using this
    · exact GG.IsG.keep (GG.new_isG w n h1 h6) ((Below.refl _ _).alloc (Nat.le_refl _) _)
    · exact ((Below.refl _ _).alloc (Nat.le_refl _) _).alloc (by simp) _
  have HH := Lib.hid HH
  have k1 : (1 : Int) ≤ (n : Int) := by omega
  have k6 : (n : Int) ≤ 6 := by omega
  go_enter Try.func11, Try.ntmps11
  go_upto_region 4 with (go_at_call 26; (with_reducible refine (HG.out).mono ?_); rintro e w1 ⟨rfl, rfl⟩)
  go_upto_region 6 with fail
  generalize (w.alloc _).alloc _ = W at HH ⊢
  go_loopw [22] (fun s22 wr => ∃ (k : Nat) (sv : Value) (nb : Nat → Nat), k ≤ n ∧ s22 = .int .i64 k ∧ Half w wr w.heap.size (w.heap.size + 1) n k sv nb) (fun s22 _ => n - (intOf s22).toNat)
  case atStart => exact ⟨0, _, _, by omega, rfl, HH.out⟩
  case round =>
    obtain ⟨k, sv, nb, hk, rfl, hh⟩ := hrel
    have HW := Lib.hid hh
    clear hh HH
    by_cases hlt : k < n
    · have hlt' : (k : Int) < (n : Int) := by omega
      have k0 : (0 : Int) ≤ (k : Int) := by omega
      have HN := Lib.hid (Eng.new_any k n wr hlt h6)
      go_upto_region 11 with (go_at_call 27; (with_reducible refine (HN.out).mono ?_); rintro e w2 ⟨⟨bn, rfl, hn2, hb2, hl2⟩, hbel⟩; have N2 := Lib.hid hn2; have B2 := Lib.hid hb2; have HW2 := Lib.hid (HW.out.below hbel); clear hn2 hb2 hbel)
      obtain ⟨A, c, rfl⟩ := own_slice HW.out.row
      have y1 : w2.cell? ⟨w.heap.size + 1, 1, none⟩ = some (.slice A k c) := by rw [blk_cell HW2.out.blk]; rfl
      have hz : w.heap.size + 1 < w2.heap.size := blk_lt HW2.out.blk
      go_wp2_with (at_builtin; refine wpList_append_lies _ rfl (.tmp 38) (.tmp 40) 52 rfl w.heap.size 56 i0 _ 1 8 Try.underlying52 HI.out hz0 hz1 hz2 rfl (by omega) (.slice A k c) k _ rfl (HW2.out.row.alloc _) ⟨w2.heap.size, 0, none⟩ 1 1 [.pointer (some ⟨bn, 0, none⟩)] rfl rfl (cell_one_new _ _ _) (by simp [Value.oneCell']) (by omega) (by unfold maxLen; omega) (by omega) (by have := HW2.out.bel.size; simp; omega) (w2.heap.size + 1) (by simp) ?_; intro g2 cap2 w8 hown1 hgrow1 hat1 hlt1; have HO2 := Lib.hid hown1; have HG2 := Lib.hid hgrow1; have z1 := blk_cell (app_obj HW2.out.blk (own_ne_blk HW2.out.row HW2.out.blk (by decide)) hgrow1) 1; have z2 := blk_free (app_obj HW2.out.blk (own_ne_blk HW2.out.row HW2.out.blk (by decide)) hgrow1) 1; have hz8 : w.heap.size + 1 < w8.heap.size := (by have := app_size hgrow1; omega); clear hown1 hgrow1 hat1 hlt1 y1 hz)
      go_roundw
      case rel => exact ⟨k + 1, _, _, by omega, by go_num, HW2.out.next N2.out (by have := B2.out; have := HW.out.bel.size; omega) (fun i hi => by have := blk_lt (HW.out.node i hi).1.blk.choose_spec.1; have := B2.out; omega) HO2.out HG2.out⟩
      case measure => simp [intOf]; omega
    · obtain rfl : k = n := by omega
      go_wp2
      go_ret2
      obtain ⟨gn, cap, rfl, hgn, hcap, hgl⟩ := own_form HW.out.row (by omega)
      refine ⟨⟨_, ⟨w.heap.size, gn, cap, nb⟩, rfl, ⟨h1, h6, HW.out.gr, good_zero, ?_, fun i hi => (HW.out.node i hi).1, HW.out.inj, fun i hi => ⟨wf_new i k, rfl, rfl⟩, ⟨_, HW.out.blk, World.ownsRow_nil _ _ _ _⟩, fun v hv => (by cases hv), ⟨HW.out.lo.1, HW.out.lo.2, hgn, fun i hi => (HW.out.node i hi).2, HW.out.bel.size⟩⟩⟩, HW.out.bel⟩
      rcases HW.out.row.2 with ⟨h3, _⟩ | ⟨g', cap', cur, h3, _, hh, _, _, _, ht⟩
      · cases h3
      · cases h3
        refine ⟨cur, hh, fun i hi => ?_⟩
        have hi : i < k := hi
        have e : (ptrs nb k)[i]? = some (.pointer (some ⟨nb i, 0, none⟩)) := by simp [ptrs, hi]
        rw [← ht, List.getElem?_take] at e
        split at e
        · rw [← Array.getElem?_toList]; exact e
        · cases e
set_option maxHeartbeats 1600000 in
theorem new_bad (n : Int) (w : World) (h : n < 1 ∨ 6 < n) : Calls Try.prog 11 #[.int .i64 n] w fun e w' => e = .returned (.tuple #[.pointer none, .int .i64 1]) ∧ w = w' := by
  have HG := Lib.hid (GG.new_bad n w h)
  clear h
  go_enter Try.func11, Try.ntmps11
  go_wp2_with (go_at_call 26; (with_reducible refine (HG.out).mono ?_); rintro e w1 ⟨rfl, rfl⟩)
  go_ret2
  exact ⟨rfl, rfl⟩
end Net
end Go.Proofs.Ytebkpjefdaieaaa
