/-
  Package network: Do. Conditions: those that each theorem names.
-/
import Derived.Test.YtebkpjefdaieaaaNetC
import Derived.Laws.EntriesVeiled
namespace Go.Proofs.Ytebkpjefdaieaaa
open Go.RowKit FR FP H2 OW
set_option linter.unusedVariables false
set_option linter.unusedSimpArgs false
namespace Net
open Eng GG
/-- what an act answers, and what it makes of a network -/
def DoR (S : NetV) (k a b n : Int) (e : Int) (S' : NetV) : Prop :=
  if k = 1 then e = GG.lnk S.n a b n ∧ S' = (if GG.lnk S.n a b n = 0 then S.link a.toNat b.toNat n else S) else
  if k = 3 ∨ k = 4 ∨ k = 5 then (if S.m.length = 0 then e = 8 ∧ S' = S else e = 0 ∧ ∃ v, S.m[whichM n S.m.length]? = some v ∧ S' = (if k = 3 then ({ S with m := S.m.eraseIdx (whichM n S.m.length) } : NetV).hear v else if k = 4 then { S with m := S.m.eraseIdx (whichM n S.m.length) } else S.hear v)) else
  if k = 2 ∨ k = 6 ∨ k = 7 then (if GG.ok S.n a = true then (if k = 2 then (if 300 < S.m.length + (nbl S.c a.toNat S.n).length then e = 7 ∧ S' = S else e = 0 ∧ ∃ ms, IsMsgs (S.x a.toNat) a.toNat (nbl S.c a.toNat S.n) ms ∧ S' = S.ticked a.toNat (nbl S.c a.toNat S.n) ms)
    else if k = 6 then e = freshv (S.x a.toNat) ∧ S' = S.upd a.toNat (Net.fresh (S.x a.toNat)) else e = 0 ∧ S' = S.upd a.toNat (S.x a.toNat).clear) else e = 2 ∧ S' = S) else
  e = 1 ∧ S' = S
/-- the world in which an act is looked at -/
def doW (w : World) (b : Nat) (k a c n : Int) : World :=
  (((w.alloc (.cells #[.pointer (some ⟨b, 0, none⟩)] 26)).alloc (.cells #[.int .i64 k, .int .i64 a, .int .i64 c, .int .i64 n] 33)).alloc (.cells #[fnHear w.heap.size] 61)).alloc (.cells #[fnLose w.heap.size] 61)
structure DoF (w W : World) (b : Nat) (k a c n : Int) : Prop where
  bel : Below w.heap.size w W
  box : Box W w.heap.size b
  a0 : W.cell? ⟨w.heap.size + 1, 0, none⟩ = some (.int .i64 k)
  a1 : W.cell? ⟨w.heap.size + 1, 1, none⟩ = some (.int .i64 a)
  a2 : W.cell? ⟨w.heap.size + 1, 2, none⟩ = some (.int .i64 c)
  a3 : W.cell? ⟨w.heap.size + 1, 3, none⟩ = some (.int .i64 n)
  fh : FBox W (w.heap.size + 1 + 1) (fnHear w.heap.size)
  fl : FBox W (w.heap.size + 1 + 1 + 1) (fnLose w.heap.size)
theorem doF (w : World) (b : Nat) (k a c n : Int) : DoF w (doW w b k a c n) b k a c n := by
  have h1 := heap_alloc_new w (.cells #[.pointer (some ⟨b, 0, none⟩)] 26)
  have h2 := heap_alloc_new (w.alloc (.cells #[.pointer (some ⟨b, 0, none⟩)] 26)) (.cells #[.int .i64 k, .int .i64 a, .int .i64 c, .int .i64 n] 33)
  have h3 := heap_alloc_new ((w.alloc (.cells #[.pointer (some ⟨b, 0, none⟩)] 26)).alloc (.cells #[.int .i64 k, .int .i64 a, .int .i64 c, .int .i64 n] 33)) (.cells #[fnHear w.heap.size] 61)
  have h4 := heap_alloc_new (((w.alloc (.cells #[.pointer (some ⟨b, 0, none⟩)] 26)).alloc (.cells #[.int .i64 k, .int .i64 a, .int .i64 c, .int .i64 n] 33)).alloc (.cells #[fnHear w.heap.size] 61)) (.cells #[fnLose w.heap.size] 61)
  have s1 : (w.alloc (.cells #[.pointer (some ⟨b, 0, none⟩)] 26)).heap.size = w.heap.size + 1 := by simp
  have s2 : ((w.alloc (.cells #[.pointer (some ⟨b, 0, none⟩)] 26)).alloc (.cells #[.int .i64 k, .int .i64 a, .int .i64 c, .int .i64 n] 33)).heap.size = w.heap.size + 1 + 1 := by simp
  have s3 : (((w.alloc (.cells #[.pointer (some ⟨b, 0, none⟩)] 26)).alloc (.cells #[.int .i64 k, .int .i64 a, .int .i64 c, .int .i64 n] 33)).alloc (.cells #[fnHear w.heap.size] 61)).heap.size = w.heap.size + 1 + 1 + 1 := by simp
  have hB := ((Below.refl w.heap.size w).alloc (Nat.le_refl _) (.cells #[.pointer (some ⟨b, 0, none⟩)] 26))
  have up : ∀ {w : World} {i : Nat} {o o' : Obj}, w.heap[i]? = some o' → (w.alloc o).heap[i]? = some o' := fun {w i o o'} h => (Below.heap_alloc w o i (blk_lt h)).trans h
  rw [s1] at h2
  rw [s2] at h3
  rw [s3] at h4
  have g2 : (doW w b k a c n).heap[w.heap.size + 1]? = some (.cells #[.int .i64 k, .int .i64 a, .int .i64 c, .int .i64 n] 33 (0, 0)) := up (up h2)
  exact ⟨(((hB.alloc (by simp) _).alloc (by simp; omega) _).alloc (by simp; omega) _), up (up (up h1)), by rw [blk_cell g2]; rfl, by rw [blk_cell g2]; rfl, by rw [blk_cell g2]; rfl, by rw [blk_cell g2]; rfl, up h3, h4⟩
set_option maxRecDepth 1000000 in
set_option maxHeartbeats 8000000 in
theorem do_link {base b : Nat} {ly : Lay} {S : NetV} (a c n : Int) (w : World) (h : IsNet w base b ly S) : Calls Try.prog 13 #[.pointer (some ⟨b, 0, none⟩), .agg #[.int .i64 1, .int .i64 a, .int .i64 c, .int .i64 n]] w fun e w' => ∃ x S', e = .returned (.int .i64 x) ∧ DoR S 1 a c n x S' ∧ IsNet w' base b ly S' ∧ After base w w' := by
  by_cases hl : GG.lnk S.n a c n = 0
  · have hk : (GG.ok S.n a = true ∧ GG.ok S.n c = true ∧ a ≠ c) ∧ ¬ (n < 0 ∨ 1000 < n) := by
      have hl := hl
      unfold GG.lnk at hl
      split at hl
      · rename_i h1
        split at hl
        · cases hl
        · rename_i h2; exact ⟨h1, h2⟩
      · cases hl
    obtain ⟨⟨h1, h2, h3⟩, h4⟩ := hk
    have hr := fun S' (e : S' = S.link a.toNat c.toNat n) => (show DoR S 1 a c n 0 S' by unfold DoR; rw [if_pos rfl, if_pos hl, hl]; exact ⟨rfl, e⟩)
    obtain ⟨i, rfl, hi⟩ := ok_nat h1
    obtain ⟨j, rfl, hj⟩ := ok_nat h2
    have HR := Lib.hid (hr (S.link i j n) rfl)
    have hij : i ≠ j := fun e => h3 (by rw [e])
    have HL := Lib.hid (fun (w1 : World) (hn : IsNet w1 base b ly S) => link_ok w1 hn i j hi hj hij n (by omega) (by omega))
    clear hl h1 h2 h3 h4 hr hij
    have D := doF w b 1 i j n
    have H := Lib.hid (h.below D.bel)
    have A0 := Lib.hid (h.after_below D.bel)
    have HX := Lib.hid D
    clear h D
    go_enter Try.func13, Try.ntmps13
    go_upto_region 8 with fail
    change Code.wp _ _ _ _ (doW w b 1 i j n)
    generalize doW w b 1 i j n = W at H A0 HX ⊢
    have x0 := HX.out.box.cell
    have a0 := HX.out.a0
    have a1 := HX.out.a1
    have a2 := HX.out.a2
    have a3 := HX.out.a3
    go_wp2_with (go_at_call 31; (with_reducible refine (HL.out W H.out).mono ?_); rintro e w5 ⟨rfl, hn5, ha5⟩; have N5 := Lib.hid hn5; have A5 := Lib.hid ha5; clear hn5 ha5)
    go_ret
    exact ⟨_, _, rfl, HR.out, N5.out, A0.out.trans A5.out⟩
  · have HR := Lib.hid (show DoR S 1 a c n (GG.lnk S.n a c n) S by unfold DoR; rw [if_pos rfl, if_neg hl]; exact ⟨rfl, rfl⟩)
    have HL := Lib.hid (fun (w1 : World) (hn : IsNet w1 base b ly S) => link_bad w1 hn a c n hl)
    generalize GG.lnk S.n a c n = z at HR HL hl
    clear hl
    have D := doF w b 1 a c n
    have H := Lib.hid (h.below D.bel)
    have A0 := Lib.hid (h.after_below D.bel)
    have HX := Lib.hid D
    clear h D
    go_enter Try.func13, Try.ntmps13
    go_upto_region 8 with fail
    change Code.wp _ _ _ _ (doW w b 1 a c n)
    generalize doW w b 1 a c n = W at H A0 HX ⊢
    have x0 := HX.out.box.cell
    have a0 := HX.out.a0
    have a1 := HX.out.a1
    have a2 := HX.out.a2
    have a3 := HX.out.a3
    go_wp2_with (go_at_call 31; (with_reducible refine (HL.out W H.out).mono ?_); rintro e w5 ⟨rfl, rfl⟩)
    go_ret
    exact ⟨_, _, rfl, HR.out, H.out, A0.out⟩
set_option maxRecDepth 1000000 in
set_option maxHeartbeats 8000000 in
theorem do_bring {base b : Nat} {ly : Lay} {S : NetV} (a c n : Int) (w : World) (h : IsNet w base b ly S) (hm : S.m.length ≤ 300) : Calls Try.prog 13 #[.pointer (some ⟨b, 0, none⟩), .agg #[.int .i64 3, .int .i64 a, .int .i64 c, .int .i64 n]] w fun e w' => ∃ x S', e = .returned (.int .i64 x) ∧ DoR S 3 a c n x S' ∧ IsNet w' base b ly S' ∧ After base w w' := by
  by_cases h0 : S.m.length = 0
  · have HR := Lib.hid (show DoR S 3 a c n 8 S by unfold DoR; rw [if_neg (by decide), if_pos (by decide), if_pos h0]; exact ⟨rfl, rfl⟩)
    have HL := Lib.hid (fun (w1 : World) (fn : Value) (hn : IsNet w1 base b ly S) => with_none n fn w1 hn h0)
    clear h0
    have D := doF w b 3 a c n
    have H := Lib.hid (h.below D.bel)
    have A0 := Lib.hid (h.after_below D.bel)
    have HX := Lib.hid D
    clear h D
    go_enter Try.func13, Try.ntmps13
    go_upto_region 10 with fail
    change Code.wp _ _ _ _ (doW w b 3 a c n)
    generalize doW w b 3 a c n = W at H A0 HX ⊢
    have x0 := HX.out.box.cell
    have a0 := HX.out.a0
    have a1 := HX.out.a1
    have a2 := HX.out.a2
    have a3 := HX.out.a3
    skip
    go_wp2_with (go_at_call 32; (with_reducible refine (HL.out W _ H.out).mono ?_); rintro e w5 ⟨rfl, rfl⟩)
    go_ret
    exact ⟨_, _, rfl, HR.out, H.out, A0.out⟩
  · have hm0 : 0 < S.m.length := Nat.pos_of_ne_zero h0
    have hk := (whichM_lt n hm0).1
    have hr := fun S' v (hv : S.m[whichM n S.m.length]? = some v) (e : S' = ({ S with m := S.m.eraseIdx (whichM n S.m.length) } : NetV).hear v) => (show DoR S 3 a c n 0 S' by unfold DoR; rw [if_neg (by decide), if_pos (by decide), if_neg h0]; exact ⟨rfl, v, hv, e⟩)
    have HR := Lib.hid (hr _ (S.m[whichM n S.m.length]) (List.getElem?_eq_getElem hk) rfl)
    have hl := fun (w1 : World) (xb : Nat) (lb hb : Nat) (hn : IsNet w1 base b ly S) (hx : Box w1 xb b) (hl : FBox w1 lb (fnLose xb)) (hh : FBox w1 hb (fnHear xb)) => with_both n w1 hn hx hl hh hm0 hm _ hk rfl
    unfold fnBoth at hl
    have HL := Lib.hid hl
    clear h0 hr hl
    have D := doF w b 3 a c n
    have H := Lib.hid (h.below D.bel)
    have A0 := Lib.hid (h.after_below D.bel)
    have HX := Lib.hid D
    clear h D
    go_enter Try.func13, Try.ntmps13
    go_upto_region 10 with fail
    change Code.wp _ _ _ _ (doW w b 3 a c n)
    generalize doW w b 3 a c n = W at H A0 HX ⊢
    have x0 := HX.out.box.cell
    have a0 := HX.out.a0
    have a1 := HX.out.a1
    have a2 := HX.out.a2
    have a3 := HX.out.a3
    skip
    go_wp2_with (go_at_call 32; (with_reducible refine (HL.out W _ _ _ H.out HX.out.box HX.out.fl HX.out.fh).mono ?_); rintro e w5 ⟨rfl, hn5, ha5⟩; have N5 := Lib.hid hn5; have A5 := Lib.hid ha5; clear hn5 ha5)
    go_ret
    exact ⟨_, _, rfl, HR.out, N5.out, A0.out.trans A5.out⟩
set_option maxRecDepth 1000000 in
set_option maxHeartbeats 8000000 in
theorem do_lose {base b : Nat} {ly : Lay} {S : NetV} (a c n : Int) (w : World) (h : IsNet w base b ly S) (hm : S.m.length ≤ 300) : Calls Try.prog 13 #[.pointer (some ⟨b, 0, none⟩), .agg #[.int .i64 4, .int .i64 a, .int .i64 c, .int .i64 n]] w fun e w' => ∃ x S', e = .returned (.int .i64 x) ∧ DoR S 4 a c n x S' ∧ IsNet w' base b ly S' ∧ After base w w' := by
  by_cases h0 : S.m.length = 0
  · have HR := Lib.hid (show DoR S 4 a c n 8 S by unfold DoR; rw [if_neg (by decide), if_pos (by decide), if_pos h0]; exact ⟨rfl, rfl⟩)
    have HL := Lib.hid (fun (w1 : World) (fn : Value) (hn : IsNet w1 base b ly S) => with_none n fn w1 hn h0)
    clear h0
    have D := doF w b 4 a c n
    have H := Lib.hid (h.below D.bel)
    have A0 := Lib.hid (h.after_below D.bel)
    have HX := Lib.hid D
    clear h D
    go_enter Try.func13, Try.ntmps13
    go_upto_region 12 with fail
    change Code.wp _ _ _ _ (doW w b 4 a c n)
    generalize doW w b 4 a c n = W at H A0 HX ⊢
    have x0 := HX.out.box.cell
    have a0 := HX.out.a0
    have a1 := HX.out.a1
    have a2 := HX.out.a2
    have a3 := HX.out.a3
    (have f0 := HX.out.fl.cell; unfold fnLose at f0)
    go_wp2_with (go_at_call 32; (with_reducible refine (HL.out W _ H.out).mono ?_); rintro e w5 ⟨rfl, rfl⟩)
    go_ret
    exact ⟨_, _, rfl, HR.out, H.out, A0.out⟩
  · have hm0 : 0 < S.m.length := Nat.pos_of_ne_zero h0
    have hk := (whichM_lt n hm0).1
    have hr := fun S' v (hv : S.m[whichM n S.m.length]? = some v) (e : S' = { S with m := S.m.eraseIdx (whichM n S.m.length) }) => (show DoR S 4 a c n 0 S' by unfold DoR; rw [if_neg (by decide), if_pos (by decide), if_neg h0]; exact ⟨rfl, v, hv, e⟩)
    have HR := Lib.hid (hr _ (S.m[whichM n S.m.length]) (List.getElem?_eq_getElem hk) rfl)
    have hl := fun (w1 : World) (xb : Nat)  (hn : IsNet w1 base b ly S) (hx : Box w1 xb b)  => with_lose n w1 hn hx hm0 hm _ hk rfl
    unfold fnLose at hl
    have HL := Lib.hid hl
    clear h0 hr hl
    have D := doF w b 4 a c n
    have H := Lib.hid (h.below D.bel)
    have A0 := Lib.hid (h.after_below D.bel)
    have HX := Lib.hid D
    clear h D
    go_enter Try.func13, Try.ntmps13
    go_upto_region 12 with fail
    change Code.wp _ _ _ _ (doW w b 4 a c n)
    generalize doW w b 4 a c n = W at H A0 HX ⊢
    have x0 := HX.out.box.cell
    have a0 := HX.out.a0
    have a1 := HX.out.a1
    have a2 := HX.out.a2
    have a3 := HX.out.a3
    (have f0 := HX.out.fl.cell; unfold fnLose at f0)
    go_wp2_with (go_at_call 32; (with_reducible refine (HL.out W _ H.out HX.out.box).mono ?_); rintro e w5 ⟨rfl, hn5, ha5⟩; have N5 := Lib.hid hn5; have A5 := Lib.hid ha5; clear hn5 ha5)
    go_ret
    exact ⟨_, _, rfl, HR.out, N5.out, A0.out.trans A5.out⟩
set_option maxRecDepth 1000000 in
set_option maxHeartbeats 8000000 in
theorem do_again {base b : Nat} {ly : Lay} {S : NetV} (a c n : Int) (w : World) (h : IsNet w base b ly S) (hm : S.m.length ≤ 300) : Calls Try.prog 13 #[.pointer (some ⟨b, 0, none⟩), .agg #[.int .i64 5, .int .i64 a, .int .i64 c, .int .i64 n]] w fun e w' => ∃ x S', e = .returned (.int .i64 x) ∧ DoR S 5 a c n x S' ∧ IsNet w' base b ly S' ∧ After base w w' := by
  by_cases h0 : S.m.length = 0
  · have HR := Lib.hid (show DoR S 5 a c n 8 S by unfold DoR; rw [if_neg (by decide), if_pos (by decide), if_pos h0]; exact ⟨rfl, rfl⟩)
    have HL := Lib.hid (fun (w1 : World) (fn : Value) (hn : IsNet w1 base b ly S) => with_none n fn w1 hn h0)
    clear h0
    have D := doF w b 5 a c n
    have H := Lib.hid (h.below D.bel)
    have A0 := Lib.hid (h.after_below D.bel)
    have HX := Lib.hid D
    clear h D
    go_enter Try.func13, Try.ntmps13
    go_upto_region 14 with fail
    change Code.wp _ _ _ _ (doW w b 5 a c n)
    generalize doW w b 5 a c n = W at H A0 HX ⊢
    have x0 := HX.out.box.cell
    have a0 := HX.out.a0
    have a1 := HX.out.a1
    have a2 := HX.out.a2
    have a3 := HX.out.a3
    (have f0 := HX.out.fh.cell; unfold fnHear at f0)
    go_wp2_with (go_at_call 32; (with_reducible refine (HL.out W _ H.out).mono ?_); rintro e w5 ⟨rfl, rfl⟩)
    go_ret
    exact ⟨_, _, rfl, HR.out, H.out, A0.out⟩
  · have hm0 : 0 < S.m.length := Nat.pos_of_ne_zero h0
    have hk := (whichM_lt n hm0).1
    have hr := fun S' v (hv : S.m[whichM n S.m.length]? = some v) (e : S' = S.hear v) => (show DoR S 5 a c n 0 S' by unfold DoR; rw [if_neg (by decide), if_pos (by decide), if_neg h0]; exact ⟨rfl, v, hv, e⟩)
    have HR := Lib.hid (hr _ (S.m[whichM n S.m.length]) (List.getElem?_eq_getElem hk) rfl)
    have hl := fun (w1 : World) (xb : Nat)  (hn : IsNet w1 base b ly S) (hx : Box w1 xb b)  => with_hear n w1 hn hx hm0 hm _ hk rfl
    unfold fnHear at hl
    have HL := Lib.hid hl
    clear h0 hr hl
    have D := doF w b 5 a c n
    have H := Lib.hid (h.below D.bel)
    have A0 := Lib.hid (h.after_below D.bel)
    have HX := Lib.hid D
    clear h D
    go_enter Try.func13, Try.ntmps13
    go_upto_region 14 with fail
    change Code.wp _ _ _ _ (doW w b 5 a c n)
    generalize doW w b 5 a c n = W at H A0 HX ⊢
    have x0 := HX.out.box.cell
    have a0 := HX.out.a0
    have a1 := HX.out.a1
    have a2 := HX.out.a2
    have a3 := HX.out.a3
    (have f0 := HX.out.fh.cell; unfold fnHear at f0)
    go_wp2_with (go_at_call 32; (with_reducible refine (HL.out W _ H.out HX.out.box).mono ?_); rintro e w5 ⟨rfl, hn5, ha5⟩; have N5 := Lib.hid hn5; have A5 := Lib.hid ha5; clear hn5 ha5)
    go_ret
    exact ⟨_, _, rfl, HR.out, N5.out, A0.out.trans A5.out⟩
end Net
end Go.Proofs.Ytebkpjefdaieaaa
