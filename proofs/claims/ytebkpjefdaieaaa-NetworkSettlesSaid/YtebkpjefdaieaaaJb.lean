/-
  Joined texts: Eng1 Eng2 Eng3 Eng4 Eng5 Eng6 Eng7 Eng8 Eng9 EngP. Conditions: those that each theorem names.
-/
import Derived.Test.YtebkpjefdaieaaaJa
import Derived.Deep.DeepCutAuto
import Derived.Deep.CutBlock
import Derived.Deep.QuietTactic
import Derived.BigQuiet
import Derived.ProofKit
import Derived.IntWalk
/-
  Package engine: a node in memory; what its small methods return. Conditions: those that each theorem names.
-/
namespace Go.Proofs.Ytebkpjefdaieaaa
open Go.RowKit FR FP
set_option linter.unusedVariables false
set_option linter.unusedSimpArgs false
namespace Eng
open Feas
/-- a node: id of n; what links cost (metric, number), what was heard (by goal, by neighbour), what was told, its number -/
structure St where
  id : Nat
  n : Nat
  cost : Nat → Int × Int
  inn : Nat → Nat → Int × Int
  told : Nat → Int × Int
  seq : Int
abbrev dp (p : Int × Int) : Value := dv p.1 p.2
/-- what cell k holds -/
def St.val (s : St) (k : Nat) : Value :=
  if k = 0 then .int .i64 s.id else if k = 1 then .int .i64 s.n else if k < 8 then dp (s.cost (k - 2)) else
  if k < 44 then dp (s.inn ((k - 8) / 6) ((k - 8) % 6)) else if k < 50 then dp (s.told (k - 44)) else .int .u32 s.seq
/-- a node in block b -/
structure IsN (w : World) (b : Nat) (s : St) : Prop where
  blk : ∃ cs, w.heap[b]? = some (.cells cs 88 (0, 0)) ∧ cs.size = 51 ∧ ∀ k, k < 51 → cs[k]? = some (s.val k)
  id : s.id < s.n
  n6 : s.n ≤ 6
theorem IsN.cell {w : World} {b : Nat} {s : St} (h : IsN w b s) (k : Nat) (hk : k < 51) : w.cell? ⟨b, k, none⟩ = some (s.val k) := by
  obtain ⟨cs, hb, _, hc⟩ := h.blk
  rw [blk_cell hb k, hc k hk]
theorem IsN.free {w : World} {b : Nat} {s : St} (h : IsN w b s) (k : Nat) : w.frozen? ⟨b, k, none⟩ = false := by
  obtain ⟨cs, hb, _⟩ := h.blk
  exact blk_free hb k
theorem IsN.cid {w : World} {b : Nat} {s : St} (h : IsN w b s) : w.cell? ⟨b, 0, none⟩ = some (.int .i64 s.id) := h.cell 0 (by omega)
theorem IsN.cn {w : World} {b : Nat} {s : St} (h : IsN w b s) : w.cell? ⟨b, 1, none⟩ = some (.int .i64 s.n) := h.cell 1 (by omega)
theorem IsN.ccost {w : World} {b : Nat} {s : St} (h : IsN w b s) {i : Nat} (hi : i < 6) : w.cell? ⟨b, 2 + i, none⟩ = some (dp (s.cost i)) := by
  rw [h.cell (2 + i) (by omega), St.val, if_neg (by omega), if_neg (by omega), if_pos (by omega), Nat.add_sub_cancel_left]
theorem IsN.cinn {w : World} {b : Nat} {s : St} (h : IsN w b s) {d i : Nat} (hd : d < 6) (hi : i < 6) : w.cell? ⟨b, 8 + d * 6 + i, none⟩ = some (dp (s.inn d i)) := by
  rw [h.cell (8 + d * 6 + i) (by omega), St.val, if_neg (by omega), if_neg (by omega), if_neg (by omega), if_pos (by omega), show (8 + d * 6 + i - 8) / 6 = d by omega, show (8 + d * 6 + i - 8) % 6 = i by omega]
theorem IsN.ctold {w : World} {b : Nat} {s : St} (h : IsN w b s) {d : Nat} (hd : d < 6) : w.cell? ⟨b, 44 + d, none⟩ = some (dp (s.told d)) := by
  rw [h.cell (44 + d) (by omega), St.val, if_neg (by omega), if_neg (by omega), if_neg (by omega), if_neg (by omega), if_pos (by omega), Nat.add_sub_cancel_left]
theorem IsN.cseq {w : World} {b : Nat} {s : St} (h : IsN w b s) : w.cell? ⟨b, 50, none⟩ = some (.int .u32 s.seq) := h.cell 50 (by omega)
theorem IsN.keep {w w' : World} {b : Nat} {s : St} (h : IsN w b s) (hb : Below w.heap.size w w') : IsN w' b s := by
  obtain ⟨⟨cs, h1, h2⟩, h3, h4⟩ := h
  exact ⟨⟨cs, (hb.block b (blk_lt h1)).trans h1, h2⟩, h3, h4⟩
theorem IsN.drew {w : World} {b : Nat} {s : St} (h : IsN w b s) : IsN w.drew b s := ⟨h.blk, h.id, h.n6⟩
/-- one cell turned -/
theorem IsN.set {w : World} {b : Nat} {s s' : St} (h : IsN w b s) (k : Nat) (v : Value) (hk : k < 51) (hv : s'.val k = v) (ho : ∀ j, j < 51 → j ≠ k → s'.val j = s.val j) (hid : s'.id < s'.n) (hn : s'.n ≤ 6) : IsN (w.setCell ⟨b, k, none⟩ v) b s' := by
  obtain ⟨⟨cs, h1, h2, h3⟩, h4, h5⟩ := h
  refine ⟨⟨cs.setIfInBounds k v, blk_set h1 k v, by simpa using h2, fun j hj => ?_⟩, hid, hn⟩
  rw [Array.getElem?_setIfInBounds]
  by_cases e : k = j
  · subst e; rw [if_pos rfl, if_pos (by omega), hv]
  · rw [if_neg e, h3 j hj, ho j hj (fun h => e h.symm)]
/-- is it another node? -/
def oth (s : St) (i : Int) : Bool := decide (0 ≤ i) && decide (i < s.n) && !(i == (s.id : Int))
theorem oth_nat {s : St} {i : Int} (h : oth s i = true) : ∃ k : Nat, i = k ∧ k < s.n ∧ k ≠ s.id := by
  simp [oth] at h
  exact ⟨i.toNat, by omega, by omega, by omega⟩
set_option maxRecDepth 100000 in
set_option maxHeartbeats 1600000 in
theorem check_any (b : Nat) (s : St) (i : Int) (w : World) (h : IsN w b s) : Calls Try.prog 64 #[.pointer (some ⟨b, 0, none⟩), .int .i64 i] w fun e w' => e = .returned (.int .i64 (if oth s i = true then 0 else 2)) ∧ w = w' := by
  have c0 := h.cid
  have c1 := h.cn
  clear h
  by_cases h0 : i < 0
  · have e : oth s i = false := by simp [oth]; omega
    rw [e]
    go_enter Try.func64, Try.ntmps64
    go_wp2
    go_ret
    exact ⟨rfl, rfl⟩
  · by_cases h1 : (s.n : Int) ≤ i
    · have e : oth s i = false := by simp [oth]; omega
      rw [e]
      go_enter Try.func64, Try.ntmps64
      go_wp2
      go_ret
      exact ⟨rfl, rfl⟩
    · by_cases h2 : i = (s.id : Int)
      · have e : oth s i = false := by simp [oth, h2]
        have h2' : (i == (s.id : Int)) = true := by simp [h2]
        rw [e]
        clear h2
        go_enter Try.func64, Try.ntmps64
        go_wp2
        go_ret
        exact ⟨rfl, rfl⟩
      · have h2' : (i == (s.id : Int)) = false := by simp [h2]
        have e : oth s i = true := by simp [oth, h2']; omega
        rw [e]
        clear h2
        go_enter Try.func64, Try.ntmps64
        go_wp2
        go_ret
        exact ⟨rfl, rfl⟩
set_option maxHeartbeats 1600000 in
theorem check_nil (i : Int) (w : World) : Calls Try.prog 64 #[.pointer none, .int .i64 i] w fun e w' => e = .returned (.int .i64 10) ∧ w = w' := by
  go_enter Try.func64, Try.ntmps64
  go_wp2
  go_ret
  exact ⟨rfl, rfl⟩
end Eng
end Go.Proofs.Ytebkpjefdaieaaa

/-
  Package engine: up, Told, Fresh, none, Restart. Conditions: those that each theorem names.
-/
namespace Go.Proofs.Ytebkpjefdaieaaa
open Go.RowKit FR FP
set_option linter.unusedVariables false
set_option linter.unusedSimpArgs false
namespace Eng
open Feas
/-- distances that a node may hold -/
structure Wf (s : St) : Prop where
  cost : ∀ i, 0 ≤ (s.cost i).1 ∧ (s.cost i).1 ≤ 1000 ∧ (s.cost i).2 = 0
  inn : ∀ d i, (0 ≤ (s.inn d i).1 ∧ (s.inn d i).1 ≤ 65535) ∧ Sm (s.inn d i).2
  told : ∀ d, (0 ≤ (s.told d).1 ∧ (s.told d).1 ≤ 65535) ∧ Sm (s.told d).2
  seq : Sm s.seq
/-- what is wrong with a neighbour, or the link to it -/
def upv (s : St) (i : Int) : Int := if oth s i = true then (if (s.cost i.toNat).1 = 0 then 8 else 0) else 2
set_option maxRecDepth 100000 in
set_option maxHeartbeats 1600000 in
theorem up_any (b : Nat) (s : St) (i : Int) (w : World) (h : IsN w b s) (hw : Wf s) : Calls Try.prog 56 #[.pointer (some ⟨b, 0, none⟩), .int .i64 i] w fun e w' => e = .returned (.int .i64 (upv s i)) ∧ w = w' := by
  have H := Lib.hid h
  have hn6 := h.n6
  clear h
  cases ho : oth s i
  · have e : upv s i = 2 := by unfold upv; rw [if_neg (by rw [ho]; simp)]
    have hck := check_any b s i w H.out
    rw [ho] at hck
    have HCK := Lib.hid hck
    clear hck
    rw [e]
    go_enter Try.func56, Try.ntmps56
    go_wp2_with (go_at_call 64; refine (HCK.out).mono ?_; rintro e w' ⟨rfl, rfl⟩)
    go_ret
    exact ⟨rfl, rfl⟩
  · have hck := check_any b s i w H.out
    rw [ho] at hck
    have HCK := Lib.hid hck
    clear hck
    obtain ⟨k, rfl, hk, _⟩ := oth_nat ho
    have hc := H.out.ccost (show k < 6 by omega)
    have hwc := hw.cost k
    have hsm : Sm (s.cost k).1 := ⟨by omega, by omega⟩
    have k0 : (0 : Int) ≤ (k : Int) := by omega
    have k6 : (k : Int) < 6 := by omega
    have hu : upv s (k : Int) = if (s.cost k).1 = 0 then 8 else 0 := by unfold upv; rw [if_pos ho]; rfl
    by_cases hz : (s.cost k).1 = 0
    · have hz' : ((s.cost k).1 == 0) = true := by simp [hz]
      rw [hu, if_pos hz]
      clear hz hu
      go_enter Try.func56, Try.ntmps56
      go_wp2_with (first
        | (go_at_call 64; refine (HCK.out).mono ?_; rintro e w' ⟨rfl, rfl⟩)
        | (go_at_call 40; refine (metric_any _ _ hsm w).mono ?_; rintro e w' ⟨rfl, rfl⟩))
      go_ret
      exact ⟨rfl, rfl⟩
    · have hz' : ((s.cost k).1 == 0) = false := by simp [hz]
      rw [hu, if_neg hz]
      clear hz hu
      go_enter Try.func56, Try.ntmps56
      go_wp2_with (first
        | (go_at_call 64; refine (HCK.out).mono ?_; rintro e w' ⟨rfl, rfl⟩)
        | (go_at_call 40; refine (metric_any _ _ hsm w).mono ?_; rintro e w' ⟨rfl, rfl⟩))
      go_ret
      exact ⟨rfl, rfl⟩
set_option maxHeartbeats 1600000 in
theorem up_nil (i : Int) (w : World) : Calls Try.prog 56 #[.pointer none, .int .i64 i] w fun e w' => e = .returned (.int .i64 10) ∧ w = w' := by
  go_enter Try.func56, Try.ntmps56
  go_wp2_with (go_at_call 64; refine (check_nil i w).mono ?_; rintro e w' ⟨rfl, rfl⟩)
  go_ret
  exact ⟨rfl, rfl⟩
set_option maxRecDepth 100000 in
set_option maxHeartbeats 1600000 in
theorem fresh_top (b : Nat) (s : St) (w : World) (h : IsN w b s) (ht : s.seq = 4294967295) : Calls Try.prog 36 #[.pointer (some ⟨b, 0, none⟩)] w fun e w' => e = .returned (.int .i64 7) ∧ w = w' := by
  have c := h.cseq
  rw [ht] at c
  clear h ht
  go_enter Try.func36, Try.ntmps36
  go_wp2
  go_ret
  exact ⟨rfl, rfl⟩
set_option maxHeartbeats 1600000 in
theorem fresh_nil (w : World) : Calls Try.prog 36 #[.pointer none] w fun e w' => e = .returned (.int .i64 10) ∧ w = w' := by
  go_enter Try.func36, Try.ntmps36
  go_wp2
  go_ret
  exact ⟨rfl, rfl⟩
theorem IsN.fresh {w : World} {b : Nat} {s : St} (h : IsN w b s) (x : Int) : IsN (w.setCell ⟨b, 50, none⟩ (.int .u32 x)) b { s with seq := x } :=
  h.set 50 _ (by omega) (by unfold St.val; simp) (fun j hj hne => by
    have h50 : j < 50 := by omega
    unfold St.val
    repeat' split
    all_goals first | rfl | omega) h.id h.n6
set_option maxRecDepth 100000 in
set_option maxHeartbeats 1600000 in
theorem fresh_any (b : Nat) (s : St) (w : World) (h : IsN w b s) (hs : Sm s.seq) (ht : s.seq ≠ 4294967295) : Calls Try.prog 36 #[.pointer (some ⟨b, 0, none⟩)] w fun e w' => e = .returned (.int .i64 0) ∧ IsN w' b { s with seq := s.seq + 1 } ∧ Only (fun i => i = b) w w' := by
  have c := h.cseq
  have z := h.free 50
  have hf := h.fresh (s.seq + 1)
  have HF := Lib.hid hf
  have hs1 := hs.1
  have hs2 := hs.2
  obtain ⟨q, hq⟩ : ∃ q, s.seq = q := ⟨_, rfl⟩
  rw [hq] at c hs1 hs2 ht
  have e1 : (q == 4294967295) = false := by simp [ht]
  have e2 : IntKind.u32.wrap (q + 1) = q + 1 := by simp [IntKind.wrap, IntKind.bits, IntKind.signed]; omega
  have HQ := Lib.hid hq
  clear h hf hq
  go_enter Try.func36, Try.ntmps36
  go_wp2
  go_ret
  refine ⟨rfl, ?_, (Only.refl (fun i => i = b) w).setCell (p := ⟨b, 50, none⟩) (fun _ => rfl) _⟩
  have := HF.out
  rw [HQ.out] at this ⊢
  exact this
end Eng
end Go.Proofs.Ytebkpjefdaieaaa

/-
  Package engine: none. Conditions: those that each theorem names.
-/
namespace Go.Proofs.Ytebkpjefdaieaaa
open Go.RowKit FR FP
set_option linter.unusedVariables false
set_option linter.unusedSimpArgs false
namespace Eng
open Feas
theorem st_dv (m s : Int) : ∀ (a : Addr) (md : Mode) (w : World), (store a (dv m s) md).run Try.prog w = stored Try.prog w a (dv m s) md := fun a md w => run_store _ w a _ md rfl
theorem ar6 {cs : Array Value} {f : Nat → Value} (hs : cs.size = 6) (h : ∀ j, j < 6 → cs[j]? = some (f j)) : cs = #[f 0, f 1, f 2, f 3, f 4, f 5] := by
  apply Array.ext_getElem?
  intro j
  by_cases hj : j < 6
  · rw [h j hj]; rcases j with _|_|_|_|_|_|j <;> first | rfl | omega
  · rw [Array.getElem?_eq_none (by omega), Array.getElem?_eq_none (by simp; omega)]
/-- a row of none -/
abbrev noneRow : Value := .agg #[dv 65535 0, dv 65535 0, dv 65535 0, dv 65535 0, dv 65535 0, dv 65535 0]
set_option maxRecDepth 100000 in
set_option maxHeartbeats 4000000 in
theorem nones_any (w : World) : Calls Try.prog 46 #[] w fun e w' => e = .returned noneRow ∧ Below w.heap.size w w' := by
  go_enter Try.func46, Try.ntmps46
  go_upto_region 2 with fail
  go_loopw [2] (fun s2 wr => ∃ i : Nat, i ≤ 6 ∧ s2 = .int .i64 i ∧ Below w.heap.size w wr ∧ ∃ cs : Array Value, wr.heap[w.heap.size]? = some (.cells cs 84 (0, 0)) ∧ cs.size = 6 ∧ ∀ j, j < 6 → ∃ x y, cs[j]? = some (.complex .f64 x y) ∧ (j < i → Value.complex .f64 x y = dv 65535 0)) (fun s2 _ => 6 - (intOf s2).toNat)
  case atStart =>
    refine ⟨0, by omega, rfl, (Below.refl _ _).alloc (Nat.le_refl _) _, _, by simp only [World.alloc]; exact Array.getElem?_push_size, rfl, fun j hj => ⟨0, 0, by rcases j with _|_|_|_|_|_|j <;> (first | rfl | omega), fun h => by omega⟩⟩
  case round =>
    obtain ⟨i, hi, rfl, hb, cs, hblk, hsz, hcs⟩ := hrel
    have HB := Lib.hid hb
    have HK := Lib.hid hblk
    have HC := Lib.hid hcs
    clear hb hblk hcs
    by_cases hlt : i < 6
    · have hlt' : (i : Int) < 6 := by omega
      have i0 : (0 : Int) ≤ (i : Int) := by omega
      obtain ⟨x, y, hv, _⟩ := HC.out i hlt
      have c1 : wr.cell? ⟨w.heap.size, i, none⟩ = some (.complex .f64 x y) := by rw [blk_cell HK.out i]; exact hv
      have c2 := blk_free HK.out i
      have st := st_dv 65535 0
      have HZ := Lib.hid hsz
      have HV := Lib.hid hv
      clear hsz hv
      go_wp2_with (go_at_call 50; refine (none_any wr).mono ?_; rintro e w' ⟨rfl, rfl⟩)
      go_roundw
      case rel =>
        refine ⟨i + 1, by omega, by go_num, (((Only.refl (fun k => w.heap.size ≤ k) w).of_below HB.out).setCell (p := ⟨w.heap.size, i, none⟩) (fun _ => Nat.le_refl _) _).below (Nat.le_refl _) (fun k hk h => by omega), _, blk_set HK.out i _, by simpa using HZ.out, fun j hj => ?_⟩
        rw [Array.getElem?_setIfInBounds]
        by_cases e : i = j
        · subst e; exact ⟨_, _, by rw [if_pos rfl, if_pos (by have := HZ.out; omega)], fun _ => rfl⟩
        · rw [if_neg e]
          obtain ⟨x, y, h1, h2⟩ := HC.out j hj
          exact ⟨x, y, h1, fun h => h2 (by omega)⟩
      case measure => simp [intOf]; omega
    · obtain rfl : i = 6 := by omega
      have hc : ∀ j, j < 6 → cs[j]? = some (dv 65535 0) := fun j hj => by obtain ⟨x, y, h1, h2⟩ := HC.out j hj; rw [h1, h2 hj]
      obtain rfl := ar6 hsz hc
      have HC' := Lib.hid hc
      clear hc hsz
      have x0 : wr.cell? ⟨w.heap.size, 0, none⟩ = some (dv 65535 0) := by rw [blk_cell HK.out 0]; exact HC'.out 0 (by omega)
      have x1 : wr.cell? ⟨w.heap.size, 1, none⟩ = some (dv 65535 0) := by rw [blk_cell HK.out 1]; exact HC'.out 1 (by omega)
      have x2 : wr.cell? ⟨w.heap.size, 2, none⟩ = some (dv 65535 0) := by rw [blk_cell HK.out 2]; exact HC'.out 2 (by omega)
      have x3 : wr.cell? ⟨w.heap.size, 3, none⟩ = some (dv 65535 0) := by rw [blk_cell HK.out 3]; exact HC'.out 3 (by omega)
      have x4 : wr.cell? ⟨w.heap.size, 4, none⟩ = some (dv 65535 0) := by rw [blk_cell HK.out 4]; exact HC'.out 4 (by omega)
      have x5 : wr.cell? ⟨w.heap.size, 5, none⟩ = some (dv 65535 0) := by rw [blk_cell HK.out 5]; exact HC'.out 5 (by omega)
      have z0 := blk_free HK.out 0
      have z1 := blk_free HK.out 1
      have z2 := blk_free HK.out 2
      have z3 := blk_free HK.out 3
      have z4 := blk_free HK.out 4
      have z5 := blk_free HK.out 5
      have st := st_dv 65535 0
      go_wp2
      (try simp only [Exit.inBlock, Exit.then])
      refine bodyPost_ret (v := noneRow) (results_cell_row rfl _ _ w.heap.size 84 #[dv 65535 0, dv 65535 0, dv 65535 0, dv 65535 0, dv 65535 0, dv 65535 0] (0, 0) _ rfl ?_ Try.underlying84 rfl (by kernel_rfl)) rfl ⟨rfl, ?_⟩
      · exact blk_set (blk_set (blk_set (blk_set (blk_set (blk_set HK.out 0 _) 1 _) 2 _) 3 _) 4 _) 5 _
      exact ((((((((Only.refl (fun k => w.heap.size ≤ k) w).of_below HB.out).setCell (p := ⟨w.heap.size, 0, none⟩) (fun _ => Nat.le_refl _) _).setCell (p := ⟨w.heap.size, 1, none⟩) (fun _ => Nat.le_refl _) _).setCell (p := ⟨w.heap.size, 2, none⟩) (fun _ => Nat.le_refl _) _).setCell (p := ⟨w.heap.size, 3, none⟩) (fun _ => Nat.le_refl _) _).setCell (p := ⟨w.heap.size, 4, none⟩) (fun _ => Nat.le_refl _) _).setCell (p := ⟨w.heap.size, 5, none⟩) (fun _ => Nat.le_refl _) _ |>.below (Nat.le_refl _) (fun k hk h => by omega))
end Eng
end Go.Proofs.Ytebkpjefdaieaaa

/-
  Package engine: Restart, New. Conditions: those that each theorem names.
-/
namespace Go.Proofs.Ytebkpjefdaieaaa
open Go.RowKit FR FP H2
set_option linter.unusedVariables false
set_option linter.unusedSimpArgs false
namespace Eng
open Feas
def nones : List Value := [dv 65535 0, dv 65535 0, dv 65535 0, dv 65535 0, dv 65535 0, dv 65535 0]
theorem IsN.congr {w : World} {b : Nat} {s s' : St} (h : IsN w b s) (he : ∀ k, k < 51 → s'.val k = s.val k) (hi : s'.id < s'.n) (hn : s'.n ≤ 6) : IsN w b s' := by
  obtain ⟨⟨cs, h1, h2, h3⟩, _, _⟩ := h
  exact ⟨⟨cs, h1, h2, fun k hk => by rw [h3 k hk, he k hk]⟩, hi, hn⟩
/-- what was heard, otherwise -/
def St.hears (s : St) (f : Nat → Nat → Int × Int) : St := { s with inn := f }
theorem St.hears_val (s : St) (f : Nat → Nat → Int × Int) (k : Nat) : (s.hears f).val k = if 8 ≤ k ∧ k < 44 then dp (f ((k - 8) / 6) ((k - 8) % 6)) else s.val k := by
  unfold St.val St.hears
  repeat' split
  all_goals first | rfl | (exfalso; omega)
theorem IsN.hears {w : World} {b : Nat} {s : St} {f g : Nat → Nat → Int × Int} (h : IsN w b (s.hears f)) (hg : ∀ d k, d < 6 → k < 6 → g d k = f d k) : IsN w b (s.hears g) :=
  h.congr (fun k hk => by
    rw [St.hears_val, St.hears_val]
    by_cases e : 8 ≤ k ∧ k < 44
    · rw [if_pos e, if_pos e, hg _ _ (by omega) (by omega)]
    · rw [if_neg e, if_neg e]) h.id h.n6
theorem nones_get (k : Nat) (h : k < 6) : nones[k]? = some (dv 65535 0) := by rcases k with _|_|_|_|_|_|k <;> first | rfl | omega
theorem IsN.row {w : World} {b : Nat} {s : St} {f : Nat → Nat → Int × Int} (h : IsN w b (s.hears f)) (d : Nat) (hd : d < 6) : IsN (w.setCells b (8 + d * 6) nones) b (s.hears (fun x k => if x = d then (65535, 0) else f x k)) := by
  obtain ⟨⟨cs, h1, h2, h3⟩, h4, h5⟩ := h
  obtain ⟨cs', k1, k2, k3⟩ := blk_cells nones (8 + d * 6) h1
  refine ⟨⟨cs', k1, by omega, fun k hk => ?_⟩, h4, h5⟩
  have hl : nones.length = 6 := rfl
  rw [k3 k, hl, St.hears_val]
  by_cases e : 8 ≤ k ∧ k < 44
  · by_cases e2 : 8 + d * 6 ≤ k ∧ k < 8 + d * 6 + 6 ∧ k < cs.size
    · rw [if_pos e2, if_pos e, if_pos (by omega), nones_get _ (by omega)]
    · rw [if_neg e2, if_pos e, if_neg (by omega), h3 k hk, St.hears_val, if_pos e]
  · rw [if_neg (by omega), if_neg e, h3 k hk, St.hears_val, if_neg e]
theorem IsN.there {w : World} {b : Nat} {s : St} (h : IsN w b s) (o n : Nat) (ho : o + n ≤ 51) : w.there b o n := fun j hj => ⟨by rw [h.cell (o + j) (by omega)]; rfl, h.free _⟩
theorem hears_self (s : St) : s.hears s.inn = s := rfl
/-- nothing heard -/
def St.clear (s : St) : St := s.hears (fun _ _ => (65535, 0))
set_option maxRecDepth 100000 in
set_option maxHeartbeats 4000000 in
theorem restart_any (b : Nat) (s : St) (w : World) (h : IsN w b s) : Calls Try.prog 37 #[.pointer (some ⟨b, 0, none⟩)] w fun e w' => e = .returned (.tuple #[]) ∧ IsN w' b s.clear ∧ Only (fun i => i = b) w w' := by
  have H := Lib.hid h
  clear h
  go_enter Try.func37, Try.ntmps37
  go_upto_region 2 with fail
  go_loopw [5] (fun s5 wr => ∃ i : Nat, i ≤ 6 ∧ s5 = .int .i64 i ∧ IsN wr b (s.hears (fun d k => if d < i then (65535, 0) else s.inn d k)) ∧ Only (fun i => i = b) w wr) (fun s5 _ => 6 - (intOf s5).toNat)
  case atStart => exact ⟨0, by omega, rfl, H.out.congr (fun k hk => by rw [St.hears_val]; unfold St.val; (repeat' split) <;> first | rfl | (exfalso; omega)) H.out.id H.out.n6, Only.refl _ _⟩
  case round =>
    obtain ⟨i, hi, rfl, hn, ho⟩ := hrel
    have HN := Lib.hid hn
    have HO := Lib.hid ho
    clear hn ho
    by_cases hlt : i < 6
    · have hlt' : (i : Int) < 6 := by omega
      have i0 : (0 : Int) ≤ (i : Int) := by omega
      go_upto_region 4 with fail
      refine wp_region_held_drew (S := (fun _ => True)) (by kernel_rfl) trivial (fun _ => ?_)
      refine held_take 0 8 (v := ?_) rfl rfl (by kernel_rfl) (by kernel_rfl) (by kernel_rfl) (fun _ _ _ h => h) (by rfl) ?_ trivial ?_
      rotate_left
      · (intro w hSw; (try dsimp only at hSw); try simp only [List.getElem_toArray, List.getElem_cons_zero, List.getElem_cons_succ]; go_simp; try (with_reducible rfl))
      try simp only [List.setIfInBounds_toArray, List.set_cons_zero, List.set_cons_succ]
      refine held_take 1 9 (v := ?_) rfl rfl (by kernel_rfl) (by kernel_rfl) (by kernel_rfl) (fun _ _ _ h => h) (by rfl) ?_ trivial ?_
      rotate_left
      · (intro w hSw; (try dsimp only at hSw); try simp only [List.getElem_toArray, List.getElem_cons_zero, List.getElem_cons_succ]; go_simp; try (with_reducible rfl))
      try simp only [List.setIfInBounds_toArray, List.set_cons_zero, List.set_cons_succ]
      refine held_take 3 11 (v := ?_) rfl rfl (by kernel_rfl) (by kernel_rfl) (by kernel_rfl) (fun _ _ _ h => h) (by rfl) ?_ trivial ?_
      rotate_left
      · (intro w hSw; (try dsimp only at hSw); try simp only [List.getElem_toArray, List.getElem_cons_zero, List.getElem_cons_succ]; go_simp; try (with_reducible rfl))
      try simp only [List.setIfInBounds_toArray, List.set_cons_zero, List.set_cons_succ]
      refine held_take 4 12 (v := ?_) rfl rfl (by kernel_rfl) (by kernel_rfl) (by kernel_rfl) (fun _ _ _ h => h) (by rfl) ?_ trivial ?_
      rotate_left
      · (intro w hSw; (try dsimp only at hSw); try simp only [List.getElem_toArray, List.getElem_cons_zero, List.getElem_cons_succ]; go_simp; try (with_reducible rfl))
      try simp only [List.setIfInBounds_toArray, List.set_cons_zero, List.set_cons_succ]
      refine held_call 2 10 rfl rfl (by kernel_rfl) (by rfl) (fun K hK => ?_)
      try simp only [List.getElem_toArray, List.getElem_cons_zero, List.getElem_cons_succ]
      go_simp
      (go_at_call 46; refine (nones_any _).mono ?_; rintro e w2 ⟨rfl, hb⟩; have HN1 := Lib.hid (HN.out.drew.keep hb); have HO1 := Lib.hid (HO.out.drew.of_below hb); clear hb)
      try go_wp2_with fail
      try simp only [Act.put, List.setIfInBounds_toArray, List.set_cons_zero, List.set_cons_succ]
      refine hK.out _ _ _ trivial ?_
      clear hK K
      refine held_take 5 13 (v := ?_) rfl rfl (by kernel_rfl) (by kernel_rfl) (by kernel_rfl) (fun _ _ _ h => h) (by rfl) ?_ trivial ?_
      rotate_left
      · (intro w hSw; (try dsimp only at hSw); try simp only [List.getElem_toArray, List.getElem_cons_zero, List.getElem_cons_succ]; go_simp; try (with_reducible rfl))
      try simp only [List.setIfInBounds_toArray, List.set_cons_zero, List.set_cons_succ]
      refine held_do 6 rfl (by kernel_rfl) (by rfl) (fun K hK => ?_)
      try simp only [List.getElem_toArray, List.getElem_cons_zero, List.getElem_cons_succ]
      (refine wp_store_mid 84 _ _ rfl b (8 + i * 6) _ rfl rfl (HN1.out.there _ 6 (by omega)) (by kernel_rfl) (by simp [Value.oneCell']) ?_; have HN2 := Lib.hid ((HN1.out.row i hlt).hears (g := fun d k => if d < i + 1 then (65535, 0) else s.inn d k) (fun d k _ _ => by by_cases e : d = i <;> simp [e] <;> (repeat' split) <;> first | rfl | (exfalso; omega))); have HO2 := Lib.hid (Only.setCells (g := b) nones (8 + i * 6) HO1.out (fun _ => rfl)))
      try simp only [Act.put, List.setIfInBounds_toArray, List.set_cons_zero, List.set_cons_succ]
      refine hK.out _ _ _ trivial ?_
      clear hK K
      refine wpAnyH_done (by kernel_rfl) ?_ _
      go_wp2
      go_roundw
      case rel => exact ⟨i + 1, by omega, by go_num, HN2.out, HO2.out⟩
      case measure => simp [intOf]; omega
    · obtain rfl : i = 6 := by omega
      go_wp2
      refine bodyPost_end (results_none rfl _ _ _) rfl ?_
      exact ⟨rfl, HN.out.hears (fun d k hd _ => by simp only [if_pos hd]), HO.out⟩
set_option maxHeartbeats 1600000 in
theorem restart_nil (w : World) : Calls Try.prog 37 #[.pointer none] w fun e w' => e = .returned (.tuple #[]) ∧ w = w' := by
  go_enter Try.func37, Try.ntmps37
  go_wp2
  refine bodyPost_ret (results_none rfl _ _ _) rfl ?_
  exact ⟨rfl, rfl⟩
theorem IsN.made {w : World} {s : St} (cs : Array Value) (hc : cs = ((List.range 51).map s.val).toArray) (h1 : s.id < s.n) (h2 : s.n ≤ 6) : IsN (w.alloc (.cells cs 88 (0, 0))) w.heap.size s := by
  subst hc
  refine ⟨⟨_, heap_alloc_new _ _, by simp, fun k hk => by simp [hk]⟩, h1, h2⟩
/-- a node that is laid -/
def made (id n : Nat) : St := ⟨id, n, fun _ => (0, 0), fun _ _ => (0, 0), fun _ => (65535, 0), 1⟩
/-- a node made -/
def new (id n : Nat) : St := ⟨id, n, fun _ => (0, 0), fun _ _ => (65535, 0), fun _ => (65535, 0), 1⟩
set_option maxRecDepth 100000 in
set_option maxHeartbeats 4000000 in
theorem new_any (id n : Nat) (w : World) (h1 : id < n) (h2 : n ≤ 6) : Calls Try.prog 27 #[.int .i64 id, .int .i64 n] w fun e w' => (∃ b, e = .returned (.tuple #[.pointer (some ⟨b, 0, none⟩), .int .i64 0]) ∧ IsN w' b (new id n) ∧ w.heap.size ≤ b ∧ b < w'.heap.size) ∧ Below w.heap.size w w' := by
  have k1 : ¬ (n : Int) < 1 := by omega
  have k2 : ¬ (n : Int) > 6 := by omega
  have k2 : ¬ 6 < (n : Int) := by omega
  have k3 : ¬ (id : Int) < 0 := by omega
  have k4 : ¬ (n : Int) ≤ (id : Int) := by omega
  go_enter Try.func27, Try.ntmps27
  go_upto_region 4 with (go_at_call 46; refine (nones_any _).mono ?_; rintro e w2 ⟨rfl, hb⟩; have HB := Lib.hid hb; clear hb)
  generalize hA : Value.agg #[Value.int .i64 id, _, _, _, _, _, _, _, _, _, _, _, _, _, _, _, _, _, _, _, _, _, _, _, _, _, _, _, _, _, _, _, _, _, _, _, _, _, _, _, _, _, _, _, _, _, _, _, _, _, _] = A
  generalize hW : w2.alloc _ = W
  have HN := Lib.hid (show IsN W w2.heap.size (made id n) by rw [← hW]; exact IsN.made _ (by kernel_rfl) h1 h2)
  have hb2 : Below w.heap.size w W := hW ▸ HB.out.alloc HB.out.size _
  have hs : w2.heap.size < W.heap.size := blk_lt HN.out.blk.choose_spec.1
  have HB2 := Lib.hid hb2
  have HW := Lib.hid hs
  have HS := Lib.hid HB.out.size
  generalize w2.heap.size = g at HN HW HS ⊢
  clear hb2 hs hA hW
  go_wp2_with (go_at_call 37; refine (restart_any g _ W HN.out).mono ?_; rintro e w3 ⟨rfl, hn, ho⟩; have HN3 := Lib.hid hn; have HO3 := Lib.hid ho; clear hn ho)
  go_ret2
  exact ⟨⟨g, rfl, HN3.out, HS.out, Nat.lt_of_lt_of_le HW.out HO3.out.size⟩, HB2.out.trans (HO3.out.below HB2.out.size (fun k hk e => by have := HS.out; omega))⟩
set_option maxHeartbeats 4000000 in
theorem new_bad (id n : Int) (w : World) (h : n < 1 ∨ 6 < n ∨ id < 0 ∨ n ≤ id) : Calls Try.prog 27 #[.int .i64 id, .int .i64 n] w fun e w' => e = .returned (.tuple #[.pointer none, .int .i64 1]) ∧ w = w' := by
  by_cases h1 : n < 1
  · go_enter Try.func27, Try.ntmps27
    go_wp2
    go_ret2
    exact ⟨rfl, rfl⟩
  · by_cases h2 : 6 < n
    · go_enter Try.func27, Try.ntmps27
      go_wp2
      go_ret2
      exact ⟨rfl, rfl⟩
    · by_cases h3 : id < 0
      · go_enter Try.func27, Try.ntmps27
        go_wp2
        go_ret2
        exact ⟨rfl, rfl⟩
      · have h4 : n ≤ id := by omega
        go_enter Try.func27, Try.ntmps27
        go_wp2
        go_ret2
        exact ⟨rfl, rfl⟩
end Eng
end Go.Proofs.Ytebkpjefdaieaaa

/-
  Package engine: Link. Conditions: those that each theorem names.
-/
namespace Go.Proofs.Ytebkpjefdaieaaa
open Go.RowKit FR FP H2
set_option linter.unusedVariables false
set_option linter.unusedSimpArgs false
namespace Eng
open Feas
attribute [local go_sem] st_dv
/-- a link's cost, otherwise -/
def St.price (s : St) (t : Nat) (p : Int × Int) : St := { s with cost := fun k => if k = t then p else s.cost k }
/-- heard of d from i, otherwise -/
def St.hear1 (s : St) (d i : Nat) (p : Int × Int) : St := s.hears (fun x k => if x = d ∧ k = i then p else s.inn x k)
theorem St.price_val (s : St) (t : Nat) (p : Int × Int) (k : Nat) : (s.price t p).val k = if k = 2 + t ∧ k < 8 then dp p else s.val k := by
  unfold St.val St.price
  by_cases e : k = 2 + t ∧ k < 8
  · rw [if_pos e, if_neg (by omega), if_neg (by omega), if_pos e.2]
    simp only [show k - 2 = t by omega, if_true]
  · rw [if_neg e]
    dsimp only
    repeat' split
    all_goals first | rfl | (exfalso; omega)
theorem IsN.price {w : World} {b : Nat} {s : St} (h : IsN w b s) (t : Nat) (ht : t < 6) (p : Int × Int) : IsN (w.setCell ⟨b, 2 + t, none⟩ (dp p)) b (s.price t p) :=
  h.set (2 + t) _ (by omega) (by rw [St.price_val, if_pos (by omega)]) (fun j hj hne => by rw [St.price_val, if_neg (by omega)]) h.id h.n6
theorem IsN.hear1 {w : World} {b : Nat} {s : St} (h : IsN w b s) (d i : Nat) (hd : d < 6) (hi : i < 6) (p : Int × Int) : IsN (w.setCell ⟨b, 8 + d * 6 + i, none⟩ (dp p)) b (s.hear1 d i p) :=
  h.set (8 + d * 6 + i) _ (by omega) (by rw [St.hear1, St.hears_val, if_pos (by omega), if_pos (by omega)]) (fun j hj hne => by
    rw [St.hear1, St.hears_val]
    by_cases e : 8 ≤ j ∧ j < 44
    · rw [if_pos e, if_neg (by omega), St.val, if_neg (by omega), if_neg (by omega), if_neg (by omega), if_pos e.2]
    · rw [if_neg e]) h.id h.n6
/-- what Link answers -/
def lnk (s : St) (t c : Int) : Int := if oth s t = true then (if 0 ≤ c ∧ c ≤ 1000 then 0 else 1) else 2
/-- what Link makes of a node -/
def St.link (s : St) (t c : Int) : St := if oth s t = true ∧ 0 ≤ c ∧ c ≤ 1000 then (if c = 0 then (s.price t.toNat (0, 0)).hears (fun d k => if k = t.toNat then (65535, 0) else s.inn d k) else s.price t.toNat (c, 0)) else s
theorem cl_same {c : Int} (h0 : 0 ≤ c) (h1 : c ≤ 65535) : cl c = c := by unfold cl; omega
set_option maxRecDepth 100000 in
set_option maxHeartbeats 8000000 in
theorem link_any (b : Nat) (s : St) (t c : Int) (w : World) (h : IsN w b s) : Calls Try.prog 48 #[.pointer (some ⟨b, 0, none⟩), .int .i64 t, .int .i64 c] w fun e w' => e = .returned (.int .i64 (lnk s t c)) ∧ IsN w' b (s.link t c) ∧ Only (fun i => i = b) w w' := by
  have H := Lib.hid h
  have hn6 := h.n6
  clear h
  cases ho : oth s t
  · have e1 : lnk s t c = 2 := by unfold lnk; rw [if_neg (by rw [ho]; simp)]
    have e2 : s.link t c = s := by unfold St.link; rw [if_neg (by rw [ho]; simp)]
    have hck := check_any b s t w H.out
    rw [ho] at hck
    have HCK := Lib.hid hck
    clear hck
    rw [e1, e2]
    go_enter Try.func48, Try.ntmps48
    go_wp2_with (go_at_call 64; refine (HCK.out).mono ?_; rintro e w' ⟨rfl, rfl⟩)
    go_ret
    exact ⟨rfl, H.out, Only.refl _ _⟩
  · have hck := check_any b s t w H.out
    rw [ho] at hck
    have HCK := Lib.hid hck
    clear hck
    by_cases h0 : c < 0
    · have e1 : lnk s t c = 1 := by unfold lnk; rw [if_pos ho, if_neg (by omega)]
      have e2 : s.link t c = s := by unfold St.link; rw [if_neg (by omega)]
      rw [e1, e2]
      clear e1 e2 ho
      go_enter Try.func48, Try.ntmps48
      go_wp2_with (go_at_call 64; refine (HCK.out).mono ?_; rintro e w' ⟨rfl, rfl⟩)
      go_ret
      exact ⟨rfl, H.out, Only.refl _ _⟩
    by_cases h1 : 1000 < c
    · have e1 : lnk s t c = 1 := by unfold lnk; rw [if_pos ho, if_neg (by omega)]
      have e2 : s.link t c = s := by unfold St.link; rw [if_neg (by omega)]
      rw [e1, e2]
      clear e1 e2 ho
      go_enter Try.func48, Try.ntmps48
      go_wp2_with (go_at_call 64; refine (HCK.out).mono ?_; rintro e w' ⟨rfl, rfl⟩)
      go_ret
      exact ⟨rfl, H.out, Only.refl _ _⟩
    have e1 : lnk s t c = 0 := by unfold lnk; rw [if_pos ho, if_pos (by omega)]
    have e2 : s.link t c = (if c = 0 then (s.price t.toNat (0, 0)).hears (fun d k => if k = t.toNat then (65535, 0) else s.inn d k) else s.price t.toNat (c, 0)) := by unfold St.link; rw [if_pos ⟨ho, by omega, by omega⟩]
    rw [e1, e2]
    clear e1 e2
    obtain ⟨L, hL⟩ : ∃ L, (if c = 0 then (s.price t.toNat (0, 0)).hears (fun d k => if k = t.toNat then (65535, 0) else s.inn d k) else s.price t.toNat (c, 0)) = L := ⟨_, rfl⟩
    rw [hL]
    obtain ⟨k, rfl, hk, _⟩ := oth_nat ho
    rw [Int.toNat_natCast] at hL
    have HL := Lib.hid hL
    clear hL
    have hk6 : k < 6 := by omega
    have k0 : (0 : Int) ≤ (k : Int) := by omega
    have k6 : (k : Int) < 6 := by omega
    have hcl : cl c = c := cl_same (by omega) (by omega)
    have HCL := Lib.hid hcl
    clear ho hcl
    go_enter Try.func48, Try.ntmps48
    go_upto_region 6 with (go_at_call 64; refine (HCK.out).mono ?_; rintro e w' ⟨rfl, rfl⟩)
    refine wp_region_held_drew (S := (fun _ => True)) (by kernel_rfl) trivial (fun _ => ?_)
    refine held_take 0 23 (v := ?_) rfl rfl (by kernel_rfl) (by kernel_rfl) (by kernel_rfl) (fun _ _ _ h => h) (by rfl) ?_ trivial ?_
    rotate_left
    · (intro w hSw; (try dsimp only at hSw); try simp only [List.getElem_toArray, List.getElem_cons_zero, List.getElem_cons_succ]; go_simp; try (with_reducible rfl))
    try simp only [List.setIfInBounds_toArray, List.set_cons_zero, List.set_cons_succ]
    refine held_take 1 24 (v := ?_) rfl rfl (by kernel_rfl) (by kernel_rfl) (by kernel_rfl) (fun _ _ _ h => h) (by rfl) ?_ trivial ?_
    rotate_left
    · (intro w hSw; (try dsimp only at hSw); try simp only [List.getElem_toArray, List.getElem_cons_zero, List.getElem_cons_succ]; go_simp; try (with_reducible rfl))
    try simp only [List.setIfInBounds_toArray, List.set_cons_zero, List.set_cons_succ]
    refine held_take 2 25 (v := ?_) rfl rfl (by kernel_rfl) (by kernel_rfl) (by kernel_rfl) (fun _ _ _ h => h) (by rfl) ?_ trivial ?_
    rotate_left
    · (intro w hSw; (try dsimp only at hSw); try simp only [List.getElem_toArray, List.getElem_cons_zero, List.getElem_cons_succ]; go_simp; try (with_reducible rfl))
    try simp only [List.setIfInBounds_toArray, List.set_cons_zero, List.set_cons_succ]
    refine held_take 4 27 (v := ?_) rfl rfl (by kernel_rfl) (by kernel_rfl) (by kernel_rfl) (fun _ _ _ h => h) (by rfl) ?_ trivial ?_
    rotate_left
    · (intro w hSw; (try dsimp only at hSw); try simp only [List.getElem_toArray, List.getElem_cons_zero, List.getElem_cons_succ]; go_simp; try (with_reducible rfl))
    try simp only [List.setIfInBounds_toArray, List.set_cons_zero, List.set_cons_succ]
    refine held_take 5 28 (v := ?_) rfl rfl (by kernel_rfl) (by kernel_rfl) (by kernel_rfl) (fun _ _ _ h => h) (by rfl) ?_ trivial ?_
    rotate_left
    · (intro w hSw; (try dsimp only at hSw); try simp only [List.getElem_toArray, List.getElem_cons_zero, List.getElem_cons_succ]; go_simp; try (with_reducible rfl))
    try simp only [List.setIfInBounds_toArray, List.set_cons_zero, List.set_cons_succ]
    refine held_call 3 26 rfl rfl (by kernel_rfl) (by rfl) (fun K hK => ?_)
    try simp only [List.getElem_toArray, List.getElem_cons_zero, List.getElem_cons_succ]
    go_simp
    (go_at_call 51; refine (make_any _ _ _).mono ?_; rw [HCL.out]; rintro e w2 ⟨rfl, rfl⟩)
    try go_wp2_with fail
    try simp only [Act.put, List.setIfInBounds_toArray, List.set_cons_zero, List.set_cons_succ]
    refine hK.out _ _ _ trivial ?_
    clear hK K
    refine held_take 6 29 (v := ?_) rfl rfl (by kernel_rfl) (by kernel_rfl) (by kernel_rfl) (fun _ _ _ h => h) (by rfl) ?_ trivial ?_
    rotate_left
    · (intro w hSw; (try dsimp only at hSw); try simp only [List.getElem_toArray, List.getElem_cons_zero, List.getElem_cons_succ]; go_simp; try (with_reducible rfl))
    try simp only [List.setIfInBounds_toArray, List.set_cons_zero, List.set_cons_succ]
    refine held_do 7 rfl (by kernel_rfl) (by rfl) (fun K hK => ?_)
    try simp only [List.getElem_toArray, List.getElem_cons_zero, List.getElem_cons_succ]
    (have x1 := H.out.drew.ccost hk6; have x2 := H.out.drew.free (2 + k); go_simp; have HN2 := Lib.hid (H.out.price k hk6 (c, 0)).drew; have HO2 := Lib.hid (Only.drew (Only.setCell (Only.refl (fun i => i = b) w) (p := ⟨b, 2 + k, none⟩) (fun _ => rfl) (dv c 0))); clear x1 x2)
    try simp only [Act.put, List.setIfInBounds_toArray, List.set_cons_zero, List.set_cons_succ]
    refine hK.out _ _ _ trivial ?_
    clear hK K
    refine wpAnyH_done (by kernel_rfl) ?_ _
    by_cases hz : c = 0
    · subst hz
      go_upto_region 9 with fail
      generalize (w.setCell ⟨b, 2 + k, none⟩ (dv 0 0)).drew = W at HN2 HO2 ⊢
      go_loopw [32] (fun s32 wr => ∃ i : Nat, i ≤ 6 ∧ s32 = .int .i64 i ∧ IsN wr b ((s.price k (0, 0)).hears (fun d x => if d < i ∧ x = k then (65535, 0) else s.inn d x)) ∧ Only (fun i => i = b) w wr) (fun s32 _ => 6 - (intOf s32).toNat)
      case atStart => exact ⟨0, by omega, rfl, HN2.out.hears (fun d x _ _ => by simp), HO2.out⟩
      case round =>
        obtain ⟨i, hi, rfl, hn, ho⟩ := hrel
        have HN := Lib.hid hn
        have HO := Lib.hid ho
        clear hn ho HN2 HO2
        by_cases hlt : i < 6
        · have hlt' : (i : Int) < 6 := by omega
          have i0 : (0 : Int) ≤ (i : Int) := by omega
          go_upto_region 11 with fail
          refine wp_region_held_drew (S := (fun _ => True)) (by kernel_rfl) trivial (fun _ => ?_)
          refine held_take 0 35 (v := ?_) rfl rfl (by kernel_rfl) (by kernel_rfl) (by kernel_rfl) (fun _ _ _ h => h) (by rfl) ?_ trivial ?_
          rotate_left
          · (intro w hSw; (try dsimp only at hSw); try simp only [List.getElem_toArray, List.getElem_cons_zero, List.getElem_cons_succ]; go_simp; try (with_reducible rfl))
          try simp only [List.setIfInBounds_toArray, List.set_cons_zero, List.set_cons_succ]
          refine held_take 1 36 (v := ?_) rfl rfl (by kernel_rfl) (by kernel_rfl) (by kernel_rfl) (fun _ _ _ h => h) (by rfl) ?_ trivial ?_
          rotate_left
          · (intro w hSw; (try dsimp only at hSw); try simp only [List.getElem_toArray, List.getElem_cons_zero, List.getElem_cons_succ]; go_simp; try (with_reducible rfl))
          try simp only [List.setIfInBounds_toArray, List.set_cons_zero, List.set_cons_succ]
          refine held_take 2 37 (v := ?_) rfl rfl (by kernel_rfl) (by kernel_rfl) (by kernel_rfl) (fun _ _ _ h => h) (by rfl) ?_ trivial ?_
          rotate_left
          · (intro w hSw; (try dsimp only at hSw); try simp only [List.getElem_toArray, List.getElem_cons_zero, List.getElem_cons_succ]; go_simp; try (with_reducible rfl))
          try simp only [List.setIfInBounds_toArray, List.set_cons_zero, List.set_cons_succ]
          refine held_take 4 39 (v := ?_) rfl rfl (by kernel_rfl) (by kernel_rfl) (by kernel_rfl) (fun _ _ _ h => h) (by rfl) ?_ trivial ?_
          rotate_left
          · (intro w hSw; (try dsimp only at hSw); try simp only [List.getElem_toArray, List.getElem_cons_zero, List.getElem_cons_succ]; go_simp; try (with_reducible rfl))
          try simp only [List.setIfInBounds_toArray, List.set_cons_zero, List.set_cons_succ]
          refine held_take 5 40 (v := ?_) rfl rfl (by kernel_rfl) (by kernel_rfl) (by kernel_rfl) (fun _ _ _ h => h) (by rfl) ?_ trivial ?_
          rotate_left
          · (intro w hSw; (try dsimp only at hSw); try simp only [List.getElem_toArray, List.getElem_cons_zero, List.getElem_cons_succ]; go_simp; try (with_reducible rfl))
          try simp only [List.setIfInBounds_toArray, List.set_cons_zero, List.set_cons_succ]
          refine held_take 6 41 (v := ?_) rfl rfl (by kernel_rfl) (by kernel_rfl) (by kernel_rfl) (fun _ _ _ h => h) (by rfl) ?_ trivial ?_
          rotate_left
          · (intro w hSw; (try dsimp only at hSw); try simp only [List.getElem_toArray, List.getElem_cons_zero, List.getElem_cons_succ]; go_simp; try (with_reducible rfl))
          try simp only [List.setIfInBounds_toArray, List.set_cons_zero, List.set_cons_succ]
          refine held_call 3 38 rfl rfl (by kernel_rfl) (by rfl) (fun K hK => ?_)
          try simp only [List.getElem_toArray, List.getElem_cons_zero, List.getElem_cons_succ]
          go_simp
          (go_at_call 50; refine (none_any _).mono ?_; rintro e w2 ⟨rfl, rfl⟩)
          try go_wp2_with fail
          try simp only [Act.put, List.setIfInBounds_toArray, List.set_cons_zero, List.set_cons_succ]
          refine hK.out _ _ _ trivial ?_
          clear hK K
          refine held_take 7 42 (v := ?_) rfl rfl (by kernel_rfl) (by kernel_rfl) (by kernel_rfl) (fun _ _ _ h => h) (by rfl) ?_ trivial ?_
          rotate_left
          · (intro w hSw; (try dsimp only at hSw); try simp only [List.getElem_toArray, List.getElem_cons_zero, List.getElem_cons_succ]; go_simp; try (with_reducible rfl))
          try simp only [List.setIfInBounds_toArray, List.set_cons_zero, List.set_cons_succ]
          refine held_do 8 rfl (by kernel_rfl) (by rfl) (fun K hK => ?_)
          try simp only [List.getElem_toArray, List.getElem_cons_zero, List.getElem_cons_succ]
          (have x1 := HN.out.drew.cinn hlt hk6; have x2 := HN.out.drew.free (8 + i * 6 + k); go_simp; have HN3 := Lib.hid ((HN.out.drew.hear1 i k hlt hk6 (65535, 0)).hears (s := s.price k (0, 0)) (g := fun d x => if d < i + 1 ∧ x = k then (65535, 0) else s.inn d x) (fun d x _ _ => by simp only [St.hears]; by_cases e : d = i ∧ x = k <;> simp [e] <;> (repeat' split) <;> first | rfl | (exfalso; omega))); have HO3 := Lib.hid (Only.setCell (Only.drew HO.out) (p := ⟨b, 8 + i * 6 + k, none⟩) (fun _ => rfl) (dv 65535 0)); clear x1 x2)
          try simp only [Act.put, List.setIfInBounds_toArray, List.set_cons_zero, List.set_cons_succ]
          refine hK.out _ _ _ trivial ?_
          clear hK K
          refine wpAnyH_done (by kernel_rfl) ?_ _
          go_wp2
          go_roundw
          case rel => exact ⟨i + 1, by omega, by go_num, HN3.out, HO3.out⟩
          case measure => simp [intOf]; omega
        · obtain rfl : i = 6 := by omega
          go_wp2
          go_ret
          exact ⟨rfl, by have hl := HL.out; simp only [if_true] at hl; rw [← hl]; exact HN.out.hears (fun d x hd _ => by simp only [hd, true_and]), HO.out⟩
    · have hz' : (c == 0) = false := by simp [hz]
      have hl := HL.out
      rw [if_neg hz] at hl
      have HL' := Lib.hid hl
      clear hz hl
      go_wp2
      go_ret
      exact ⟨rfl, HL'.out ▸ HN2.out, HO2.out⟩
set_option maxHeartbeats 1600000 in
theorem link_nil (t c : Int) (w : World) : Calls Try.prog 48 #[.pointer none, .int .i64 t, .int .i64 c] w fun e w' => e = .returned (.int .i64 10) ∧ w = w' := by
  go_enter Try.func48, Try.ntmps48
  go_wp2_with (go_at_call 64; refine (check_nil t w).mono ?_; rintro e w' ⟨rfl, rfl⟩)
  go_ret
  exact ⟨rfl, rfl⟩
end Eng
end Go.Proofs.Ytebkpjefdaieaaa

/-
  Package engine: Hear. Conditions: those that each theorem names.
-/
namespace Go.Proofs.Ytebkpjefdaieaaa
open Go.RowKit FR FP H2
set_option linter.unusedVariables false
set_option linter.unusedSimpArgs false
namespace Eng
open Feas
attribute [local go_sem] st_dv
/-- a slice that reads as offers (goal, metric, number) -/
def RdO (w : World) (A : Option Addr) (n : Nat) (f : Nat → Int × Int × Int) : Prop := ∀ i, i < n → ∃ g o, A = some ⟨g, o, none⟩ ∧ g < w.heap.size ∧ w.cell? ⟨g, o + i * 3, none⟩ = some (.int .i64 (f i).1) ∧ w.cell? ⟨g, o + i * 3 + 1, none⟩ = some (.int .i64 (f i).2.1) ∧ w.cell? ⟨g, o + i * 3 + 2, none⟩ = some (.int .u32 (f i).2.2)
theorem RdO.keep {w w' : World} {A : Option Addr} {n : Nat} {f : Nat → Int × Int × Int} {S : Nat → Prop} (h : RdO w A n f) (hb : Only S w w') (hS : ∀ g o, A = some ⟨g, o, none⟩ → ¬ S g) : RdO w' A n f := fun i hi => by
  obtain ⟨g, o, e, h0, h1, h2, h3⟩ := h i hi
  exact ⟨g, o, e, Nat.lt_of_lt_of_le h0 hb.size, hb.cell h1 (hS g o e), hb.cell h2 (hS g o e), hb.cell h3 (hS g o e)⟩
/-- may it be heard? -/
def fit (n : Nat) (o : Int × Int × Int) : Bool := decide (0 ≤ o.1) && decide (o.1 < n) && decide (0 ≤ o.2.1) && decide (o.2.1 ≤ 65535)
def fits (n : Nat) (f : Nat → Int × Int × Int) (k : Nat) : Bool := (List.range k).all (fun i => fit n (f i))
/-- what is kept of it -/
def kept (o : Int × Int × Int) : Int × Int := if 65535 ≤ o.2.1 then (65535, 0) else (o.2.1, o.2.2)
def St.take (s : St) (i : Nat) (o : Int × Int × Int) : St := if o.1 = s.id then s else s.hear1 o.1.toNat i (kept o)
def St.takes (s : St) (i : Nat) (f : Nat → Int × Int × Int) : Nat → St
  | 0 => s
  | k + 1 => (s.takes i f k).take i (f k)
theorem take_same (s : St) (i : Nat) (o : Int × Int × Int) : (s.take i o).id = s.id ∧ (s.take i o).n = s.n := by unfold St.take; split <;> exact ⟨rfl, rfl⟩
theorem takes_same (s : St) (i : Nat) (f : Nat → Int × Int × Int) : ∀ k, (s.takes i f k).id = s.id ∧ (s.takes i f k).n = s.n
  | 0 => ⟨rfl, rfl⟩
  | k + 1 => ⟨(take_same _ _ _).1.trans (takes_same s i f k).1, (take_same _ _ _).2.trans (takes_same s i f k).2⟩
/-- what Hear answers -/
def hea (s : St) (i : Int) (f : Nat → Int × Int × Int) (n : Nat) : Int := if upv s i = 0 then (if fits s.n f n = true then 0 else 1) else upv s i
/-- what Hear makes of a node -/
def St.hear (s : St) (i : Int) (f : Nat → Int × Int × Int) (n : Nat) : St := if upv s i = 0 ∧ fits s.n f n = true then s.takes i.toNat f n else s
theorem fits_succ (n : Nat) (f : Nat → Int × Int × Int) (k : Nat) : fits n f (k + 1) = (fits n f k && fit n (f k)) := by simp [fits, List.range_succ]
theorem fits_lt {n : Nat} {f : Nat → Int × Int × Int} {m k : Nat} (h : fits n f m = true) (hk : k < m) : fit n (f k) = true := by
  simp only [fits, List.all_eq_true, List.mem_range] at h; exact h k hk
theorem fits_bad {n : Nat} {f : Nat → Int × Int × Int} {m k : Nat} (h : fit n (f k) = false) (hk : k < m) : fits n f m = false := by
  cases e : fits n f m
  · rfl
  · rw [fits_lt e hk] at h; cases h
theorem hear_bad {s : St} {i : Int} {f : Nat → Int × Int × Int} {n k : Nat} (h0 : upv s i = 0) (h : fit s.n (f k) = false) (hk : k < n) : hea s i f n = 1 ∧ s.hear i f n = s := by
  have e := fits_bad h hk
  unfold hea St.hear
  rw [if_pos h0, e]
  exact ⟨rfl, by simp⟩
set_option maxRecDepth 100000 in
set_option maxHeartbeats 16000000 in
theorem hear_any (b : Nat) (s : St) (t : Int) (A : Option Addr) (n cap : Nat) (f : Nat → Int × Int × Int) (w : World) (h : IsN w b s) (hw : Wf s) (hn : n ≤ maxLen) (hf : RdO w A n f) (hb : 0 < n → ∀ g o, A = some ⟨g, o, none⟩ → g ≠ b) : Calls Try.prog 43 #[.pointer (some ⟨b, 0, none⟩), .int .i64 t, .slice A n cap] w fun e w' => e = .returned (.int .i64 (hea s t f n)) ∧ IsN w' b (s.hear t f n) ∧ Only (fun i => i = b) w w' := by
  have H := Lib.hid h
  have HW := Lib.hid hw
  have HF := Lib.hid hf
  have HBN := Lib.hid hb
  have hn6 := h.n6
  have hnm : n ≤ maxLen := hn
  unfold maxLen at hnm
  have hup := up_any b s t w h hw
  by_cases hu : upv s t = 0
  · have hoth : oth s t = true := by
      cases e : oth s t
      · have := hu; unfold upv at this; rw [if_neg (by rw [e]; simp)] at this; cases this
      · rfl
    obtain ⟨T, rfl, hTn, _⟩ := oth_nat hoth
    have T0 : (0 : Int) ≤ (T : Int) := by omega
    have T6 : (T : Int) < 6 := by omega
    have hT6 : T < 6 := by omega
    clear hoth
    rw [hu] at hup
    have HUP := Lib.hid hup
    have HU := Lib.hid hu
    clear hup h hw hf hb hu
    go_enter Try.func43, Try.ntmps43
    go_upto_region 5 with (go_at_call 56; refine (HUP.out).mono ?_; rintro e w' ⟨rfl, rfl⟩)
    go_loopw [21] (fun s21 wr => ∃ i : Nat, i ≤ n ∧ s21 = .int .i64 i ∧ fits s.n f i = true ∧ Below w.heap.size w wr) (fun s21 _ => n - (intOf s21).toNat)
    case atStart => exact ⟨0, by omega, rfl, rfl, Below.refl _ _⟩
    case round =>
      obtain ⟨i, hi, rfl, hfs, hbl⟩ := hrel
      have HFS := Lib.hid hfs
      have HB := Lib.hid hbl
      clear hfs hbl
      by_cases hlt : i < n
      · have hlt' : (i : Int) < (n : Int) := by omega
        have i0 : (0 : Int) ≤ (i : Int) := by omega
        obtain ⟨g, o, rfl, hg, x0, x1, x2⟩ := (HF.out.keep (Only.of_below (Only.refl (fun _ => False) w) HB.out) (fun _ _ _ h => h)) i hlt
        obtain ⟨d, m, q, hq⟩ : ∃ d m q, f i = (d, m, q) := ⟨_, _, _, rfl⟩
        rw [hq] at x0 x1 x2
        have HQ := Lib.hid hq
        clear hq
        go_upto_region 7 with fail
        have y0 : (wr.alloc (.cells #[.int .i64 d, .int .i64 m, .int .u32 q] 99 (0, 0))).cell? ⟨wr.heap.size, 0, none⟩ = some (.int .i64 d) := by simp
        have y1 : (wr.alloc (.cells #[.int .i64 d, .int .i64 m, .int .u32 q] 99 (0, 0))).cell? ⟨wr.heap.size, 1, none⟩ = some (.int .i64 m) := by simp
        have y2 := ((H.out.keep HB.out).keep ((Below.refl wr.heap.size wr).alloc (Nat.le_refl _) (.cells #[.int .i64 d, .int .i64 m, .int .u32 q] 99 (0, 0)))).cn
        have HB2 := Lib.hid (HB.out.alloc HB.out.size (.cells #[.int .i64 d, .int .i64 m, .int .u32 q] 99 (0, 0)))
        by_cases h1 : d < 0
        · have hbad := hear_bad (k := i) HU.out (show fit s.n (f i) = false by rw [HQ.out]; simp [fit]; omega) hlt
          have HBD := Lib.hid hbad
          clear hbad
          refine wp_region_held_drew (S := (fun w' => w'.cell? ⟨wr.heap.size, 0, none⟩ = some (.int .i64 d) ∧ w'.cell? ⟨wr.heap.size, 1, none⟩ = some (.int .i64 m) ∧ w'.cell? ⟨b, 1, none⟩ = some (.int .i64 s.n))) (by kernel_rfl) ⟨y0, y1, y2⟩ (fun _ => ?_)
          refine held_take 0 25 (v := ?_) rfl rfl (by kernel_rfl) (by kernel_rfl) (by kernel_rfl) (fun _ _ _ h => h) (by rfl) ?_ ⟨y0, y1, y2⟩ ?_
          rotate_left
          · (intro w hSw; (try dsimp only at hSw); try simp only [List.getElem_toArray, List.getElem_cons_zero, List.getElem_cons_succ]; go_simp; try (with_reducible rfl))
          try simp only [List.setIfInBounds_toArray, List.set_cons_zero, List.set_cons_succ]
          refine held_take 1 26 (v := ?_) rfl rfl (by kernel_rfl) (by kernel_rfl) (by kernel_rfl) (fun _ _ _ h => h) (by rfl) ?_ ⟨y0, y1, y2⟩ ?_
          rotate_left
          · (intro w hSw; (try dsimp only at hSw); try simp only [List.getElem_toArray, List.getElem_cons_zero, List.getElem_cons_succ]; go_simp; try (with_reducible rfl))
          try simp only [List.setIfInBounds_toArray, List.set_cons_zero, List.set_cons_succ]
          refine held_take 2 27 (v := ?_) rfl rfl (by kernel_rfl) (by kernel_rfl) (by kernel_rfl) (fun _ _ _ h => h) (by rfl) ?_ ⟨y0, y1, y2⟩ ?_
          rotate_left
          · (intro w hSw; (try dsimp only at hSw); try simp only [List.getElem_toArray, List.getElem_cons_zero, List.getElem_cons_succ]; go_simp; try (with_reducible rfl))
          try simp only [List.setIfInBounds_toArray, List.set_cons_zero, List.set_cons_succ]
          refine held_take 3 28 (v := ?_) rfl rfl (by kernel_rfl) (by kernel_rfl) (by kernel_rfl) (fun _ _ _ h => h) (by rfl) ?_ ⟨y0, y1, y2⟩ ?_
          rotate_left
          · (intro w hSw; (try dsimp only at hSw); try simp only [List.getElem_toArray, List.getElem_cons_zero, List.getElem_cons_succ]; go_simp; try (with_reducible rfl))
          try simp only [List.setIfInBounds_toArray, List.set_cons_zero, List.set_cons_succ]
          refine held_skip 4 29 rfl rfl (by kernel_rfl) (by kernel_rfl) (by kernel_rfl) (fun _ _ _ h => h) (by rfl) ⟨y0, y1, y2⟩ ?_
          try simp only [List.setIfInBounds_toArray, List.set_cons_zero, List.set_cons_succ]
          refine held_skip 5 30 rfl rfl (by kernel_rfl) (by kernel_rfl) (by kernel_rfl) (fun _ _ _ h => h) (by rfl) ⟨y0, y1, y2⟩ ?_
          try simp only [List.setIfInBounds_toArray, List.set_cons_zero, List.set_cons_succ]
          refine held_skip 6 31 rfl rfl (by kernel_rfl) (by kernel_rfl) (by kernel_rfl) (fun _ _ _ h => h) (by rfl) ⟨y0, y1, y2⟩ ?_
          try simp only [List.setIfInBounds_toArray, List.set_cons_zero, List.set_cons_succ]
          refine held_skip 7 32 rfl rfl (by kernel_rfl) (by kernel_rfl) (by kernel_rfl) (fun _ _ _ h => h) (by rfl) ⟨y0, y1, y2⟩ ?_
          try simp only [List.setIfInBounds_toArray, List.set_cons_zero, List.set_cons_succ]
          refine held_skip 8 33 rfl rfl (by kernel_rfl) (by kernel_rfl) (by kernel_rfl) (fun _ _ _ h => h) (by rfl) ⟨y0, y1, y2⟩ ?_
          try simp only [List.setIfInBounds_toArray, List.set_cons_zero, List.set_cons_succ]
          refine held_skip 9 34 rfl rfl (by kernel_rfl) (by kernel_rfl) (by kernel_rfl) (fun _ _ _ h => h) (by rfl) ⟨y0, y1, y2⟩ ?_
          try simp only [List.setIfInBounds_toArray, List.set_cons_zero, List.set_cons_succ]
          refine held_skip 10 35 rfl rfl (by kernel_rfl) (by kernel_rfl) (by kernel_rfl) (fun _ _ _ h => h) (by rfl) ⟨y0, y1, y2⟩ ?_
          try simp only [List.setIfInBounds_toArray, List.set_cons_zero, List.set_cons_succ]
          refine held_take 11 36 (v := ?_) rfl rfl (by kernel_rfl) (by kernel_rfl) (by kernel_rfl) (fun _ _ _ h => h) (by rfl) ?_ ⟨y0, y1, y2⟩ ?_
          rotate_left
          · (intro w hSw; (try dsimp only at hSw); try simp only [List.getElem_toArray, List.getElem_cons_zero, List.getElem_cons_succ]; go_simp; try (with_reducible rfl))
          try simp only [List.setIfInBounds_toArray, List.set_cons_zero, List.set_cons_succ]
          refine held_take 12 37 (v := ?_) rfl rfl (by kernel_rfl) (by kernel_rfl) (by kernel_rfl) (fun _ _ _ h => h) (by rfl) ?_ ⟨y0, y1, y2⟩ ?_
          rotate_left
          · (intro w hSw; (try dsimp only at hSw); try simp only [List.getElem_toArray, List.getElem_cons_zero, List.getElem_cons_succ]; go_simp; try (with_reducible rfl))
          try simp only [List.setIfInBounds_toArray, List.set_cons_zero, List.set_cons_succ]
          refine held_skip 13 38 rfl rfl (by kernel_rfl) (by kernel_rfl) (by kernel_rfl) (fun _ _ _ h => h) (by rfl) ⟨y0, y1, y2⟩ ?_
          try simp only [List.setIfInBounds_toArray, List.set_cons_zero, List.set_cons_succ]
          refine held_skip 14 39 rfl rfl (by kernel_rfl) (by kernel_rfl) (by kernel_rfl) (fun _ _ _ h => h) (by rfl) ⟨y0, y1, y2⟩ ?_
          try simp only [List.setIfInBounds_toArray, List.set_cons_zero, List.set_cons_succ]
          refine held_skip 15 40 rfl rfl (by kernel_rfl) (by kernel_rfl) (by kernel_rfl) (fun _ _ _ h => h) (by rfl) ⟨y0, y1, y2⟩ ?_
          try simp only [List.setIfInBounds_toArray, List.set_cons_zero, List.set_cons_succ]
          refine held_take 16 41 (v := ?_) rfl rfl (by kernel_rfl) (by kernel_rfl) (by kernel_rfl) (fun _ _ _ h => h) (by rfl) ?_ ⟨y0, y1, y2⟩ ?_
          rotate_left
          · (intro w hSw; (try dsimp only at hSw); try simp only [List.getElem_toArray, List.getElem_cons_zero, List.getElem_cons_succ]; go_simp; try (with_reducible rfl))
          try simp only [List.setIfInBounds_toArray, List.set_cons_zero, List.set_cons_succ]
          refine held_take 17 42 (v := ?_) rfl rfl (by kernel_rfl) (by kernel_rfl) (by kernel_rfl) (fun _ _ _ h => h) (by rfl) ?_ ⟨y0, y1, y2⟩ ?_
          rotate_left
          · (intro w hSw; (try dsimp only at hSw); try simp only [List.getElem_toArray, List.getElem_cons_zero, List.getElem_cons_succ]; go_simp; try (with_reducible rfl))
          try simp only [List.setIfInBounds_toArray, List.set_cons_zero, List.set_cons_succ]
          refine held_skip 18 43 rfl rfl (by kernel_rfl) (by kernel_rfl) (by kernel_rfl) (fun _ _ _ h => h) (by rfl) ⟨y0, y1, y2⟩ ?_
          try simp only [List.setIfInBounds_toArray, List.set_cons_zero, List.set_cons_succ]
          refine held_skip 19 44 rfl rfl (by kernel_rfl) (by kernel_rfl) (by kernel_rfl) (fun _ _ _ h => h) (by rfl) ⟨y0, y1, y2⟩ ?_
          try simp only [List.setIfInBounds_toArray, List.set_cons_zero, List.set_cons_succ]
          refine held_skip 20 45 rfl rfl (by kernel_rfl) (by kernel_rfl) (by kernel_rfl) (fun _ _ _ h => h) (by rfl) ⟨y0, y1, y2⟩ ?_
          try simp only [List.setIfInBounds_toArray, List.set_cons_zero, List.set_cons_succ]
          refine held_take 21 46 (v := ?_) rfl rfl (by kernel_rfl) (by kernel_rfl) (by kernel_rfl) (fun _ _ _ h => h) (by rfl) ?_ ⟨y0, y1, y2⟩ ?_
          rotate_left
          · (intro w hSw; (try dsimp only at hSw); try simp only [List.getElem_toArray, List.getElem_cons_zero, List.getElem_cons_succ]; go_simp; try (with_reducible rfl))
          try simp only [List.setIfInBounds_toArray, List.set_cons_zero, List.set_cons_succ]
          refine wpAnyH_done (by kernel_rfl) ?_ _
          go_wp2
          go_ret
          exact ⟨by rw [HBD.out.1]; rfl, by rw [HBD.out.2]; exact H.out.keep HB2.out.drew, (Only.refl _ _).of_below HB2.out.drew⟩
        by_cases h2 : (s.n : Int) ≤ d
        · have hbad := hear_bad (k := i) HU.out (show fit s.n (f i) = false by rw [HQ.out]; simp [fit]; omega) hlt
          have HBD := Lib.hid hbad
          clear hbad
          refine wp_region_held_drew (S := (fun w' => w'.cell? ⟨wr.heap.size, 0, none⟩ = some (.int .i64 d) ∧ w'.cell? ⟨wr.heap.size, 1, none⟩ = some (.int .i64 m) ∧ w'.cell? ⟨b, 1, none⟩ = some (.int .i64 s.n))) (by kernel_rfl) ⟨y0, y1, y2⟩ (fun _ => ?_)
          refine held_take 0 25 (v := ?_) rfl rfl (by kernel_rfl) (by kernel_rfl) (by kernel_rfl) (fun _ _ _ h => h) (by rfl) ?_ ⟨y0, y1, y2⟩ ?_
          rotate_left
          · (intro w hSw; (try dsimp only at hSw); try simp only [List.getElem_toArray, List.getElem_cons_zero, List.getElem_cons_succ]; go_simp; try (with_reducible rfl))
          try simp only [List.setIfInBounds_toArray, List.set_cons_zero, List.set_cons_succ]
          refine held_take 1 26 (v := ?_) rfl rfl (by kernel_rfl) (by kernel_rfl) (by kernel_rfl) (fun _ _ _ h => h) (by rfl) ?_ ⟨y0, y1, y2⟩ ?_
          rotate_left
          · (intro w hSw; (try dsimp only at hSw); try simp only [List.getElem_toArray, List.getElem_cons_zero, List.getElem_cons_succ]; go_simp; try (with_reducible rfl))
          try simp only [List.setIfInBounds_toArray, List.set_cons_zero, List.set_cons_succ]
          refine held_take 2 27 (v := ?_) rfl rfl (by kernel_rfl) (by kernel_rfl) (by kernel_rfl) (fun _ _ _ h => h) (by rfl) ?_ ⟨y0, y1, y2⟩ ?_
          rotate_left
          · (intro w hSw; (try dsimp only at hSw); try simp only [List.getElem_toArray, List.getElem_cons_zero, List.getElem_cons_succ]; go_simp; try (with_reducible rfl))
          try simp only [List.setIfInBounds_toArray, List.set_cons_zero, List.set_cons_succ]
          refine held_take 3 28 (v := ?_) rfl rfl (by kernel_rfl) (by kernel_rfl) (by kernel_rfl) (fun _ _ _ h => h) (by rfl) ?_ ⟨y0, y1, y2⟩ ?_
          rotate_left
          · (intro w hSw; (try dsimp only at hSw); try simp only [List.getElem_toArray, List.getElem_cons_zero, List.getElem_cons_succ]; go_simp; try (with_reducible rfl))
          try simp only [List.setIfInBounds_toArray, List.set_cons_zero, List.set_cons_succ]
          refine held_take 4 29 (v := ?_) rfl rfl (by kernel_rfl) (by kernel_rfl) (by kernel_rfl) (fun _ _ _ h => h) (by rfl) ?_ ⟨y0, y1, y2⟩ ?_
          rotate_left
          · (intro w hSw; (try dsimp only at hSw); try simp only [List.getElem_toArray, List.getElem_cons_zero, List.getElem_cons_succ]; go_simp; try (with_reducible rfl))
          try simp only [List.setIfInBounds_toArray, List.set_cons_zero, List.set_cons_succ]
          refine held_take 5 30 (v := ?_) rfl rfl (by kernel_rfl) (by kernel_rfl) (by kernel_rfl) (fun _ _ _ h => h) (by rfl) ?_ ⟨y0, y1, y2⟩ ?_
          rotate_left
          · (intro w hSw; (try dsimp only at hSw); try simp only [List.getElem_toArray, List.getElem_cons_zero, List.getElem_cons_succ]; go_simp; try (with_reducible rfl))
          try simp only [List.setIfInBounds_toArray, List.set_cons_zero, List.set_cons_succ]
          refine held_take 6 31 (v := ?_) rfl rfl (by kernel_rfl) (by kernel_rfl) (by kernel_rfl) (fun _ _ _ h => h) (by rfl) ?_ ⟨y0, y1, y2⟩ ?_
          rotate_left
          · (intro w hSw; (try dsimp only at hSw); try simp only [List.getElem_toArray, List.getElem_cons_zero, List.getElem_cons_succ]; go_simp; try (with_reducible rfl))
          try simp only [List.setIfInBounds_toArray, List.set_cons_zero, List.set_cons_succ]
          refine held_take 7 32 (v := ?_) rfl rfl (by kernel_rfl) (by kernel_rfl) (by kernel_rfl) (fun _ _ _ h => h) (by rfl) ?_ ⟨y0, y1, y2⟩ ?_
          rotate_left
          · (intro w hSw; (try dsimp only at hSw); try simp only [List.getElem_toArray, List.getElem_cons_zero, List.getElem_cons_succ]; go_simp; try (with_reducible rfl))
          try simp only [List.setIfInBounds_toArray, List.set_cons_zero, List.set_cons_succ]
          refine held_take 8 33 (v := ?_) rfl rfl (by kernel_rfl) (by kernel_rfl) (by kernel_rfl) (fun _ _ _ h => h) (by rfl) ?_ ⟨y0, y1, y2⟩ ?_
          rotate_left
          · (intro w hSw; (try dsimp only at hSw); try simp only [List.getElem_toArray, List.getElem_cons_zero, List.getElem_cons_succ]; go_simp; try (with_reducible rfl))
          try simp only [List.setIfInBounds_toArray, List.set_cons_zero, List.set_cons_succ]
          refine held_take 9 34 (v := ?_) rfl rfl (by kernel_rfl) (by kernel_rfl) (by kernel_rfl) (fun _ _ _ h => h) (by rfl) ?_ ⟨y0, y1, y2⟩ ?_
          rotate_left
          · (intro w hSw; (try dsimp only at hSw); try simp only [List.getElem_toArray, List.getElem_cons_zero, List.getElem_cons_succ]; go_simp; try (with_reducible rfl))
          try simp only [List.setIfInBounds_toArray, List.set_cons_zero, List.set_cons_succ]
          refine held_take 10 35 (v := ?_) rfl rfl (by kernel_rfl) (by kernel_rfl) (by kernel_rfl) (fun _ _ _ h => h) (by rfl) ?_ ⟨y0, y1, y2⟩ ?_
          rotate_left
          · (intro w hSw; (try dsimp only at hSw); try simp only [List.getElem_toArray, List.getElem_cons_zero, List.getElem_cons_succ]; go_simp; try (with_reducible rfl))
          try simp only [List.setIfInBounds_toArray, List.set_cons_zero, List.set_cons_succ]
          refine held_take 11 36 (v := ?_) rfl rfl (by kernel_rfl) (by kernel_rfl) (by kernel_rfl) (fun _ _ _ h => h) (by rfl) ?_ ⟨y0, y1, y2⟩ ?_
          rotate_left
          · (intro w hSw; (try dsimp only at hSw); try simp only [List.getElem_toArray, List.getElem_cons_zero, List.getElem_cons_succ]; go_simp; try (with_reducible rfl))
          try simp only [List.setIfInBounds_toArray, List.set_cons_zero, List.set_cons_succ]
          refine held_take 12 37 (v := ?_) rfl rfl (by kernel_rfl) (by kernel_rfl) (by kernel_rfl) (fun _ _ _ h => h) (by rfl) ?_ ⟨y0, y1, y2⟩ ?_
          rotate_left
          · (intro w hSw; (try dsimp only at hSw); try simp only [List.getElem_toArray, List.getElem_cons_zero, List.getElem_cons_succ]; go_simp; try (with_reducible rfl))
          try simp only [List.setIfInBounds_toArray, List.set_cons_zero, List.set_cons_succ]
          refine held_skip 13 38 rfl rfl (by kernel_rfl) (by kernel_rfl) (by kernel_rfl) (fun _ _ _ h => h) (by rfl) ⟨y0, y1, y2⟩ ?_
          try simp only [List.setIfInBounds_toArray, List.set_cons_zero, List.set_cons_succ]
          refine held_skip 14 39 rfl rfl (by kernel_rfl) (by kernel_rfl) (by kernel_rfl) (fun _ _ _ h => h) (by rfl) ⟨y0, y1, y2⟩ ?_
          try simp only [List.setIfInBounds_toArray, List.set_cons_zero, List.set_cons_succ]
          refine held_skip 15 40 rfl rfl (by kernel_rfl) (by kernel_rfl) (by kernel_rfl) (fun _ _ _ h => h) (by rfl) ⟨y0, y1, y2⟩ ?_
          try simp only [List.setIfInBounds_toArray, List.set_cons_zero, List.set_cons_succ]
          refine held_take 16 41 (v := ?_) rfl rfl (by kernel_rfl) (by kernel_rfl) (by kernel_rfl) (fun _ _ _ h => h) (by rfl) ?_ ⟨y0, y1, y2⟩ ?_
          rotate_left
          · (intro w hSw; (try dsimp only at hSw); try simp only [List.getElem_toArray, List.getElem_cons_zero, List.getElem_cons_succ]; go_simp; try (with_reducible rfl))
          try simp only [List.setIfInBounds_toArray, List.set_cons_zero, List.set_cons_succ]
          refine held_take 17 42 (v := ?_) rfl rfl (by kernel_rfl) (by kernel_rfl) (by kernel_rfl) (fun _ _ _ h => h) (by rfl) ?_ ⟨y0, y1, y2⟩ ?_
          rotate_left
          · (intro w hSw; (try dsimp only at hSw); try simp only [List.getElem_toArray, List.getElem_cons_zero, List.getElem_cons_succ]; go_simp; try (with_reducible rfl))
          try simp only [List.setIfInBounds_toArray, List.set_cons_zero, List.set_cons_succ]
          refine held_skip 18 43 rfl rfl (by kernel_rfl) (by kernel_rfl) (by kernel_rfl) (fun _ _ _ h => h) (by rfl) ⟨y0, y1, y2⟩ ?_
          try simp only [List.setIfInBounds_toArray, List.set_cons_zero, List.set_cons_succ]
          refine held_skip 19 44 rfl rfl (by kernel_rfl) (by kernel_rfl) (by kernel_rfl) (fun _ _ _ h => h) (by rfl) ⟨y0, y1, y2⟩ ?_
          try simp only [List.setIfInBounds_toArray, List.set_cons_zero, List.set_cons_succ]
          refine held_skip 20 45 rfl rfl (by kernel_rfl) (by kernel_rfl) (by kernel_rfl) (fun _ _ _ h => h) (by rfl) ⟨y0, y1, y2⟩ ?_
          try simp only [List.setIfInBounds_toArray, List.set_cons_zero, List.set_cons_succ]
          refine held_take 21 46 (v := ?_) rfl rfl (by kernel_rfl) (by kernel_rfl) (by kernel_rfl) (fun _ _ _ h => h) (by rfl) ?_ ⟨y0, y1, y2⟩ ?_
          rotate_left
          · (intro w hSw; (try dsimp only at hSw); try simp only [List.getElem_toArray, List.getElem_cons_zero, List.getElem_cons_succ]; go_simp; try (with_reducible rfl))
          try simp only [List.setIfInBounds_toArray, List.set_cons_zero, List.set_cons_succ]
          refine wpAnyH_done (by kernel_rfl) ?_ _
          go_wp2
          go_ret
          exact ⟨by rw [HBD.out.1]; rfl, by rw [HBD.out.2]; exact H.out.keep HB2.out.drew, (Only.refl _ _).of_below HB2.out.drew⟩
        by_cases h3 : m < 0
        · have hbad := hear_bad (k := i) HU.out (show fit s.n (f i) = false by rw [HQ.out]; simp [fit]; omega) hlt
          have HBD := Lib.hid hbad
          clear hbad
          refine wp_region_held_drew (S := (fun w' => w'.cell? ⟨wr.heap.size, 0, none⟩ = some (.int .i64 d) ∧ w'.cell? ⟨wr.heap.size, 1, none⟩ = some (.int .i64 m) ∧ w'.cell? ⟨b, 1, none⟩ = some (.int .i64 s.n))) (by kernel_rfl) ⟨y0, y1, y2⟩ (fun _ => ?_)
          refine held_take 0 25 (v := ?_) rfl rfl (by kernel_rfl) (by kernel_rfl) (by kernel_rfl) (fun _ _ _ h => h) (by rfl) ?_ ⟨y0, y1, y2⟩ ?_
          rotate_left
          · (intro w hSw; (try dsimp only at hSw); try simp only [List.getElem_toArray, List.getElem_cons_zero, List.getElem_cons_succ]; go_simp; try (with_reducible rfl))
          try simp only [List.setIfInBounds_toArray, List.set_cons_zero, List.set_cons_succ]
          refine held_take 1 26 (v := ?_) rfl rfl (by kernel_rfl) (by kernel_rfl) (by kernel_rfl) (fun _ _ _ h => h) (by rfl) ?_ ⟨y0, y1, y2⟩ ?_
          rotate_left
          · (intro w hSw; (try dsimp only at hSw); try simp only [List.getElem_toArray, List.getElem_cons_zero, List.getElem_cons_succ]; go_simp; try (with_reducible rfl))
          try simp only [List.setIfInBounds_toArray, List.set_cons_zero, List.set_cons_succ]
          refine held_take 2 27 (v := ?_) rfl rfl (by kernel_rfl) (by kernel_rfl) (by kernel_rfl) (fun _ _ _ h => h) (by rfl) ?_ ⟨y0, y1, y2⟩ ?_
          rotate_left
          · (intro w hSw; (try dsimp only at hSw); try simp only [List.getElem_toArray, List.getElem_cons_zero, List.getElem_cons_succ]; go_simp; try (with_reducible rfl))
          try simp only [List.setIfInBounds_toArray, List.set_cons_zero, List.set_cons_succ]
          refine held_take 3 28 (v := ?_) rfl rfl (by kernel_rfl) (by kernel_rfl) (by kernel_rfl) (fun _ _ _ h => h) (by rfl) ?_ ⟨y0, y1, y2⟩ ?_
          rotate_left
          · (intro w hSw; (try dsimp only at hSw); try simp only [List.getElem_toArray, List.getElem_cons_zero, List.getElem_cons_succ]; go_simp; try (with_reducible rfl))
          try simp only [List.setIfInBounds_toArray, List.set_cons_zero, List.set_cons_succ]
          refine held_take 4 29 (v := ?_) rfl rfl (by kernel_rfl) (by kernel_rfl) (by kernel_rfl) (fun _ _ _ h => h) (by rfl) ?_ ⟨y0, y1, y2⟩ ?_
          rotate_left
          · (intro w hSw; (try dsimp only at hSw); try simp only [List.getElem_toArray, List.getElem_cons_zero, List.getElem_cons_succ]; go_simp; try (with_reducible rfl))
          try simp only [List.setIfInBounds_toArray, List.set_cons_zero, List.set_cons_succ]
          refine held_take 5 30 (v := ?_) rfl rfl (by kernel_rfl) (by kernel_rfl) (by kernel_rfl) (fun _ _ _ h => h) (by rfl) ?_ ⟨y0, y1, y2⟩ ?_
          rotate_left
          · (intro w hSw; (try dsimp only at hSw); try simp only [List.getElem_toArray, List.getElem_cons_zero, List.getElem_cons_succ]; go_simp; try (with_reducible rfl))
          try simp only [List.setIfInBounds_toArray, List.set_cons_zero, List.set_cons_succ]
          refine held_take 6 31 (v := ?_) rfl rfl (by kernel_rfl) (by kernel_rfl) (by kernel_rfl) (fun _ _ _ h => h) (by rfl) ?_ ⟨y0, y1, y2⟩ ?_
          rotate_left
          · (intro w hSw; (try dsimp only at hSw); try simp only [List.getElem_toArray, List.getElem_cons_zero, List.getElem_cons_succ]; go_simp; try (with_reducible rfl))
          try simp only [List.setIfInBounds_toArray, List.set_cons_zero, List.set_cons_succ]
          refine held_take 7 32 (v := ?_) rfl rfl (by kernel_rfl) (by kernel_rfl) (by kernel_rfl) (fun _ _ _ h => h) (by rfl) ?_ ⟨y0, y1, y2⟩ ?_
          rotate_left
          · (intro w hSw; (try dsimp only at hSw); try simp only [List.getElem_toArray, List.getElem_cons_zero, List.getElem_cons_succ]; go_simp; try (with_reducible rfl))
          try simp only [List.setIfInBounds_toArray, List.set_cons_zero, List.set_cons_succ]
          refine held_take 8 33 (v := ?_) rfl rfl (by kernel_rfl) (by kernel_rfl) (by kernel_rfl) (fun _ _ _ h => h) (by rfl) ?_ ⟨y0, y1, y2⟩ ?_
          rotate_left
          · (intro w hSw; (try dsimp only at hSw); try simp only [List.getElem_toArray, List.getElem_cons_zero, List.getElem_cons_succ]; go_simp; try (with_reducible rfl))
          try simp only [List.setIfInBounds_toArray, List.set_cons_zero, List.set_cons_succ]
          refine held_take 9 34 (v := ?_) rfl rfl (by kernel_rfl) (by kernel_rfl) (by kernel_rfl) (fun _ _ _ h => h) (by rfl) ?_ ⟨y0, y1, y2⟩ ?_
          rotate_left
          · (intro w hSw; (try dsimp only at hSw); try simp only [List.getElem_toArray, List.getElem_cons_zero, List.getElem_cons_succ]; go_simp; try (with_reducible rfl))
          try simp only [List.setIfInBounds_toArray, List.set_cons_zero, List.set_cons_succ]
          refine held_take 10 35 (v := ?_) rfl rfl (by kernel_rfl) (by kernel_rfl) (by kernel_rfl) (fun _ _ _ h => h) (by rfl) ?_ ⟨y0, y1, y2⟩ ?_
          rotate_left
          · (intro w hSw; (try dsimp only at hSw); try simp only [List.getElem_toArray, List.getElem_cons_zero, List.getElem_cons_succ]; go_simp; try (with_reducible rfl))
          try simp only [List.setIfInBounds_toArray, List.set_cons_zero, List.set_cons_succ]
          refine held_take 11 36 (v := ?_) rfl rfl (by kernel_rfl) (by kernel_rfl) (by kernel_rfl) (fun _ _ _ h => h) (by rfl) ?_ ⟨y0, y1, y2⟩ ?_
          rotate_left
          · (intro w hSw; (try dsimp only at hSw); try simp only [List.getElem_toArray, List.getElem_cons_zero, List.getElem_cons_succ]; go_simp; try (with_reducible rfl))
          try simp only [List.setIfInBounds_toArray, List.set_cons_zero, List.set_cons_succ]
          refine held_take 12 37 (v := ?_) rfl rfl (by kernel_rfl) (by kernel_rfl) (by kernel_rfl) (fun _ _ _ h => h) (by rfl) ?_ ⟨y0, y1, y2⟩ ?_
          rotate_left
          · (intro w hSw; (try dsimp only at hSw); try simp only [List.getElem_toArray, List.getElem_cons_zero, List.getElem_cons_succ]; go_simp; try (with_reducible rfl))
          try simp only [List.setIfInBounds_toArray, List.set_cons_zero, List.set_cons_succ]
          refine held_take 13 38 (v := ?_) rfl rfl (by kernel_rfl) (by kernel_rfl) (by kernel_rfl) (fun _ _ _ h => h) (by rfl) ?_ ⟨y0, y1, y2⟩ ?_
          rotate_left
          · (intro w hSw; (try dsimp only at hSw); try simp only [List.getElem_toArray, List.getElem_cons_zero, List.getElem_cons_succ]; go_simp; try (with_reducible rfl))
          try simp only [List.setIfInBounds_toArray, List.set_cons_zero, List.set_cons_succ]
          refine held_take 14 39 (v := ?_) rfl rfl (by kernel_rfl) (by kernel_rfl) (by kernel_rfl) (fun _ _ _ h => h) (by rfl) ?_ ⟨y0, y1, y2⟩ ?_
          rotate_left
          · (intro w hSw; (try dsimp only at hSw); try simp only [List.getElem_toArray, List.getElem_cons_zero, List.getElem_cons_succ]; go_simp; try (with_reducible rfl))
          try simp only [List.setIfInBounds_toArray, List.set_cons_zero, List.set_cons_succ]
          refine held_take 15 40 (v := ?_) rfl rfl (by kernel_rfl) (by kernel_rfl) (by kernel_rfl) (fun _ _ _ h => h) (by rfl) ?_ ⟨y0, y1, y2⟩ ?_
          rotate_left
          · (intro w hSw; (try dsimp only at hSw); try simp only [List.getElem_toArray, List.getElem_cons_zero, List.getElem_cons_succ]; go_simp; try (with_reducible rfl))
          try simp only [List.setIfInBounds_toArray, List.set_cons_zero, List.set_cons_succ]
          refine held_take 16 41 (v := ?_) rfl rfl (by kernel_rfl) (by kernel_rfl) (by kernel_rfl) (fun _ _ _ h => h) (by rfl) ?_ ⟨y0, y1, y2⟩ ?_
          rotate_left
          · (intro w hSw; (try dsimp only at hSw); try simp only [List.getElem_toArray, List.getElem_cons_zero, List.getElem_cons_succ]; go_simp; try (with_reducible rfl))
          try simp only [List.setIfInBounds_toArray, List.set_cons_zero, List.set_cons_succ]
          refine held_take 17 42 (v := ?_) rfl rfl (by kernel_rfl) (by kernel_rfl) (by kernel_rfl) (fun _ _ _ h => h) (by rfl) ?_ ⟨y0, y1, y2⟩ ?_
          rotate_left
          · (intro w hSw; (try dsimp only at hSw); try simp only [List.getElem_toArray, List.getElem_cons_zero, List.getElem_cons_succ]; go_simp; try (with_reducible rfl))
          try simp only [List.setIfInBounds_toArray, List.set_cons_zero, List.set_cons_succ]
          refine held_skip 18 43 rfl rfl (by kernel_rfl) (by kernel_rfl) (by kernel_rfl) (fun _ _ _ h => h) (by rfl) ⟨y0, y1, y2⟩ ?_
          try simp only [List.setIfInBounds_toArray, List.set_cons_zero, List.set_cons_succ]
          refine held_skip 19 44 rfl rfl (by kernel_rfl) (by kernel_rfl) (by kernel_rfl) (fun _ _ _ h => h) (by rfl) ⟨y0, y1, y2⟩ ?_
          try simp only [List.setIfInBounds_toArray, List.set_cons_zero, List.set_cons_succ]
          refine held_skip 20 45 rfl rfl (by kernel_rfl) (by kernel_rfl) (by kernel_rfl) (fun _ _ _ h => h) (by rfl) ⟨y0, y1, y2⟩ ?_
          try simp only [List.setIfInBounds_toArray, List.set_cons_zero, List.set_cons_succ]
          refine held_take 21 46 (v := ?_) rfl rfl (by kernel_rfl) (by kernel_rfl) (by kernel_rfl) (fun _ _ _ h => h) (by rfl) ?_ ⟨y0, y1, y2⟩ ?_
          rotate_left
          · (intro w hSw; (try dsimp only at hSw); try simp only [List.getElem_toArray, List.getElem_cons_zero, List.getElem_cons_succ]; go_simp; try (with_reducible rfl))
          try simp only [List.setIfInBounds_toArray, List.set_cons_zero, List.set_cons_succ]
          refine wpAnyH_done (by kernel_rfl) ?_ _
          go_wp2
          go_ret
          exact ⟨by rw [HBD.out.1]; rfl, by rw [HBD.out.2]; exact H.out.keep HB2.out.drew, (Only.refl _ _).of_below HB2.out.drew⟩
        by_cases h4 : 65535 < m
        · have hbad := hear_bad (k := i) HU.out (show fit s.n (f i) = false by rw [HQ.out]; simp [fit]; omega) hlt
          have HBD := Lib.hid hbad
          clear hbad
          refine wp_region_held_drew (S := (fun w' => w'.cell? ⟨wr.heap.size, 0, none⟩ = some (.int .i64 d) ∧ w'.cell? ⟨wr.heap.size, 1, none⟩ = some (.int .i64 m) ∧ w'.cell? ⟨b, 1, none⟩ = some (.int .i64 s.n))) (by kernel_rfl) ⟨y0, y1, y2⟩ (fun _ => ?_)
          refine held_take 0 25 (v := ?_) rfl rfl (by kernel_rfl) (by kernel_rfl) (by kernel_rfl) (fun _ _ _ h => h) (by rfl) ?_ ⟨y0, y1, y2⟩ ?_
          rotate_left
          · (intro w hSw; (try dsimp only at hSw); try simp only [List.getElem_toArray, List.getElem_cons_zero, List.getElem_cons_succ]; go_simp; try (with_reducible rfl))
          try simp only [List.setIfInBounds_toArray, List.set_cons_zero, List.set_cons_succ]
          refine held_take 1 26 (v := ?_) rfl rfl (by kernel_rfl) (by kernel_rfl) (by kernel_rfl) (fun _ _ _ h => h) (by rfl) ?_ ⟨y0, y1, y2⟩ ?_
          rotate_left
          · (intro w hSw; (try dsimp only at hSw); try simp only [List.getElem_toArray, List.getElem_cons_zero, List.getElem_cons_succ]; go_simp; try (with_reducible rfl))
          try simp only [List.setIfInBounds_toArray, List.set_cons_zero, List.set_cons_succ]
          refine held_take 2 27 (v := ?_) rfl rfl (by kernel_rfl) (by kernel_rfl) (by kernel_rfl) (fun _ _ _ h => h) (by rfl) ?_ ⟨y0, y1, y2⟩ ?_
          rotate_left
          · (intro w hSw; (try dsimp only at hSw); try simp only [List.getElem_toArray, List.getElem_cons_zero, List.getElem_cons_succ]; go_simp; try (with_reducible rfl))
          try simp only [List.setIfInBounds_toArray, List.set_cons_zero, List.set_cons_succ]
          refine held_take 3 28 (v := ?_) rfl rfl (by kernel_rfl) (by kernel_rfl) (by kernel_rfl) (fun _ _ _ h => h) (by rfl) ?_ ⟨y0, y1, y2⟩ ?_
          rotate_left
          · (intro w hSw; (try dsimp only at hSw); try simp only [List.getElem_toArray, List.getElem_cons_zero, List.getElem_cons_succ]; go_simp; try (with_reducible rfl))
          try simp only [List.setIfInBounds_toArray, List.set_cons_zero, List.set_cons_succ]
          refine held_take 4 29 (v := ?_) rfl rfl (by kernel_rfl) (by kernel_rfl) (by kernel_rfl) (fun _ _ _ h => h) (by rfl) ?_ ⟨y0, y1, y2⟩ ?_
          rotate_left
          · (intro w hSw; (try dsimp only at hSw); try simp only [List.getElem_toArray, List.getElem_cons_zero, List.getElem_cons_succ]; go_simp; try (with_reducible rfl))
          try simp only [List.setIfInBounds_toArray, List.set_cons_zero, List.set_cons_succ]
          refine held_take 5 30 (v := ?_) rfl rfl (by kernel_rfl) (by kernel_rfl) (by kernel_rfl) (fun _ _ _ h => h) (by rfl) ?_ ⟨y0, y1, y2⟩ ?_
          rotate_left
          · (intro w hSw; (try dsimp only at hSw); try simp only [List.getElem_toArray, List.getElem_cons_zero, List.getElem_cons_succ]; go_simp; try (with_reducible rfl))
          try simp only [List.setIfInBounds_toArray, List.set_cons_zero, List.set_cons_succ]
          refine held_take 6 31 (v := ?_) rfl rfl (by kernel_rfl) (by kernel_rfl) (by kernel_rfl) (fun _ _ _ h => h) (by rfl) ?_ ⟨y0, y1, y2⟩ ?_
          rotate_left
          · (intro w hSw; (try dsimp only at hSw); try simp only [List.getElem_toArray, List.getElem_cons_zero, List.getElem_cons_succ]; go_simp; try (with_reducible rfl))
          try simp only [List.setIfInBounds_toArray, List.set_cons_zero, List.set_cons_succ]
          refine held_take 7 32 (v := ?_) rfl rfl (by kernel_rfl) (by kernel_rfl) (by kernel_rfl) (fun _ _ _ h => h) (by rfl) ?_ ⟨y0, y1, y2⟩ ?_
          rotate_left
          · (intro w hSw; (try dsimp only at hSw); try simp only [List.getElem_toArray, List.getElem_cons_zero, List.getElem_cons_succ]; go_simp; try (with_reducible rfl))
          try simp only [List.setIfInBounds_toArray, List.set_cons_zero, List.set_cons_succ]
          refine held_take 8 33 (v := ?_) rfl rfl (by kernel_rfl) (by kernel_rfl) (by kernel_rfl) (fun _ _ _ h => h) (by rfl) ?_ ⟨y0, y1, y2⟩ ?_
          rotate_left
          · (intro w hSw; (try dsimp only at hSw); try simp only [List.getElem_toArray, List.getElem_cons_zero, List.getElem_cons_succ]; go_simp; try (with_reducible rfl))
          try simp only [List.setIfInBounds_toArray, List.set_cons_zero, List.set_cons_succ]
          refine held_take 9 34 (v := ?_) rfl rfl (by kernel_rfl) (by kernel_rfl) (by kernel_rfl) (fun _ _ _ h => h) (by rfl) ?_ ⟨y0, y1, y2⟩ ?_
          rotate_left
          · (intro w hSw; (try dsimp only at hSw); try simp only [List.getElem_toArray, List.getElem_cons_zero, List.getElem_cons_succ]; go_simp; try (with_reducible rfl))
          try simp only [List.setIfInBounds_toArray, List.set_cons_zero, List.set_cons_succ]
          refine held_take 10 35 (v := ?_) rfl rfl (by kernel_rfl) (by kernel_rfl) (by kernel_rfl) (fun _ _ _ h => h) (by rfl) ?_ ⟨y0, y1, y2⟩ ?_
          rotate_left
          · (intro w hSw; (try dsimp only at hSw); try simp only [List.getElem_toArray, List.getElem_cons_zero, List.getElem_cons_succ]; go_simp; try (with_reducible rfl))
          try simp only [List.setIfInBounds_toArray, List.set_cons_zero, List.set_cons_succ]
          refine held_take 11 36 (v := ?_) rfl rfl (by kernel_rfl) (by kernel_rfl) (by kernel_rfl) (fun _ _ _ h => h) (by rfl) ?_ ⟨y0, y1, y2⟩ ?_
          rotate_left
          · (intro w hSw; (try dsimp only at hSw); try simp only [List.getElem_toArray, List.getElem_cons_zero, List.getElem_cons_succ]; go_simp; try (with_reducible rfl))
          try simp only [List.setIfInBounds_toArray, List.set_cons_zero, List.set_cons_succ]
          refine held_take 12 37 (v := ?_) rfl rfl (by kernel_rfl) (by kernel_rfl) (by kernel_rfl) (fun _ _ _ h => h) (by rfl) ?_ ⟨y0, y1, y2⟩ ?_
          rotate_left
          · (intro w hSw; (try dsimp only at hSw); try simp only [List.getElem_toArray, List.getElem_cons_zero, List.getElem_cons_succ]; go_simp; try (with_reducible rfl))
          try simp only [List.setIfInBounds_toArray, List.set_cons_zero, List.set_cons_succ]
          refine held_take 13 38 (v := ?_) rfl rfl (by kernel_rfl) (by kernel_rfl) (by kernel_rfl) (fun _ _ _ h => h) (by rfl) ?_ ⟨y0, y1, y2⟩ ?_
          rotate_left
          · (intro w hSw; (try dsimp only at hSw); try simp only [List.getElem_toArray, List.getElem_cons_zero, List.getElem_cons_succ]; go_simp; try (with_reducible rfl))
          try simp only [List.setIfInBounds_toArray, List.set_cons_zero, List.set_cons_succ]
          refine held_take 14 39 (v := ?_) rfl rfl (by kernel_rfl) (by kernel_rfl) (by kernel_rfl) (fun _ _ _ h => h) (by rfl) ?_ ⟨y0, y1, y2⟩ ?_
          rotate_left
          · (intro w hSw; (try dsimp only at hSw); try simp only [List.getElem_toArray, List.getElem_cons_zero, List.getElem_cons_succ]; go_simp; try (with_reducible rfl))
          try simp only [List.setIfInBounds_toArray, List.set_cons_zero, List.set_cons_succ]
          refine held_take 15 40 (v := ?_) rfl rfl (by kernel_rfl) (by kernel_rfl) (by kernel_rfl) (fun _ _ _ h => h) (by rfl) ?_ ⟨y0, y1, y2⟩ ?_
          rotate_left
          · (intro w hSw; (try dsimp only at hSw); try simp only [List.getElem_toArray, List.getElem_cons_zero, List.getElem_cons_succ]; go_simp; try (with_reducible rfl))
          try simp only [List.setIfInBounds_toArray, List.set_cons_zero, List.set_cons_succ]
          refine held_take 16 41 (v := ?_) rfl rfl (by kernel_rfl) (by kernel_rfl) (by kernel_rfl) (fun _ _ _ h => h) (by rfl) ?_ ⟨y0, y1, y2⟩ ?_
          rotate_left
          · (intro w hSw; (try dsimp only at hSw); try simp only [List.getElem_toArray, List.getElem_cons_zero, List.getElem_cons_succ]; go_simp; try (with_reducible rfl))
          try simp only [List.setIfInBounds_toArray, List.set_cons_zero, List.set_cons_succ]
          refine held_take 17 42 (v := ?_) rfl rfl (by kernel_rfl) (by kernel_rfl) (by kernel_rfl) (fun _ _ _ h => h) (by rfl) ?_ ⟨y0, y1, y2⟩ ?_
          rotate_left
          · (intro w hSw; (try dsimp only at hSw); try simp only [List.getElem_toArray, List.getElem_cons_zero, List.getElem_cons_succ]; go_simp; try (with_reducible rfl))
          try simp only [List.setIfInBounds_toArray, List.set_cons_zero, List.set_cons_succ]
          refine held_take 18 43 (v := ?_) rfl rfl (by kernel_rfl) (by kernel_rfl) (by kernel_rfl) (fun _ _ _ h => h) (by rfl) ?_ ⟨y0, y1, y2⟩ ?_
          rotate_left
          · (intro w hSw; (try dsimp only at hSw); try simp only [List.getElem_toArray, List.getElem_cons_zero, List.getElem_cons_succ]; go_simp; try (with_reducible rfl))
          try simp only [List.setIfInBounds_toArray, List.set_cons_zero, List.set_cons_succ]
          refine held_take 19 44 (v := ?_) rfl rfl (by kernel_rfl) (by kernel_rfl) (by kernel_rfl) (fun _ _ _ h => h) (by rfl) ?_ ⟨y0, y1, y2⟩ ?_
          rotate_left
          · (intro w hSw; (try dsimp only at hSw); try simp only [List.getElem_toArray, List.getElem_cons_zero, List.getElem_cons_succ]; go_simp; try (with_reducible rfl))
          try simp only [List.setIfInBounds_toArray, List.set_cons_zero, List.set_cons_succ]
          refine held_take 20 45 (v := ?_) rfl rfl (by kernel_rfl) (by kernel_rfl) (by kernel_rfl) (fun _ _ _ h => h) (by rfl) ?_ ⟨y0, y1, y2⟩ ?_
          rotate_left
          · (intro w hSw; (try dsimp only at hSw); try simp only [List.getElem_toArray, List.getElem_cons_zero, List.getElem_cons_succ]; go_simp; try (with_reducible rfl))
          try simp only [List.setIfInBounds_toArray, List.set_cons_zero, List.set_cons_succ]
          refine held_take 21 46 (v := ?_) rfl rfl (by kernel_rfl) (by kernel_rfl) (by kernel_rfl) (fun _ _ _ h => h) (by rfl) ?_ ⟨y0, y1, y2⟩ ?_
          rotate_left
          · (intro w hSw; (try dsimp only at hSw); try simp only [List.getElem_toArray, List.getElem_cons_zero, List.getElem_cons_succ]; go_simp; try (with_reducible rfl))
          try simp only [List.setIfInBounds_toArray, List.set_cons_zero, List.set_cons_succ]
          refine wpAnyH_done (by kernel_rfl) ?_ _
          go_wp2
          go_ret
          exact ⟨by rw [HBD.out.1]; rfl, by rw [HBD.out.2]; exact H.out.keep HB2.out.drew, (Only.refl _ _).of_below HB2.out.drew⟩
        have hgood : fits s.n f (i + 1) = true := by rw [fits_succ, HFS.out, HQ.out]; simp [fit]; omega
        have HG := Lib.hid hgood
        clear hgood
        refine wp_region_held_drew (S := (fun w' => w'.cell? ⟨wr.heap.size, 0, none⟩ = some (.int .i64 d) ∧ w'.cell? ⟨wr.heap.size, 1, none⟩ = some (.int .i64 m) ∧ w'.cell? ⟨b, 1, none⟩ = some (.int .i64 s.n))) (by kernel_rfl) ⟨y0, y1, y2⟩ (fun _ => ?_)
        refine held_take 0 25 (v := ?_) rfl rfl (by kernel_rfl) (by kernel_rfl) (by kernel_rfl) (fun _ _ _ h => h) (by rfl) ?_ ⟨y0, y1, y2⟩ ?_
        rotate_left
        · (intro w hSw; (try dsimp only at hSw); try simp only [List.getElem_toArray, List.getElem_cons_zero, List.getElem_cons_succ]; go_simp; try (with_reducible rfl))
        try simp only [List.setIfInBounds_toArray, List.set_cons_zero, List.set_cons_succ]
        refine held_take 1 26 (v := ?_) rfl rfl (by kernel_rfl) (by kernel_rfl) (by kernel_rfl) (fun _ _ _ h => h) (by rfl) ?_ ⟨y0, y1, y2⟩ ?_
        rotate_left
        · (intro w hSw; (try dsimp only at hSw); try simp only [List.getElem_toArray, List.getElem_cons_zero, List.getElem_cons_succ]; go_simp; try (with_reducible rfl))
        try simp only [List.setIfInBounds_toArray, List.set_cons_zero, List.set_cons_succ]
        refine held_take 2 27 (v := ?_) rfl rfl (by kernel_rfl) (by kernel_rfl) (by kernel_rfl) (fun _ _ _ h => h) (by rfl) ?_ ⟨y0, y1, y2⟩ ?_
        rotate_left
        · (intro w hSw; (try dsimp only at hSw); try simp only [List.getElem_toArray, List.getElem_cons_zero, List.getElem_cons_succ]; go_simp; try (with_reducible rfl))
        try simp only [List.setIfInBounds_toArray, List.set_cons_zero, List.set_cons_succ]
        refine held_take 3 28 (v := ?_) rfl rfl (by kernel_rfl) (by kernel_rfl) (by kernel_rfl) (fun _ _ _ h => h) (by rfl) ?_ ⟨y0, y1, y2⟩ ?_
        rotate_left
        · (intro w hSw; (try dsimp only at hSw); try simp only [List.getElem_toArray, List.getElem_cons_zero, List.getElem_cons_succ]; go_simp; try (with_reducible rfl))
        try simp only [List.setIfInBounds_toArray, List.set_cons_zero, List.set_cons_succ]
        refine held_take 4 29 (v := ?_) rfl rfl (by kernel_rfl) (by kernel_rfl) (by kernel_rfl) (fun _ _ _ h => h) (by rfl) ?_ ⟨y0, y1, y2⟩ ?_
        rotate_left
        · (intro w hSw; (try dsimp only at hSw); try simp only [List.getElem_toArray, List.getElem_cons_zero, List.getElem_cons_succ]; go_simp; try (with_reducible rfl))
        try simp only [List.setIfInBounds_toArray, List.set_cons_zero, List.set_cons_succ]
        refine held_take 5 30 (v := ?_) rfl rfl (by kernel_rfl) (by kernel_rfl) (by kernel_rfl) (fun _ _ _ h => h) (by rfl) ?_ ⟨y0, y1, y2⟩ ?_
        rotate_left
        · (intro w hSw; (try dsimp only at hSw); try simp only [List.getElem_toArray, List.getElem_cons_zero, List.getElem_cons_succ]; go_simp; try (with_reducible rfl))
        try simp only [List.setIfInBounds_toArray, List.set_cons_zero, List.set_cons_succ]
        refine held_take 6 31 (v := ?_) rfl rfl (by kernel_rfl) (by kernel_rfl) (by kernel_rfl) (fun _ _ _ h => h) (by rfl) ?_ ⟨y0, y1, y2⟩ ?_
        rotate_left
        · (intro w hSw; (try dsimp only at hSw); try simp only [List.getElem_toArray, List.getElem_cons_zero, List.getElem_cons_succ]; go_simp; try (with_reducible rfl))
        try simp only [List.setIfInBounds_toArray, List.set_cons_zero, List.set_cons_succ]
        refine held_take 7 32 (v := ?_) rfl rfl (by kernel_rfl) (by kernel_rfl) (by kernel_rfl) (fun _ _ _ h => h) (by rfl) ?_ ⟨y0, y1, y2⟩ ?_
        rotate_left
        · (intro w hSw; (try dsimp only at hSw); try simp only [List.getElem_toArray, List.getElem_cons_zero, List.getElem_cons_succ]; go_simp; try (with_reducible rfl))
        try simp only [List.setIfInBounds_toArray, List.set_cons_zero, List.set_cons_succ]
        refine held_take 8 33 (v := ?_) rfl rfl (by kernel_rfl) (by kernel_rfl) (by kernel_rfl) (fun _ _ _ h => h) (by rfl) ?_ ⟨y0, y1, y2⟩ ?_
        rotate_left
        · (intro w hSw; (try dsimp only at hSw); try simp only [List.getElem_toArray, List.getElem_cons_zero, List.getElem_cons_succ]; go_simp; try (with_reducible rfl))
        try simp only [List.setIfInBounds_toArray, List.set_cons_zero, List.set_cons_succ]
        refine held_take 9 34 (v := ?_) rfl rfl (by kernel_rfl) (by kernel_rfl) (by kernel_rfl) (fun _ _ _ h => h) (by rfl) ?_ ⟨y0, y1, y2⟩ ?_
        rotate_left
        · (intro w hSw; (try dsimp only at hSw); try simp only [List.getElem_toArray, List.getElem_cons_zero, List.getElem_cons_succ]; go_simp; try (with_reducible rfl))
        try simp only [List.setIfInBounds_toArray, List.set_cons_zero, List.set_cons_succ]
        refine held_take 10 35 (v := ?_) rfl rfl (by kernel_rfl) (by kernel_rfl) (by kernel_rfl) (fun _ _ _ h => h) (by rfl) ?_ ⟨y0, y1, y2⟩ ?_
        rotate_left
        · (intro w hSw; (try dsimp only at hSw); try simp only [List.getElem_toArray, List.getElem_cons_zero, List.getElem_cons_succ]; go_simp; try (with_reducible rfl))
        try simp only [List.setIfInBounds_toArray, List.set_cons_zero, List.set_cons_succ]
        refine held_take 11 36 (v := ?_) rfl rfl (by kernel_rfl) (by kernel_rfl) (by kernel_rfl) (fun _ _ _ h => h) (by rfl) ?_ ⟨y0, y1, y2⟩ ?_
        rotate_left
        · (intro w hSw; (try dsimp only at hSw); try simp only [List.getElem_toArray, List.getElem_cons_zero, List.getElem_cons_succ]; go_simp; try (with_reducible rfl))
        try simp only [List.setIfInBounds_toArray, List.set_cons_zero, List.set_cons_succ]
        refine held_take 12 37 (v := ?_) rfl rfl (by kernel_rfl) (by kernel_rfl) (by kernel_rfl) (fun _ _ _ h => h) (by rfl) ?_ ⟨y0, y1, y2⟩ ?_
        rotate_left
        · (intro w hSw; (try dsimp only at hSw); try simp only [List.getElem_toArray, List.getElem_cons_zero, List.getElem_cons_succ]; go_simp; try (with_reducible rfl))
        try simp only [List.setIfInBounds_toArray, List.set_cons_zero, List.set_cons_succ]
        refine held_take 13 38 (v := ?_) rfl rfl (by kernel_rfl) (by kernel_rfl) (by kernel_rfl) (fun _ _ _ h => h) (by rfl) ?_ ⟨y0, y1, y2⟩ ?_
        rotate_left
        · (intro w hSw; (try dsimp only at hSw); try simp only [List.getElem_toArray, List.getElem_cons_zero, List.getElem_cons_succ]; go_simp; try (with_reducible rfl))
        try simp only [List.setIfInBounds_toArray, List.set_cons_zero, List.set_cons_succ]
        refine held_take 14 39 (v := ?_) rfl rfl (by kernel_rfl) (by kernel_rfl) (by kernel_rfl) (fun _ _ _ h => h) (by rfl) ?_ ⟨y0, y1, y2⟩ ?_
        rotate_left
        · (intro w hSw; (try dsimp only at hSw); try simp only [List.getElem_toArray, List.getElem_cons_zero, List.getElem_cons_succ]; go_simp; try (with_reducible rfl))
        try simp only [List.setIfInBounds_toArray, List.set_cons_zero, List.set_cons_succ]
        refine held_take 15 40 (v := ?_) rfl rfl (by kernel_rfl) (by kernel_rfl) (by kernel_rfl) (fun _ _ _ h => h) (by rfl) ?_ ⟨y0, y1, y2⟩ ?_
        rotate_left
        · (intro w hSw; (try dsimp only at hSw); try simp only [List.getElem_toArray, List.getElem_cons_zero, List.getElem_cons_succ]; go_simp; try (with_reducible rfl))
        try simp only [List.setIfInBounds_toArray, List.set_cons_zero, List.set_cons_succ]
        refine held_take 16 41 (v := ?_) rfl rfl (by kernel_rfl) (by kernel_rfl) (by kernel_rfl) (fun _ _ _ h => h) (by rfl) ?_ ⟨y0, y1, y2⟩ ?_
        rotate_left
        · (intro w hSw; (try dsimp only at hSw); try simp only [List.getElem_toArray, List.getElem_cons_zero, List.getElem_cons_succ]; go_simp; try (with_reducible rfl))
        try simp only [List.setIfInBounds_toArray, List.set_cons_zero, List.set_cons_succ]
        refine held_take 17 42 (v := ?_) rfl rfl (by kernel_rfl) (by kernel_rfl) (by kernel_rfl) (fun _ _ _ h => h) (by rfl) ?_ ⟨y0, y1, y2⟩ ?_
        rotate_left
        · (intro w hSw; (try dsimp only at hSw); try simp only [List.getElem_toArray, List.getElem_cons_zero, List.getElem_cons_succ]; go_simp; try (with_reducible rfl))
        try simp only [List.setIfInBounds_toArray, List.set_cons_zero, List.set_cons_succ]
        refine held_take 18 43 (v := ?_) rfl rfl (by kernel_rfl) (by kernel_rfl) (by kernel_rfl) (fun _ _ _ h => h) (by rfl) ?_ ⟨y0, y1, y2⟩ ?_
        rotate_left
        · (intro w hSw; (try dsimp only at hSw); try simp only [List.getElem_toArray, List.getElem_cons_zero, List.getElem_cons_succ]; go_simp; try (with_reducible rfl))
        try simp only [List.setIfInBounds_toArray, List.set_cons_zero, List.set_cons_succ]
        refine held_take 19 44 (v := ?_) rfl rfl (by kernel_rfl) (by kernel_rfl) (by kernel_rfl) (fun _ _ _ h => h) (by rfl) ?_ ⟨y0, y1, y2⟩ ?_
        rotate_left
        · (intro w hSw; (try dsimp only at hSw); try simp only [List.getElem_toArray, List.getElem_cons_zero, List.getElem_cons_succ]; go_simp; try (with_reducible rfl))
        try simp only [List.setIfInBounds_toArray, List.set_cons_zero, List.set_cons_succ]
        refine held_take 20 45 (v := ?_) rfl rfl (by kernel_rfl) (by kernel_rfl) (by kernel_rfl) (fun _ _ _ h => h) (by rfl) ?_ ⟨y0, y1, y2⟩ ?_
        rotate_left
        · (intro w hSw; (try dsimp only at hSw); try simp only [List.getElem_toArray, List.getElem_cons_zero, List.getElem_cons_succ]; go_simp; try (with_reducible rfl))
        try simp only [List.setIfInBounds_toArray, List.set_cons_zero, List.set_cons_succ]
        refine held_take 21 46 (v := ?_) rfl rfl (by kernel_rfl) (by kernel_rfl) (by kernel_rfl) (fun _ _ _ h => h) (by rfl) ?_ ⟨y0, y1, y2⟩ ?_
        rotate_left
        · (intro w hSw; (try dsimp only at hSw); try simp only [List.getElem_toArray, List.getElem_cons_zero, List.getElem_cons_succ]; go_simp; try (with_reducible rfl))
        try simp only [List.setIfInBounds_toArray, List.set_cons_zero, List.set_cons_succ]
        refine wpAnyH_done (by kernel_rfl) ?_ _
        go_wp2
        go_roundw
        case rel => exact ⟨i + 1, by omega, by go_num, HG.out, HB2.out.drew⟩
        case measure => simp [intOf]; omega
      · obtain rfl : i = n := by omega
        have hr1 : hea s T f i = 0 ∧ s.hear T f i = s.takes T f i := by
          unfold hea St.hear
          simp [HU.out, HFS.out]
        have HR1 := Lib.hid hr1
        clear hr1
        go_upto_region 11 with fail
        go_loopw [50] (fun s50 w2 => ∃ k : Nat, k ≤ i ∧ s50 = .int .i64 k ∧ IsN w2 b (s.takes T f k) ∧ Only (fun i => i = b) w w2) (fun s50 _ => i - (intOf s50).toNat)
        case atStart => exact ⟨0, by omega, rfl, H.out.keep HB.out, (Only.refl _ _).of_below HB.out⟩
        case round =>
          obtain ⟨k, hk, rfl, hn2, ho2⟩ := hrel
          have HN2 := Lib.hid hn2
          have HO2 := Lib.hid ho2
          clear hn2 ho2
          by_cases hlt2 : k < i
          · have hlt2' : (k : Int) < (i : Int) := by omega
            have k00 : (0 : Int) ≤ (k : Int) := by omega
            obtain ⟨g, o, rfl, hg, x0, x1, x2⟩ := (HF.out.keep HO2.out (HBN.out (by omega))) k hlt2
            obtain ⟨d, m, q, hq⟩ : ∃ d m q, f k = (d, m, q) := ⟨_, _, _, rfl⟩
            rw [hq] at x0 x1 x2
            have hfit := fits_lt HFS.out hlt2
            rw [hq] at hfit
            simp only [fit, Bool.and_eq_true, decide_eq_true_eq] at hfit
            obtain ⟨⟨⟨hd0, hdn⟩, hm0⟩, hm1⟩ := hfit
            obtain ⟨D, rfl⟩ : ∃ D : Nat, d = D := ⟨d.toNat, by omega⟩
            have hcl : cl m = m := cl_same (by omega) (by omega)
            have HCL := Lib.hid hcl
            have HQ := Lib.hid hq
            clear hq hcl
            have HIDS := Lib.hid (takes_same s T f k)
            have HBW := Lib.hid (show b < wr.heap.size from blk_lt HN2.out.blk.choose_spec.1)
            have d6 : (D : Int) < 6 := by omega
            have hD6 : D < 6 := by omega
            generalize hs2 : s.takes T f k = s2 at HN2 HIDS
            have HS2 := Lib.hid hs2
            clear hs2
            have HNA := Lib.hid (HN2.out.keep ((Below.refl wr.heap.size wr).alloc (Nat.le_refl _) (.cells #[.int .i64 D, .int .i64 m, .int .u32 q] 99 (0, 0))))
            have HOA := Lib.hid (HO2.out.alloc (.cells #[.int .i64 D, .int .i64 m, .int .u32 q] 99 (0, 0)))
            have y0 : (wr.alloc (.cells #[.int .i64 D, .int .i64 m, .int .u32 q] 99 (0, 0))).cell? ⟨wr.heap.size, 0, none⟩ = some (.int .i64 D) := by simp
            have y2 := HNA.out.cid
            have yid : s2.id = s.id := HIDS.out.1
            by_cases hfar : m < 65535
            · have hfar' : ¬ 65535 ≤ m := by omega
              have HK := Lib.hid (show kept (D, m, q) = (m, q) by unfold kept; rw [if_neg hfar'])
              by_cases hid : (D : Int) = (s.id : Int)
              · have hid' : ((D : Int) == (s2.id : Int)) = true := by simp [hid, yid]
                have HT2 := Lib.hid (show s.takes T f (k + 1) = s2 by rw [St.takes, HS2.out, HQ.out, St.take, if_pos (by rw [HIDS.out.1]; exact hid)])
                clear hid
                go_upto_region 16 with (first
                  | (go_at_call 51; refine (make_any _ _ _).mono ?_; rw [HCL.out]; rintro e w3 ⟨rfl, rfl⟩)
                  | (go_at_call 58; refine (far_any m q ⟨hm0, by omega⟩ _).mono ?_; rintro e w3 ⟨rfl, rfl⟩)
                  | (go_at_call 50; refine (none_any _).mono ?_; rintro e w3 ⟨rfl, rfl⟩))
                refine wp_region_held_drew (S := (fun w' => w'.cell? ⟨wr.heap.size, 0, none⟩ = some (.int .i64 D) ∧ w'.cell? ⟨b, 0, none⟩ = some (.int .i64 s2.id))) (by kernel_rfl) ⟨y0, y2⟩ (fun _ => ?_)
                refine held_take 0 62 (v := ?_) rfl rfl (by kernel_rfl) (by kernel_rfl) (by kernel_rfl) (fun _ _ _ h => h) (by rfl) ?_ ⟨y0, y2⟩ ?_
                rotate_left
                · (intro w hSw; (try dsimp only at hSw); try simp only [List.getElem_toArray, List.getElem_cons_zero, List.getElem_cons_succ]; go_simp; try (with_reducible rfl))
                try simp only [List.setIfInBounds_toArray, List.set_cons_zero, List.set_cons_succ]
                refine held_take 1 63 (v := ?_) rfl rfl (by kernel_rfl) (by kernel_rfl) (by kernel_rfl) (fun _ _ _ h => h) (by rfl) ?_ ⟨y0, y2⟩ ?_
                rotate_left
                · (intro w hSw; (try dsimp only at hSw); try simp only [List.getElem_toArray, List.getElem_cons_zero, List.getElem_cons_succ]; go_simp; try (with_reducible rfl))
                try simp only [List.setIfInBounds_toArray, List.set_cons_zero, List.set_cons_succ]
                refine held_take 2 64 (v := ?_) rfl rfl (by kernel_rfl) (by kernel_rfl) (by kernel_rfl) (fun _ _ _ h => h) (by rfl) ?_ ⟨y0, y2⟩ ?_
                rotate_left
                · (intro w hSw; (try dsimp only at hSw); try simp only [List.getElem_toArray, List.getElem_cons_zero, List.getElem_cons_succ]; go_simp; try (with_reducible rfl))
                try simp only [List.setIfInBounds_toArray, List.set_cons_zero, List.set_cons_succ]
                refine held_take 3 65 (v := ?_) rfl rfl (by kernel_rfl) (by kernel_rfl) (by kernel_rfl) (fun _ _ _ h => h) (by rfl) ?_ ⟨y0, y2⟩ ?_
                rotate_left
                · (intro w hSw; (try dsimp only at hSw); try simp only [List.getElem_toArray, List.getElem_cons_zero, List.getElem_cons_succ]; go_simp; try (with_reducible rfl))
                try simp only [List.setIfInBounds_toArray, List.set_cons_zero, List.set_cons_succ]
                refine held_take 4 66 (v := ?_) rfl rfl (by kernel_rfl) (by kernel_rfl) (by kernel_rfl) (fun _ _ _ h => h) (by rfl) ?_ ⟨y0, y2⟩ ?_
                rotate_left
                · (intro w hSw; (try dsimp only at hSw); try simp only [List.getElem_toArray, List.getElem_cons_zero, List.getElem_cons_succ]; go_simp; try (with_reducible rfl))
                try simp only [List.setIfInBounds_toArray, List.set_cons_zero, List.set_cons_succ]
                refine held_take 5 67 (v := ?_) rfl rfl (by kernel_rfl) (by kernel_rfl) (by kernel_rfl) (fun _ _ _ h => h) (by rfl) ?_ ⟨y0, y2⟩ ?_
                rotate_left
                · (intro w hSw; (try dsimp only at hSw); try simp only [List.getElem_toArray, List.getElem_cons_zero, List.getElem_cons_succ]; go_simp; try (with_reducible rfl))
                try simp only [List.setIfInBounds_toArray, List.set_cons_zero, List.set_cons_succ]
                refine held_take 6 68 (v := ?_) rfl rfl (by kernel_rfl) (by kernel_rfl) (by kernel_rfl) (fun _ _ _ h => h) (by rfl) ?_ ⟨y0, y2⟩ ?_
                rotate_left
                · (intro w hSw; (try dsimp only at hSw); try simp only [List.getElem_toArray, List.getElem_cons_zero, List.getElem_cons_succ]; go_simp; try (with_reducible rfl))
                try simp only [List.setIfInBounds_toArray, List.set_cons_zero, List.set_cons_succ]
                refine wpAnyH_done (by kernel_rfl) ?_ _
                go_wp2
                go_roundw
                case rel => exact ⟨k + 1, by omega, by go_num, HT2.out ▸ HNA.out.drew, HOA.out.drew⟩
                case measure => simp [intOf]; omega
              · have hid' : ((D : Int) == (s2.id : Int)) = false := by simp [hid, yid]
                have HT2 := Lib.hid (show s.takes T f (k + 1) = s2.hear1 D T (kept (D, m, q)) by rw [St.takes, HS2.out, HQ.out, St.take, if_neg (by rw [HIDS.out.1]; exact hid)]; rfl)
                clear hid
                go_upto_region 16 with (first
                  | (go_at_call 51; refine (make_any _ _ _).mono ?_; rw [HCL.out]; rintro e w3 ⟨rfl, rfl⟩)
                  | (go_at_call 58; refine (far_any m q ⟨hm0, by omega⟩ _).mono ?_; rintro e w3 ⟨rfl, rfl⟩)
                  | (go_at_call 50; refine (none_any _).mono ?_; rintro e w3 ⟨rfl, rfl⟩))
                refine wp_region_held_drew (S := (fun w' => w'.cell? ⟨wr.heap.size, 0, none⟩ = some (.int .i64 D) ∧ w'.cell? ⟨b, 0, none⟩ = some (.int .i64 s2.id))) (by kernel_rfl) ⟨y0, y2⟩ (fun _ => ?_)
                refine held_take 0 62 (v := ?_) rfl rfl (by kernel_rfl) (by kernel_rfl) (by kernel_rfl) (fun _ _ _ h => h) (by rfl) ?_ ⟨y0, y2⟩ ?_
                rotate_left
                · (intro w hSw; (try dsimp only at hSw); try simp only [List.getElem_toArray, List.getElem_cons_zero, List.getElem_cons_succ]; go_simp; try (with_reducible rfl))
                try simp only [List.setIfInBounds_toArray, List.set_cons_zero, List.set_cons_succ]
                refine held_take 1 63 (v := ?_) rfl rfl (by kernel_rfl) (by kernel_rfl) (by kernel_rfl) (fun _ _ _ h => h) (by rfl) ?_ ⟨y0, y2⟩ ?_
                rotate_left
                · (intro w hSw; (try dsimp only at hSw); try simp only [List.getElem_toArray, List.getElem_cons_zero, List.getElem_cons_succ]; go_simp; try (with_reducible rfl))
                try simp only [List.setIfInBounds_toArray, List.set_cons_zero, List.set_cons_succ]
                refine held_take 2 64 (v := ?_) rfl rfl (by kernel_rfl) (by kernel_rfl) (by kernel_rfl) (fun _ _ _ h => h) (by rfl) ?_ ⟨y0, y2⟩ ?_
                rotate_left
                · (intro w hSw; (try dsimp only at hSw); try simp only [List.getElem_toArray, List.getElem_cons_zero, List.getElem_cons_succ]; go_simp; try (with_reducible rfl))
                try simp only [List.setIfInBounds_toArray, List.set_cons_zero, List.set_cons_succ]
                refine held_take 3 65 (v := ?_) rfl rfl (by kernel_rfl) (by kernel_rfl) (by kernel_rfl) (fun _ _ _ h => h) (by rfl) ?_ ⟨y0, y2⟩ ?_
                rotate_left
                · (intro w hSw; (try dsimp only at hSw); try simp only [List.getElem_toArray, List.getElem_cons_zero, List.getElem_cons_succ]; go_simp; try (with_reducible rfl))
                try simp only [List.setIfInBounds_toArray, List.set_cons_zero, List.set_cons_succ]
                refine held_take 4 66 (v := ?_) rfl rfl (by kernel_rfl) (by kernel_rfl) (by kernel_rfl) (fun _ _ _ h => h) (by rfl) ?_ ⟨y0, y2⟩ ?_
                rotate_left
                · (intro w hSw; (try dsimp only at hSw); try simp only [List.getElem_toArray, List.getElem_cons_zero, List.getElem_cons_succ]; go_simp; try (with_reducible rfl))
                try simp only [List.setIfInBounds_toArray, List.set_cons_zero, List.set_cons_succ]
                refine held_take 5 67 (v := ?_) rfl rfl (by kernel_rfl) (by kernel_rfl) (by kernel_rfl) (fun _ _ _ h => h) (by rfl) ?_ ⟨y0, y2⟩ ?_
                rotate_left
                · (intro w hSw; (try dsimp only at hSw); try simp only [List.getElem_toArray, List.getElem_cons_zero, List.getElem_cons_succ]; go_simp; try (with_reducible rfl))
                try simp only [List.setIfInBounds_toArray, List.set_cons_zero, List.set_cons_succ]
                refine held_take 6 68 (v := ?_) rfl rfl (by kernel_rfl) (by kernel_rfl) (by kernel_rfl) (fun _ _ _ h => h) (by rfl) ?_ ⟨y0, y2⟩ ?_
                rotate_left
                · (intro w hSw; (try dsimp only at hSw); try simp only [List.getElem_toArray, List.getElem_cons_zero, List.getElem_cons_succ]; go_simp; try (with_reducible rfl))
                try simp only [List.setIfInBounds_toArray, List.set_cons_zero, List.set_cons_succ]
                refine wpAnyH_done (by kernel_rfl) ?_ _
                go_upto_region 17 with fail
                refine wp_region_held_drew (S := (fun w' => w'.cell? ⟨wr.heap.size, 0, none⟩ = some (.int .i64 D))) (by kernel_rfl) (by first | exact y0 | exact (cell_other y0 (Nat.ne_of_lt HBW.out))) (fun _ => ?_)
                refine held_take 0 69 (v := ?_) rfl rfl (by kernel_rfl) (by kernel_rfl) (by kernel_rfl) (fun _ _ _ h => h) (by rfl) ?_ (by first | exact y0 | exact (cell_other y0 (Nat.ne_of_lt HBW.out))) ?_
                rotate_left
                · (intro w hSw; (try dsimp only at hSw); try simp only [List.getElem_toArray, List.getElem_cons_zero, List.getElem_cons_succ]; go_simp; try (with_reducible rfl))
                try simp only [List.setIfInBounds_toArray, List.set_cons_zero, List.set_cons_succ]
                refine held_take 1 70 (v := ?_) rfl rfl (by kernel_rfl) (by kernel_rfl) (by kernel_rfl) (fun _ _ _ h => h) (by rfl) ?_ (by first | exact y0 | exact (cell_other y0 (Nat.ne_of_lt HBW.out))) ?_
                rotate_left
                · (intro w hSw; (try dsimp only at hSw); try simp only [List.getElem_toArray, List.getElem_cons_zero, List.getElem_cons_succ]; go_simp; try (with_reducible rfl))
                try simp only [List.setIfInBounds_toArray, List.set_cons_zero, List.set_cons_succ]
                refine held_take 2 71 (v := ?_) rfl rfl (by kernel_rfl) (by kernel_rfl) (by kernel_rfl) (fun _ _ _ h => h) (by rfl) ?_ (by first | exact y0 | exact (cell_other y0 (Nat.ne_of_lt HBW.out))) ?_
                rotate_left
                · (intro w hSw; (try dsimp only at hSw); try simp only [List.getElem_toArray, List.getElem_cons_zero, List.getElem_cons_succ]; go_simp; try (with_reducible rfl))
                try simp only [List.setIfInBounds_toArray, List.set_cons_zero, List.set_cons_succ]
                refine held_take 3 72 (v := ?_) rfl rfl (by kernel_rfl) (by kernel_rfl) (by kernel_rfl) (fun _ _ _ h => h) (by rfl) ?_ (by first | exact y0 | exact (cell_other y0 (Nat.ne_of_lt HBW.out))) ?_
                rotate_left
                · (intro w hSw; (try dsimp only at hSw); try simp only [List.getElem_toArray, List.getElem_cons_zero, List.getElem_cons_succ]; go_simp; try (with_reducible rfl))
                try simp only [List.setIfInBounds_toArray, List.set_cons_zero, List.set_cons_succ]
                refine held_take 4 73 (v := ?_) rfl rfl (by kernel_rfl) (by kernel_rfl) (by kernel_rfl) (fun _ _ _ h => h) (by rfl) ?_ (by first | exact y0 | exact (cell_other y0 (Nat.ne_of_lt HBW.out))) ?_
                rotate_left
                · (intro w hSw; (try dsimp only at hSw); try simp only [List.getElem_toArray, List.getElem_cons_zero, List.getElem_cons_succ]; go_simp; try (with_reducible rfl))
                try simp only [List.setIfInBounds_toArray, List.set_cons_zero, List.set_cons_succ]
                refine held_take 5 74 (v := ?_) rfl rfl (by kernel_rfl) (by kernel_rfl) (by kernel_rfl) (fun _ _ _ h => h) (by rfl) ?_ (by first | exact y0 | exact (cell_other y0 (Nat.ne_of_lt HBW.out))) ?_
                rotate_left
                · (intro w hSw; (try dsimp only at hSw); try simp only [List.getElem_toArray, List.getElem_cons_zero, List.getElem_cons_succ]; go_simp; try (with_reducible rfl))
                try simp only [List.setIfInBounds_toArray, List.set_cons_zero, List.set_cons_succ]
                refine held_take 6 75 (v := ?_) rfl rfl (by kernel_rfl) (by kernel_rfl) (by kernel_rfl) (fun _ _ _ h => h) (by rfl) ?_ (by first | exact y0 | exact (cell_other y0 (Nat.ne_of_lt HBW.out))) ?_
                rotate_left
                · (intro w hSw; (try dsimp only at hSw); try simp only [List.getElem_toArray, List.getElem_cons_zero, List.getElem_cons_succ]; go_simp; try (with_reducible rfl))
                try simp only [List.setIfInBounds_toArray, List.set_cons_zero, List.set_cons_succ]
                refine held_take 7 76 (v := ?_) rfl rfl (by kernel_rfl) (by kernel_rfl) (by kernel_rfl) (fun _ _ _ h => h) (by rfl) ?_ (by first | exact y0 | exact (cell_other y0 (Nat.ne_of_lt HBW.out))) ?_
                rotate_left
                · (intro w hSw; (try dsimp only at hSw); try simp only [List.getElem_toArray, List.getElem_cons_zero, List.getElem_cons_succ]; go_simp; try (with_reducible rfl))
                try simp only [List.setIfInBounds_toArray, List.set_cons_zero, List.set_cons_succ]
                refine held_take 8 77 (v := ?_) rfl rfl (by kernel_rfl) (by kernel_rfl) (by kernel_rfl) (fun _ _ _ h => h) (by rfl) ?_ (by first | exact y0 | exact (cell_other y0 (Nat.ne_of_lt HBW.out))) ?_
                rotate_left
                · (intro w hSw; (try dsimp only at hSw); try simp only [List.getElem_toArray, List.getElem_cons_zero, List.getElem_cons_succ]; go_simp; try (with_reducible rfl))
                try simp only [List.setIfInBounds_toArray, List.set_cons_zero, List.set_cons_succ]
                refine held_do 9 rfl (by kernel_rfl) (by rfl) (fun K hK => ?_)
                try simp only [List.getElem_toArray, List.getElem_cons_zero, List.getElem_cons_succ]
                (have z1 := HNA.out.cinn hD6 hT6; have z2 := HNA.out.free (8 + D * 6 + T); go_simp; have HN17 := Lib.hid (show IsN _ b (s2.hear1 D T (kept (D, m, q))) by rw [HK.out]; exact (HNA.out.hear1 D T hD6 hT6 (m, q)).drew.drew); have HO17 := Lib.hid (Only.drew (Only.drew (Only.setCell HOA.out (p := ⟨b, 8 + D * 6 + T, none⟩) (fun _ => rfl) (dp (m, q))))); clear z1 z2)
                try simp only [Act.put, List.setIfInBounds_toArray, List.set_cons_zero, List.set_cons_succ]
                refine hK.out _ _ _ (by first | exact y0 | exact (cell_other y0 (Nat.ne_of_lt HBW.out))) ?_
                clear hK K
                refine wpAnyH_done (by kernel_rfl) ?_ _
                go_wp2
                go_roundw
                case rel => exact ⟨k + 1, by omega, by go_num, HT2.out ▸ HN17.out, HO17.out⟩
                case measure => simp [intOf]; omega
            · have hfar' : 65535 ≤ m := by omega
              have HK := Lib.hid (show kept (D, m, q) = (65535, 0) by unfold kept; rw [if_pos hfar'])
              by_cases hid : (D : Int) = (s.id : Int)
              · have hid' : ((D : Int) == (s2.id : Int)) = true := by simp [hid, yid]
                have HT2 := Lib.hid (show s.takes T f (k + 1) = s2 by rw [St.takes, HS2.out, HQ.out, St.take, if_pos (by rw [HIDS.out.1]; exact hid)])
                clear hid
                go_upto_region 16 with (first
                  | (go_at_call 51; refine (make_any _ _ _).mono ?_; rw [HCL.out]; rintro e w3 ⟨rfl, rfl⟩)
                  | (go_at_call 58; refine (far_any m q ⟨hm0, by omega⟩ _).mono ?_; rintro e w3 ⟨rfl, rfl⟩)
                  | (go_at_call 50; refine (none_any _).mono ?_; rintro e w3 ⟨rfl, rfl⟩))
                refine wp_region_held_drew (S := (fun w' => w'.cell? ⟨wr.heap.size, 0, none⟩ = some (.int .i64 D) ∧ w'.cell? ⟨b, 0, none⟩ = some (.int .i64 s2.id))) (by kernel_rfl) ⟨y0, y2⟩ (fun _ => ?_)
                refine held_take 0 62 (v := ?_) rfl rfl (by kernel_rfl) (by kernel_rfl) (by kernel_rfl) (fun _ _ _ h => h) (by rfl) ?_ ⟨y0, y2⟩ ?_
                rotate_left
                · (intro w hSw; (try dsimp only at hSw); try simp only [List.getElem_toArray, List.getElem_cons_zero, List.getElem_cons_succ]; go_simp; try (with_reducible rfl))
                try simp only [List.setIfInBounds_toArray, List.set_cons_zero, List.set_cons_succ]
                refine held_take 1 63 (v := ?_) rfl rfl (by kernel_rfl) (by kernel_rfl) (by kernel_rfl) (fun _ _ _ h => h) (by rfl) ?_ ⟨y0, y2⟩ ?_
                rotate_left
                · (intro w hSw; (try dsimp only at hSw); try simp only [List.getElem_toArray, List.getElem_cons_zero, List.getElem_cons_succ]; go_simp; try (with_reducible rfl))
                try simp only [List.setIfInBounds_toArray, List.set_cons_zero, List.set_cons_succ]
                refine held_take 2 64 (v := ?_) rfl rfl (by kernel_rfl) (by kernel_rfl) (by kernel_rfl) (fun _ _ _ h => h) (by rfl) ?_ ⟨y0, y2⟩ ?_
                rotate_left
                · (intro w hSw; (try dsimp only at hSw); try simp only [List.getElem_toArray, List.getElem_cons_zero, List.getElem_cons_succ]; go_simp; try (with_reducible rfl))
                try simp only [List.setIfInBounds_toArray, List.set_cons_zero, List.set_cons_succ]
                refine held_take 3 65 (v := ?_) rfl rfl (by kernel_rfl) (by kernel_rfl) (by kernel_rfl) (fun _ _ _ h => h) (by rfl) ?_ ⟨y0, y2⟩ ?_
                rotate_left
                · (intro w hSw; (try dsimp only at hSw); try simp only [List.getElem_toArray, List.getElem_cons_zero, List.getElem_cons_succ]; go_simp; try (with_reducible rfl))
                try simp only [List.setIfInBounds_toArray, List.set_cons_zero, List.set_cons_succ]
                refine held_take 4 66 (v := ?_) rfl rfl (by kernel_rfl) (by kernel_rfl) (by kernel_rfl) (fun _ _ _ h => h) (by rfl) ?_ ⟨y0, y2⟩ ?_
                rotate_left
                · (intro w hSw; (try dsimp only at hSw); try simp only [List.getElem_toArray, List.getElem_cons_zero, List.getElem_cons_succ]; go_simp; try (with_reducible rfl))
                try simp only [List.setIfInBounds_toArray, List.set_cons_zero, List.set_cons_succ]
                refine held_take 5 67 (v := ?_) rfl rfl (by kernel_rfl) (by kernel_rfl) (by kernel_rfl) (fun _ _ _ h => h) (by rfl) ?_ ⟨y0, y2⟩ ?_
                rotate_left
                · (intro w hSw; (try dsimp only at hSw); try simp only [List.getElem_toArray, List.getElem_cons_zero, List.getElem_cons_succ]; go_simp; try (with_reducible rfl))
                try simp only [List.setIfInBounds_toArray, List.set_cons_zero, List.set_cons_succ]
                refine held_take 6 68 (v := ?_) rfl rfl (by kernel_rfl) (by kernel_rfl) (by kernel_rfl) (fun _ _ _ h => h) (by rfl) ?_ ⟨y0, y2⟩ ?_
                rotate_left
                · (intro w hSw; (try dsimp only at hSw); try simp only [List.getElem_toArray, List.getElem_cons_zero, List.getElem_cons_succ]; go_simp; try (with_reducible rfl))
                try simp only [List.setIfInBounds_toArray, List.set_cons_zero, List.set_cons_succ]
                refine wpAnyH_done (by kernel_rfl) ?_ _
                go_wp2
                go_roundw
                case rel => exact ⟨k + 1, by omega, by go_num, HT2.out ▸ HNA.out.drew, HOA.out.drew⟩
                case measure => simp [intOf]; omega
              · have hid' : ((D : Int) == (s2.id : Int)) = false := by simp [hid, yid]
                have HT2 := Lib.hid (show s.takes T f (k + 1) = s2.hear1 D T (kept (D, m, q)) by rw [St.takes, HS2.out, HQ.out, St.take, if_neg (by rw [HIDS.out.1]; exact hid)]; rfl)
                clear hid
                go_upto_region 16 with (first
                  | (go_at_call 51; refine (make_any _ _ _).mono ?_; rw [HCL.out]; rintro e w3 ⟨rfl, rfl⟩)
                  | (go_at_call 58; refine (far_any m q ⟨hm0, by omega⟩ _).mono ?_; rintro e w3 ⟨rfl, rfl⟩)
                  | (go_at_call 50; refine (none_any _).mono ?_; rintro e w3 ⟨rfl, rfl⟩))
                refine wp_region_held_drew (S := (fun w' => w'.cell? ⟨wr.heap.size, 0, none⟩ = some (.int .i64 D) ∧ w'.cell? ⟨b, 0, none⟩ = some (.int .i64 s2.id))) (by kernel_rfl) ⟨y0, y2⟩ (fun _ => ?_)
                refine held_take 0 62 (v := ?_) rfl rfl (by kernel_rfl) (by kernel_rfl) (by kernel_rfl) (fun _ _ _ h => h) (by rfl) ?_ ⟨y0, y2⟩ ?_
                rotate_left
                · (intro w hSw; (try dsimp only at hSw); try simp only [List.getElem_toArray, List.getElem_cons_zero, List.getElem_cons_succ]; go_simp; try (with_reducible rfl))
                try simp only [List.setIfInBounds_toArray, List.set_cons_zero, List.set_cons_succ]
                refine held_take 1 63 (v := ?_) rfl rfl (by kernel_rfl) (by kernel_rfl) (by kernel_rfl) (fun _ _ _ h => h) (by rfl) ?_ ⟨y0, y2⟩ ?_
                rotate_left
                · (intro w hSw; (try dsimp only at hSw); try simp only [List.getElem_toArray, List.getElem_cons_zero, List.getElem_cons_succ]; go_simp; try (with_reducible rfl))
                try simp only [List.setIfInBounds_toArray, List.set_cons_zero, List.set_cons_succ]
                refine held_take 2 64 (v := ?_) rfl rfl (by kernel_rfl) (by kernel_rfl) (by kernel_rfl) (fun _ _ _ h => h) (by rfl) ?_ ⟨y0, y2⟩ ?_
                rotate_left
                · (intro w hSw; (try dsimp only at hSw); try simp only [List.getElem_toArray, List.getElem_cons_zero, List.getElem_cons_succ]; go_simp; try (with_reducible rfl))
                try simp only [List.setIfInBounds_toArray, List.set_cons_zero, List.set_cons_succ]
                refine held_take 3 65 (v := ?_) rfl rfl (by kernel_rfl) (by kernel_rfl) (by kernel_rfl) (fun _ _ _ h => h) (by rfl) ?_ ⟨y0, y2⟩ ?_
                rotate_left
                · (intro w hSw; (try dsimp only at hSw); try simp only [List.getElem_toArray, List.getElem_cons_zero, List.getElem_cons_succ]; go_simp; try (with_reducible rfl))
                try simp only [List.setIfInBounds_toArray, List.set_cons_zero, List.set_cons_succ]
                refine held_take 4 66 (v := ?_) rfl rfl (by kernel_rfl) (by kernel_rfl) (by kernel_rfl) (fun _ _ _ h => h) (by rfl) ?_ ⟨y0, y2⟩ ?_
                rotate_left
                · (intro w hSw; (try dsimp only at hSw); try simp only [List.getElem_toArray, List.getElem_cons_zero, List.getElem_cons_succ]; go_simp; try (with_reducible rfl))
                try simp only [List.setIfInBounds_toArray, List.set_cons_zero, List.set_cons_succ]
                refine held_take 5 67 (v := ?_) rfl rfl (by kernel_rfl) (by kernel_rfl) (by kernel_rfl) (fun _ _ _ h => h) (by rfl) ?_ ⟨y0, y2⟩ ?_
                rotate_left
                · (intro w hSw; (try dsimp only at hSw); try simp only [List.getElem_toArray, List.getElem_cons_zero, List.getElem_cons_succ]; go_simp; try (with_reducible rfl))
                try simp only [List.setIfInBounds_toArray, List.set_cons_zero, List.set_cons_succ]
                refine held_take 6 68 (v := ?_) rfl rfl (by kernel_rfl) (by kernel_rfl) (by kernel_rfl) (fun _ _ _ h => h) (by rfl) ?_ ⟨y0, y2⟩ ?_
                rotate_left
                · (intro w hSw; (try dsimp only at hSw); try simp only [List.getElem_toArray, List.getElem_cons_zero, List.getElem_cons_succ]; go_simp; try (with_reducible rfl))
                try simp only [List.setIfInBounds_toArray, List.set_cons_zero, List.set_cons_succ]
                refine wpAnyH_done (by kernel_rfl) ?_ _
                go_upto_region 17 with fail
                refine wp_region_held_drew (S := (fun w' => w'.cell? ⟨wr.heap.size, 0, none⟩ = some (.int .i64 D))) (by kernel_rfl) (by first | exact y0 | exact (cell_other y0 (Nat.ne_of_lt HBW.out))) (fun _ => ?_)
                refine held_take 0 69 (v := ?_) rfl rfl (by kernel_rfl) (by kernel_rfl) (by kernel_rfl) (fun _ _ _ h => h) (by rfl) ?_ (by first | exact y0 | exact (cell_other y0 (Nat.ne_of_lt HBW.out))) ?_
                rotate_left
                · (intro w hSw; (try dsimp only at hSw); try simp only [List.getElem_toArray, List.getElem_cons_zero, List.getElem_cons_succ]; go_simp; try (with_reducible rfl))
                try simp only [List.setIfInBounds_toArray, List.set_cons_zero, List.set_cons_succ]
                refine held_take 1 70 (v := ?_) rfl rfl (by kernel_rfl) (by kernel_rfl) (by kernel_rfl) (fun _ _ _ h => h) (by rfl) ?_ (by first | exact y0 | exact (cell_other y0 (Nat.ne_of_lt HBW.out))) ?_
                rotate_left
                · (intro w hSw; (try dsimp only at hSw); try simp only [List.getElem_toArray, List.getElem_cons_zero, List.getElem_cons_succ]; go_simp; try (with_reducible rfl))
                try simp only [List.setIfInBounds_toArray, List.set_cons_zero, List.set_cons_succ]
                refine held_take 2 71 (v := ?_) rfl rfl (by kernel_rfl) (by kernel_rfl) (by kernel_rfl) (fun _ _ _ h => h) (by rfl) ?_ (by first | exact y0 | exact (cell_other y0 (Nat.ne_of_lt HBW.out))) ?_
                rotate_left
                · (intro w hSw; (try dsimp only at hSw); try simp only [List.getElem_toArray, List.getElem_cons_zero, List.getElem_cons_succ]; go_simp; try (with_reducible rfl))
                try simp only [List.setIfInBounds_toArray, List.set_cons_zero, List.set_cons_succ]
                refine held_take 3 72 (v := ?_) rfl rfl (by kernel_rfl) (by kernel_rfl) (by kernel_rfl) (fun _ _ _ h => h) (by rfl) ?_ (by first | exact y0 | exact (cell_other y0 (Nat.ne_of_lt HBW.out))) ?_
                rotate_left
                · (intro w hSw; (try dsimp only at hSw); try simp only [List.getElem_toArray, List.getElem_cons_zero, List.getElem_cons_succ]; go_simp; try (with_reducible rfl))
                try simp only [List.setIfInBounds_toArray, List.set_cons_zero, List.set_cons_succ]
                refine held_take 4 73 (v := ?_) rfl rfl (by kernel_rfl) (by kernel_rfl) (by kernel_rfl) (fun _ _ _ h => h) (by rfl) ?_ (by first | exact y0 | exact (cell_other y0 (Nat.ne_of_lt HBW.out))) ?_
                rotate_left
                · (intro w hSw; (try dsimp only at hSw); try simp only [List.getElem_toArray, List.getElem_cons_zero, List.getElem_cons_succ]; go_simp; try (with_reducible rfl))
                try simp only [List.setIfInBounds_toArray, List.set_cons_zero, List.set_cons_succ]
                refine held_take 5 74 (v := ?_) rfl rfl (by kernel_rfl) (by kernel_rfl) (by kernel_rfl) (fun _ _ _ h => h) (by rfl) ?_ (by first | exact y0 | exact (cell_other y0 (Nat.ne_of_lt HBW.out))) ?_
                rotate_left
                · (intro w hSw; (try dsimp only at hSw); try simp only [List.getElem_toArray, List.getElem_cons_zero, List.getElem_cons_succ]; go_simp; try (with_reducible rfl))
                try simp only [List.setIfInBounds_toArray, List.set_cons_zero, List.set_cons_succ]
                refine held_take 6 75 (v := ?_) rfl rfl (by kernel_rfl) (by kernel_rfl) (by kernel_rfl) (fun _ _ _ h => h) (by rfl) ?_ (by first | exact y0 | exact (cell_other y0 (Nat.ne_of_lt HBW.out))) ?_
                rotate_left
                · (intro w hSw; (try dsimp only at hSw); try simp only [List.getElem_toArray, List.getElem_cons_zero, List.getElem_cons_succ]; go_simp; try (with_reducible rfl))
                try simp only [List.setIfInBounds_toArray, List.set_cons_zero, List.set_cons_succ]
                refine held_take 7 76 (v := ?_) rfl rfl (by kernel_rfl) (by kernel_rfl) (by kernel_rfl) (fun _ _ _ h => h) (by rfl) ?_ (by first | exact y0 | exact (cell_other y0 (Nat.ne_of_lt HBW.out))) ?_
                rotate_left
                · (intro w hSw; (try dsimp only at hSw); try simp only [List.getElem_toArray, List.getElem_cons_zero, List.getElem_cons_succ]; go_simp; try (with_reducible rfl))
                try simp only [List.setIfInBounds_toArray, List.set_cons_zero, List.set_cons_succ]
                refine held_take 8 77 (v := ?_) rfl rfl (by kernel_rfl) (by kernel_rfl) (by kernel_rfl) (fun _ _ _ h => h) (by rfl) ?_ (by first | exact y0 | exact (cell_other y0 (Nat.ne_of_lt HBW.out))) ?_
                rotate_left
                · (intro w hSw; (try dsimp only at hSw); try simp only [List.getElem_toArray, List.getElem_cons_zero, List.getElem_cons_succ]; go_simp; try (with_reducible rfl))
                try simp only [List.setIfInBounds_toArray, List.set_cons_zero, List.set_cons_succ]
                refine held_do 9 rfl (by kernel_rfl) (by rfl) (fun K hK => ?_)
                try simp only [List.getElem_toArray, List.getElem_cons_zero, List.getElem_cons_succ]
                (have z1 := HNA.out.cinn hD6 hT6; have z2 := HNA.out.free (8 + D * 6 + T); go_simp; have HN17 := Lib.hid (show IsN _ b (s2.hear1 D T (kept (D, m, q))) by rw [HK.out]; exact (HNA.out.hear1 D T hD6 hT6 (65535, 0)).drew.drew); have HO17 := Lib.hid (Only.drew (Only.drew (Only.setCell HOA.out (p := ⟨b, 8 + D * 6 + T, none⟩) (fun _ => rfl) (dp (65535, 0))))); clear z1 z2)
                try simp only [Act.put, List.setIfInBounds_toArray, List.set_cons_zero, List.set_cons_succ]
                refine hK.out _ _ _ (by first | exact y0 | exact (cell_other y0 (Nat.ne_of_lt HBW.out))) ?_
                clear hK K
                refine wpAnyH_done (by kernel_rfl) ?_ _
                go_wp2
                go_roundw
                case rel => exact ⟨k + 1, by omega, by go_num, HT2.out ▸ HN17.out, HO17.out⟩
                case measure => simp [intOf]; omega
          · obtain rfl : k = i := by omega
            go_wp2
            go_ret
            exact ⟨by rw [HR1.out.1]; rfl, by rw [HR1.out.2]; exact HN2.out, HO2.out⟩
  · have he : hea s t f n = upv s t := by unfold hea; rw [if_neg hu]
    have he2 : s.hear t f n = s := by unfold St.hear; rw [if_neg (fun h => hu h.1)]
    rw [he, he2]
    generalize upv s t = u at hup hu
    have hu' : (u == 0) = false := by simp [hu]
    have HUP := Lib.hid hup
    clear hup h hw hf hb hu he he2
    go_enter Try.func43, Try.ntmps43
    go_wp2_with (go_at_call 56; refine (HUP.out).mono ?_; rintro e w' ⟨rfl, rfl⟩)
    go_ret
    exact ⟨rfl, H.out, Only.refl _ _⟩
set_option maxHeartbeats 1600000 in
theorem hear_nil (t : Int) (v : Value) (w : World) : Calls Try.prog 43 #[.pointer none, .int .i64 t, v] w fun e w' => e = .returned (.int .i64 10) ∧ w = w' := by
  go_enter Try.func43, Try.ntmps43
  go_wp2_with (go_at_call 56; refine (up_nil t w).mono ?_; rintro e w' ⟨rfl, rfl⟩)
  go_ret
  exact ⟨rfl, rfl⟩
end Eng
end Go.Proofs.Ytebkpjefdaieaaa

/-
  Package engine: Route. Conditions: those that each theorem names.
-/
namespace Go.Proofs.Ytebkpjefdaieaaa
open Go.RowKit FR FP H2
set_option linter.unusedVariables false
set_option linter.unusedSimpArgs false
namespace Eng
open Feas
attribute [local go_sem] st_dv
theorem IsN.drewN {w : World} {b : Nat} {s : St} (h : IsN w b s) (n : Nat) : IsN (w.drewN n) b s := ⟨h.blk, h.id, h.n6⟩
/-- which neighbour is chosen for goal d; below 0: none -/
def St.pick (s : St) (d : Nat) : Int := (ch (fun i => (s.inn d i).1) (fun i => (s.inn d i).2) (fun i => (s.cost i).1) s.n (s.told d).1 (s.told d).2 s.n).1
/-- what Route answers -/
def St.route (s : St) (d : Int) : Int × (Int × Int) × Bool :=
  if d < 0 ∨ (s.n : Int) ≤ d then (-1, (65535, 0), false) else if d = (s.id : Int) then (-1, (0, s.seq), true) else
  if s.pick d.toNat < 0 then (-1, (65535, 0), false) else (s.pick d.toNat, (addm (s.inn d.toNat (s.pick d.toNat).toNat).1 (s.cost (s.pick d.toNat).toNat).1, (s.inn d.toNat (s.pick d.toNat).toNat).2), true)
theorem pick_range (s : St) (hw : Wf s) (d : Nat) : -1 ≤ s.pick d ∧ s.pick d < s.n := by
  have h := ch_range (fun i => (s.inn d i).1) (fun i => (s.inn d i).2) (fun i => (s.cost i).1) s.n (s.told d).1 (s.told d).2 s.n (fun i _ => ⟨(hw.inn d i).1.1, (hw.inn d i).2.1, (hw.inn d i).2.2⟩) s.n (Nat.le_refl _)
  exact ⟨h.1, by have := h.2.1; unfold St.pick; omega⟩
theorem rd_inn {w : World} {b : Nat} {s : St} (h : IsN w b s) (d : Nat) (hd : d < 6) : Rd w (some ⟨b, 8 + d * 6, none⟩) s.n (fun i => (s.inn d i).1) (fun i => (s.inn d i).2) := fun i hi => ⟨b, 8 + d * 6, rfl, h.cinn hd (by have := h.n6; omega)⟩
theorem rd_cost {w : World} {b : Nat} {s : St} (h : IsN w b s) : Rd w (some ⟨b, 2, none⟩) s.n (fun i => (s.cost i).1) (fun i => (s.cost i).2) := fun i hi => ⟨b, 2, rfl, h.ccost (by have := h.n6; omega)⟩
theorem choose_at (b : Nat) (s : St) (d : Nat) (w : World) (h : IsN w b s) (hw : Wf s) (hd : d < 6) : Calls Try.prog 52 #[.slice (some ⟨b, 8 + d * 6, none⟩) s.n 6, .slice (some ⟨b, 2, none⟩) s.n 6, dp (s.told d)] w fun e w' => e = .returned (.int .i64 (s.pick d)) ∧ w = w' :=
  choose_any _ _ s.n s.n 6 6 _ _ _ _ _ _ w (by have := h.n6; omega) (by have := h.n6; omega) (rd_inn h d hd) (rd_cost h) (fun i _ => ⟨⟨⟨(hw.inn d i).1.1, by have := (hw.inn d i).1.2; omega⟩, (hw.inn d i).1.2⟩, (hw.inn d i).2⟩) (fun i _ => ⟨(hw.cost i).1, by have := (hw.cost i).2.1; omega⟩) ⟨(hw.told d).1.1, by have := (hw.told d).1.2; omega⟩ (hw.told d).2
set_option maxRecDepth 100000 in
set_option maxHeartbeats 8000000 in
theorem route_any (b : Nat) (s : St) (d : Int) (w : World) (h : IsN w b s) (hw : Wf s) : Calls Try.prog 39 #[.pointer (some ⟨b, 0, none⟩), .int .i64 d] w fun e w' => e = .returned (.tuple #[.int .i64 (s.route d).1, dp (s.route d).2.1, .bool (s.route d).2.2]) ∧ ∃ q, w' = w.drewN q := by
  have H := Lib.hid h
  have HW := Lib.hid hw
  have hn6 := h.n6
  have c0 := h.cid
  have c1 := h.cn
  clear h hw
  by_cases h0 : d < 0
  · have hr : s.route d = (-1, (65535, 0), false) := by unfold St.route; rw [if_pos (by omega)]
    rw [hr]
    clear hr
    go_enter Try.func39, Try.ntmps39
    go_wp2_with (go_at_call 50; refine (none_any _).mono ?_; rintro e w' ⟨rfl, rfl⟩)
    go_ret3
    exact ⟨rfl, 0, rfl⟩
  by_cases h1 : (s.n : Int) ≤ d
  · have hr : s.route d = (-1, (65535, 0), false) := by unfold St.route; rw [if_pos (by omega)]
    rw [hr]
    clear hr
    go_enter Try.func39, Try.ntmps39
    go_wp2_with (go_at_call 50; refine (none_any _).mono ?_; rintro e w' ⟨rfl, rfl⟩)
    go_ret3
    exact ⟨rfl, 0, rfl⟩
  by_cases h2 : d = (s.id : Int)
  · have hr : s.route d = (-1, (0, s.seq), true) := by unfold St.route; rw [if_neg (by omega), if_pos h2]
    have h2' : (d == (s.id : Int)) = true := by simp [h2]
    have cs := H.out.cseq
    have hcl : cl 0 = 0 := rfl
    rw [hr]
    clear hr h2
    go_enter Try.func39, Try.ntmps39
    go_wp2_with (go_at_call 51; refine (make_any _ _ _).mono ?_; rintro e w' ⟨rfl, rfl⟩)
    go_ret3
    exact ⟨rfl, 0, rfl⟩
  obtain ⟨k, rfl⟩ : ∃ k : Nat, d = k := ⟨d.toNat, by omega⟩
  have hk6 : k < 6 := by omega
  have k0 : (0 : Int) ≤ (k : Int) := by omega
  have k6 : (k : Int) < 6 := by omega
  have n0 : (0 : Int) ≤ (s.n : Int) := by omega
  have n6 : (s.n : Int) ≤ 6 := by omega
  have h2' : ((k : Int) == (s.id : Int)) = false := by simp at h2 ⊢; exact h2
  have ct := H.out.ctold hk6
  have hr : s.route (k : Int) = if s.pick k < 0 then (-1, (65535, 0), false) else (s.pick k, (addm (s.inn k (s.pick k).toNat).1 (s.cost (s.pick k).toNat).1, (s.inn k (s.pick k).toNat).2), true) := by unfold St.route; rw [if_neg (by omega), if_neg h2]; rfl
  have hp := pick_range s HW.out k
  have HC := Lib.hid (fun w' (h' : IsN w' b s) => choose_at b s k w' h' HW.out hk6)
  generalize s.pick k = p at hr hp HC
  have HR := Lib.hid hr
  clear hr h2
  go_enter Try.func39, Try.ntmps39
  go_upto_region 5 with fail
  refine wp_region_held_drew (S := (fun w' => IsN w' b s)) (by kernel_rfl) H.out.drew (fun _ => ?_)
  refine held_take 0 35 (v := ?_) rfl rfl (by kernel_rfl) (by kernel_rfl) (by kernel_rfl) (fun _ _ _ h => h) (by rfl) ?_ H.out.drew ?_
  rotate_left
  · (intro w hSw; (try dsimp only at hSw); have z1 := hSw.cn; have z2 := hSw.ctold hk6; clear hSw;try simp only [List.getElem_toArray, List.getElem_cons_zero, List.getElem_cons_succ]; go_simp; try (with_reducible rfl))
  try simp only [List.setIfInBounds_toArray, List.set_cons_zero, List.set_cons_succ]
  refine held_take 1 36 (v := ?_) rfl rfl (by kernel_rfl) (by kernel_rfl) (by kernel_rfl) (fun _ _ _ h => h) (by rfl) ?_ H.out.drew ?_
  rotate_left
  · (intro w hSw; (try dsimp only at hSw); have z1 := hSw.cn; have z2 := hSw.ctold hk6; clear hSw;try simp only [List.getElem_toArray, List.getElem_cons_zero, List.getElem_cons_succ]; go_simp; try (with_reducible rfl))
  try simp only [List.setIfInBounds_toArray, List.set_cons_zero, List.set_cons_succ]
  refine held_take 2 37 (v := ?_) rfl rfl (by kernel_rfl) (by kernel_rfl) (by kernel_rfl) (fun _ _ _ h => h) (by rfl) ?_ H.out.drew ?_
  rotate_left
  · (intro w hSw; (try dsimp only at hSw); have z1 := hSw.cn; have z2 := hSw.ctold hk6; clear hSw;try simp only [List.getElem_toArray, List.getElem_cons_zero, List.getElem_cons_succ]; go_simp; try (with_reducible rfl))
  try simp only [List.setIfInBounds_toArray, List.set_cons_zero, List.set_cons_succ]
  refine held_take 3 38 (v := ?_) rfl rfl (by kernel_rfl) (by kernel_rfl) (by kernel_rfl) (fun _ _ _ h => h) (by rfl) ?_ H.out.drew ?_
  rotate_left
  · (intro w hSw; (try dsimp only at hSw); have z1 := hSw.cn; have z2 := hSw.ctold hk6; clear hSw;try simp only [List.getElem_toArray, List.getElem_cons_zero, List.getElem_cons_succ]; go_simp; try (with_reducible rfl))
  try simp only [List.setIfInBounds_toArray, List.set_cons_zero, List.set_cons_succ]
  refine held_take 4 39 (v := ?_) rfl rfl (by kernel_rfl) (by kernel_rfl) (by kernel_rfl) (fun _ _ _ h => h) (by rfl) ?_ H.out.drew ?_
  rotate_left
  · (intro w hSw; (try dsimp only at hSw); have z1 := hSw.cn; have z2 := hSw.ctold hk6; clear hSw;try simp only [List.getElem_toArray, List.getElem_cons_zero, List.getElem_cons_succ]; go_simp; try (with_reducible rfl))
  try simp only [List.setIfInBounds_toArray, List.set_cons_zero, List.set_cons_succ]
  refine held_take 5 40 (v := ?_) rfl rfl (by kernel_rfl) (by kernel_rfl) (by kernel_rfl) (fun _ _ _ h => h) (by rfl) ?_ H.out.drew ?_
  rotate_left
  · (intro w hSw; (try dsimp only at hSw); have z1 := hSw.cn; have z2 := hSw.ctold hk6; clear hSw;try simp only [List.getElem_toArray, List.getElem_cons_zero, List.getElem_cons_succ]; go_simp; try (with_reducible rfl))
  try simp only [List.setIfInBounds_toArray, List.set_cons_zero, List.set_cons_succ]
  refine held_take 6 41 (v := ?_) rfl rfl (by kernel_rfl) (by kernel_rfl) (by kernel_rfl) (fun _ _ _ h => h) (by rfl) ?_ H.out.drew ?_
  rotate_left
  · (intro w hSw; (try dsimp only at hSw); have z1 := hSw.cn; have z2 := hSw.ctold hk6; clear hSw;try simp only [List.getElem_toArray, List.getElem_cons_zero, List.getElem_cons_succ]; go_simp; try (with_reducible rfl))
  try simp only [List.setIfInBounds_toArray, List.set_cons_zero, List.set_cons_succ]
  refine held_take 7 42 (v := ?_) rfl rfl (by kernel_rfl) (by kernel_rfl) (by kernel_rfl) (fun _ _ _ h => h) (by rfl) ?_ H.out.drew ?_
  rotate_left
  · (intro w hSw; (try dsimp only at hSw); have z1 := hSw.cn; have z2 := hSw.ctold hk6; clear hSw;try simp only [List.getElem_toArray, List.getElem_cons_zero, List.getElem_cons_succ]; go_simp; try (with_reducible rfl))
  try simp only [List.setIfInBounds_toArray, List.set_cons_zero, List.set_cons_succ]
  refine held_take 8 43 (v := ?_) rfl rfl (by kernel_rfl) (by kernel_rfl) (by kernel_rfl) (fun _ _ _ h => h) (by rfl) ?_ H.out.drew ?_
  rotate_left
  · (intro w hSw; (try dsimp only at hSw); have z1 := hSw.cn; have z2 := hSw.ctold hk6; clear hSw;try simp only [List.getElem_toArray, List.getElem_cons_zero, List.getElem_cons_succ]; go_simp; try (with_reducible rfl))
  try simp only [List.setIfInBounds_toArray, List.set_cons_zero, List.set_cons_succ]
  refine held_take 9 44 (v := ?_) rfl rfl (by kernel_rfl) (by kernel_rfl) (by kernel_rfl) (fun _ _ _ h => h) (by rfl) ?_ H.out.drew ?_
  rotate_left
  · (intro w hSw; (try dsimp only at hSw); have z1 := hSw.cn; have z2 := hSw.ctold hk6; clear hSw;try simp only [List.getElem_toArray, List.getElem_cons_zero, List.getElem_cons_succ]; go_simp; try (with_reducible rfl))
  try simp only [List.setIfInBounds_toArray, List.set_cons_zero, List.set_cons_succ]
  refine held_take 10 45 (v := ?_) rfl rfl (by kernel_rfl) (by kernel_rfl) (by kernel_rfl) (fun _ _ _ h => h) (by rfl) ?_ H.out.drew ?_
  rotate_left
  · (intro w hSw; (try dsimp only at hSw); have z1 := hSw.cn; have z2 := hSw.ctold hk6; clear hSw;try simp only [List.getElem_toArray, List.getElem_cons_zero, List.getElem_cons_succ]; go_simp; try (with_reducible rfl))
  try simp only [List.setIfInBounds_toArray, List.set_cons_zero, List.set_cons_succ]
  refine held_take 11 46 (v := ?_) rfl rfl (by kernel_rfl) (by kernel_rfl) (by kernel_rfl) (fun _ _ _ h => h) (by rfl) ?_ H.out.drew ?_
  rotate_left
  · (intro w hSw; (try dsimp only at hSw); have z1 := hSw.cn; have z2 := hSw.ctold hk6; clear hSw;try simp only [List.getElem_toArray, List.getElem_cons_zero, List.getElem_cons_succ]; go_simp; try (with_reducible rfl))
  try simp only [List.setIfInBounds_toArray, List.set_cons_zero, List.set_cons_succ]
  refine held_take 12 47 (v := ?_) rfl rfl (by kernel_rfl) (by kernel_rfl) (by kernel_rfl) (fun _ _ _ h => h) (by rfl) ?_ H.out.drew ?_
  rotate_left
  · (intro w hSw; (try dsimp only at hSw); have z1 := hSw.cn; have z2 := hSw.ctold hk6; clear hSw;try simp only [List.getElem_toArray, List.getElem_cons_zero, List.getElem_cons_succ]; go_simp; try (with_reducible rfl))
  try simp only [List.setIfInBounds_toArray, List.set_cons_zero, List.set_cons_succ]
  refine held_take 13 48 (v := ?_) rfl rfl (by kernel_rfl) (by kernel_rfl) (by kernel_rfl) (fun _ _ _ h => h) (by rfl) ?_ H.out.drew ?_
  rotate_left
  · (intro w hSw; (try dsimp only at hSw); have z1 := hSw.cn; have z2 := hSw.ctold hk6; clear hSw;try simp only [List.getElem_toArray, List.getElem_cons_zero, List.getElem_cons_succ]; go_simp; try (with_reducible rfl))
  try simp only [List.setIfInBounds_toArray, List.set_cons_zero, List.set_cons_succ]
  refine held_take 14 49 (v := ?_) rfl rfl (by kernel_rfl) (by kernel_rfl) (by kernel_rfl) (fun _ _ _ h => h) (by rfl) ?_ H.out.drew ?_
  rotate_left
  · (intro w hSw; (try dsimp only at hSw); have z1 := hSw.cn; have z2 := hSw.ctold hk6; clear hSw;try simp only [List.getElem_toArray, List.getElem_cons_zero, List.getElem_cons_succ]; go_simp; try (with_reducible rfl))
  try simp only [List.setIfInBounds_toArray, List.set_cons_zero, List.set_cons_succ]
  refine held_take 15 50 (v := ?_) rfl rfl (by kernel_rfl) (by kernel_rfl) (by kernel_rfl) (fun _ _ _ h => h) (by rfl) ?_ H.out.drew ?_
  rotate_left
  · (intro w hSw; (try dsimp only at hSw); have z1 := hSw.cn; have z2 := hSw.ctold hk6; clear hSw;try simp only [List.getElem_toArray, List.getElem_cons_zero, List.getElem_cons_succ]; go_simp; try (with_reducible rfl))
  try simp only [List.setIfInBounds_toArray, List.set_cons_zero, List.set_cons_succ]
  refine held_take 16 51 (v := ?_) rfl rfl (by kernel_rfl) (by kernel_rfl) (by kernel_rfl) (fun _ _ _ h => h) (by rfl) ?_ H.out.drew ?_
  rotate_left
  · (intro w hSw; (try dsimp only at hSw); have z1 := hSw.cn; have z2 := hSw.ctold hk6; clear hSw;try simp only [List.getElem_toArray, List.getElem_cons_zero, List.getElem_cons_succ]; go_simp; try (with_reducible rfl))
  try simp only [List.setIfInBounds_toArray, List.set_cons_zero, List.set_cons_succ]
  refine held_take 17 52 (v := ?_) rfl rfl (by kernel_rfl) (by kernel_rfl) (by kernel_rfl) (fun _ _ _ h => h) (by rfl) ?_ H.out.drew ?_
  rotate_left
  · (intro w hSw; (try dsimp only at hSw); have z1 := hSw.cn; have z2 := hSw.ctold hk6; clear hSw;try simp only [List.getElem_toArray, List.getElem_cons_zero, List.getElem_cons_succ]; go_simp; try (with_reducible rfl))
  try simp only [List.setIfInBounds_toArray, List.set_cons_zero, List.set_cons_succ]
  refine held_take 18 53 (v := ?_) rfl rfl (by kernel_rfl) (by kernel_rfl) (by kernel_rfl) (fun _ _ _ h => h) (by rfl) ?_ H.out.drew ?_
  rotate_left
  · (intro w hSw; (try dsimp only at hSw); have z1 := hSw.cn; have z2 := hSw.ctold hk6; clear hSw;try simp only [List.getElem_toArray, List.getElem_cons_zero, List.getElem_cons_succ]; go_simp; try (with_reducible rfl))
  try simp only [List.setIfInBounds_toArray, List.set_cons_zero, List.set_cons_succ]
  refine held_take 19 54 (v := ?_) rfl rfl (by kernel_rfl) (by kernel_rfl) (by kernel_rfl) (fun _ _ _ h => h) (by rfl) ?_ H.out.drew ?_
  rotate_left
  · (intro w hSw; (try dsimp only at hSw); have z1 := hSw.cn; have z2 := hSw.ctold hk6; clear hSw;try simp only [List.getElem_toArray, List.getElem_cons_zero, List.getElem_cons_succ]; go_simp; try (with_reducible rfl))
  try simp only [List.setIfInBounds_toArray, List.set_cons_zero, List.set_cons_succ]
  refine held_take 20 55 (v := ?_) rfl rfl (by kernel_rfl) (by kernel_rfl) (by kernel_rfl) (fun _ _ _ h => h) (by rfl) ?_ H.out.drew ?_
  rotate_left
  · (intro w hSw; (try dsimp only at hSw); have z1 := hSw.cn; have z2 := hSw.ctold hk6; clear hSw;try simp only [List.getElem_toArray, List.getElem_cons_zero, List.getElem_cons_succ]; go_simp; try (with_reducible rfl))
  try simp only [List.setIfInBounds_toArray, List.set_cons_zero, List.set_cons_succ]
  refine held_take 21 56 (v := ?_) rfl rfl (by kernel_rfl) (by kernel_rfl) (by kernel_rfl) (fun _ _ _ h => h) (by rfl) ?_ H.out.drew ?_
  rotate_left
  · (intro w hSw; (try dsimp only at hSw); have z1 := hSw.cn; have z2 := hSw.ctold hk6; clear hSw;try simp only [List.getElem_toArray, List.getElem_cons_zero, List.getElem_cons_succ]; go_simp; try (with_reducible rfl))
  try simp only [List.setIfInBounds_toArray, List.set_cons_zero, List.set_cons_succ]
  refine held_take 22 57 (v := ?_) rfl rfl (by kernel_rfl) (by kernel_rfl) (by kernel_rfl) (fun _ _ _ h => h) (by rfl) ?_ H.out.drew ?_
  rotate_left
  · (intro w hSw; (try dsimp only at hSw); have z1 := hSw.cn; have z2 := hSw.ctold hk6; clear hSw;try simp only [List.getElem_toArray, List.getElem_cons_zero, List.getElem_cons_succ]; go_simp; try (with_reducible rfl))
  try simp only [List.setIfInBounds_toArray, List.set_cons_zero, List.set_cons_succ]
  refine held_take 23 58 (v := ?_) rfl rfl (by kernel_rfl) (by kernel_rfl) (by kernel_rfl) (fun _ _ _ h => h) (by rfl) ?_ H.out.drew ?_
  rotate_left
  · (intro w hSw; (try dsimp only at hSw); have z1 := hSw.cn; have z2 := hSw.ctold hk6; clear hSw;try simp only [List.getElem_toArray, List.getElem_cons_zero, List.getElem_cons_succ]; go_simp; try (with_reducible rfl))
  try simp only [List.setIfInBounds_toArray, List.set_cons_zero, List.set_cons_succ]
  refine held_call 24 59 rfl rfl (by kernel_rfl) (by rfl) (fun K hK => ?_)
  try simp only [List.getElem_toArray, List.getElem_cons_zero, List.getElem_cons_succ]
  go_simp
  (go_at_call 52; refine (HC.out _ ?_).mono ?_; exact H.out.drew; rintro e w2 ⟨rfl, rfl⟩)
  try go_wp2_with fail
  try simp only [Act.put, List.setIfInBounds_toArray, List.set_cons_zero, List.set_cons_succ]
  refine hK.out _ _ _ H.out.drew ?_
  clear hK K
  refine held_take 25 4 (v := ?_) rfl rfl (by kernel_rfl) (by kernel_rfl) (by kernel_rfl) (fun _ _ _ h => h) (by rfl) ?_ H.out.drew ?_
  rotate_left
  · (intro w hSw; (try dsimp only at hSw); have z1 := hSw.cn; have z2 := hSw.ctold hk6; clear hSw;try simp only [List.getElem_toArray, List.getElem_cons_zero, List.getElem_cons_succ]; go_simp; try (with_reducible rfl))
  try simp only [List.setIfInBounds_toArray, List.set_cons_zero, List.set_cons_succ]
  refine wpAnyH_done (by kernel_rfl) ?_ _
  by_cases hneg : p < 0
  · have hr2 : s.route (k : Int) = (-1, (65535, 0), false) := by rw [HR.out, if_pos hneg]
    have HR2 := Lib.hid hr2
    clear hr2
    go_wp2_with (go_at_call 50; refine (none_any _).mono ?_; rintro e w' ⟨rfl, rfl⟩)
    go_ret3
    exact ⟨by rw [HR2.out]; rfl, 1, rfl⟩
  · obtain ⟨x, rfl⟩ : ∃ x : Nat, p = x := ⟨p.toNat, by omega⟩
    have hx6 : x < 6 := by omega
    have x0 : (0 : Int) ≤ (x : Int) := by omega
    have x6 : (x : Int) < 6 := by omega
    have hr2 : s.route (k : Int) = ((x : Int), (addm (s.inn k x).1 (s.cost x).1, (s.inn k x).2), true) := by rw [HR.out, if_neg hneg]; rfl
    have HR2 := Lib.hid hr2
    have hs1 : Sm (s.cost x).1 := ⟨(HW.out.cost x).1, by have := (HW.out.cost x).2.1; omega⟩
    have hs2 : Sm (s.inn k x).1 := ⟨(HW.out.inn k x).1.1, by have := (HW.out.inn k x).1.2; omega⟩
    have hs3 := (HW.out.inn k x).2
    have hs4 := (HW.out.inn k x).1.2
    clear hr2 hneg
    go_upto_region 8 with fail
    refine wp_region_held_drew (S := (fun w' => IsN w' b s)) (by kernel_rfl) H.out.drew.drew (fun _ => ?_)
    refine held_take 0 63 (v := ?_) rfl rfl (by kernel_rfl) (by kernel_rfl) (by kernel_rfl) (fun _ _ _ h => h) (by rfl) ?_ H.out.drew.drew ?_
    rotate_left
    · (intro w hSw; (try dsimp only at hSw); have z1 := hSw.cinn hk6 hx6; have z2 := hSw.ccost hx6; clear hSw;try simp only [List.getElem_toArray, List.getElem_cons_zero, List.getElem_cons_succ]; go_simp; try (with_reducible rfl))
    try simp only [List.setIfInBounds_toArray, List.set_cons_zero, List.set_cons_succ]
    refine held_take 1 64 (v := ?_) rfl rfl (by kernel_rfl) (by kernel_rfl) (by kernel_rfl) (fun _ _ _ h => h) (by rfl) ?_ H.out.drew.drew ?_
    rotate_left
    · (intro w hSw; (try dsimp only at hSw); have z1 := hSw.cinn hk6 hx6; have z2 := hSw.ccost hx6; clear hSw;try simp only [List.getElem_toArray, List.getElem_cons_zero, List.getElem_cons_succ]; go_simp; try (with_reducible rfl))
    try simp only [List.setIfInBounds_toArray, List.set_cons_zero, List.set_cons_succ]
    refine held_take 2 65 (v := ?_) rfl rfl (by kernel_rfl) (by kernel_rfl) (by kernel_rfl) (fun _ _ _ h => h) (by rfl) ?_ H.out.drew.drew ?_
    rotate_left
    · (intro w hSw; (try dsimp only at hSw); have z1 := hSw.cinn hk6 hx6; have z2 := hSw.ccost hx6; clear hSw;try simp only [List.getElem_toArray, List.getElem_cons_zero, List.getElem_cons_succ]; go_simp; try (with_reducible rfl))
    try simp only [List.setIfInBounds_toArray, List.set_cons_zero, List.set_cons_succ]
    refine held_take 3 66 (v := ?_) rfl rfl (by kernel_rfl) (by kernel_rfl) (by kernel_rfl) (fun _ _ _ h => h) (by rfl) ?_ H.out.drew.drew ?_
    rotate_left
    · (intro w hSw; (try dsimp only at hSw); have z1 := hSw.cinn hk6 hx6; have z2 := hSw.ccost hx6; clear hSw;try simp only [List.getElem_toArray, List.getElem_cons_zero, List.getElem_cons_succ]; go_simp; try (with_reducible rfl))
    try simp only [List.setIfInBounds_toArray, List.set_cons_zero, List.set_cons_succ]
    refine held_take 4 67 (v := ?_) rfl rfl (by kernel_rfl) (by kernel_rfl) (by kernel_rfl) (fun _ _ _ h => h) (by rfl) ?_ H.out.drew.drew ?_
    rotate_left
    · (intro w hSw; (try dsimp only at hSw); have z1 := hSw.cinn hk6 hx6; have z2 := hSw.ccost hx6; clear hSw;try simp only [List.getElem_toArray, List.getElem_cons_zero, List.getElem_cons_succ]; go_simp; try (with_reducible rfl))
    try simp only [List.setIfInBounds_toArray, List.set_cons_zero, List.set_cons_succ]
    refine held_take 5 68 (v := ?_) rfl rfl (by kernel_rfl) (by kernel_rfl) (by kernel_rfl) (fun _ _ _ h => h) (by rfl) ?_ H.out.drew.drew ?_
    rotate_left
    · (intro w hSw; (try dsimp only at hSw); have z1 := hSw.cinn hk6 hx6; have z2 := hSw.ccost hx6; clear hSw;try simp only [List.getElem_toArray, List.getElem_cons_zero, List.getElem_cons_succ]; go_simp; try (with_reducible rfl))
    try simp only [List.setIfInBounds_toArray, List.set_cons_zero, List.set_cons_succ]
    refine held_take 6 69 (v := ?_) rfl rfl (by kernel_rfl) (by kernel_rfl) (by kernel_rfl) (fun _ _ _ h => h) (by rfl) ?_ H.out.drew.drew ?_
    rotate_left
    · (intro w hSw; (try dsimp only at hSw); have z1 := hSw.cinn hk6 hx6; have z2 := hSw.ccost hx6; clear hSw;try simp only [List.getElem_toArray, List.getElem_cons_zero, List.getElem_cons_succ]; go_simp; try (with_reducible rfl))
    try simp only [List.setIfInBounds_toArray, List.set_cons_zero, List.set_cons_succ]
    refine held_take 7 70 (v := ?_) rfl rfl (by kernel_rfl) (by kernel_rfl) (by kernel_rfl) (fun _ _ _ h => h) (by rfl) ?_ H.out.drew.drew ?_
    rotate_left
    · (intro w hSw; (try dsimp only at hSw); have z1 := hSw.cinn hk6 hx6; have z2 := hSw.ccost hx6; clear hSw;try simp only [List.getElem_toArray, List.getElem_cons_zero, List.getElem_cons_succ]; go_simp; try (with_reducible rfl))
    try simp only [List.setIfInBounds_toArray, List.set_cons_zero, List.set_cons_succ]
    refine held_take 8 71 (v := ?_) rfl rfl (by kernel_rfl) (by kernel_rfl) (by kernel_rfl) (fun _ _ _ h => h) (by rfl) ?_ H.out.drew.drew ?_
    rotate_left
    · (intro w hSw; (try dsimp only at hSw); have z1 := hSw.cinn hk6 hx6; have z2 := hSw.ccost hx6; clear hSw;try simp only [List.getElem_toArray, List.getElem_cons_zero, List.getElem_cons_succ]; go_simp; try (with_reducible rfl))
    try simp only [List.setIfInBounds_toArray, List.set_cons_zero, List.set_cons_succ]
    refine held_take 9 72 (v := ?_) rfl rfl (by kernel_rfl) (by kernel_rfl) (by kernel_rfl) (fun _ _ _ h => h) (by rfl) ?_ H.out.drew.drew ?_
    rotate_left
    · (intro w hSw; (try dsimp only at hSw); have z1 := hSw.cinn hk6 hx6; have z2 := hSw.ccost hx6; clear hSw;try simp only [List.getElem_toArray, List.getElem_cons_zero, List.getElem_cons_succ]; go_simp; try (with_reducible rfl))
    try simp only [List.setIfInBounds_toArray, List.set_cons_zero, List.set_cons_succ]
    refine held_take 10 73 (v := ?_) rfl rfl (by kernel_rfl) (by kernel_rfl) (by kernel_rfl) (fun _ _ _ h => h) (by rfl) ?_ H.out.drew.drew ?_
    rotate_left
    · (intro w hSw; (try dsimp only at hSw); have z1 := hSw.cinn hk6 hx6; have z2 := hSw.ccost hx6; clear hSw;try simp only [List.getElem_toArray, List.getElem_cons_zero, List.getElem_cons_succ]; go_simp; try (with_reducible rfl))
    try simp only [List.setIfInBounds_toArray, List.set_cons_zero, List.set_cons_succ]
    refine held_take 11 74 (v := ?_) rfl rfl (by kernel_rfl) (by kernel_rfl) (by kernel_rfl) (fun _ _ _ h => h) (by rfl) ?_ H.out.drew.drew ?_
    rotate_left
    · (intro w hSw; (try dsimp only at hSw); have z1 := hSw.cinn hk6 hx6; have z2 := hSw.ccost hx6; clear hSw;try simp only [List.getElem_toArray, List.getElem_cons_zero, List.getElem_cons_succ]; go_simp; try (with_reducible rfl))
    try simp only [List.setIfInBounds_toArray, List.set_cons_zero, List.set_cons_succ]
    refine held_take 12 75 (v := ?_) rfl rfl (by kernel_rfl) (by kernel_rfl) (by kernel_rfl) (fun _ _ _ h => h) (by rfl) ?_ H.out.drew.drew ?_
    rotate_left
    · (intro w hSw; (try dsimp only at hSw); have z1 := hSw.cinn hk6 hx6; have z2 := hSw.ccost hx6; clear hSw;try simp only [List.getElem_toArray, List.getElem_cons_zero, List.getElem_cons_succ]; go_simp; try (with_reducible rfl))
    try simp only [List.setIfInBounds_toArray, List.set_cons_zero, List.set_cons_succ]
    refine held_take 13 76 (v := ?_) rfl rfl (by kernel_rfl) (by kernel_rfl) (by kernel_rfl) (fun _ _ _ h => h) (by rfl) ?_ H.out.drew.drew ?_
    rotate_left
    · (intro w hSw; (try dsimp only at hSw); have z1 := hSw.cinn hk6 hx6; have z2 := hSw.ccost hx6; clear hSw;try simp only [List.getElem_toArray, List.getElem_cons_zero, List.getElem_cons_succ]; go_simp; try (with_reducible rfl))
    try simp only [List.setIfInBounds_toArray, List.set_cons_zero, List.set_cons_succ]
    refine held_take 14 77 (v := ?_) rfl rfl (by kernel_rfl) (by kernel_rfl) (by kernel_rfl) (fun _ _ _ h => h) (by rfl) ?_ H.out.drew.drew ?_
    rotate_left
    · (intro w hSw; (try dsimp only at hSw); have z1 := hSw.cinn hk6 hx6; have z2 := hSw.ccost hx6; clear hSw;try simp only [List.getElem_toArray, List.getElem_cons_zero, List.getElem_cons_succ]; go_simp; try (with_reducible rfl))
    try simp only [List.setIfInBounds_toArray, List.set_cons_zero, List.set_cons_succ]
    refine held_call 15 78 rfl rfl (by kernel_rfl) (by rfl) (fun K hK => ?_)
    try simp only [List.getElem_toArray, List.getElem_cons_zero, List.getElem_cons_succ]
    go_simp
    (go_at_call 40; refine (metric_any _ _ hs1 _).mono ?_; rintro e w2 ⟨rfl, rfl⟩)
    try go_wp2_with fail
    try simp only [Act.put, List.setIfInBounds_toArray, List.set_cons_zero, List.set_cons_succ]
    refine hK.out _ _ _ H.out.drew.drew ?_
    clear hK K
    refine held_call 16 79 rfl rfl (by kernel_rfl) (by rfl) (fun K hK => ?_)
    try simp only [List.getElem_toArray, List.getElem_cons_zero, List.getElem_cons_succ]
    go_simp
    (go_at_call 53; refine (add_any _ _ _ hs2 hs3 hs4 _).mono ?_; rintro e w2 ⟨rfl, rfl⟩)
    try go_wp2_with fail
    try simp only [Act.put, List.setIfInBounds_toArray, List.set_cons_zero, List.set_cons_succ]
    refine hK.out _ _ _ H.out.drew.drew ?_
    clear hK K
    refine held_take 17 4 (v := ?_) rfl rfl (by kernel_rfl) (by kernel_rfl) (by kernel_rfl) (fun _ _ _ h => h) (by rfl) ?_ H.out.drew.drew ?_
    rotate_left
    · (intro w hSw; (try dsimp only at hSw); have z1 := hSw.cinn hk6 hx6; have z2 := hSw.ccost hx6; clear hSw;try simp only [List.getElem_toArray, List.getElem_cons_zero, List.getElem_cons_succ]; go_simp; try (with_reducible rfl))
    try simp only [List.setIfInBounds_toArray, List.set_cons_zero, List.set_cons_succ]
    refine held_take 18 5 (v := ?_) rfl rfl (by kernel_rfl) (by kernel_rfl) (by kernel_rfl) (fun _ _ _ h => h) (by rfl) ?_ H.out.drew.drew ?_
    rotate_left
    · (intro w hSw; (try dsimp only at hSw); have z1 := hSw.cinn hk6 hx6; have z2 := hSw.ccost hx6; clear hSw;try simp only [List.getElem_toArray, List.getElem_cons_zero, List.getElem_cons_succ]; go_simp; try (with_reducible rfl))
    try simp only [List.setIfInBounds_toArray, List.set_cons_zero, List.set_cons_succ]
    refine held_take 19 6 (v := ?_) rfl rfl (by kernel_rfl) (by kernel_rfl) (by kernel_rfl) (fun _ _ _ h => h) (by rfl) ?_ H.out.drew.drew ?_
    rotate_left
    · (intro w hSw; (try dsimp only at hSw); have z1 := hSw.cinn hk6 hx6; have z2 := hSw.ccost hx6; clear hSw;try simp only [List.getElem_toArray, List.getElem_cons_zero, List.getElem_cons_succ]; go_simp; try (with_reducible rfl))
    try simp only [List.setIfInBounds_toArray, List.set_cons_zero, List.set_cons_succ]
    refine wpAnyH_done (by kernel_rfl) ?_ _
    go_wp2
    go_ret3
    exact ⟨by rw [HR2.out]; rfl, 2, rfl⟩
set_option maxHeartbeats 1600000 in
theorem route_nil (d : Int) (w : World) : Calls Try.prog 39 #[.pointer none, .int .i64 d] w fun e w' => e = .returned (.tuple #[.int .i64 (-1), dv 65535 0, .bool false]) ∧ w = w' := by
  go_enter Try.func39, Try.ntmps39
  go_wp2_with (go_at_call 50; refine (none_any _).mono ?_; rintro e w' ⟨rfl, rfl⟩)
  go_ret3
  exact ⟨rfl, rfl⟩
end Eng
end Go.Proofs.Ytebkpjefdaieaaa

/-
  Package engine: Tell. Conditions: those that each theorem names.
-/
namespace Go.Proofs.Ytebkpjefdaieaaa
open Go.RowKit FR FP H2 OW
set_option linter.unusedVariables false
set_option linter.unusedSimpArgs false
namespace Eng
open Feas
attribute [local go_sem] st_dv
/-- is goal d hidden from t? -/
def St.hid (s : St) (t : Int) (d : Nat) : Bool := !(s.route d).2.2 || ((s.route d).1 == t)
/-- what t is told of goal d -/
def St.offer (s : St) (t : Int) (d : Nat) : Int × Int × Int := if s.hid t d = true then ((d : Int), 65535, 0) else ((d : Int), (s.route d).2.1.1, (s.route d).2.1.2)
/-- is what is told of d the best that was ever told? -/
def St.best (s : St) (t : Int) (d : Nat) : Bool := !s.hid t d && !((d : Int) == (s.id : Int)) && (decide (65535 ≤ (s.told d).1) || bet (s.route d).2.1.1 (s.route d).2.1.2 (s.told d).1 (s.told d).2)
def St.tells (s : St) (t : Int) (k : Nat) : St := { s with told := fun d => if d < k ∧ s.best t d = true then (s.route d).2.1 else s.told d }
def cellsO (f : Nat → Int × Int × Int) (k : Nat) : List Value := (List.range k).flatMap fun i => [.int .i64 (f i).1, .int .i64 (f i).2.1, .int .u32 (f i).2.2]
theorem cellsO_succ (f : Nat → Int × Int × Int) (k : Nat) : cellsO f (k + 1) = cellsO f k ++ [.int .i64 (f k).1, .int .i64 (f k).2.1, .int .u32 (f k).2.2] := by simp [cellsO, List.range_succ]
theorem route_tells (s : St) (t : Int) (k d : Nat) (h : k ≤ d) : (s.tells t k).route d = s.route d := by
  have e : (s.tells t k).told d = s.told d := by unfold St.tells; dsimp only; rw [if_neg (by omega)]
  unfold St.route St.pick
  simp only [Int.toNat_natCast, e]
  rfl
theorem route_range (s : St) (hw : Wf s) (d : Nat) : (0 ≤ (s.route d).2.1.1 ∧ (s.route d).2.1.1 ≤ 65535) ∧ Sm (s.route d).2.1.2 := by
  unfold St.route
  split
  · exact ⟨⟨by decide, by decide⟩, ⟨by decide, by decide⟩⟩
  split
  · exact ⟨⟨Int.le_refl _, by show (0 : Int) ≤ 65535; decide⟩, hw.seq⟩
  split
  · exact ⟨⟨by decide, by decide⟩, ⟨by decide, by decide⟩⟩
  · exact ⟨addm_range _ (hw.inn _ _).1.1, (hw.inn _ _).2⟩
theorem wf_tells (s : St) (t : Int) (k : Nat) (hw : Wf s) : Wf (s.tells t k) := ⟨hw.cost, hw.inn, fun d => by
  unfold St.tells
  dsimp only
  split
  · exact route_range s hw d
  · exact hw.told d, hw.seq⟩
theorem St.tells_val (s : St) (t : Int) (k j : Nat) : (s.tells t k).val j = if 44 ≤ j ∧ j < 50 then dp (if j - 44 < k ∧ s.best t (j - 44) = true then (s.route ((j - 44 : Nat) : Int)).2.1 else s.told (j - 44)) else s.val j := by
  by_cases e : 44 ≤ j ∧ j < 50
  · rw [if_pos e]
    unfold St.val St.tells
    rw [if_neg (by omega), if_neg (by omega), if_neg (by omega), if_neg (by omega), if_pos e.2]
  · rw [if_neg e]
    unfold St.val St.tells
    repeat' split
    all_goals first | rfl | (exfalso; omega)
theorem tells_zero (s : St) (t : Int) : s.tells t 0 = s := by
  unfold St.tells
  simp
theorem IsN.tell_no {w : World} {b : Nat} {s : St} {t : Int} {k : Nat} (h : IsN w b (s.tells t k)) (hb : s.best t k = false) : IsN w b (s.tells t (k + 1)) := by
  have e : s.tells t (k + 1) = s.tells t k := by
    unfold St.tells
    congr 1
    funext d
    by_cases hd : d = k
    · subst hd; simp [hb]
    · simp only [show d < k + 1 ↔ d < k by omega]
  rw [e]; exact h
theorem IsN.tell_yes {w : World} {b : Nat} {s : St} {t : Int} {k : Nat} (h : IsN w b (s.tells t k)) (hk : k < 6) (hb : s.best t k = true) : IsN (w.setCell ⟨b, 44 + k, none⟩ (dp (s.route k).2.1)) b (s.tells t (k + 1)) :=
  h.set (44 + k) _ (by omega) (by rw [St.tells_val, if_pos (by omega), if_pos ⟨by omega, by rw [Nat.add_sub_cancel_left]; exact hb⟩, Nat.add_sub_cancel_left]) (fun j hj hne => by
    rw [St.tells_val, St.tells_val]
    by_cases e : 44 ≤ j ∧ j < 50
    · rw [if_pos e, if_pos e]
      simp only [show (j - 44 < k + 1) = (j - 44 < k) from propext ⟨fun h => by omega, fun h => by omega⟩]
    · rw [if_neg e, if_neg e]) h.id h.n6
theorem IsN.app {w w1 : World} {b : Nat} {s : St} {v : Value} {o : Obj} (h : IsN w b s) (hne : v.ownBlock ≠ some b) (hg : (w.alloc o).grownBy w1 v.ownBlock) : IsN w1 b s := by
  obtain ⟨⟨cs, h1, h2⟩, h3, h4⟩ := h
  exact ⟨⟨cs, app_obj h1 hne hg, h2⟩, h3, h4⟩
theorem infoO : (Try.prog.info? 99).map (fun i => (i.zero, i.size, i.bytes)) = some (some (.agg #[.int .i64 0, .int .i64 0, .int .u32 0]), 3, 24) := by kernel_rfl
theorem three_cells (w : World) (x y z : Value) (t : TypeId) : ∀ j u, [x, y, z][j]? = some u → (w.alloc (.cells #[x, y, z] t (0, 0))).cell? ((⟨w.heap.size, 0, none⟩ : Addr).add j) = some u :=
  World.news_of_block (cs := #[x, y, z]) (heap_alloc_new w _)
/-- all that t is told -/
def St.told_ (s : St) (t : Int) : List Value := cellsO (s.offer t) s.n
set_option maxRecDepth 100000 in
set_option maxHeartbeats 16000000 in
theorem tell_any (b : Nat) (s : St) (t : Int) (w : World) (h : IsN w b s) (hw : Wf s) (hu : upv s t = 0) : Calls Try.prog 42 #[.pointer (some ⟨b, 0, none⟩), .int .i64 t] w fun e w' => (∃ v, e = .returned (.tuple #[v, .int .i64 0]) ∧ w'.ownsRow w.heap.size 99 3 v s.n (s.told_ t)) ∧ IsN w' b (s.tells t s.n) ∧ Only (fun i => i = b) w w' := by
  obtain ⟨i0, hi, hz0, hz1, hz2⟩ := info_parts infoO
  have HI := Lib.hid hi
  have H := Lib.hid h
  have HW := Lib.hid hw
  have hn6 := h.n6
  have hup := up_any b s t w h hw
  rw [hu] at hup
  have HUP := Lib.hid hup
  have hbw := Lib.hid (show b < w.heap.size from blk_lt h.blk.choose_spec.1)
  have hcn := h.cn
  clear hup h hw hi hu
  go_enter Try.func42, Try.ntmps42
  go_upto_region 5 with (go_at_call 56; refine (HUP.out).mono ?_; rintro e w' ⟨rfl, rfl⟩)
  go_loopw [4, 22] (fun s4 s22 wr => ∃ (k : Nat) (sv : Value), k ≤ s.n ∧ s22 = .int .i64 k ∧ sv = s4 ∧ wr.ownsRow w.heap.size 99 3 sv k (cellsO (s.offer t) k) ∧ IsN wr b (s.tells t k) ∧ Only (fun i => i = b) w wr) (fun _ s22 _ => s.n - (intOf s22).toNat)
  case atStart => exact ⟨0, _, by omega, rfl, rfl, World.ownsRow_nil _ _ _ _, by rw [tells_zero]; exact H.out, Only.refl _ _⟩
  case round =>
    obtain ⟨k, sv, hk, rfl, rfl, ho, hn, hs⟩ := hrel
    have HO0 := Lib.hid ho
    have HN0 := Lib.hid hn
    have HS0 := Lib.hid hs
    clear ho hn hs
    by_cases hlt : k < s.n
    · have hlt' : (k : Int) < (s.n : Int) := by omega
      have k0 : (0 : Int) ≤ (k : Int) := by omega
      have k6 : (k : Int) < 6 := by omega
      have hk6 : k < 6 := by omega
      have hrt := route_any b (s.tells t k) k wr HN0.out (wf_tells s t k HW.out)
      rw [route_tells s t k k (Nat.le_refl _)] at hrt
      obtain ⟨⟨hm0, hm1⟩, hsq⟩ := route_range s HW.out k
      have hof : s.offer t k = if s.hid t k = true then ((k : Int), 65535, 0) else ((k : Int), (s.route k).2.1.1, (s.route k).2.1.2) := rfl
      have hhd : s.hid t k = (!(s.route k).2.2 || ((s.route k).1 == t)) := rfl
      have hbs : s.best t k = (!s.hid t k && !((k : Int) == (s.id : Int)) && (decide (65535 ≤ (s.told k).1) || bet (s.route k).2.1.1 (s.route k).2.1.2 (s.told k).1 (s.told k).2)) := rfl
      have hty := fun (W : World) (hn : IsN W b (s.tells t k)) (hb : s.best t k = true) => hn.tell_yes hk6 hb
      obtain ⟨nx, ⟨m, q⟩, ok, hr⟩ : ∃ nx mq ok, s.route k = (nx, mq, ok) := ⟨_, _, _, rfl⟩
      rw [hr] at hrt hm0 hm1 hsq hof hhd hbs hty
      dsimp only at hrt hm0 hm1 hsq hof hhd hbs hty
      have HRT := Lib.hid hrt
      have HTY := Lib.hid hty
      have htk : (s.tells t k).told k = s.told k := by unfold St.tells; dsimp only; rw [if_neg (by omega)]
      have HTK := Lib.hid htk
      have hst := HW.out.told k
      have hsm : Sm m := ⟨hm0, by omega⟩
      have hst1 : Sm (s.told k).1 := ⟨hst.1.1, by have := hst.1.2; omega⟩
      have hst2 := hst.2
      have HHD := Lib.hid hhd
      have HBS := Lib.hid hbs
      have HF := Lib.hid hof
      have HNB0 := own_not HO0.out hbw.out
      have HNB := Lib.hid HNB0
      clear hrt hty hr htk hhd hbs hof HNB0 hst
      go_upto_region 8 with (go_at_call 39; refine (HRT.out).mono ?_; rintro e w' ⟨rfl, q0, rfl⟩)
      have HO := Lib.hid (own_drewN HO0.out q0)
      have HN := Lib.hid (HN0.out.drewN q0)
      have HS := Lib.hid (HS0.out.drewN q0)
      generalize wr.drewN q0 = W at HO HN HS ⊢
      clear HO0 HN0 HS0 HRT
      by_cases hh : s.hid t k = true
      · have hof2 : s.offer t k = ((k : Int), 65535, 0) := by rw [HF.out, if_pos hh]
        have HOF := Lib.hid hof2
        have hb2 : s.best t k = false := by rw [HBS.out, hh]; rfl
        have HB2 := Lib.hid hb2
        rw [HHD.out] at hh
        clear hof2 hb2
        cases ok
        all_goals
          try (have hnt : (nx == t) = true := by simpa using hh)
          clear hh
          go_wp2_with (at_builtin; go_loud (refine wpList_append_lies _ rfl (.tmp 39) (.tmp 42) 42 rfl w.heap.size 99 i0 _ 3 24 Try.underlying42 HI.out hz0 hz1 hz2 rfl (by omega) sv k _ rfl (HO.out.alloc _) ⟨W.heap.size, 0, none⟩ 1 1 [.int .i64 k, .int .i64 65535, .int .u32 0] rfl rfl (three_cells _ _ _ _ _) (by simp [Value.oneCell']) (by omega) (by unfold maxLen; omega) (by omega) (by have := HS.out.size; simp; omega) (W.heap.size + 1) (by simp) ?_; intro g2 cap2 w3 hown1 hgrow1 hat1 hlt1; have HO2 := Lib.hid (show w3.ownsRow w.heap.size 99 3 _ (k + 1) (cellsO (s.offer t) (k + 1)) by rw [cellsO_succ, HOF.out]; exact hown1); have HN2 := Lib.hid (HN.out.app HNB.out hgrow1); have HS2 := Lib.hid (app_only HS.out HO.out (Nat.le_refl _) hgrow1); clear hown1 hgrow1 hat1 hlt1))
          go_roundw
          case rel => exact ⟨k + 1, _, by omega, by go_num, rfl, HO2.out, HN2.out.tell_no HB2.out, HS2.out⟩
          case measure => simp [intOf]; omega
      · have hof2 : s.offer t k = ((k : Int), m, q) := by rw [HF.out, if_neg hh]
        have HOF := Lib.hid hof2
        have hh2 : s.hid t k = false := by simpa using hh
        have hb0 : s.best t k = (!((k : Int) == (s.id : Int)) && (decide (65535 ≤ (s.told k).1) || bet m q (s.told k).1 (s.told k).2)) := by rw [HBS.out, hh2]; rfl
        rw [HHD.out] at hh2
        have hok : ok = true := by cases ok; cases hh2; rfl
        subst hok
        have hnt : (nx == t) = false := by simpa using hh2
        clear hof2 hh hh2 HBS HHD HF
        have hn1 : (s.n : Int) ≤ 6 := by omega
        by_cases hid : (k : Int) = (s.id : Int)
        · have hid1 : ((k : Int) == (s.id : Int)) = true := by simp [hid]
          have hid2 : ((k : Int) != (s.id : Int)) = false := by simp [hid]
          have HB2 := Lib.hid (show s.best t k = false by rw [hb0, hid1]; rfl)
          clear hid hb0
          go_wp2_with (first
            | (go_at_call 40; refine (metric_any m q hsm _).mono ?_; rintro e w' ⟨rfl, rfl⟩)
            | (go_at_call 57; refine (Feas.seq_any m q hsq _).mono ?_; rintro e w' ⟨rfl, rfl⟩)
            | (go_at_call 58; refine (far_any _ _ hst1 _).mono ?_; rintro e w' ⟨rfl, rfl⟩)
            | (go_at_call 59; refine (bet_any _ _ _ _ hsm hsq hst1 hst2 _).mono ?_; rintro e w' ⟨rfl, rfl⟩)
            | (at_builtin; refine wpList_append_lies _ rfl (.tmp 44) (.tmp 51) 42 rfl w.heap.size 99 i0 _ 3 24 Try.underlying42 HI.out hz0 hz1 hz2 rfl (by omega) sv k _ rfl (HO.out.alloc _) ⟨W.heap.size, 0, none⟩ 1 1 [.int .i64 k, .int .i64 m, .int .u32 q] rfl rfl (three_cells _ _ _ _ _) (by simp [Value.oneCell']) (by omega) (by unfold maxLen; omega) (by omega) (by have := HS.out.size; simp; omega) (W.heap.size + 1) (by simp) ?_; intro g2 cap2 w3 hown1 hgrow1 hat1 hlt1; have HO2 := Lib.hid (show w3.ownsRow w.heap.size 99 3 _ (k + 1) (cellsO (s.offer t) (k + 1)) by rw [cellsO_succ, HOF.out]; exact hown1); have HN2 := Lib.hid (HN.out.app HNB.out hgrow1); have HS2 := Lib.hid (app_only HS.out HO.out (Nat.le_refl _) hgrow1); have x1 : w3.cell? ⟨b, 0, none⟩ = some (.int .i64 s.id) := HN2.out.cid; have x2 : w3.cell? ⟨b, 44 + k, none⟩ = some (dp (s.told k)) := HTK.out ▸ HN2.out.ctold hk6; have x3 := HN2.out.free (44 + k); clear hown1 hgrow1 hat1 hlt1))
          go_roundw
          case rel => exact ⟨k + 1, _, by omega, by go_num, rfl, HO2.out, HN2.out.tell_no HB2.out, HS2.out⟩
          case measure => simp [intOf]; omega
        · have hid1 : ((k : Int) == (s.id : Int)) = false := by simpa using hid
          have hid2 : ((k : Int) != (s.id : Int)) = true := by simpa using hid
          rw [hid1] at hb0
          by_cases hfar : 65535 ≤ (s.told k).1
          · have HB2 := Lib.hid (show s.best t k = true by rw [hb0]; simp [hfar])
            have hfar' : decide (65535 ≤ (s.told k).1) = true := by simpa using hfar
            clear hid hb0
            go_wp2_with (first
              | (go_at_call 40; refine (metric_any m q hsm _).mono ?_; rintro e w' ⟨rfl, rfl⟩)
              | (go_at_call 57; refine (Feas.seq_any m q hsq _).mono ?_; rintro e w' ⟨rfl, rfl⟩)
              | (go_at_call 58; refine (far_any _ _ hst1 _).mono ?_; rintro e w' ⟨rfl, rfl⟩)
              | (go_at_call 59; refine (bet_any _ _ _ _ hsm hsq hst1 hst2 _).mono ?_; rintro e w' ⟨rfl, rfl⟩)
              | (at_builtin; refine wpList_append_lies _ rfl (.tmp 44) (.tmp 51) 42 rfl w.heap.size 99 i0 _ 3 24 Try.underlying42 HI.out hz0 hz1 hz2 rfl (by omega) sv k _ rfl (HO.out.alloc _) ⟨W.heap.size, 0, none⟩ 1 1 [.int .i64 k, .int .i64 m, .int .u32 q] rfl rfl (three_cells _ _ _ _ _) (by simp [Value.oneCell']) (by omega) (by unfold maxLen; omega) (by omega) (by have := HS.out.size; simp; omega) (W.heap.size + 1) (by simp) ?_; intro g2 cap2 w3 hown1 hgrow1 hat1 hlt1; have HO2 := Lib.hid (show w3.ownsRow w.heap.size 99 3 _ (k + 1) (cellsO (s.offer t) (k + 1)) by rw [cellsO_succ, HOF.out]; exact hown1); have HN2 := Lib.hid (HN.out.app HNB.out hgrow1); have HS2 := Lib.hid (app_only HS.out HO.out (Nat.le_refl _) hgrow1); have x1 : w3.cell? ⟨b, 0, none⟩ = some (.int .i64 s.id) := HN2.out.cid; have x2 : w3.cell? ⟨b, 44 + k, none⟩ = some (dp (s.told k)) := HTK.out ▸ HN2.out.ctold hk6; have x3 := HN2.out.free (44 + k); clear hown1 hgrow1 hat1 hlt1))
            go_roundw
            case rel => exact ⟨k + 1, _, by omega, by go_num, rfl, (Only.setCell (Only.refl (fun i => i = b) w3) (p := ⟨b, 44 + k, none⟩) (fun _ => rfl) _).own HO2.out (fun x hx e => own_not HO2.out hbw.out (e ▸ hx)), HTY.out w3 HN2.out HB2.out, HS2.out.setCell (p := ⟨b, 44 + k, none⟩) (fun _ => rfl) _⟩
            case measure => simp [intOf]; omega
          · have hfar' : decide (65535 ≤ (s.told k).1) = false := by simpa using hfar
            cases hbt : bet m q (s.told k).1 (s.told k).2
            · have HB2 := Lib.hid (show s.best t k = false by rw [hb0, hfar', hbt]; rfl)
              clear hid hb0
              go_wp2_with (first
                | (go_at_call 40; refine (metric_any m q hsm _).mono ?_; rintro e w' ⟨rfl, rfl⟩)
                | (go_at_call 57; refine (Feas.seq_any m q hsq _).mono ?_; rintro e w' ⟨rfl, rfl⟩)
                | (go_at_call 58; refine (far_any _ _ hst1 _).mono ?_; rintro e w' ⟨rfl, rfl⟩)
                | (go_at_call 59; refine (bet_any _ _ _ _ hsm hsq hst1 hst2 _).mono ?_; rintro e w' ⟨rfl, rfl⟩)
                | (at_builtin; refine wpList_append_lies _ rfl (.tmp 44) (.tmp 51) 42 rfl w.heap.size 99 i0 _ 3 24 Try.underlying42 HI.out hz0 hz1 hz2 rfl (by omega) sv k _ rfl (HO.out.alloc _) ⟨W.heap.size, 0, none⟩ 1 1 [.int .i64 k, .int .i64 m, .int .u32 q] rfl rfl (three_cells _ _ _ _ _) (by simp [Value.oneCell']) (by omega) (by unfold maxLen; omega) (by omega) (by have := HS.out.size; simp; omega) (W.heap.size + 1) (by simp) ?_; intro g2 cap2 w3 hown1 hgrow1 hat1 hlt1; have HO2 := Lib.hid (show w3.ownsRow w.heap.size 99 3 _ (k + 1) (cellsO (s.offer t) (k + 1)) by rw [cellsO_succ, HOF.out]; exact hown1); have HN2 := Lib.hid (HN.out.app HNB.out hgrow1); have HS2 := Lib.hid (app_only HS.out HO.out (Nat.le_refl _) hgrow1); have x1 : w3.cell? ⟨b, 0, none⟩ = some (.int .i64 s.id) := HN2.out.cid; have x2 : w3.cell? ⟨b, 44 + k, none⟩ = some (dp (s.told k)) := HTK.out ▸ HN2.out.ctold hk6; have x3 := HN2.out.free (44 + k); clear hown1 hgrow1 hat1 hlt1))
              go_roundw
              case rel => exact ⟨k + 1, _, by omega, by go_num, rfl, HO2.out, HN2.out.tell_no HB2.out, HS2.out⟩
              case measure => simp [intOf]; omega
            · have HB2 := Lib.hid (show s.best t k = true by rw [hb0, hfar', hbt]; rfl)
              clear hid hb0
              go_wp2_with (first
                | (go_at_call 40; refine (metric_any m q hsm _).mono ?_; rintro e w' ⟨rfl, rfl⟩)
                | (go_at_call 57; refine (Feas.seq_any m q hsq _).mono ?_; rintro e w' ⟨rfl, rfl⟩)
                | (go_at_call 58; refine (far_any _ _ hst1 _).mono ?_; rintro e w' ⟨rfl, rfl⟩)
                | (go_at_call 59; refine (bet_any _ _ _ _ hsm hsq hst1 hst2 _).mono ?_; rintro e w' ⟨rfl, rfl⟩)
                | (at_builtin; refine wpList_append_lies _ rfl (.tmp 44) (.tmp 51) 42 rfl w.heap.size 99 i0 _ 3 24 Try.underlying42 HI.out hz0 hz1 hz2 rfl (by omega) sv k _ rfl (HO.out.alloc _) ⟨W.heap.size, 0, none⟩ 1 1 [.int .i64 k, .int .i64 m, .int .u32 q] rfl rfl (three_cells _ _ _ _ _) (by simp [Value.oneCell']) (by omega) (by unfold maxLen; omega) (by omega) (by have := HS.out.size; simp; omega) (W.heap.size + 1) (by simp) ?_; intro g2 cap2 w3 hown1 hgrow1 hat1 hlt1; have HO2 := Lib.hid (show w3.ownsRow w.heap.size 99 3 _ (k + 1) (cellsO (s.offer t) (k + 1)) by rw [cellsO_succ, HOF.out]; exact hown1); have HN2 := Lib.hid (HN.out.app HNB.out hgrow1); have HS2 := Lib.hid (app_only HS.out HO.out (Nat.le_refl _) hgrow1); have x1 : w3.cell? ⟨b, 0, none⟩ = some (.int .i64 s.id) := HN2.out.cid; have x2 : w3.cell? ⟨b, 44 + k, none⟩ = some (dp (s.told k)) := HTK.out ▸ HN2.out.ctold hk6; have x3 := HN2.out.free (44 + k); clear hown1 hgrow1 hat1 hlt1))
              go_roundw
              case rel => exact ⟨k + 1, _, by omega, by go_num, rfl, (Only.setCell (Only.refl (fun i => i = b) w3) (p := ⟨b, 44 + k, none⟩) (fun _ => rfl) _).own HO2.out (fun x hx e => own_not HO2.out hbw.out (e ▸ hx)), HTY.out w3 HN2.out HB2.out, HS2.out.setCell (p := ⟨b, 44 + k, none⟩) (fun _ => rfl) _⟩
              case measure => simp [intOf]; omega
    · obtain rfl : k = s.n := by omega
      go_wp2
      go_ret2
      exact ⟨⟨_, rfl, HO0.out⟩, HN0.out, HS0.out⟩
set_option maxHeartbeats 1600000 in
theorem tell_no (b : Nat) (s : St) (t : Int) (w : World) (h : IsN w b s) (hw : Wf s) (hu : upv s t ≠ 0) : Calls Try.prog 42 #[.pointer (some ⟨b, 0, none⟩), .int .i64 t] w fun e w' => e = .returned (.tuple #[.slice none 0 0, .int .i64 (upv s t)]) ∧ w = w' := by
  have hup := up_any b s t w h hw
  generalize upv s t = u at hup hu
  have hu' : (u == 0) = false := by simp [hu]
  have HUP := Lib.hid hup
  clear hup h hw hu
  go_enter Try.func42, Try.ntmps42
  go_wp2_with (go_at_call 56; refine (HUP.out).mono ?_; rintro e w' ⟨rfl, rfl⟩)
  go_ret2
  exact ⟨rfl, rfl⟩
set_option maxHeartbeats 1600000 in
theorem tell_nil (t : Int) (w : World) : Calls Try.prog 42 #[.pointer none, .int .i64 t] w fun e w' => e = .returned (.tuple #[.slice none 0 0, .int .i64 10]) ∧ w = w' := by
  go_enter Try.func42, Try.ntmps42
  go_wp2_with (go_at_call 56; refine (up_nil t w).mono ?_; rintro e w' ⟨rfl, rfl⟩)
  go_ret2
  exact ⟨rfl, rfl⟩
end Eng
end Go.Proofs.Ytebkpjefdaieaaa

/-
  Package engine: a node all through a law: what each call leaves. Conditions: those that each theorem names.
-/
namespace Go.Proofs.Ytebkpjefdaieaaa
open Go.RowKit FR FP H2 OW
set_option linter.unusedVariables false
set_option linter.unusedSimpArgs false
namespace Eng
open Feas
theorem sm0 : Sm 0 := ⟨by decide, by decide⟩
theorem sm1 : Sm 1 := ⟨by decide, by decide⟩
theorem okz : (0 : Int) ≤ 0 ∧ (0 : Int) ≤ 1000 ∧ (0 : Int) = 0 := ⟨by decide, by decide, rfl⟩
theorem okf : ((0 : Int) ≤ 65535 ∧ (65535 : Int) ≤ 65535) ∧ Sm 0 := ⟨⟨by decide, by decide⟩, sm0⟩
theorem wf_new (id n : Nat) : Wf (new id n) := ⟨fun _ => okz, fun _ _ => okf, fun _ => okf, sm1⟩
theorem wf_clear {s : St} (h : Wf s) : Wf s.clear := ⟨h.cost, fun _ _ => okf, h.told, h.seq⟩
theorem ite_c {c : Prop} [Decidable c] {a b : Int × Int} (ha : 0 ≤ a.1 ∧ a.1 ≤ 1000 ∧ a.2 = 0) (hb : 0 ≤ b.1 ∧ b.1 ≤ 1000 ∧ b.2 = 0) : 0 ≤ (if c then a else b).1 ∧ (if c then a else b).1 ≤ 1000 ∧ (if c then a else b).2 = 0 := by split <;> assumption
theorem ite_d {c : Prop} [Decidable c] {a b : Int × Int} (ha : (0 ≤ a.1 ∧ a.1 ≤ 65535) ∧ Sm a.2) (hb : (0 ≤ b.1 ∧ b.1 ≤ 65535) ∧ Sm b.2) : (0 ≤ (if c then a else b).1 ∧ (if c then a else b).1 ≤ 65535) ∧ Sm (if c then a else b).2 := by split <;> assumption
theorem wf_link {s : St} (h : Wf s) (t c : Int) : Wf (s.link t c) := by
  unfold St.link
  split
  · rename_i hc
    split
    · exact ⟨fun i => ite_c okz (h.cost i), fun d k => ite_d okf (h.inn d k), h.told, h.seq⟩
    · exact ⟨fun i => ite_c ⟨hc.2.1, hc.2.2, rfl⟩ (h.cost i), h.inn, h.told, h.seq⟩
  · exact h
theorem wf_fresh {s : St} (h : Wf s) (hs : s.seq ≠ 4294967295) : Wf { s with seq := s.seq + 1 } := ⟨h.cost, h.inn, h.told, by have h1 := h.seq.1; have h2 := h.seq.2; exact ⟨by show 0 ≤ s.seq + 1; omega, by show s.seq + 1 ≤ 4294967295; omega⟩⟩
theorem wf_take {s : St} (h : Wf s) (i : Nat) (o : Int × Int × Int) (ho : (0 ≤ o.2.1 ∧ o.2.1 ≤ 65535) ∧ Sm o.2.2) : Wf (s.take i o) := by
  unfold St.take
  split
  · exact h
  · refine ⟨h.cost, fun d k => ite_d ?_ (h.inn d k), h.told, h.seq⟩
    unfold kept
    exact ite_d okf ho
theorem wf_takes {s : St} (h : Wf s) (i : Nat) (f : Nat → Int × Int × Int) : ∀ k, (∀ j, j < k → (0 ≤ (f j).2.1 ∧ (f j).2.1 ≤ 65535) ∧ Sm (f j).2.2) → Wf (s.takes i f k)
  | 0, _ => h
  | k + 1, hf => wf_take (wf_takes h i f k (fun j hj => hf j (by omega))) i (f k) (hf k (by omega))
/-- offers whose numbers are of 32 bits -/
def SmO (f : Nat → Int × Int × Int) (n : Nat) : Prop := ∀ i, i < n → Sm (f i).2.2
theorem wf_hear {s : St} (h : Wf s) (i : Int) (f : Nat → Int × Int × Int) (n : Nat) (hf : SmO f n) : Wf (s.hear i f n) := by
  unfold St.hear
  split
  · rename_i hc
    refine wf_takes h _ f n (fun j hj => ⟨?_, hf j hj⟩)
    have := fits_lt hc.2 hj
    simp only [fit, Bool.and_eq_true, decide_eq_true_eq] at this
    exact ⟨by omega, by omega⟩
  · exact h
theorem smO_offer (s : St) (t : Int) (n : Nat) (hw : Wf s) : SmO (s.offer t) n := fun i _ => by
  unfold St.offer
  split
  · exact sm0
  · exact (route_range s hw i).2
theorem flat_get (f : Nat → Int × Int × Int) : ∀ (n i j : Nat), i < n → j < 3 → (cellsO f n)[i * 3 + j]? = ([.int .i64 (f i).1, .int .i64 (f i).2.1, .int .u32 (f i).2.2] : List Value)[j]?
  | 0, i, j, h, _ => by omega
  | n + 1, i, j, h, hj => by
    have hl : ∀ m, (cellsO f m).length = m * 3 := by
      intro m
      induction m with
      | zero => rfl
      | succ m ih => rw [cellsO_succ, List.length_append, ih]; simp; omega
    rw [cellsO_succ]
    by_cases e : i < n
    · rw [List.getElem?_append_left (by rw [hl]; omega)]
      exact flat_get f n i j e hj
    · obtain rfl : i = n := by omega
      rw [List.getElem?_append_right (by rw [hl]; omega), hl, Nat.add_sub_cancel_left]
/-- a row of offers reads as offers -/
theorem rdO_own {w : World} {base n : Nat} {v : Value} {f : Nat → Int × Int × Int} (h : w.ownsRow base 99 3 v n (cellsO f n)) : ∃ A cap, v = .slice A n cap ∧ n ≤ maxLen ∧ RdO w A n f ∧ (∀ g o, A = some ⟨g, o, none⟩ → base ≤ g ∧ g < w.heap.size) := by
  have hc := fun i (u : Value) hu => fun g cap (e : v = .slice (some ⟨g, 0, none⟩) n cap) => h.cells (g := g) (by rw [e]; rfl) i u hu
  rcases h.2 with ⟨rfl, rfl⟩ | ⟨g, cap, cur, rfl, hb, hh, hn, hm, _⟩
  · exact ⟨none, 0, rfl, by decide, fun i hi => by omega, fun g o e => by cases e⟩
  · refine ⟨some ⟨g, 0, none⟩, cap, rfl, by omega, fun i hi => ⟨g, 0, rfl, blk_lt hh, ?_, ?_, ?_⟩, fun g' o e => by cases e; exact ⟨hb, blk_lt hh⟩⟩
    all_goals
      have hx := fun j u hu => hc (i * 3 + j) u hu g cap rfl
      have hadd : ∀ j, (⟨g, 0, none⟩ : Addr).add j = ⟨g, j, none⟩ := fun j => by unfold Addr.add; split <;> simp_all
      simp only [hadd] at hx
      rw [Nat.zero_add]
    · exact hx 0 _ (flat_get f n i 0 hi (by omega))
    · exact hx 1 _ (flat_get f n i 1 hi (by omega))
    · exact hx 2 _ (flat_get f n i 2 hi (by omega))
/-- a node that was made since w0 -/
structure Nd (w0 w : World) (b : Nat) (s : St) : Prop where
  isn : IsN w b s
  wf : Wf s
  bel : Below w0.heap.size w0 w
  new : w0.heap.size ≤ b
theorem Nd.keep {w0 w w' : World} {b : Nat} {s : St} (h : Nd w0 w b s) (hb : Below w.heap.size w w') : Nd w0 w' b s := ⟨h.isn.keep hb, h.wf, h.bel.trans (hb.mono h.bel.size), h.new⟩
theorem Nd.only {w0 w w' : World} {b : Nat} {s s' : St} (h : Nd w0 w b s) (hi : IsN w' b s') (hw : Wf s') (ho : Only (fun i => i = b) w w') : Nd w0 w' b s' := ⟨hi, hw, h.bel.trans (ho.below h.bel.size (fun i hi e => by have := h.new; omega)), h.new⟩
theorem Nd.drewN {w0 w : World} {b : Nat} {s : St} (h : Nd w0 w b s) (q : Nat) : Nd w0 (w.drewN q) b s := ⟨h.isn.drewN q, h.wf, h.bel.trans (((Only.refl (fun _ => False) w).drewN q).below h.bel.size (fun _ _ e => e)), h.new⟩
theorem Nd.alloc {w0 w : World} {b : Nat} {s : St} (h : Nd w0 w b s) (o : Obj) : Nd w0 (w.alloc o) b s := h.keep ((Below.refl _ _).alloc (Nat.le_refl _) o)
theorem Nd.lt {w0 w : World} {b : Nat} {s : St} (h : Nd w0 w b s) : b < w.heap.size := blk_lt h.isn.blk.choose_spec.1
theorem nd_new (id n : Nat) (w0 w : World) (h : Below w0.heap.size w0 w) (h1 : id < n) (h2 : n ≤ 6) : Calls Try.prog 27 #[.int .i64 id, .int .i64 n] w fun e w' => ∃ b, e = .returned (.tuple #[.pointer (some ⟨b, 0, none⟩), .int .i64 0]) ∧ Nd w0 w' b (new id n) ∧ w.heap.size ≤ b ∧ Below w.heap.size w w' :=
  (new_any id n w h1 h2).mono fun e w' ⟨⟨b, he, hi, hb, _⟩, hw⟩ => ⟨b, he, ⟨hi, wf_new id n, h.trans (hw.mono h.size), by have := h.size; omega⟩, hb, hw⟩
theorem nd_link {w0 w : World} {b : Nat} {s : St} (h : Nd w0 w b s) (t c : Int) : Calls Try.prog 48 #[.pointer (some ⟨b, 0, none⟩), .int .i64 t, .int .i64 c] w fun e w' => e = .returned (.int .i64 (lnk s t c)) ∧ Nd w0 w' b (s.link t c) ∧ Only (fun i => i = b) w w' :=
  (link_any b s t c w h.isn).mono fun e w' ⟨he, hi, ho⟩ => ⟨he, h.only hi (wf_link h.wf t c) ho, ho⟩
theorem nd_hear {w0 w : World} {b : Nat} {s : St} (h : Nd w0 w b s) (t : Int) (A : Option Addr) (n cap : Nat) (f : Nat → Int × Int × Int) (hn : n ≤ maxLen) (hf : RdO w A n f) (hs : SmO f n) (hb : 0 < n → ∀ g o, A = some ⟨g, o, none⟩ → g ≠ b) : Calls Try.prog 43 #[.pointer (some ⟨b, 0, none⟩), .int .i64 t, .slice A n cap] w fun e w' => e = .returned (.int .i64 (hea s t f n)) ∧ Nd w0 w' b (s.hear t f n) ∧ Only (fun i => i = b) w w' :=
  (hear_any b s t A n cap f w h.isn h.wf hn hf hb).mono fun e w' ⟨he, hi, ho⟩ => ⟨he, h.only hi (wf_hear h.wf t f n hs) ho, ho⟩
theorem nd_route {w0 w : World} {b : Nat} {s : St} (h : Nd w0 w b s) (d : Int) : Calls Try.prog 39 #[.pointer (some ⟨b, 0, none⟩), .int .i64 d] w fun e w' => e = .returned (.tuple #[.int .i64 (s.route d).1, dp (s.route d).2.1, .bool (s.route d).2.2]) ∧ ∃ q, w' = w.drewN q := route_any b s d w h.isn h.wf
theorem nd_tell {w0 w : World} {b : Nat} {s : St} (h : Nd w0 w b s) (t : Int) (hu : upv s t = 0) : Calls Try.prog 42 #[.pointer (some ⟨b, 0, none⟩), .int .i64 t] w fun e w' => (∃ v, e = .returned (.tuple #[v, .int .i64 0]) ∧ w'.ownsRow w.heap.size 99 3 v s.n (cellsO (s.offer t) s.n)) ∧ Nd w0 w' b (s.tells t s.n) ∧ Only (fun i => i = b) w w' :=
  (tell_any b s t w h.isn h.wf hu).mono fun e w' ⟨hv, hi, ho⟩ => ⟨hv, h.only hi (wf_tells s t s.n h.wf) ho, ho⟩
end Eng
end Go.Proofs.Ytebkpjefdaieaaa

/-
  Package engine: where a node goes on, as plain laws. Conditions: those that each theorem names.
-/
namespace Go.Proofs.Ytebkpjefdaieaaa
open Go.RowKit FR FP H2 OW ChS
set_option linter.unusedVariables false
set_option linter.unusedSimpArgs false
namespace Eng
/-- may goal d be gone to by j? -/
def St.may (s : St) (d j : Nat) : Prop := fea (s.inn d j).1 (s.inn d j).2 (s.told d).1 (s.told d).2 = true ∧ 0 < (s.cost j).1 ∧ addm (s.inn d j).1 (s.cost j).1 < 65535
theorem route_spec (s : St) (d : Nat) (hd : d < s.n) (hid : d ≠ s.id) :
    (s.route d = (-1, (65535, 0), false) ∧ ∀ j, j < s.n → ¬ s.may d j) ∨
    ∃ a : Nat, s.route d = ((a : Int), (addm (s.inn d a).1 (s.cost a).1, (s.inn d a).2), true) ∧ a < s.n ∧ s.may d a ∧ ∀ j, j < s.n → s.may d j → bet (addm (s.inn d j).1 (s.cost j).1) (s.inn d j).2 (addm (s.inn d a).1 (s.cost a).1) (s.inn d a).2 = false := by
  have hr : s.route d = if s.pick d < 0 then (-1, (65535, 0), false) else (s.pick d, (addm (s.inn d (s.pick d).toNat).1 (s.cost (s.pick d).toNat).1, (s.inn d (s.pick d).toNat).2), true) := by
    unfold St.route
    rw [if_neg (by omega), if_neg (by omega)]
    rfl
  rcases ChS.ch_state (fun i => (s.inn d i).1) (fun i => (s.inn d i).2) (fun i => (s.cost i).1) s.n (s.told d).1 (s.told d).2 s.n with ⟨h1, h2⟩ | ⟨a, h1, h2, h3, h4⟩
  · have hp : s.pick d = -1 := by unfold St.pick; rw [h1]
    exact .inl ⟨by rw [hr, hp]; rfl, fun j hj hm => h2 j hj ⟨hj, hm⟩⟩
  · have hp : s.pick d = a := by unfold St.pick; rw [h1]
    exact .inr ⟨a, by rw [hr, hp, if_neg (by omega)]; rfl, h2, h3.2, fun j hj hm => h4 j hj ⟨hj, hm⟩⟩
theorem route_self (s : St) (h : s.id < s.n) : s.route s.id = (-1, (0, s.seq), true) := by
  unfold St.route
  rw [if_neg (by omega), if_pos rfl]
/-- what came from t is none: t is no way -/
theorem route_not (s : St) (t d : Nat) (hid : s.id < s.n) (hd : d < s.n) (h : (s.inn d t).1 = 65535) : (s.route d).1 ≠ (t : Int) := by
  by_cases e : d = s.id
  · subst e
    rw [route_self s hd]
    show (-1 : Int) ≠ _
    omega
  · rcases route_spec s d hd e with ⟨h1, _⟩ | ⟨a, h1, _, h3, _⟩
    · rw [h1]; show (-1 : Int) ≠ _; omega
    · rw [h1]
      intro hh
      have : a = t := by have h : (a : Int) = (t : Int) := hh; omega
      subst this
      have := (fea_iff _ _ _ _).1 h3.1
      omega
theorem route_ok (s : St) (d : Nat) (hd : d < s.n) : (s.route d).2.2 = (decide (0 ≤ (s.route d).1) || ((d : Int) == (s.id : Int))) := by
  by_cases e : d = s.id
  · subst e
    rw [route_self s hd]
    simp
  · have e' : ((d : Int) == (s.id : Int)) = false := by simp; omega
    rw [e']
    rcases route_spec s d hd e with ⟨h1, _⟩ | ⟨a, h1, _, h3, _⟩
    · rw [h1]; rfl
    · rw [h1]; simp
theorem link_same (s : St) (t c : Int) : (s.link t c).id = s.id ∧ (s.link t c).n = s.n ∧ (s.link t c).told = s.told ∧ (s.link t c).seq = s.seq := by
  unfold St.link
  split
  · split
    · exact ⟨rfl, rfl, rfl, rfl⟩
    · exact ⟨rfl, rfl, rfl, rfl⟩
  · exact ⟨rfl, rfl, rfl, rfl⟩
theorem hear_same (s : St) (t : Int) (f : Nat → Int × Int × Int) (n : Nat) : (s.hear t f n).id = s.id ∧ (s.hear t f n).n = s.n := by
  unfold St.hear
  split
  · exact takes_same _ _ _ _
  · exact ⟨rfl, rfl⟩
theorem RdO.below {w w' : World} {A : Option Addr} {n : Nat} {f : Nat → Int × Int × Int} (h : RdO w A n f) (hb : Below w.heap.size w w') : RdO w' A n f :=
  h.keep (Only.of_below (Only.refl (fun _ => False) w) hb) (fun _ _ _ h => h)
theorem RdO.lt {w : World} {A : Option Addr} {n : Nat} {f : Nat → Int × Int × Int} (h : RdO w A n f) : 0 < n → ∀ g o, A = some ⟨g, o, none⟩ → g < w.heap.size := fun h0 g o e => by
  obtain ⟨g', o', e', hg, _⟩ := h 0 h0
  rw [e'] at e
  cases e
  exact hg
/-- what came in is heard -/
theorem nd_hear0 {w0 w : World} {b : Nat} {s : St} (h : Nd w0 w b s) (t : Int) (A : Option Addr) (n cap : Nat) (f : Nat → Int × Int × Int) (hn : n ≤ maxLen) (hf : RdO w0 A n f) (hs : SmO f n) : Calls Try.prog 43 #[.pointer (some ⟨b, 0, none⟩), .int .i64 t, .slice A n cap] w fun e w' => e = .returned (.int .i64 (hea s t f n)) ∧ Nd w0 w' b (s.hear t f n) ∧ Only (fun i => i = b) w w' :=
  nd_hear h t A n cap f hn (hf.below h.bel) hs (fun h0 g o e => by have := hf.lt h0 g o e; have := h.new; omega)
/-- whatever it is told: the node stands -/
theorem nd_tell_any {w0 w : World} {b : Nat} {s : St} (h : Nd w0 w b s) (t : Int) : Calls Try.prog 42 #[.pointer (some ⟨b, 0, none⟩), .int .i64 t] w fun e w' => (∃ v, e = .returned (.tuple #[v, .int .i64 (upv s t)]) ∧ (upv s t = 0 → w'.ownsRow w.heap.size 99 3 v s.n (cellsO (s.offer t) s.n)) ∧ (upv s t ≠ 0 → v = .slice none 0 0)) ∧ (∃ s', Nd w0 w' b s' ∧ s' = (if upv s t = 0 then s.tells t s.n else s)) ∧ Only (fun i => i = b) w w' := by
  by_cases hu : upv s t = 0
  · exact (nd_tell h t hu).mono fun e w' ⟨⟨v, he, hv⟩, hn, ho⟩ => ⟨⟨v, by rw [he, hu], fun _ => hv, fun h => absurd hu h⟩, ⟨_, hn, by rw [if_pos hu]⟩, ho⟩
  · exact (tell_no b s t w h.isn h.wf hu).mono fun e w' ⟨he, hw⟩ => ⟨⟨_, he, fun h => absurd h hu, fun _ => rfl⟩, ⟨_, hw ▸ h, by rw [if_neg hu]⟩, hw ▸ Only.refl _ _⟩
theorem remk (t : Int) (n : Nat) (h : 1 ≤ n) : ∃ T : Nat, T < n ∧ (IntKind.u64.wrap t).tmod n = (T : Int) := by
  have h0 : 0 ≤ IntKind.u64.wrap t := by simp [IntKind.wrap, IntKind.bits, IntKind.signed]; omega
  have h1 : (IntKind.u64.wrap t).tmod n = IntKind.u64.wrap t % n := Int.tmod_eq_emod_of_nonneg h0
  have h2 := Int.emod_nonneg (IntKind.u64.wrap t) (show (n : Int) ≠ 0 by omega)
  have h3 := Int.emod_lt_of_pos (IntKind.u64.wrap t) (show 0 < (n : Int) by omega)
  exact ⟨(IntKind.u64.wrap t % n).toNat, by omega, by rw [h1]; omega⟩
theorem bet_chain2 {a b c d e f : Int} (h : bet a b c d = true) (h2 : bet e f c d = false) : bet a b e f = true := by
  rw [bet_iff] at h ⊢
  rw [bet_false] at h2
  omega
theorem ch_first (om os cm : Nat → Int) (m : Nat) (fm fs : Int) : ∀ k : Nat,
    (ch om os cm m fm fs k = (-1, 65535, 0) ∧ ∀ j, j < k → ¬ May om os cm m fm fs j) ∨
    ∃ a : Nat, ch om os cm m fm fs k = ((a : Int), addm (om a) (cm a), os a) ∧ a < k ∧ May om os cm m fm fs a ∧ (∀ j, j < k → May om os cm m fm fs j → bet (addm (om j) (cm j)) (os j) (addm (om a) (cm a)) (os a) = false) ∧ (∀ j, j < a → May om os cm m fm fs j → bet (addm (om a) (cm a)) (os a) (addm (om j) (cm j)) (os j) = true)
  | 0 => .inl ⟨rfl, fun j hj => by omega⟩
  | k + 1 => by
    have ih := ch_first om os cm m fm fs k
    by_cases hm : May om os cm m fm fs k
    · rcases ih with ⟨h1, h2⟩ | ⟨a, h1, ha, hma, h2, h3⟩
      · refine .inr ⟨k, ch_yes ⟨hm.1, hm.2.1, hm.2.2.1, hm.2.2.2, .inl (by rw [h1]; decide)⟩, by omega, hm, fun j hj hj2 => ?_, fun j hj hj2 => absurd hj2 (h2 j hj)⟩
        by_cases e : j = k
        · subst e; exact bet_self _ _
        · exact absurd hj2 (h2 j (by omega))
      · cases hb : bet (addm (om k) (cm k)) (os k) (addm (om a) (cm a)) (os a)
        · refine .inr ⟨a, ?_, by omega, hma, fun j hj hj2 => ?_, h3⟩
          · rw [ch_no, h1]
            rintro ⟨_, _, _, _, h | h⟩
            · rw [h1] at h; simp only at h; omega
            · rw [h1] at h; simp only at h; rw [hb] at h; cases h
          · by_cases e : j = k
            · subst e; exact hb
            · exact h2 j (by omega) hj2
        · refine .inr ⟨k, ch_yes ⟨hm.1, hm.2.1, hm.2.2.1, hm.2.2.2, .inr (by rw [h1]; exact hb)⟩, by omega, hm, fun j hj hj2 => ?_, fun j hj hj2 => ?_⟩
          · by_cases e : j = k
            · subst e; exact bet_self _ _
            · exact bet_chain hb (h2 j (by omega) hj2)
          · exact bet_chain2 hb (h2 j hj hj2)
    · have hn : ch om os cm m fm fs (k + 1) = ch om os cm m fm fs k := ch_no (fun h => hm ⟨h.1, h.2.1, h.2.2.1, h.2.2.2.1⟩)
      rcases ih with ⟨h1, h2⟩ | ⟨a, h1, ha, hma, h2, h3⟩
      · refine .inl ⟨by rw [hn, h1], fun j hj => ?_⟩
        by_cases e : j = k
        · subst e; exact hm
        · exact h2 j (by omega)
      · refine .inr ⟨a, by rw [hn, h1], by omega, hma, fun j hj hj2 => ?_, h3⟩
        by_cases e : j = k
        · subst e; exact absurd hj2 hm
        · exact h2 j (by omega) hj2
/-- what is gone by to j -/
def St.val' (s : St) (d j : Nat) : Int × Int := (addm (s.inn d j).1 (s.cost j).1, (s.inn d j).2)
/-- a is the one that is chosen -/
structure IsPick (s : St) (d a : Nat) : Prop where
  lt : a < s.n
  may : s.may d a
  best : ∀ j, j < s.n → s.may d j → bet (s.val' d j).1 (s.val' d j).2 (s.val' d a).1 (s.val' d a).2 = false
  first : ∀ j, j < a → s.may d j → bet (s.val' d a).1 (s.val' d a).2 (s.val' d j).1 (s.val' d j).2 = true
theorem route_first (s : St) (d : Nat) (hd : d < s.n) (hid : d ≠ s.id) :
    (s.route d = (-1, (65535, 0), false) ∧ ∀ j, j < s.n → ¬ s.may d j) ∨ ∃ a : Nat, s.route d = ((a : Int), s.val' d a, true) ∧ IsPick s d a := by
  have hr : s.route d = if s.pick d < 0 then (-1, (65535, 0), false) else (s.pick d, (addm (s.inn d (s.pick d).toNat).1 (s.cost (s.pick d).toNat).1, (s.inn d (s.pick d).toNat).2), true) := by
    unfold St.route
    rw [if_neg (by omega), if_neg (by omega)]
    rfl
  rcases ch_first (fun i => (s.inn d i).1) (fun i => (s.inn d i).2) (fun i => (s.cost i).1) s.n (s.told d).1 (s.told d).2 s.n with ⟨h1, h2⟩ | ⟨a, h1, h2, h3, h4, h5⟩
  · have hp : s.pick d = -1 := by unfold St.pick; rw [h1]
    exact .inl ⟨by rw [hr, hp]; rfl, fun j hj hm => h2 j hj ⟨hj, hm⟩⟩
  · have hp : s.pick d = a := by unfold St.pick; rw [h1]
    exact .inr ⟨a, by rw [hr, hp, if_neg (by omega)]; rfl, h2, h3.2, fun j hj hm => h4 j hj ⟨hj, hm⟩, fun j hj hm => h5 j hj ⟨by omega, hm⟩⟩
theorem pick_unique {s : St} {d a b : Nat} (h : IsPick s d a) (k : IsPick s d b) : a = b := by
  rcases Nat.lt_trichotomy a b with hl | hl | hl
  · have h1 := k.first a hl h.may
    rw [h.best b k.lt k.may] at h1
    cases h1
  · exact hl
  · have h1 := h.first b hl k.may
    rw [k.best a h.lt h.may] at h1
    cases h1
/-- with what is told of d made what is gone by, or left, nothing turns -/
theorem route_kept (s s' : St) (d : Nat) (hd : d < s.n) (hw : Wf s) (h1 : s'.id = s.id) (h2 : s'.n = s.n) (h3 : s'.cost = s.cost) (h4 : s'.inn d = s.inn d) (h5 : s'.seq = s.seq)
    (ht : s'.told d = s.told d ∨ d ≠ s.id ∧ (s.route d).2.2 = true ∧ s'.told d = (s.route d).2.1 ∧ (65535 ≤ (s.told d).1 ∨ bet (s.route d).2.1.1 (s.route d).2.1.2 (s.told d).1 (s.told d).2 = true)) : s'.route d = s.route d := by
  rcases ht with ht | ⟨hid, hok, ht, hfd⟩
  · unfold St.route St.pick
    simp only [Int.toNat_natCast, h1, h2, h3, h4, h5, ht]
  · rcases route_first s d hd hid with ⟨h, _⟩ | ⟨a, h, hp⟩
    · rw [h] at hok; cases hok
    · have hval : ∀ j, s'.val' d j = s.val' d j := fun j => by unfold St.val'; rw [h3, h4]
      rw [h] at ht hfd
      dsimp only at ht hfd
      have hmay : ∀ j, s'.may d j → s.may d j := fun j hm => by
        unfold St.may at hm ⊢
        rw [h3, h4, ht] at hm
        refine ⟨?_, hm.2⟩
        have hf := (fea_iff _ _ _ _).1 hm.1
        refine (fea_iff _ _ _ _).2 ⟨hf.1, ?_⟩
        have ha := hp.may.2.2
        rcases hf.2 with hx | hx
        · have : (s.val' d a).1 < 65535 := ha
          omega
        · rcases hfd with hy | hy
          · exact .inl hy
          · refine .inr ?_
            rw [bet_iff] at hx hy ⊢
            omega
      have hma : s'.may d a := by
        unfold St.may
        rw [h3, h4, ht]
        refine ⟨(fea_iff _ _ _ _).2 ⟨((fea_iff _ _ _ _).1 hp.may.1).1, .inr ?_⟩, hp.may.2⟩
        have hc := hp.may.2.1
        have h0 := (hw.inn d a).1
        have hlt := hp.may.2.2
        have hc2 := (hw.cost a).2.1
        show bet (s.inn d a).1 (s.inn d a).2 (addm (s.inn d a).1 (s.cost a).1) (s.inn d a).2 = true
        rw [bet_iff]
        refine .inr ⟨rfl, ?_⟩
        unfold addm cl at hlt ⊢
        omega
      have hp' : IsPick s' d a := ⟨by rw [h2]; exact hp.lt, hma, fun j hj hm => by rw [hval, hval]; exact hp.best j (by rw [← h2]; exact hj) (hmay j hm), fun j hj hm => by rw [hval, hval]; exact hp.first j hj (hmay j hm)⟩
      rcases route_first s' d (by rw [h2]; exact hd) (by rw [h1]; exact hid) with ⟨h', hn⟩ | ⟨b, h', hpb⟩
      · exact absurd hma (hn a hp'.lt)
      · have := pick_unique hp' hpb
        subst this
        rw [h', h, hval]
theorem route_told (s : St) (t : Int) (k d : Nat) (hd : d < s.n) (hw : Wf s) : (s.tells t k).route d = s.route d := by
  refine route_kept s (s.tells t k) d hd hw rfl rfl rfl rfl rfl ?_
  have e : (s.tells t k).told d = if d < k ∧ s.best t d = true then (s.route d).2.1 else s.told d := rfl
  by_cases hb : d < k ∧ s.best t d = true
  · refine .inr ?_
    rw [e, if_pos hb]
    have h := hb.2
    unfold St.best at h
    simp only [Bool.and_eq_true, Bool.not_eq_true', Bool.or_eq_true, decide_eq_true_eq] at h
    obtain ⟨⟨h1, h2⟩, h3⟩ := h
    refine ⟨fun e => by rw [e] at h2; simp at h2, ?_, rfl, h3⟩
    unfold St.hid at h1
    simp only [Bool.or_eq_false_iff, Bool.not_eq_false'] at h1
    exact h1.1
  · rw [e, if_neg hb]
    exact .inl rfl
/-- told twice at once: the same -/
theorem offer_told (s : St) (t : Int) (d : Nat) (hd : d < s.n) (hw : Wf s) : (s.tells t s.n).offer t d = s.offer t d := by
  have h := route_told s t s.n d hd hw
  unfold St.offer St.hid
  rw [h]
theorem upv_tells (s : St) (t u : Int) (k : Nat) : upv (s.tells t k) u = upv s u := rfl
end Eng
end Go.Proofs.Ytebkpjefdaieaaa
