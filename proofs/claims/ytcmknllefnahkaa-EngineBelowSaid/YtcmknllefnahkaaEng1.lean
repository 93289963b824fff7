/-
  Package engine: a node in memory; what its small methods return. Conditions: those that each theorem names.
-/
import Derived.Test.YtcmknllefnahkaaFeas
import Derived.Test.YtcmknllefnahkaaFrame
import Derived.Deep.DeepCutAuto
import Derived.Deep.CutBlock
namespace Go.Proofs.Ytcmknllefnahkaa
open Go.RowKit FR FP
set_option linter.unusedVariables false
set_option linter.unusedSimpArgs false
namespace Eng
open Feas
/-- a node: id of n; what links cost (metric, number), what was heard (by goal, by neighbour), what was told, its number -/
structure St where
  id : Nat
  n : Nat
  cost : Nat → Int × Int
  inn : Nat → Nat → Int × Int
  told : Nat → Int × Int
  seq : Int
abbrev dp (p : Int × Int) : Value := dv p.1 p.2
/-- what cell k holds -/
def St.val (s : St) (k : Nat) : Value :=
  if k = 0 then .int .i64 s.id else if k = 1 then .int .i64 s.n else if k < 8 then dp (s.cost (k - 2)) else
  if k < 44 then dp (s.inn ((k - 8) / 6) ((k - 8) % 6)) else if k < 50 then dp (s.told (k - 44)) else .int .u32 s.seq
/-- a node in block b -/
structure IsN (w : World) (b : Nat) (s : St) : Prop where
  blk : ∃ cs, w.heap[b]? = some (.cells cs 83 (0, 0)) ∧ cs.size = 51 ∧ ∀ k, k < 51 → cs[k]? = some (s.val k)
  id : s.id < s.n
  n6 : s.n ≤ 6
theorem IsN.cell {w : World} {b : Nat} {s : St} (h : IsN w b s) (k : Nat) (hk : k < 51) : w.cell? ⟨b, k, none⟩ = some (s.val k) := by
  obtain ⟨cs, hb, _, hc⟩ := h.blk
  rw [blk_cell hb k, hc k hk]
theorem IsN.free {w : World} {b : Nat} {s : St} (h : IsN w b s) (k : Nat) : w.frozen? ⟨b, k, none⟩ = false := by
  obtain ⟨cs, hb, _⟩ := h.blk
  exact blk_free hb k
theorem IsN.cid {w : World} {b : Nat} {s : St} (h : IsN w b s) : w.cell? ⟨b, 0, none⟩ = some (.int .i64 s.id) := h.cell 0 (by omega)
theorem IsN.cn {w : World} {b : Nat} {s : St} (h : IsN w b s) : w.cell? ⟨b, 1, none⟩ = some (.int .i64 s.n) := h.cell 1 (by omega)
theorem IsN.ccost {w : World} {b : Nat} {s : St} (h : IsN w b s) {i : Nat} (hi : i < 6) : w.cell? ⟨b, 2 + i, none⟩ = some (dp (s.cost i)) := by
  rw [h.cell (2 + i) (by omega), St.val, if_neg (by omega), if_neg (by omega), if_pos (by omega), Nat.add_sub_cancel_left]
theorem IsN.cinn {w : World} {b : Nat} {s : St} (h : IsN w b s) {d i : Nat} (hd : d < 6) (hi : i < 6) : w.cell? ⟨b, 8 + d * 6 + i, none⟩ = some (dp (s.inn d i)) := by
  rw [h.cell (8 + d * 6 + i) (by omega), St.val, if_neg (by omega), if_neg (by omega), if_neg (by omega), if_pos (by omega), show (8 + d * 6 + i - 8) / 6 = d by omega, show (8 + d * 6 + i - 8) % 6 = i by omega]
theorem IsN.ctold {w : World} {b : Nat} {s : St} (h : IsN w b s) {d : Nat} (hd : d < 6) : w.cell? ⟨b, 44 + d, none⟩ = some (dp (s.told d)) := by
  rw [h.cell (44 + d) (by omega), St.val, if_neg (by omega), if_neg (by omega), if_neg (by omega), if_neg (by omega), if_pos (by omega), Nat.add_sub_cancel_left]
theorem IsN.cseq {w : World} {b : Nat} {s : St} (h : IsN w b s) : w.cell? ⟨b, 50, none⟩ = some (.int .u32 s.seq) := h.cell 50 (by omega)
theorem IsN.keep {w w' : World} {b : Nat} {s : St} (h : IsN w b s) (hb : Below w.heap.size w w') : IsN w' b s := by
  obtain ⟨⟨cs, h1, h2⟩, h3, h4⟩ := h
  exact ⟨⟨cs, (hb.block b (blk_lt h1)).trans h1, h2⟩, h3, h4⟩
theorem IsN.drew {w : World} {b : Nat} {s : St} (h : IsN w b s) : IsN w.drew b s := ⟨h.blk, h.id, h.n6⟩
/-- one cell turned -/
theorem IsN.set {w : World} {b : Nat} {s s' : St} (h : IsN w b s) (k : Nat) (v : Value) (hk : k < 51) (hv : s'.val k = v) (ho : ∀ j, j < 51 → j ≠ k → s'.val j = s.val j) (hid : s'.id < s'.n) (hn : s'.n ≤ 6) : IsN (w.setCell ⟨b, k, none⟩ v) b s' := by
  obtain ⟨⟨cs, h1, h2, h3⟩, h4, h5⟩ := h
  refine ⟨⟨cs.setIfInBounds k v, blk_set h1 k v, by simpa using h2, fun j hj => ?_⟩, hid, hn⟩
  rw [Array.getElem?_setIfInBounds]
  by_cases e : k = j
  · subst e; rw [if_pos rfl, if_pos (by omega), hv]
  · rw [if_neg e, h3 j hj, ho j hj (fun h => e h.symm)]
set_option maxRecDepth 100000 in
set_option maxHeartbeats 1600000 in
theorem seq_any (b : Nat) (s : St) (w : World) (h : IsN w b s) : Calls Try.prog 25 #[.pointer (some ⟨b, 0, none⟩)] w fun e w' => e = .returned (.int .u32 s.seq) ∧ w = w' := by
  have c := h.cseq
  clear h
  go_enter Try.func25, Try.ntmps25
  go_wp2
  go_ret
  exact ⟨rfl, rfl⟩
set_option maxRecDepth 100000 in
set_option maxHeartbeats 1600000 in
theorem seq_nil (w : World) : Calls Try.prog 25 #[.pointer none] w fun e w' => e = .returned (.int .u32 0) ∧ w = w' := by
  go_enter Try.func25, Try.ntmps25
  go_wp2
  go_ret
  exact ⟨rfl, rfl⟩
/-- is it another node? -/
def oth (s : St) (i : Int) : Bool := decide (0 ≤ i) && decide (i < s.n) && !(i == (s.id : Int))
theorem oth_nat {s : St} {i : Int} (h : oth s i = true) : ∃ k : Nat, i = k ∧ k < s.n ∧ k ≠ s.id := by
  simp [oth] at h
  exact ⟨i.toNat, by omega, by omega, by omega⟩
set_option maxRecDepth 100000 in
set_option maxHeartbeats 1600000 in
theorem check_any (b : Nat) (s : St) (i : Int) (w : World) (h : IsN w b s) : Calls Try.prog 40 #[.pointer (some ⟨b, 0, none⟩), .int .i64 i] w fun e w' => e = .returned (.int .i64 (if oth s i = true then 0 else 2)) ∧ w = w' := by
  have c0 := h.cid
  have c1 := h.cn
  clear h
  by_cases h0 : i < 0
  · have e : oth s i = false := by simp [oth]; omega
    rw [e]
    go_enter Try.func40, Try.ntmps40
    go_wp2
    go_ret
    exact ⟨rfl, rfl⟩
  · by_cases h1 : (s.n : Int) ≤ i
    · have e : oth s i = false := by simp [oth]; omega
      rw [e]
      go_enter Try.func40, Try.ntmps40
      go_wp2
      go_ret
      exact ⟨rfl, rfl⟩
    · by_cases h2 : i = (s.id : Int)
      · have e : oth s i = false := by simp [oth, h2]
        have h2' : (i == (s.id : Int)) = true := by simp [h2]
        rw [e]
        clear h2
        go_enter Try.func40, Try.ntmps40
        go_wp2
        go_ret
        exact ⟨rfl, rfl⟩
      · have h2' : (i == (s.id : Int)) = false := by simp [h2]
        have e : oth s i = true := by simp [oth, h2']; omega
        rw [e]
        clear h2
        go_enter Try.func40, Try.ntmps40
        go_wp2
        go_ret
        exact ⟨rfl, rfl⟩
set_option maxHeartbeats 1600000 in
theorem check_nil (i : Int) (w : World) : Calls Try.prog 40 #[.pointer none, .int .i64 i] w fun e w' => e = .returned (.int .i64 10) ∧ w = w' := by
  go_enter Try.func40, Try.ntmps40
  go_wp2
  go_ret
  exact ⟨rfl, rfl⟩
end Eng
end Go.Proofs.Ytcmknllefnahkaa
