/-
  Package network: Len, Way, at, neighbours, Told, Hear, link. Conditions: those that each theorem names.
-/
import Derived.Test.YtebkpjefdaieaaaNet1
import Derived.ProofKit
namespace Go.Proofs.Ytebkpjefdaieaaa
open Go.RowKit FR FP H2 OW
set_option linter.unusedVariables false
set_option linter.unusedSimpArgs false
namespace Net
open Eng GG
set_option maxHeartbeats 1600000 in
theorem len_any {base b : Nat} {ly : Lay} {S : NetV} (w : World) (h : IsNet w base b ly S) : Calls Try.prog 22 #[.pointer (some ⟨b, 0, none⟩)] w fun e w' => e = .returned (.int .i64 S.n) ∧ w = w' := by
  have c1 := h.c1
  clear h
  go_enter Try.func22, Try.ntmps22
  go_wp2
  go_ret
  exact ⟨rfl, rfl⟩
set_option maxHeartbeats 1600000 in
theorem len_nil (w : World) : Calls Try.prog 22 #[.pointer none] w fun e w' => e = .returned (.int .i64 0) ∧ w = w' := by
  go_enter Try.func22, Try.ntmps22
  go_wp2
  go_ret
  exact ⟨rfl, rfl⟩
theorem own_slice {w : World} {base size n : Nat} {e : TypeId} {v : Value} {xs : List Value} (h : w.ownsRow base e size v n xs) : ∃ A c, v = .slice A n c := by
  rcases h.2 with ⟨rfl, h2⟩ | ⟨g, cap, cur, rfl, _⟩
  · exact ⟨none, 0, by rw [h2]⟩
  · exact ⟨_, _, rfl⟩
theorem IsNet.c2 {w : World} {base b : Nat} {ly : Lay} {S : NetV} (h : IsNet w base b ly S) : ∃ A c, w.cell? ⟨b, 2, none⟩ = some (.slice A S.m.length c) := by
  obtain ⟨wv, hb, ho⟩ := h.blk
  obtain ⟨A, c, rfl⟩ := own_slice ho
  exact ⟨A, c, by rw [blk_cell hb]; rfl⟩
set_option maxHeartbeats 1600000 in
theorem way_len {base b : Nat} {ly : Lay} {S : NetV} (w : World) (h : IsNet w base b ly S) : Calls Try.prog 20 #[.pointer (some ⟨b, 0, none⟩)] w fun e w' => e = .returned (.int .i64 S.m.length) ∧ w = w' := by
  obtain ⟨A, c, c2⟩ := h.c2
  clear h
  go_enter Try.func20, Try.ntmps20
  go_wp2
  go_ret
  exact ⟨rfl, rfl⟩
set_option maxHeartbeats 1600000 in
theorem way_nil (w : World) : Calls Try.prog 20 #[.pointer none] w fun e w' => e = .returned (.int .i64 0) ∧ w = w' := by
  go_enter Try.func20, Try.ntmps20
  go_wp2
  go_ret
  exact ⟨rfl, rfl⟩
set_option maxHeartbeats 1600000 in
theorem at_ok {base b : Nat} {ly : Lay} {S : NetV} (w : World) (h : IsNet w base b ly S) (i : Nat) (hi : i < S.n) : Calls Try.prog 34 #[.pointer (some ⟨b, 0, none⟩), .int .i64 i] w fun e w' => e = .returned (.tuple #[.pointer (some ⟨ly.nb i, 0, none⟩), .int .i64 0]) ∧ w = w' := by
  have c1 := h.c1
  have c2 := h.cn hi
  have hn := h.n6
  have i0 : (0 : Int) ≤ (i : Int) := by omega
  have i1 : (i : Int) < (S.n : Int) := by omega
  clear h
  go_enter Try.func34, Try.ntmps34
  go_wp2
  go_ret2
  exact ⟨rfl, rfl⟩
set_option maxHeartbeats 1600000 in
theorem at_bad {base b : Nat} {ly : Lay} {S : NetV} (w : World) (h : IsNet w base b ly S) (i : Int) (hi : GG.ok S.n i = false) : Calls Try.prog 34 #[.pointer (some ⟨b, 0, none⟩), .int .i64 i] w fun e w' => e = .returned (.tuple #[.pointer none, .int .i64 2]) ∧ w = w' := by
  have c1 := h.c1
  have hn := h.n6
  clear h
  by_cases h0 : i < 0
  · clear hi
    go_enter Try.func34, Try.ntmps34
    go_wp2
    go_ret2
    exact ⟨rfl, rfl⟩
  · have h1 : (S.n : Int) ≤ i := by
      by_cases h1 : (S.n : Int) ≤ i
      · exact h1
      · have : GG.ok S.n i = true := by simp [GG.ok]; omega
        rw [this] at hi; cases hi
    clear hi
    go_enter Try.func34, Try.ntmps34
    go_wp2
    go_ret2
    exact ⟨rfl, rfl⟩
set_option maxHeartbeats 1600000 in
theorem at_nil (i : Int) (w : World) : Calls Try.prog 34 #[.pointer none, .int .i64 i] w fun e w' => e = .returned (.tuple #[.pointer none, .int .i64 10]) ∧ w = w' := by
  go_enter Try.func34, Try.ntmps34
  go_wp2
  go_ret2
  exact ⟨rfl, rfl⟩
/-- a node's neighbours among the first k -/
def nbl (c : Nat → Nat → Int) (a : Nat) : Nat → List Nat
  | 0 => []
  | k + 1 => if 0 < c a k then nbl c a k ++ [k] else nbl c a k
theorem nbl_len (c : Nat → Nat → Int) (a : Nat) : ∀ k, (nbl c a k).length ≤ k
  | 0 => Nat.le_refl _
  | k + 1 => by
    have := nbl_len c a k
    unfold nbl
    split
    · simp; omega
    · omega
theorem nbl_mem (c : Nat → Nat → Int) (a b : Nat) : ∀ k, b ∈ nbl c a k ↔ b < k ∧ 0 < c a b
  | 0 => by simp [nbl]
  | k + 1 => by
    have ih := nbl_mem c a b k
    unfold nbl
    split
    · rename_i h
      rw [List.mem_append, ih]
      constructor
      · rintro (h1 | h1)
        · exact ⟨by omega, h1.2⟩
        · have : b = k := by simpa using h1
          subst this; exact ⟨by omega, h⟩
      · rintro ⟨h1, h2⟩
        by_cases e : b = k
        · subst e; exact .inr (by simp)
        · exact .inl ⟨by omega, h2⟩
    · rename_i h
      rw [ih]
      constructor
      · rintro ⟨h1, h2⟩; exact ⟨by omega, h2⟩
      · rintro ⟨h1, h2⟩
        refine ⟨?_, h2⟩
        by_cases e : b = k
        · subst e; exact absurd h2 h
        · omega
def natN (L : List Nat) : List Value := L.map fun (b : Nat) => Value.int .i64 (b : Int)
theorem natN_snoc (L : List Nat) (b : Nat) : natN (L ++ [b]) = natN L ++ [.int .i64 b] := by simp [natN]
theorem infoI : (Try.prog.info? 3).map (fun i => (i.zero, i.size, i.bytes)) = some (some (.int .i64 0), 1, 8) := by kernel_rfl
theorem cst_nat {n : Nat} {c : Nat → Nat → Int} {a b : Nat} (ha : a < n) (hb : b < n) : GG.cst n c (a : Int) (b : Int) = c a b := by
  unfold GG.cst
  rw [if_pos ⟨by simp [GG.ok]; omega, by simp [GG.ok]; omega⟩]
  rfl
set_option maxRecDepth 100000 in
set_option maxHeartbeats 8000000 in
theorem neighbours_any {base b : Nat} {ly : Lay} {S : NetV} (w : World) (h : IsNet w base b ly S) (a : Nat) (ha : a < S.n) : Calls Try.prog 49 #[.pointer (some ⟨b, 0, none⟩), .int .i64 a] w fun e w' => (∃ v, e = .returned v ∧ w'.ownsRow w.heap.size 3 1 v (nbl S.c a S.n).length (natN (nbl S.c a S.n))) ∧ Below w.heap.size w w' := by
  obtain ⟨i0, hi, hz0, hz1, hz2⟩ := info_parts infoI
  have HI := Lib.hid hi
  have H := Lib.hid h
  have hn6 := h.n6
  have c1 := h.c1
  clear h hi
  go_enter Try.func49, Try.ntmps49
  go_upto_region 2 with fail
  go_loopw [4, 11] (fun s4 s11 wr => ∃ (k : Nat) (sv : Value), k ≤ S.n ∧ s11 = .int .i64 k ∧ sv = s4 ∧ wr.ownsRow w.heap.size 3 1 sv (nbl S.c a k).length (natN (nbl S.c a k)) ∧ Below w.heap.size w wr) (fun _ s11 _ => S.n - (intOf s11).toNat)
  case atStart => exact ⟨0, _, by omega, rfl, rfl, by show w.ownsRow w.heap.size 3 1 (.slice none 0 0) 0 []; exact World.ownsRow_nil _ _ _ _, Below.refl _ _⟩
  case round =>
    obtain ⟨k, sv, hk, rfl, rfl, ho, hb⟩ := hrel
    have HO := Lib.hid ho
    have HB := Lib.hid hb
    clear ho hb
    by_cases hlt : k < S.n
    · have hlt' : (k : Int) < (S.n : Int) := by omega
      have k0 : (0 : Int) ≤ (k : Int) := by omega
      have hnet := H.out.below HB.out
      have hc := GG.cost_any ly.g S.n S.c a k wr hnet.gr
      rw [cst_nat ha hlt] at hc
      have x0 := hnet.c0
      have hll := nbl_len S.c a k
      have HS := Lib.hid (show nbl S.c a (k + 1) = if 0 < S.c a k then nbl S.c a k ++ [k] else nbl S.c a k from rfl)
      generalize S.c a k = cc at hc HS
      have HC := Lib.hid hc
      clear hc hnet
      by_cases hcc : 0 < cc
      · have HS2 := Lib.hid (show nbl S.c a (k + 1) = nbl S.c a k ++ [k] by rw [HS.out, if_pos hcc])
        go_wp2_with (first
          | (go_at_call 65; (with_reducible refine (HC.out).mono ?_); rintro e w' ⟨rfl, rfl⟩)
          | (at_builtin; refine wpList_append_lies _ rfl (.tmp 22) (.tmp 24) 35 rfl w.heap.size 3 i0 _ 1 8 Try.underlying35 HI.out hz0 hz1 hz2 rfl (by omega) sv _ _ rfl (HO.out.alloc _) ⟨wr.heap.size, 0, none⟩ 1 1 [.int .i64 k] rfl rfl (cell_one_new _ _ _) (by simp [Value.oneCell']) (by omega) (by unfold maxLen; omega) (by omega) (by have := HB.out.size; simp; omega) (wr.heap.size + 1) (by simp) ?_; intro g2 cap2 w8 hown1 hgrow1 hat1 hlt1; have HO2 := Lib.hid hown1; have HB2 := Lib.hid (OW.app_below HB.out HO.out hgrow1); clear hown1 hgrow1 hat1 hlt1))
        go_roundw
        case rel => exact ⟨k + 1, _, by omega, by go_num, rfl, by rw [HS2.out, natN_snoc, List.length_append]; exact HO2.out, HB2.out⟩
        case measure => simp [intOf]; omega
      · have HS2 := Lib.hid (show nbl S.c a (k + 1) = nbl S.c a k by rw [HS.out, if_neg hcc])
        go_wp2_with (go_at_call 65; (with_reducible refine (HC.out).mono ?_); rintro e w' ⟨rfl, rfl⟩)
        go_roundw
        case rel => exact ⟨k + 1, _, by omega, by go_num, rfl, by rw [HS2.out]; exact HO.out, HB.out⟩
        case measure => simp [intOf]; omega
    · obtain rfl : k = S.n := by omega
      go_wp2
      go_ret
      exact ⟨⟨_, rfl, HO.out⟩, HB.out⟩
end Net
end Go.Proofs.Ytebkpjefdaieaaa
