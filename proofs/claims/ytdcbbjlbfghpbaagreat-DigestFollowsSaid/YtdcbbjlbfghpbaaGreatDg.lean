/-
  Joined texts: DigI DigL VarP Bld VarW VarR. Conditions: those that each theorem names.
-/
import Derived.Test.YtdcbbjlbfghpbaaGreatDigA
import Derived.Test.YtdcbbjlbfghpbaaGreatDc
import Derived.Test.YtdcbbjlbfghpbaaGreatDigQ
import Derived.Test.YtdcbbjlbfghpbaaGreatDa
import Derived.Lib.FrozenHead2
import Derived.Lib.OthersKept
import Derived.Lib.UnsafeStr
import Derived.Lib.Slices
import Derived.Lib.Strings
import Derived.Lib.Walk
import Derived.Laws.Externs
import Derived.Shelf.RegionOpenPlain
import Derived.Deep.DeepCutAuto
import Derived.Deep.CutBlock
/-
  Digest: the laws' ints. Conditions: those that each theorem names.
-/
namespace Go.Proofs.YtdcbbjlbfghpbaaGreat
open Go Go.RowKit H2
set_option linter.unusedVariables false
set_option linter.unusedSimpArgs false
namespace Dig
open Tab Byt
/-- whole numbers behind an address -/
def RdN (w : World) (A : Option Addr) (n : Nat) (F : Nat → Int) : Prop := ∀ i, i < n → ∃ b o, A = some ⟨b, o, none⟩ ∧ w.cell? ⟨b, o + i, none⟩ = some (.int .i64 (F i))
theorem RdN.below {w w' : World} {A : Option Addr} {n : Nat} {F : Nat → Int} (h : RdN w A n F) (hb : Below w.heap.size w w') : RdN w' A n F := fun i hi => by
  obtain ⟨b, o, e, h1⟩ := h i hi
  exact ⟨b, o, e, later hb h1⟩
def smN (n m : Nat) (F G : Nat → Int) : Bool := decide (n = m ∧ ∀ i, i < n → F i = G i)
set_option maxRecDepth 100000 in
set_option maxHeartbeats 8000000 in
theorem ints_any (A B : Option Addr) (n m cap cap' : Nat) (F G : Nat → Int) (hn : n ≤ 100000) (w : World) (ha : RdN w A n F) (hb : RdN w B m G) :
    Calls Tryz.prog 19 #[.slice A n cap, .slice B m cap'] w fun e w' => e = .returned (.bool (smN n m F G)) ∧ Below w.heap.size w w' := by
  have HA := Lib.hid ha
  have HG := Lib.hid hb
  clear ha hb
  by_cases hnm : n = m
  · subst hnm
    go_enter Tryz.func19, Tryz.ntmps19
    go_wp2
    go_loopw [13] (fun s13 wr => ∃ i : Nat, i ≤ n ∧ s13 = .int .i64 i ∧ (∀ j, j < i → F j = G j) ∧ Below w.heap.size w wr) (fun s13 _ => n - (intOf s13).toNat)
    case atStart => exact ⟨0, by omega, rfl, fun j h => by omega, Below.refl _ _⟩
    case round =>
      obtain ⟨i, hi, rfl, heq, hbb⟩ := hrel
      have HQ := Lib.hid heq
      have HB := Lib.hid hbb
      clear heq hbb
      by_cases hlt : i < n
      · have hlt' : (i : Int) < (n : Int) := by omega
        have i0 : (0 : Int) ≤ (i : Int) := by omega
        obtain ⟨b1, o1, rfl, x1⟩ := HA.out i hlt
        obtain ⟨b2, o2, rfl, y1⟩ := HG.out i hlt
        have HX := Lib.hid (And.intro (later HB.out.drew x1) (later HB.out.drew y1))
        clear x1 y1
        obtain ⟨a, ha⟩ : ∃ a, F i = a := ⟨_, rfl⟩
        obtain ⟨c, hc⟩ : ∃ a, G i = a := ⟨_, rfl⟩
        have HE := Lib.hid (show F i = G i ↔ a = c by rw [ha, hc])
        rw [ha, hc] at HX
        clear ha hc
        by_cases h1 : a = c
        · subst h1
          go_upto_region 6 with fail
          refine wp_region_held_drew (S := (fun w' => w'.cell? ⟨b1, o1 + i, none⟩ = some (.int .i64 a) ∧ w'.cell? ⟨b2, o2 + i, none⟩ = some (.int .i64 a))) (by kernel_rfl) HX.out (fun _ => ?_)
          refine held_take 0 16 (v := ?_) rfl rfl (by kernel_rfl) (by kernel_rfl) (by kernel_rfl) (fun _ _ _ h => h) (by rfl) ?_ HX.out ?_
          rotate_left
          · (intro w hSw; (try dsimp only at hSw); obtain ⟨q1, q2⟩ := hSw;try simp only [List.getElem_toArray, List.getElem_cons_zero, List.getElem_cons_succ]; go_simp; try (with_reducible rfl))
          try simp only [List.setIfInBounds_toArray, List.set_cons_zero, List.set_cons_succ]
          refine held_take 1 17 (v := ?_) rfl rfl (by kernel_rfl) (by kernel_rfl) (by kernel_rfl) (fun _ _ _ h => h) (by rfl) ?_ HX.out ?_
          rotate_left
          · (intro w hSw; (try dsimp only at hSw); obtain ⟨q1, q2⟩ := hSw;try simp only [List.getElem_toArray, List.getElem_cons_zero, List.getElem_cons_succ]; go_simp; try (with_reducible rfl))
          try simp only [List.setIfInBounds_toArray, List.set_cons_zero, List.set_cons_succ]
          refine held_take 2 18 (v := ?_) rfl rfl (by kernel_rfl) (by kernel_rfl) (by kernel_rfl) (fun _ _ _ h => h) (by rfl) ?_ HX.out ?_
          rotate_left
          · (intro w hSw; (try dsimp only at hSw); obtain ⟨q1, q2⟩ := hSw;try simp only [List.getElem_toArray, List.getElem_cons_zero, List.getElem_cons_succ]; go_simp; try (with_reducible rfl))
          try simp only [List.setIfInBounds_toArray, List.set_cons_zero, List.set_cons_succ]
          refine held_take 3 19 (v := ?_) rfl rfl (by kernel_rfl) (by kernel_rfl) (by kernel_rfl) (fun _ _ _ h => h) (by rfl) ?_ HX.out ?_
          rotate_left
          · (intro w hSw; (try dsimp only at hSw); obtain ⟨q1, q2⟩ := hSw;try simp only [List.getElem_toArray, List.getElem_cons_zero, List.getElem_cons_succ]; go_simp; try (with_reducible rfl))
          try simp only [List.setIfInBounds_toArray, List.set_cons_zero, List.set_cons_succ]
          refine held_take 4 20 (v := ?_) rfl rfl (by kernel_rfl) (by kernel_rfl) (by kernel_rfl) (fun _ _ _ h => h) (by rfl) ?_ HX.out ?_
          rotate_left
          · (intro w hSw; (try dsimp only at hSw); obtain ⟨q1, q2⟩ := hSw;try simp only [List.getElem_toArray, List.getElem_cons_zero, List.getElem_cons_succ]; go_simp; try (with_reducible rfl))
          try simp only [List.setIfInBounds_toArray, List.set_cons_zero, List.set_cons_succ]
          refine held_take 5 21 (v := ?_) rfl rfl (by kernel_rfl) (by kernel_rfl) (by kernel_rfl) (fun _ _ _ h => h) (by rfl) ?_ HX.out ?_
          rotate_left
          · (intro w hSw; (try dsimp only at hSw); obtain ⟨q1, q2⟩ := hSw;try simp only [List.getElem_toArray, List.getElem_cons_zero, List.getElem_cons_succ]; go_simp; try (with_reducible rfl))
          try simp only [List.setIfInBounds_toArray, List.set_cons_zero, List.set_cons_succ]
          refine held_take 6 22 (v := ?_) rfl rfl (by kernel_rfl) (by kernel_rfl) (by kernel_rfl) (fun _ _ _ h => h) (by rfl) ?_ HX.out ?_
          rotate_left
          · (intro w hSw; (try dsimp only at hSw); obtain ⟨q1, q2⟩ := hSw;try simp only [List.getElem_toArray, List.getElem_cons_zero, List.getElem_cons_succ]; go_simp; try (with_reducible rfl))
          try simp only [List.setIfInBounds_toArray, List.set_cons_zero, List.set_cons_succ]
          refine held_take 7 23 (v := ?_) rfl rfl (by kernel_rfl) (by kernel_rfl) (by kernel_rfl) (fun _ _ _ h => h) (by rfl) ?_ HX.out ?_
          rotate_left
          · (intro w hSw; (try dsimp only at hSw); obtain ⟨q1, q2⟩ := hSw;try simp only [List.getElem_toArray, List.getElem_cons_zero, List.getElem_cons_succ]; go_simp; try (with_reducible rfl))
          try simp only [List.setIfInBounds_toArray, List.set_cons_zero, List.set_cons_succ]
          refine held_take 8 24 (v := ?_) rfl rfl (by kernel_rfl) (by kernel_rfl) (by kernel_rfl) (fun _ _ _ h => h) (by rfl) ?_ HX.out ?_
          rotate_left
          · (intro w hSw; (try dsimp only at hSw); obtain ⟨q1, q2⟩ := hSw;try simp only [List.getElem_toArray, List.getElem_cons_zero, List.getElem_cons_succ]; go_simp; try (with_reducible rfl))
          try simp only [List.setIfInBounds_toArray, List.set_cons_zero, List.set_cons_succ]
          refine wpAnyH_done (by kernel_rfl) ?_ _
          go_wp2
          go_roundw
          case rel => exact ⟨i + 1, by omega, by go_num, fun j h => by
            rcases Nat.lt_succ_iff_lt_or_eq.1 h with h | rfl
            · exact HQ.out j h
            · exact HE.out.2 rfl, HB.out.drew⟩
          case measure => simp [intOf]; omega
        · have hd2 : decide (a = c) = false := decide_eq_false h1
          have hd3 : (a == c) = false := by simpa using h1
          have hd4 : (a != c) = true := by simpa [bne] using h1
          have hd5 : decide (¬ a = c) = true := decide_eq_true h1
          have HF := Lib.hid (show smN n n F G = false from decide_eq_false (fun e => h1 (HE.out.1 (e.2 i hlt))))
          go_upto_region 6 with fail
          refine wp_region_held_drew (S := (fun w' => w'.cell? ⟨b1, o1 + i, none⟩ = some (.int .i64 a) ∧ w'.cell? ⟨b2, o2 + i, none⟩ = some (.int .i64 c))) (by kernel_rfl) HX.out (fun _ => ?_)
          refine held_take 0 16 (v := ?_) rfl rfl (by kernel_rfl) (by kernel_rfl) (by kernel_rfl) (fun _ _ _ h => h) (by rfl) ?_ HX.out ?_
          rotate_left
          · (intro w hSw; (try dsimp only at hSw); obtain ⟨q1, q2⟩ := hSw;try simp only [List.getElem_toArray, List.getElem_cons_zero, List.getElem_cons_succ]; go_simp; try (with_reducible rfl))
          try simp only [List.setIfInBounds_toArray, List.set_cons_zero, List.set_cons_succ]
          refine held_take 1 17 (v := ?_) rfl rfl (by kernel_rfl) (by kernel_rfl) (by kernel_rfl) (fun _ _ _ h => h) (by rfl) ?_ HX.out ?_
          rotate_left
          · (intro w hSw; (try dsimp only at hSw); obtain ⟨q1, q2⟩ := hSw;try simp only [List.getElem_toArray, List.getElem_cons_zero, List.getElem_cons_succ]; go_simp; try (with_reducible rfl))
          try simp only [List.setIfInBounds_toArray, List.set_cons_zero, List.set_cons_succ]
          refine held_take 2 18 (v := ?_) rfl rfl (by kernel_rfl) (by kernel_rfl) (by kernel_rfl) (fun _ _ _ h => h) (by rfl) ?_ HX.out ?_
          rotate_left
          · (intro w hSw; (try dsimp only at hSw); obtain ⟨q1, q2⟩ := hSw;try simp only [List.getElem_toArray, List.getElem_cons_zero, List.getElem_cons_succ]; go_simp; try (with_reducible rfl))
          try simp only [List.setIfInBounds_toArray, List.set_cons_zero, List.set_cons_succ]
          refine held_take 3 19 (v := ?_) rfl rfl (by kernel_rfl) (by kernel_rfl) (by kernel_rfl) (fun _ _ _ h => h) (by rfl) ?_ HX.out ?_
          rotate_left
          · (intro w hSw; (try dsimp only at hSw); obtain ⟨q1, q2⟩ := hSw;try simp only [List.getElem_toArray, List.getElem_cons_zero, List.getElem_cons_succ]; go_simp; try (with_reducible rfl))
          try simp only [List.setIfInBounds_toArray, List.set_cons_zero, List.set_cons_succ]
          refine held_take 4 20 (v := ?_) rfl rfl (by kernel_rfl) (by kernel_rfl) (by kernel_rfl) (fun _ _ _ h => h) (by rfl) ?_ HX.out ?_
          rotate_left
          · (intro w hSw; (try dsimp only at hSw); obtain ⟨q1, q2⟩ := hSw;try simp only [List.getElem_toArray, List.getElem_cons_zero, List.getElem_cons_succ]; go_simp; try (with_reducible rfl))
          try simp only [List.setIfInBounds_toArray, List.set_cons_zero, List.set_cons_succ]
          refine held_take 5 21 (v := ?_) rfl rfl (by kernel_rfl) (by kernel_rfl) (by kernel_rfl) (fun _ _ _ h => h) (by rfl) ?_ HX.out ?_
          rotate_left
          · (intro w hSw; (try dsimp only at hSw); obtain ⟨q1, q2⟩ := hSw;try simp only [List.getElem_toArray, List.getElem_cons_zero, List.getElem_cons_succ]; go_simp; try (with_reducible rfl))
          try simp only [List.setIfInBounds_toArray, List.set_cons_zero, List.set_cons_succ]
          refine held_take 6 22 (v := ?_) rfl rfl (by kernel_rfl) (by kernel_rfl) (by kernel_rfl) (fun _ _ _ h => h) (by rfl) ?_ HX.out ?_
          rotate_left
          · (intro w hSw; (try dsimp only at hSw); obtain ⟨q1, q2⟩ := hSw;try simp only [List.getElem_toArray, List.getElem_cons_zero, List.getElem_cons_succ]; go_simp; try (with_reducible rfl))
          try simp only [List.setIfInBounds_toArray, List.set_cons_zero, List.set_cons_succ]
          refine held_take 7 23 (v := ?_) rfl rfl (by kernel_rfl) (by kernel_rfl) (by kernel_rfl) (fun _ _ _ h => h) (by rfl) ?_ HX.out ?_
          rotate_left
          · (intro w hSw; (try dsimp only at hSw); obtain ⟨q1, q2⟩ := hSw;try simp only [List.getElem_toArray, List.getElem_cons_zero, List.getElem_cons_succ]; go_simp; try (with_reducible rfl))
          try simp only [List.setIfInBounds_toArray, List.set_cons_zero, List.set_cons_succ]
          refine held_take 8 24 (v := ?_) rfl rfl (by kernel_rfl) (by kernel_rfl) (by kernel_rfl) (fun _ _ _ h => h) (by rfl) ?_ HX.out ?_
          rotate_left
          · (intro w hSw; (try dsimp only at hSw); obtain ⟨q1, q2⟩ := hSw;try simp only [List.getElem_toArray, List.getElem_cons_zero, List.getElem_cons_succ]; go_simp; try (with_reducible rfl))
          try simp only [List.setIfInBounds_toArray, List.set_cons_zero, List.set_cons_succ]
          refine wpAnyH_done (by kernel_rfl) ?_ _
          go_wp2
          go_ret
          rw [HF.out]
          exact ⟨rfl, HB.out.drew⟩
      · obtain rfl : i = n := by omega
        have hii : ¬ (i : Int) < (i : Int) := by omega
        have HF := Lib.hid (show smN i i F G = true from decide_eq_true ⟨rfl, HQ.out⟩)
        go_wp2
        go_ret
        rw [HF.out]
        exact ⟨rfl, HB.out⟩
  · have h1 : ¬ (n : Int) = (m : Int) := by omega
    have h2 : ((n : Int) == (m : Int)) = false := by simpa using h1
    have h3 : decide ((n : Int) = (m : Int)) = false := decide_eq_false h1
    have HF := Lib.hid (show smN n m F G = false from decide_eq_false (fun e => hnm e.1))
    go_enter Tryz.func19, Tryz.ntmps19
    go_wp2
    go_ret
    rw [HF.out]
    exact ⟨rfl, Below.refl _ _⟩
end Dig
end Go.Proofs.YtdcbbjlbfghpbaaGreat

/-
  Digest: rows of digests that grow; the laws' like. Conditions: those that each theorem names.
-/
namespace Go.Proofs.YtdcbbjlbfghpbaaGreat
open Go Go.RowKit H2
set_option linter.unusedVariables false
set_option linter.unusedSimpArgs false
namespace Dig
open Tab Byt
def encGs (D : List (Int × Int)) : List Value := D.flatMap encG
theorem encGs_len (D : List (Int × Int)) : (encGs D).length = D.length * 2 := by
  induction D with
  | nil => rfl
  | cons x D ih => unfold encGs at ih ⊢; rw [List.flatMap_cons, List.length_append, ih, List.length_cons]; simp [encG]; omega
theorem encGs_get : ∀ (D : List (Int × Int)) (i : Nat) (h : i < D.length), (encGs D)[i * 2]? = some (.int .i64 D[i].1) ∧ (encGs D)[i * 2 + 1]? = some (.int .u64 D[i].2)
  | x :: D, 0, h => ⟨rfl, rfl⟩
  | x :: D, i + 1, h => by
    have := encGs_get D i (by simpa using h)
    rw [show (i + 1) * 2 = i * 2 + 2 by omega]
    exact this
/-- digests gathered since wl -/
structure Gd (T : TypeId) (wl w : World) (v : Value) (D : List (Int × Int)) : Prop where
  own : w.ownsRow wl.heap.size T 2 v D.length (encGs D)
  bel : Below wl.heap.size wl w
theorem Gd.below {T : TypeId} {wl w w' : World} {v : Value} {D : List (Int × Int)} (h : Gd T wl w v D) (hb : Below w.heap.size w w') : Gd T wl w' v D := ⟨own_below h.own hb, h.bel.trans (hb.mono h.bel.size)⟩
theorem Gd.only {T : TypeId} {wl w w' : World} {v : Value} {D : List (Int × Int)} (h : Gd T wl w v D) {S : Nat → Prop} (ho : Only S w w') (hs : ∀ k, S k → wl.heap.size ≤ k) (hn : ∀ k, v.ownBlock = some k → ¬ S k) : Gd T wl w' v D := ⟨ho.own h.own hn, h.bel.trans (ho.below h.bel.size (fun i hi e => by have := hs i e; omega))⟩
theorem gd_nil (T : TypeId) (wl : World) : Gd T wl wl (.slice none 0 0) [] := ⟨World.ownsRow_nil _ _ _ _, Below.refl _ _⟩
theorem Gd.rd {T : TypeId} {wl w : World} {v : Value} {D : List (Int × Int)} (h : Gd T wl w v D) : ∃ A cap, v = .slice A D.length cap ∧ RdG w A D.length (fun i => D.getD i (0, 0)) := by
  rcases h.own.2 with ⟨rfl, h0⟩ | ⟨g, cap, cur, rfl, hg, hh, hc, hm, hs, ht⟩
  · have e : D = [] := List.length_eq_zero_iff.1 h0
    subst e
    exact ⟨none, 0, rfl, fun i hi => absurd hi (Nat.not_lt_zero i)⟩
  · refine ⟨_, cap, rfl, fun i hi => ⟨g, 0, rfl, ?_⟩⟩
    obtain ⟨e1, e2⟩ := encGs_get D i hi
    have k1 : ∀ (j : Nat) (u : Value), (encGs D)[j]? = some u → w.cell? ⟨g, j, none⟩ = some u := fun j u hj => by
      rw [blk_cell hh]
      rw [← ht, List.getElem?_take] at hj
      split at hj
      · simpa using hj
      · cases hj
    dsimp only
    rw [show D.getD i (0, 0) = D[i] by simp [List.getD_eq_getElem?_getD, List.getElem?_eq_getElem hi]]
    exact ⟨by rw [Nat.zero_add]; exact k1 _ _ e1, by rw [Nat.zero_add]; exact k1 _ _ e2⟩
/-- what a type must be for its rows to be gathered -/
structure Ty2 (TS T : TypeId) : Prop where
  und : Tryz.prog.underlying TS = some (.slice T)
  info : ∃ i0 : TypeInfo, Tryz.prog.info? T = some i0 ∧ i0.zero = some (.agg #[.int .i64 0, .int .u64 0]) ∧ i0.size = 2 ∧ i0.bytes = 16
theorem info2 {T : TypeId} (h : (Tryz.prog.info? T).map (fun i => (i.zero, i.size, i.bytes)) = some (some (.agg #[.int .i64 0, .int .u64 0]), 2, 16)) : ∃ i0 : TypeInfo, Tryz.prog.info? T = some i0 ∧ i0.zero = some (.agg #[.int .i64 0, .int .u64 0]) ∧ i0.size = 2 ∧ i0.bytes = 16 := by
  cases h2 : Tryz.prog.info? T with
  | none => rw [h2] at h; cases h
  | some i =>
    rw [h2] at h
    simp only [Option.map_some, Option.some.injEq, Prod.mk.injEq] at h
    exact ⟨i, rfl, h.1, h.2.1, h.2.2⟩
theorem tyD : Ty2 29 58 := ⟨Tryz.underlying29, info2 (by kernel_rfl)⟩
theorem tyR : Ty2 44 82 := ⟨Tryz.underlying44, info2 (by kernel_rfl)⟩
theorem wpList_appG {TS T : TypeId} (hT : Ty2 TS T) {ops : Array Oper} {rest : List Oper} {o : Oper} {a : Act} {wl W : World} {Q : Exit → Act → World → Prop} (hgd : o.guard = none) (s x : Operand) (ho : o.op = .call { callee := .builtin .append, args := #[s, x], argTypes := #[TS, TS] }) (v : Value) (D : List (Int × Int)) (p q : Int)
    (hs : a.eval s = v) (hx : a.eval x = .slice (some ⟨W.heap.size, 0, none⟩) 1 1) (h : Gd T wl W v D) (hl : D.length ≤ 10000)
    (hK : ∀ v' w', Gd T wl w' v' (D ++ [(p, q)]) → (∃ A n k, v' = .slice A n k) → Only (fun k => v.ownBlock = some k) W w' → wpList Tryz.prog ops Q rest (a.put o.dst v') w') : wpList Tryz.prog ops Q (o :: rest) a (W.alloc (.cells #[.int .i64 p, .int .u64 q] T (0, 0))) := by
  have hal := h.below ((Below.refl W.heap.size W).alloc (Nat.le_refl _) (.cells #[.int .i64 p, .int .u64 q] T (0, 0)))
  obtain ⟨i0, hi, hz0, hz1, hz2⟩ := hT.info
  obtain ⟨v', w', hrun, h1, h2, _⟩ := run_append_own (P := Tryz.prog) (W.alloc (.cells #[.int .i64 p, .int .u64 q] T (0, 0))) wl.heap.size TS o.type T i0 _ 2 16 hT.und hi hz0 hz1 hz2 (by simp [Value.cells]) (by omega) v D.length (encGs D) hal.own ⟨W.heap.size, 0, none⟩ 1 1 (encG (p, q)) (by simp [encG]) (fun j u hj => by
    rw [Addr.add_lit, Nat.zero_add, blk_cell (heap_alloc_new W _) j]
    simpa [encG] using hj) (encG_one _) (by unfold maxLen; omega) (by omega) hal.bel.size
  have hen : encGs D ++ encG (p, q) = encGs (D ++ [(p, q)]) := by simp [encGs]
  have hg : Gd T wl w' v' (D ++ [(p, q)]) := ⟨by rw [List.length_append, ← hen]; simpa using h1, ((Only.refl (fun k => v.ownBlock = some k) wl).of_below hal.bel).grown h2 (fun k hk _ => hk) |>.below (Nat.le_refl _) (fun k hk e => by
    rcases h.own.2 with ⟨rfl, _⟩ | ⟨g, cap, cur, rfl, hg, _⟩
    · cases e
    · simp only [Value.ownBlock, Option.some.injEq] at e
      omega)⟩
  have hon : Only (fun k => v.ownBlock = some k) W w' := ((Only.refl (fun k => v.ownBlock = some k) W).alloc _).grown h2 (fun k hk _ => hk)
  refine Tab.wpList_append_run hgd s x TS ho _ _ hs hx hrun (hK v' w' hg ?_ hon)
  rcases h1.2 with ⟨rfl, _⟩ | ⟨g, cap, cur, rfl, _⟩
  · exact ⟨_, _, _, rfl⟩
  · exact ⟨_, _, _, rfl⟩
/-- the first n of some digests -/
def dl (F : Dg) (n : Nat) : List (Int × Int) := (List.range n).map F
theorem dl_succ (F : Dg) (n : Nat) : dl F (n + 1) = dl F n ++ [F n] := by simp [dl, List.range_succ]
theorem dl_len (F : Dg) (n : Nat) : (dl F n).length = n := by simp [dl]
theorem dl_get {F : Dg} {n i : Nat} (h : i < n) : (dl F n).getD i (0, 0) = F i := by simp [dl, List.getD_eq_getElem?_getD, h]
theorem Gd.rdl {T : TypeId} {wl w : World} {v : Value} {F : Dg} {n : Nat} (h : Gd T wl w v (dl F n)) : ∃ A cap, v = .slice A n cap ∧ RdG w A n F := by
  obtain ⟨A, cap, e, hr⟩ := h.rd
  rw [dl_len] at e hr
  refine ⟨A, cap, e, fun i hi => ?_⟩
  have := hr i hi
  dsimp only at this
  rw [dl_get hi] at this
  exact this
set_option maxRecDepth 100000 in
set_option maxHeartbeats 8000000 in
theorem like_any (A : Option Addr) (n cap : Nat) (F : Dg) (hn : n ≤ 10000) (w : World) (ha : RdG w A n F) :
    Calls Tryz.prog 21 #[.slice A n cap] w fun e w' => ∃ v', e = .returned v' ∧ Gd 82 w w' v' (dl F n) := by
  have HA := Lib.hid ha
  clear ha
  go_enter Tryz.func21, Tryz.ntmps21
  go_wp2
  go_loopw [3, 8] (fun s3 s8 wr => ∃ i : Nat, i ≤ n ∧ s8 = .int .i64 i ∧ Gd 82 w wr s3 (dl F i) ∧ (∃ x y z, s3 = .slice x y z)) (fun _ s8 _ => n - (intOf s8).toNat)
  case atStart => exact ⟨0, by omega, rfl, gd_nil _ w, _, _, _, rfl⟩
  case round =>
    obtain ⟨i, hi, rfl, hg, x3, y3, z3, rfl⟩ := hrel
    have HN := Lib.hid hg
    clear hg
    by_cases hlt : i < n
    · have hlt' : (i : Int) < (n : Int) := by omega
      have i0 : (0 : Int) ≤ (i : Int) := by omega
      have HL := Lib.hid (show (dl F i).length ≤ 10000 by rw [dl_len]; omega)
      have HT := Lib.hid (dl_succ F i)
      obtain ⟨b1, o1, rfl, x1, x2⟩ := HA.out i hlt
      have z1 := later HN.out.bel x1
      have z2 := later HN.out.bel x2
      obtain ⟨p, hp⟩ : ∃ p, (F i).1 = p := ⟨_, rfl⟩
      obtain ⟨q, hq⟩ : ∃ q, (F i).2 = q := ⟨_, rfl⟩
      have HP := Lib.hid (show F i = (p, q) by rw [← hp, ← hq])
      rw [hp] at z1
      rw [hq] at z2
      clear x1 x2 hp hq
      go_upto_region 5 with fail
      have HND := Lib.hid (HN.out.below ((Below.refl wr.heap.size wr).alloc (Nat.le_refl _) (.cells #[.int .i64 p, .int .u64 q] 58 (0, 0))))
      have hB1 : (wr.alloc (.cells #[.int .i64 p, .int .u64 q] 58 (0, 0))).cell? ⟨wr.heap.size, 0, none⟩ = some (.int .i64 p) := (blk_cell (heap_alloc_new wr _) 0).trans rfl
      have hB2 : (wr.alloc (.cells #[.int .i64 p, .int .u64 q] 58 (0, 0))).cell? ⟨wr.heap.size, 1, none⟩ = some (.int .u64 q) := (blk_cell (heap_alloc_new wr _) 1).trans rfl
      clear z1 z2
      generalize wr.alloc _ = W4 at HND hB1 hB2 ⊢
      generalize wr.heap.size = B4 at hB1 hB2 ⊢
      go_wp2_with (refine wpList_appG tyR rfl (.tmp 12) (.tmp 18) rfl _ _ p q rfl rfl HND.out HL.out ?_; rintro v7 w7 h7 ⟨x7, y7, z7, rfl⟩ _; have H7 := Lib.hid h7; clear h7)
      go_roundw
      case rel => exact ⟨i + 1, by omega, by go_num, by rw [HT.out, HP.out]; exact H7.out, _, _, _, rfl⟩
      case measure => simp [intOf]; omega
    · obtain rfl : i = n := by omega
      have hii : ¬ (i : Int) < (i : Int) := by omega
      go_wp2
      go_ret
      exact ⟨_, rfl, HN.out⟩
end Dig
end Go.Proofs.YtdcbbjlbfghpbaaGreat

/-
  Numbers as rows of bytes, seven bits a byte: plain laws. Conditions: those that each theorem names.
-/
namespace Go.Proofs.YtdcbbjlbfghpbaaGreat
set_option linter.unusedVariables false
set_option maxRecDepth 10000
namespace Vr
/-- a number's bytes -/
def vb (n : Nat) : List UInt8 := if h : n < 128 then [UInt8.ofNat n] else UInt8.ofNat (n % 128 + 128) :: vb (n / 128)
termination_by n
decreasing_by omega
theorem vb_small {n : Nat} (h : n < 128) : vb n = [UInt8.ofNat n] := by rw [vb, dif_pos h]
theorem vb_big {n : Nat} (h : ¬ n < 128) : vb n = UInt8.ofNat (n % 128 + 128) :: vb (n / 128) := by rw [vb, dif_neg h]
theorem vb_len : ∀ (k n : Nat), n < 128 ^ (k + 1) → 1 ≤ (vb n).length ∧ (vb n).length ≤ k + 1
  | 0, n, h => by rw [vb_small (by simpa using h)]; simp
  | k + 1, n, h => by
    by_cases hn : n < 128
    · rw [vb_small hn]; simp
    · rw [vb_big hn, List.length_cons]
      have := vb_len k (n / 128) (by rw [Nat.pow_succ] at h; omega)
      omega
theorem vb_len10 {n : Nat} (h : n < 18446744073709551616) : 1 ≤ (vb n).length ∧ (vb n).length ≤ 10 := vb_len 9 n (Nat.lt_of_lt_of_le h (by decide))
/-- a number taken from bytes: i bytes are taken, n is what they say; what is left, and what was wrong -/
def ug : Nat → Nat → Nat → List UInt8 → Nat × List UInt8 × Int
  | 0, _, _, s => (0, s, 0)
  | _ + 1, _, _, [] => (0, [], 3)
  | f + 1, i, n, c :: t =>
    if (i = 9 ∧ 1 < c.toNat) ∨ (0 < i ∧ c.toNat = 0) then (0, t, 4)
    else if c.toNat < 128 then (n + c.toNat % 128 * 2 ^ (7 * i), t, 0)
    else ug f (i + 1) (n + c.toNat % 128 * 2 ^ (7 * i)) t
/-- Uint: of a reader that has bytes l left, and for which e was wrong -/
def uintM (l : List UInt8) (e : Int) : Nat × List UInt8 × Int := if e = 0 then ug 10 0 0 l else (0, l, e)
theorem ug_bound : ∀ (f i n : Nat) (l : List UInt8), i + f = 10 → n < 2 ^ (7 * i) → (ug f i n l).1 < 18446744073709551616
  | 0, i, n, l, h, hn => by simp [ug]
  | f + 1, i, n, [], h, hn => by simp [ug]
  | f + 1, i, n, c :: t, h, hn => by
    unfold ug
    have hc := c.toNat_lt
    split
    · simp
    · rename_i h1
      have hm : n + c.toNat % 128 * 2 ^ (7 * i) < 2 ^ (7 * (i + 1)) := by
        have : c.toNat % 128 ≤ 127 := by omega
        have h2 : c.toNat % 128 * 2 ^ (7 * i) ≤ 127 * 2 ^ (7 * i) := Nat.mul_le_mul_right _ this
        rw [show 7 * (i + 1) = 7 * i + 7 by omega, Nat.pow_add]
        omega
      split
      · rename_i h2
        show n + c.toNat % 128 * 2 ^ (7 * i) < _
        by_cases h9 : i = 9
        · subst h9
          have : c.toNat ≤ 1 := by
            rcases Nat.lt_or_ge 1 c.toNat with h3 | h3
            · exact absurd (Or.inl ⟨rfl, h3⟩) h1
            · exact h3
          rw [Nat.mod_eq_of_lt (by omega)]
          have h4 : c.toNat * 2 ^ (7 * 9) ≤ 1 * 2 ^ (7 * 9) := Nat.mul_le_mul_right _ this
          have h5 : (2 : Nat) ^ (7 * 9) = 9223372036854775808 := by simp
          rw [h5] at h4 hn ⊢
          clear hm
          generalize c.toNat = C at *
          omega
        · have : 2 ^ (7 * (i + 1)) ≤ 2 ^ 63 := Nat.pow_le_pow_right (by omega) (by omega)
          have : (2 : Nat) ^ 63 = 9223372036854775808 := by simp
          omega
      · exact ug_bound f (i + 1) _ t (by omega) hm
theorem ug_vb : ∀ (f i m n : Nat) (r : List UInt8), i + f = 10 → (i = 0 ∨ 0 < n) → n * 2 ^ (7 * i) < 18446744073709551616 → ug f i m (vb n ++ r) = (m + n * 2 ^ (7 * i), r, 0)
  | 0, i, m, n, r, h, h0, hn => by
    have : i = 10 := by omega
    subst this
    have : (2 : Nat) ^ (7 * 10) = 1180591620717411303424 := by simp
    rcases h0 with h0 | h0
    · omega
    · rw [this] at hn
      omega
  | f + 1, i, m, n, r, h, h0, hn => by
    by_cases h1 : n < 128
    · rw [vb_small h1]
      have e1 : (UInt8.ofNat n).toNat = n := by rw [UInt8.toNat_ofNat']; omega
      rw [List.singleton_append, ug, e1]
      rw [if_neg, if_pos h1, Nat.mod_eq_of_lt h1]
      rintro (⟨rfl, h2⟩ | ⟨h2, h3⟩)
      · have : (2 : Nat) ^ (7 * 9) = 9223372036854775808 := by simp
        rw [this] at hn
        omega
      · omega
    · rw [vb_big h1]
      have e1 : (UInt8.ofNat (n % 128 + 128)).toNat = n % 128 + 128 := by rw [UInt8.toNat_ofNat']; omega
      have e2 : n * 2 ^ (7 * i) = n % 128 * 2 ^ (7 * i) + n / 128 * 2 ^ (7 * (i + 1)) := by
        rw [show 7 * (i + 1) = 7 * i + 7 by omega, Nat.pow_add, show (2 : Nat) ^ 7 = 128 by decide, Nat.mul_comm (2 ^ (7 * i)) 128, ← Nat.mul_assoc, ← Nat.add_mul, Nat.mul_comm (n / 128) 128, Nat.mod_add_div]
      rw [List.cons_append, ug, e1]
      rw [if_neg, if_neg (by omega)]
      · rw [show (n % 128 + 128) % 128 = n % 128 by omega, ug_vb f (i + 1) _ (n / 128) r (by omega) (Or.inr (by omega)) (by omega)]
        rw [e2]
        simp only [Prod.mk.injEq, and_true]
        omega
      · rintro (⟨rfl, h2⟩ | ⟨h2, h3⟩)
        · have : (2 : Nat) ^ (7 * 9) = 9223372036854775808 := by simp
          rw [this] at hn
          omega
        · omega
/-- what is written is read -/
theorem uintM_vb {n : Nat} (h : n < 18446744073709551616) (r : List UInt8) : uintM (vb n ++ r) 0 = (n, r, 0) := by
  unfold uintM
  rw [if_pos rfl, ug_vb 10 0 0 n r rfl (.inl rfl) (by simpa using h)]
  simp
end Vr
end Go.Proofs.YtdcbbjlbfghpbaaGreat

/-
  strings.Builder inside a varint.Writer: what its methods do to its memory. Conditions: those that each theorem names.
-/
namespace Go.Proofs.YtdcbbjlbfghpbaaGreat
open Go Go.RowKit H2
set_option linter.unusedVariables false
set_option linter.unusedSimpArgs false
namespace Vr
abbrev TW : TypeId := 98
abbrev TB : TypeId := 5
/-- a writer that the call has made: the bytes in it -/
def Wrt (base b : Nat) (l : List UInt8) (w : World) : Prop := Lib.IsBuilderF TW TB base b (Lib.byteCells l) w
theorem sizeBuilder : (Tryz.prog.info? 96).map (·.size) = some 2 := by kernel_rfl
theorem liesBuilder : liesAt Tryz.prog Tryz.prog.depth TW (2 / Tryz.prog.cellsOf TW) 0 96 1 = true := by kernel_rfl
theorem cellsByte : Tryz.prog.cellsOf 5 = 1 := by kernel_rfl
theorem neWB : TW ≠ TB := by decide
set_option maxHeartbeats 1000000 in
set_option maxRecDepth 100000 in
theorem check_used (b : Nat) (w : World) (h0 : w.cell? ⟨b, 0, none⟩ = some (.pointer (some ⟨b, 0, none⟩))) :
    Calls Tryz.prog 99 #[.pointer (some ⟨b, 0, none⟩)] w fun e w' => e = .returned (.tuple #[]) ∧ w' = w := by
  obtain ⟨j, hj, _⟩ := Option.map_eq_some_iff.1 sizeBuilder
  go_enter Tryz.func99, Tryz.ntmps99
  go_wp2
  rw [Lib.run_neq_ptr_same w _ Tryz.underlying94 hj]
  go_wp2
  go_end0
  exact ⟨rfl, rfl⟩
set_option maxHeartbeats 1000000 in
set_option maxRecDepth 100000 in
theorem check_fresh (b : Nat) (w : World) (h0 : w.cell? ⟨b, 0, none⟩ = some (.pointer none)) (hsh : w.shape? b = some (TW, 2)) (hfz : w.frozen? ⟨b, 0, none⟩ = false) :
    Calls Tryz.prog 99 #[.pointer (some ⟨b, 0, none⟩)] w fun e w' => e = .returned (.tuple #[]) ∧ w' = w.setCell ⟨b, 0, none⟩ (.pointer (some ⟨b, 0, none⟩)) := by
  obtain ⟨j, hj, hjs⟩ := Option.map_eq_some_iff.1 sizeBuilder
  go_enter Tryz.func99, Tryz.ntmps99
  go_wp2
  rw [Lib.run_to_unsafe w ⟨b, 0, none⟩ Tryz.underlying94 Tryz.underlying150 hj (by rw [hjs]; decide) hsh (Nat.zero_lt_succ 1)]
  simp only [Result.andThen]
  rw [Oper.upon_value]
  go_wp2
  rw [run_callFunc_extern Tryz.func106 (by kernel_rfl) (by kernel_rfl) (by kernel_rfl) (e := Extern.AbiNoEscape.same) (by kernel_rfl)]
  rw [Lib.run_noEscape]
  simp only [Result.andThen]
  rw [Oper.upon_value]
  go_wp2
  rw [Lib.run_from_unsafe w ⟨b, 0, none⟩ Tryz.underlying150 Tryz.underlying94 hj hsh liesBuilder]
  simp only [Result.andThen]
  rw [Oper.upon_value]
  go_wp2
  go_end0
  exact ⟨rfl, rfl⟩
theorem check_any (B b : Nat) (bs : List Value) (w : World) (h : Lib.IsBuilderF TW TB B b bs w) :
    Calls Tryz.prog 99 #[.pointer (some ⟨b, 0, none⟩)] w fun e w' => e = .returned (.tuple #[]) ∧ (Lib.BuilderAtF TW TB B b (.pointer (some ⟨b, 0, none⟩)) bs w' ∧ Below B w w' ∧ Lib.OthersKept TB (some b) w w') := by
  rcases h with h | h
  · refine (check_fresh b w h.cell0 h.shape h.frozen0).mono ?_
    rintro e w' ⟨rfl, rfl⟩
    exact ⟨rfl, h.used _, (Below.refl B w).setCell (p := ⟨b, 0, none⟩) h.1 _, (Lib.OthersKept.refl _ _ w).setCell ⟨b, 0, none⟩ rfl _⟩
  · refine (check_used b w h.cell0).mono ?_
    rintro e w' ⟨rfl, rfl⟩
    exact ⟨rfl, h, Below.refl B _, Lib.OthersKept.refl _ _ _⟩
set_option maxHeartbeats 2000000 in
set_option maxRecDepth 100000 in
theorem byte_b (B b : Nat) (bs : List Value) (c : Int) (w : World) (h : Lib.IsBuilderF TW TB B b bs w) (hlen : bs.length + 1 ≤ 140737488355328) (hBw : B ≤ w.heap.size) :
    Calls Tryz.prog 87 #[.pointer (some ⟨b, 0, none⟩), .int .u8 c] w fun e w' => e = .returned .nilIface ∧ (Lib.BuilderAtF TW TB B b (.pointer (some ⟨b, 0, none⟩)) (bs ++ [.int .u8 c]) w' ∧ Below B w w' ∧ Lib.OthersKept TB (some b) w w') := by
  obtain ⟨i0, hi, hz0, hz1, hz2⟩ := Byt.infoB
  go_enter Tryz.func87, Tryz.ntmps87
  go_wp2_with (go_at_call 99; refine (check_any B b bs _ h).mono ?_)
  rintro e w1 ⟨rfl, h1, hb1, hk1⟩
  obtain ⟨hB, v, hbk, hown, hne⟩ := h1
  have c0 : w1.cell? ⟨b, 0, none⟩ = some (.pointer (some ⟨b, 0, none⟩)) := by rw [Lib.cell_of_heap hbk]; rfl
  have c1 : w1.cell? ⟨b, 1, none⟩ = some v := by rw [Lib.cell_of_heap hbk]; rfl
  go_wp2_with (at_builtin; refine wpList_append_ownF _ rfl _ _ 87 rfl B 5 i0 (.int .u8 0) 1 1 Tryz.underlying87 hi hz0 hz1 hz2 rfl (by decide) _ _ _ rfl (hown.alloc _) ⟨w1.heap.size, 0, none⟩ 1 1 [.int .u8 c] rfl rfl ?c1 ?c2 ?c3 ?c4 ?c5 ?_)
  case c1 =>
    intro j u hj
    match j, hj with
    | 0, hj => simp at hj; subst hj; simp [Addr.add]
  case c2 => intro u hu; simp at hu; subst hu; rfl
  case c3 => unfold maxLen; omega
  case c4 => omega
  case c5 => have := hb1.size; simp; omega
  intro v' w2 hown' hgrow _
  have hlt : b < w1.heap.size := by
    rcases Nat.lt_or_ge b w1.heap.size with h' | h'
    · exact h'
    · simp [Array.getElem?_eq_none h'] at hbk
  have hb2 : w2.heap[b]? = some (.cells #[.pointer (some ⟨b, 0, none⟩), v] TW (0, 0)) := by
    rw [hgrow.block b (by simp; omega) (fun e => hne e.symm), Lib.alloc_old w1 _ b hlt]
    exact hbk
  have d0 : w2.cell? ⟨b, 0, none⟩ = some (.pointer (some ⟨b, 0, none⟩)) := by rw [Lib.cell_of_heap hb2]; rfl
  have d1 : w2.cell? ⟨b, 1, none⟩ = some v := by rw [Lib.cell_of_heap hb2]; rfl
  have f1 : w2.frozen? ⟨b, 1, none⟩ = false := Lib.frozen_of_heap hb2 1
  obtain ⟨g, cap, rfl⟩ : ∃ g cap, v' = .slice (some ⟨g, 0, none⟩) (bs.length + 1) cap := by
    rcases hown'.2 with ⟨_, h0⟩ | ⟨g, cap, cur, fz, hv, _⟩
    · omega
    · exact ⟨g, cap, hv⟩
  go_wp2
  go_ret
  refine ⟨rfl, ?_, ?_, ((hk1.alloc _).grown hgrow (Lib.ownsRowF_kind (hown.alloc _))).setCell ⟨b, 1, none⟩ rfl _⟩
  · exact Lib.BuilderAtF.put (T := TW) (e := TB) hB hb2 (bs' := bs ++ [.int .u8 c]) (by simpa using hown') neWB
  · exact ((hb1.alloc (by have := hb1.size; omega) _).grown hgrow (by have := hb1.size; simp; omega) (fun k hk => (hown.lt k hk).1)).setCell (p := ⟨b, 1, none⟩) hB _
set_option maxHeartbeats 1000000 in
set_option maxRecDepth 100000 in
theorem text_b (B b : Nat) (l : List UInt8) (w : World) (h : Wrt B b l w) (h0 : l ≠ []) :
    Calls Tryz.prog 77 #[.pointer (some ⟨b, 0, none⟩)] w fun e w' => e = .returned (.string ⟨l.toArray⟩) ∧ Below B w w' ∧ Lib.OthersKept TB (some b) w w' := by
  obtain ⟨p, hp, hAt⟩ : ∃ p, (p = .pointer none ∨ p = .pointer (some ⟨b, 0, none⟩)) ∧ Lib.BuilderAtF TW TB B b p (Lib.byteCells l) w := by
    rcases h with h | h
    · exact ⟨_, .inl rfl, h⟩
    · exact ⟨_, .inr rfl, h⟩
  obtain ⟨hB, v, hbk, hown, hne⟩ := hAt
  have hl0 : l.length ≠ 0 := by simpa using h0
  rw [Lib.byteCells_length] at hown
  obtain ⟨g, cap, cur, fz, rfl, hbg, hg, hfz, hnc, hcm, hcs, htake⟩ : ∃ g cap cur fz, v = .slice (some ⟨g, 0, none⟩) l.length cap ∧ B ≤ g ∧ w.heap[g]? = some (.cells cur TB fz) ∧ fz.2 ≤ l.length * 1 ∧ l.length ≤ cap ∧ cap ≤ maxLen ∧ cur.size = cap * 1 ∧ cur.toList.take (l.length * 1) = Lib.byteCells l := by
    rcases hown.2 with ⟨_, hz⟩ | ⟨g, cap, cur, fz, hv, r⟩
    · exact absurd hz hl0
    · exact ⟨g, cap, cur, fz, hv, r⟩
  have c1 : w.drew.cell? ⟨b, 1, none⟩ = some (.slice (some ⟨g, 0, none⟩) l.length cap) := by
    have : w.drew.heap[b]? = some (.cells #[p, .slice (some ⟨g, 0, none⟩) l.length cap] TW (0, 0)) := hbk
    rw [Lib.cell_of_heap this]; rfl
  have hSD : (Builtin.unsafeSliceData_ #[87] 134 #[.slice (some ⟨g, 0, none⟩) l.length cap]).run Tryz.prog w.drew = .ok (.pointer (some ⟨g, 0, none⟩)) w.drew :=
    Lib.run_unsafeSliceData_row _ _ _ _ _ _ (by omega)
  have hUS : (Builtin.unsafeString_ #[134, 3] 9 #[.pointer (some ⟨g, 0, none⟩), .int .i64 l.length]).run Tryz.prog w.drew = .ok (.string ⟨l.toArray⟩) (w.drew.freeze ⟨g, 0, none⟩ l.length) := by
    refine Lib.run_unsafeString_row w.drew 134 3 9 TB Tryz.underlying134 cellsByte g cur.size (by have hg' : w.drew.heap[g]? = some (.cells cur TB fz) := hg; simp [World.shape?, hg']) l h0 (by omega) (by unfold maxLen at hcm; omega) ?_
    intro j x hx
    have := hown.cells (g := g) rfl j (.int .u8 x.toNat) (by simp [Lib.byteCells, hx])
    exact this
  go_enter Tryz.func77, Tryz.ntmps77
  have mixed : Tryz.prog.follows .mixedOrders = true := by kernel_rfl
  go_wp2
  go_region_o
  all_goals (go_wp2; go_ret; exact ⟨rfl, Lib.below_freeze (Below.drew (Below.refl B w)) (p := ⟨g, 0, none⟩) hbg _, ((Lib.OthersKept.refl _ _ w).drew).freeze ⟨g, 0, none⟩ _ ⟨cur, fz, hg⟩⟩)
end Vr
end Go.Proofs.YtdcbbjlbfghpbaaGreat

/-
  varint.Writer: what its methods do to its memory. Conditions: those that each theorem names.
-/
namespace Go.Proofs.YtdcbbjlbfghpbaaGreat
open Go Go.RowKit H2
set_option linter.unusedVariables false
set_option linter.unusedSimpArgs false
namespace Vr
/-- what a call to a writer leaves -/
structure Wk (base b : Nat) (l : List UInt8) (w w' : World) : Prop where
  wrt : Wrt base b l w'
  bel : Below base w w'
  oth : Lib.OthersKept TB (some b) w w'
theorem Wk.trans {base b : Nat} {l l2 : List UInt8} {w w1 w2 : World} (h : Wk base b l w w1) (k : Wk base b l2 w1 w2) : Wk base b l2 w w2 := ⟨k.wrt, h.bel.trans k.bel, h.oth.trans k.oth⟩
theorem Wk.refl {base b : Nat} {l : List UInt8} {w : World} (h : Wrt base b l w) : Wk base b l w w := ⟨h, Below.refl _ _, Lib.OthersKept.refl _ _ _⟩
theorem byteCells_one (c : UInt8) : Lib.byteCells [c] = [.int .u8 (c.toNat : Int)] := rfl
theorem byteCells_app1 (l : List UInt8) (c : UInt8) : Lib.byteCells l ++ [.int .u8 (c.toNat : Int)] = Lib.byteCells (l ++ [c]) := by rw [Lib.byteCells_append, byteCells_one]
set_option maxHeartbeats 1000000 in
set_option maxRecDepth 100000 in
theorem wbyte_any (base b : Nat) (l : List UInt8) (c : UInt8) (V : Int) (hV : V = (c.toNat : Int)) (w : World) (h : Wrt base b l w) (hl : l.length ≤ 10000000) (hB : base ≤ w.heap.size) :
    Calls Tryz.prog 76 #[.pointer (some ⟨b, 0, none⟩), .int .u8 V] w fun e w' => e = .returned (.tuple #[]) ∧ Wk base b (l ++ [c]) w w' := by
  subst hV
  have H := Lib.hid h
  have hl2 : (Lib.byteCells l).length + 1 ≤ 140737488355328 := by rw [Lib.byteCells_length]; omega
  have HC := Lib.hid (byte_b base b _ (c.toNat : Int) w h hl2 hB)
  clear h
  go_enter Tryz.func76, Tryz.ntmps76
  go_wp2_with (go_at_call 87; (with_reducible refine (HC.out).mono ?_); rintro e w1 ⟨rfl, h1, h2, h3⟩)
  go_end0
  rw [byteCells_app1] at h1
  exact ⟨rfl, .inr h1, h2, h3⟩
theorem or128 : ∀ x : Fin 256, bits .or .u8 (x.val : Int) 128 = ((x.val % 128 + 128 : Nat) : Int) := by decide +kernel
theorem u8_wrap_nat (m : Nat) : IntKind.u8.wrap (m : Int) = ((m % 256 : Nat) : Int) := by simp [IntKind.wrap, IntKind.bits, IntKind.signed]
theorem low7 (m : Nat) : bits .or .u8 ((m : Int) % 256) 128 = (((UInt8.ofNat (m % 128 + 128)).toNat : Nat) : Int) := by
  rw [show (m : Int) % 256 = ((m % 256 : Nat) : Int) by omega, or128 ⟨m % 256, by omega⟩, UInt8.toNat_ofNat']
  congr 1
  show m % 256 % 128 + 128 = _
  omega
set_option maxHeartbeats 2000000 in
set_option maxRecDepth 100000 in
theorem wuint_any (base b : Nat) (l : List UInt8) (n : Nat) (hn : n < 18446744073709551616) (w : World) (h : Wrt base b l w) (hl : l.length ≤ 1000000) (hB : base ≤ w.heap.size) :
    Calls Tryz.prog 49 #[.pointer (some ⟨b, 0, none⟩), .int .u64 n] w fun e w' => e = .returned (.tuple #[]) ∧ Wk base b (l ++ vb n) w w' := by
  have H := Lib.hid h
  have HN := Lib.hid (vb_len10 hn)
  clear h
  go_enter Tryz.func49, Tryz.ntmps49
  go_wp2
  go_loopw [1] (fun s1 wr => ∃ (m : Nat) (l' : List UInt8), s1 = .int .u64 m ∧ m < 18446744073709551616 ∧ Wk base b l' w wr ∧ l' ++ vb m = l ++ vb n) (fun s1 _ => (intOf s1).toNat)
  case atStart => exact ⟨n, l, rfl, hn, Wk.refl H.out, rfl⟩
  case round =>
    clear H
    obtain ⟨m, l', rfl, hm, hk, he⟩ := hrel
    have HK := Lib.hid hk
    have HE := Lib.hid he
    have hl' : l'.length ≤ 10000000 := by have := congrArg List.length he; rw [List.length_append, List.length_append] at this; have := HN.out; omega
    have hB' : base ≤ wr.heap.size := Nat.le_trans hB HK.out.bel.size
    clear hk he
    by_cases h1 : m < 128
    · have h1' : (m : Int) < 128 := by omega
      have h2 : ¬ (128 : Int) ≤ (m : Int) := by omega
      have hw8 : IntKind.u8.wrap (m : Int) = (m : Int) := by rw [u8_wrap_nat]; omega
      have HV := Lib.hid (show (m : Int) = ((UInt8.ofNat m).toNat : Int) by rw [UInt8.toNat_ofNat']; omega)
      rw [vb_small h1] at HE
      go_wp2_with (go_at_call 76; (with_reducible refine (wbyte_any base b l' (UInt8.ofNat m) _ HV.out wr HK.out.wrt hl' hB').mono ?_); rintro e w1 ⟨rfl, h3⟩; have H3 := Lib.hid h3; clear h3)
      go_end0
      exact ⟨rfl, by rw [← HE.out]; exact HK.out.trans H3.out⟩
    · have h1' : ¬ (m : Int) < 128 := by omega
      have h2 : (128 : Int) ≤ (m : Int) := by omega
      have HV := Lib.hid (low7 m)
      rw [vb_big h1] at HE
      have hd : (m : Int).fdiv (2 ^ min (Int.toNat 7) IntKind.u64.bits) = ((m / 128 : Nat) : Int) := by
        rw [show (2 : Int) ^ min (Int.toNat 7) IntKind.u64.bits = 128 from rfl, Int.fdiv_eq_ediv_of_nonneg _ (by omega)]
        omega
      go_wp2_with (go_at_call 76; (with_reducible refine (wbyte_any base b l' (UInt8.ofNat (m % 128 + 128)) _ HV.out wr HK.out.wrt hl' hB').mono ?_); rintro e w1 ⟨rfl, h3⟩; have H3 := Lib.hid h3; clear h3)
      go_roundw
      case rel => exact ⟨m / 128, l' ++ [UInt8.ofNat (m % 128 + 128)], by go_num, by omega, HK.out.trans H3.out, by rw [← HE.out]; simp⟩
      case measure => simp [intOf]; omega
set_option maxHeartbeats 1000000 in
set_option maxRecDepth 100000 in
theorem wtext_any (base b : Nat) (l : List UInt8) (h0 : l ≠ []) (w : World) (h : Wrt base b l w) :
    Calls Tryz.prog 50 #[.pointer (some ⟨b, 0, none⟩)] w fun e w' => e = .returned (.string ⟨l.toArray⟩) ∧ Below base w w' ∧ Lib.OthersKept TB (some b) w w' := by
  have H := Lib.hid h
  have H0 := Lib.hid h0
  have HC := Lib.hid (text_b base b l w h h0)
  clear h h0
  go_enter Tryz.func50, Tryz.ntmps50
  go_wp2_with (go_at_call 77; (with_reducible refine (HC.out).mono ?_); rintro e w1 ⟨rfl, h1, h2⟩)
  go_ret
  exact ⟨rfl, h1, h2⟩
/-- a new writer -/
theorem wrt_new (w : World) : Wrt w.heap.size w.heap.size [] (w.alloc (.cells #[.pointer none, .slice none 0 0] TW (0, 0))) := Lib.IsBuilderF.of (Lib.fresh_isBuilder TW TB w)
theorem Wrt.drew {base b : Nat} {l : List UInt8} {w : World} (h : Wrt base b l w) : Wrt base b l w.drew := h
theorem Wrt.alloc {base b : Nat} {l : List UInt8} {w : World} (h : Wrt base b l w) (o : Obj) : Wrt base b l (w.alloc o) := by
  rcases h with h | h
  · exact .inl (h.alloc o)
  · exact .inr (h.alloc o)
end Vr
end Go.Proofs.YtdcbbjlbfghpbaaGreat

/-
  varint.Reader: what its methods answer. Conditions: those that each theorem names.
-/
namespace Go.Proofs.YtdcbbjlbfghpbaaGreat
open Go Go.RowKit H2
set_option linter.unusedVariables false
set_option linter.unusedSimpArgs false
namespace Vr
open Byt
theorem str_sz (l : List UInt8) : (str l).size = l.length := by simp [str, ByteArray.size]
theorem str_take (l : List UInt8) (k : Nat) : (str l).extract 0 k = str (l.take k) := by
  apply ByteArray.ext
  simp [str]
theorem str_drop (l : List UInt8) (k : Nat) : (str l).extract k (str l).size = str (l.drop k) := by
  apply ByteArray.ext
  rw [str_sz]
  simp [str, List.take_of_length_le]
theorem str_inj {a b : List UInt8} (h : str a = str b) : a = b := by
  have := congrArg (fun x => x.data.toList) h
  simpa [str] using this
theorem str_of (s : ByteArray) : s = str s.data.toList := by
  apply ByteArray.ext
  simp [str]
/-- a reader in its block -/
def Rr (b : Nat) (l : List UInt8) (e : Int) (w : World) : Prop := w.heap[b]? = some (.cells #[.string (str l), .int .i64 e] 120 (0, 0))
theorem Rr.c0 {b : Nat} {l : List UInt8} {e : Int} {w : World} (h : Rr b l e w) : w.cell? ⟨b, 0, none⟩ = some (.string (str l)) := blk_cell h 0
theorem Rr.c1 {b : Nat} {l : List UInt8} {e : Int} {w : World} (h : Rr b l e w) : w.cell? ⟨b, 1, none⟩ = some (.int .i64 e) := blk_cell h 1
theorem Rr.below {b : Nat} {l : List UInt8} {e : Int} {w w' : World} (h : Rr b l e w) (hb : Below w.heap.size w w') : Rr b l e w' := (hb.block b (blk_lt h)).trans h
theorem Rr.setE {b : Nat} {l : List UInt8} {e : Int} {w : World} (h : Rr b l e w) (x : Int) : Rr b l x (w.setCell ⟨b, 1, none⟩ (.int .i64 x)) := blk_set h 1 _
theorem Rr.setS {b : Nat} {l : List UInt8} {e : Int} {w : World} (h : Rr b l e w) (l' : List UInt8) : Rr b l' e (w.setCell ⟨b, 0, none⟩ (.string (str l'))) := blk_set h 0 _
/-- what a call to a reader leaves -/
structure Rk (b : Nat) (l : List UInt8) (e : Int) (w w' : World) : Prop where
  at' : Rr b l e w'
  only : Only (fun i => i = b) w w'
theorem Rk.refl {b : Nat} {l : List UInt8} {e : Int} {w : World} (h : Rr b l e w) : Rk b l e w w := ⟨h, Only.refl _ _⟩
theorem Rk.trans {b : Nat} {l l' : List UInt8} {e e' : Int} {w w1 w2 : World} (h : Rk b l e w w1) (k : Rk b l' e' w1 w2) : Rk b l' e' w w2 := ⟨k.at', h.only.trans k.only (fun _ _ e => e)⟩
theorem Rk.bel {base b : Nat} {l : List UInt8} {e : Int} {w w' : World} (h : Rk b l e w w') (hb : base ≤ b) (hs : base ≤ w.heap.size) : Below base w w' := h.only.below hs (fun i hi e => by omega)
theorem Rr.setE' {b : Nat} {l : List UInt8} {e : Int} {w : World} (h : Rr b l e w) (x : Int) : Rk b l x w (w.setCell ⟨b, 1, none⟩ (.int .i64 x)) := ⟨h.setE x, (Only.refl (fun i => i = b) w).setCell (p := ⟨b, 1, none⟩) (fun _ => rfl) _⟩
theorem Rr.setS' {b : Nat} {l : List UInt8} {e : Int} {w : World} (h : Rr b l e w) (l' : List UInt8) : Rk b l' e w (w.setCell ⟨b, 0, none⟩ (.string (str l'))) := ⟨h.setS l', (Only.refl (fun i => i = b) w).setCell (p := ⟨b, 0, none⟩) (fun _ => rfl) _⟩
theorem newReader_any (s : ByteArray) (w : World) : Calls Tryz.prog 45 #[.string s] w fun e w' => e = .returned (.pointer (some ⟨w.heap.size, 0, none⟩)) ∧ w.alloc (.cells #[.string s, .int .i64 0] 120 (0, 0)) = w' := by
  go_enter Tryz.func45, Tryz.ntmps45
  go_wp2
  go_ret
  exact ⟨rfl, rfl⟩
theorem rr_new (l : List UInt8) (w : World) : Rr w.heap.size l 0 (w.alloc (.cells #[.string (str l), .int .i64 0] 120 (0, 0))) := heap_alloc_new w _
theorem rfail_any (b : Nat) (l : List UInt8) (e x : Int) (w : World) (h : Rr b l e w) : Calls Tryz.prog 75 #[.pointer (some ⟨b, 0, none⟩), .int .i64 x] w fun r w' => r = .returned (.tuple #[]) ∧ Rk b l (if e = 0 then x else e) w w' := by
  have H := Lib.hid h
  have c1 := h.c1
  have z1 := blk_free h 1
  clear h
  by_cases he : e = 0
  · subst he
    go_enter Tryz.func75, Tryz.ntmps75
    go_wp2
    go_end0
    exact ⟨rfl, H.out.setE' x⟩
  · have HE := Lib.hid he
    have h2 : (e == 0) = false := by simpa using he
    go_enter Tryz.func75, Tryz.ntmps75
    go_wp2
    go_end0
    exact ⟨rfl, by have := HE.out; exact Rk.refl H.out⟩
theorem rerr_any (b : Nat) (l : List UInt8) (e : Int) (w : World) (h : Rr b l e w) : Calls Tryz.prog 47 #[.pointer (some ⟨b, 0, none⟩)] w fun r w' => r = .returned (.int .i64 e) ∧ w = w' := by
  have c1 := h.c1
  clear h
  go_enter Tryz.func47, Tryz.ntmps47
  go_wp2
  go_ret
  exact ⟨rfl, rfl⟩
/-- Done -/
def doneM (l : List UInt8) (e : Int) : Int := if e = 0 then (if l = [] then 0 else 4) else e
theorem str_eq_nil (l : List UInt8) : (str l).toList.isEmpty = decide (l = []) := by
  cases l with
  | nil => simp [str, ByteArray.toList_eq]
  | cons x l => simp [str, ByteArray.toList_eq]
theorem rdone_any (b : Nat) (l : List UInt8) (e : Int) (w : World) (h : Rr b l e w) : Calls Tryz.prog 48 #[.pointer (some ⟨b, 0, none⟩)] w fun r w' => r = .returned (.int .i64 (doneM l e)) ∧ w = w' := by
  have H := Lib.hid h
  have c0 := h.c0
  clear h
  by_cases he : e = 0
  · subst he
    have hn := str_eq_nil l
    by_cases hl : l = []
    · have HD := Lib.hid (show doneM l 0 = 0 by unfold doneM; rw [if_pos rfl, if_pos hl])
      rw [decide_eq_true hl] at hn
      clear hl
      go_enter Tryz.func48, Tryz.ntmps48
      go_wp2_with (go_at_call 47; (with_reducible refine (rerr_any b l 0 _ H.out).mono ?_); rintro r w1 ⟨rfl, rfl⟩)
      go_ret
      rw [HD.out]
      exact ⟨rfl, rfl⟩
    · have HD := Lib.hid (show doneM l 0 = 4 by unfold doneM; rw [if_pos rfl, if_neg hl])
      rw [decide_eq_false hl] at hn
      clear hl
      go_enter Tryz.func48, Tryz.ntmps48
      go_wp2_with (go_at_call 47; (with_reducible refine (rerr_any b l 0 _ H.out).mono ?_); rintro r w1 ⟨rfl, rfl⟩)
      go_ret
      rw [HD.out]
      exact ⟨rfl, rfl⟩
  · have HD := Lib.hid (show doneM l e = e by unfold doneM; rw [if_neg he])
    have h2 : (e == 0) = false := by simpa using he
    go_enter Tryz.func48, Tryz.ntmps48
    go_wp2_with (go_at_call 47; (with_reducible refine (rerr_any b l e _ H.out).mono ?_); rintro r w1 ⟨rfl, rfl⟩)
    go_ret
    rw [HD.out]
    exact ⟨rfl, rfl⟩
/-- Raw: the bytes, what is left, what was wrong -/
def rawM (l : List UInt8) (e n : Int) : List UInt8 × List UInt8 × Int := if e = 0 then (if n < 0 then ([], l, 1) else if (l.length : Int) < n then ([], l, 3) else (l.take n.toNat, l.drop n.toNat, 0)) else ([], l, e)
theorem rraw_any (b : Nat) (l : List UInt8) (e n : Int) (w : World) (h : Rr b l e w) : Calls Tryz.prog 86 #[.pointer (some ⟨b, 0, none⟩), .int .i64 n] w fun r w' => r = .returned (.string (str (rawM l e n).1)) ∧ Rk b (rawM l e n).2.1 (rawM l e n).2.2 w w' := by
  have H := Lib.hid h
  have c0 := h.c0
  have c1 := h.c1
  have z0 := blk_free h 0
  clear h
  by_cases he : e = 0
  · subst he
    by_cases h1 : n < 0
    · have HD := Lib.hid (show rawM l 0 n = ([], l, 1) by unfold rawM; rw [if_pos rfl, if_pos h1])
      clear c0 z0
      go_enter Tryz.func86, Tryz.ntmps86
      go_wp2_with (go_at_call 75; (with_reducible refine (rfail_any b l 0 1 _ H.out).mono ?_); rintro r w1 ⟨rfl, h3⟩; have H3 := Lib.hid h3; clear h3)
      go_ret
      rw [HD.out]
      exact ⟨rfl, H3.out⟩
    · have h1' : 0 ≤ n := by omega
      by_cases h2 : (l.length : Int) < n
      · have HD := Lib.hid (show rawM l 0 n = ([], l, 3) by unfold rawM; rw [if_pos rfl, if_neg h1, if_pos h2])
        have h3 : ((str l).size : Int) < n := by rw [str_sz]; exact h2
        clear z0
        go_enter Tryz.func86, Tryz.ntmps86
        go_wp2_with (go_at_call 75; (with_reducible refine (rfail_any b l 0 3 _ H.out).mono ?_); rintro r w1 ⟨rfl, h3⟩; have H3 := Lib.hid h3; clear h3)
        go_ret
        rw [HD.out]
        exact ⟨rfl, H3.out⟩
      · obtain ⟨k, rfl⟩ : ∃ k : Nat, n = (k : Int) := ⟨n.toNat, by omega⟩
        have HD := Lib.hid (show rawM l 0 k = (l.take k, l.drop k, 0) by unfold rawM; rw [if_pos rfl, if_neg h1, if_neg h2]; rfl)
        have h3 : ¬ ((str l).size : Int) < (k : Int) := by rw [str_sz]; exact h2
        have h4 : (k : Int) ≤ ((str l).size : Int) := by omega
        have e1 := str_take l k
        have e2 := str_drop l k
        go_enter Tryz.func86, Tryz.ntmps86
        go_wp2
        go_ret
        rw [HD.out]
        exact ⟨rfl, H.out.setS' _⟩
  · have HD := Lib.hid (show rawM l e n = ([], l, e) by unfold rawM; rw [if_neg he])
    have h2 : (e == 0) = false := by simpa using he
    clear c0 z0
    go_enter Tryz.func86, Tryz.ntmps86
    go_wp2
    go_ret
    rw [HD.out]
    exact ⟨rfl, Rk.refl H.out⟩
end Vr
end Go.Proofs.YtdcbbjlbfghpbaaGreat
