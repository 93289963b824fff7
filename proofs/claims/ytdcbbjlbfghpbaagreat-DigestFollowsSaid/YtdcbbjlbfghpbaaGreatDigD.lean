/-
  Digest: Differ. Conditions: those that each theorem names.
-/
import Derived.Test.YtdcbbjlbfghpbaaGreatDc
import Derived.Test.YtdcbbjlbfghpbaaGreatDigQ
import Derived.Test.YtdcbbjlbfghpbaaGreatDg
namespace Go.Proofs.YtdcbbjlbfghpbaaGreat
open Go Go.RowKit H2
set_option linter.unusedVariables false
set_option linter.unusedSimpArgs false
namespace Dig
open Tab Byt
attribute [local simp 10000] szG
attribute [local go_sem] encG_n n2_ne
attribute [local go_sem 10000] neqG
def encN (l : List Int) : List Value := l.map fun i => .int .i64 i
structure Gn (wl w : World) (v : Value) (D : List Int) : Prop where
  own : w.ownsRow wl.heap.size 3 1 v D.length (encN D)
  bel : Below wl.heap.size wl w
theorem Gn.below {wl w w' : World} {v : Value} {D : List Int} (h : Gn wl w v D) (hb : Below w.heap.size w w') : Gn wl w' v D := ⟨own_below h.own hb, h.bel.trans (hb.mono h.bel.size)⟩
theorem gn_nil (wl : World) : Gn wl wl (.slice none 0 0) [] := ⟨World.ownsRow_nil _ _ _ _, Below.refl _ _⟩
theorem infoN : ∃ i0 : TypeInfo, Tryz.prog.info? 3 = some i0 ∧ i0.zero = some (.int .i64 0) ∧ i0.size = 1 ∧ i0.bytes = 8 := by
  cases h : Tryz.prog.info? 3 with
  | none => exact absurd h (by have : (Tryz.prog.info? 3).isSome = true := by kernel_rfl
                               intro e; rw [e] at this; cases this)
  | some i =>
    have e : (Tryz.prog.info? 3).map (fun i => (i.zero, i.size, i.bytes)) = some (some (.int .i64 0), 1, 8) := by kernel_rfl
    rw [h] at e
    simp only [Option.map_some, Option.some.injEq, Prod.mk.injEq] at e
    exact ⟨i, rfl, e.1, e.2.1, e.2.2⟩
theorem wpList_appN {ops : Array Oper} {rest : List Oper} {o : Oper} {a : Act} {wl W : World} {Q : Exit → Act → World → Prop} (hgd : o.guard = none) (s x : Operand) (ho : o.op = .call { callee := .builtin .append, args := #[s, x], argTypes := #[49, 49] }) (v : Value) (D : List Int) (i : Int)
    (hs : a.eval s = v) (hx : a.eval x = .slice (some ⟨W.heap.size, 0, none⟩) 1 1) (h : Gn wl W v D) (hl : D.length ≤ 10000)
    (hK : ∀ v' w', Gn wl w' v' (D ++ [i]) → (∃ A n k, v' = .slice A n k) → wpList Tryz.prog ops Q rest (a.put o.dst v') w') : wpList Tryz.prog ops Q (o :: rest) a (W.alloc (.cells #[.int .i64 i] 3 (0, 0))) := by
  have hal := h.below ((Below.refl W.heap.size W).alloc (Nat.le_refl _) (.cells #[.int .i64 i] 3 (0, 0)))
  obtain ⟨i0, hi, hz0, hz1, hz2⟩ := infoN
  obtain ⟨v', w', hrun, h1, h2, _⟩ := run_append_own (P := Tryz.prog) (W.alloc (.cells #[.int .i64 i] 3 (0, 0))) wl.heap.size 49 o.type 3 i0 _ 1 8 Tryz.underlying49 hi hz0 hz1 hz2 (by simp [Value.cells]) (by omega) v D.length (encN D) hal.own ⟨W.heap.size, 0, none⟩ 1 1 (encN [i]) (by simp [encN]) (fun j u hj => by
    have : j = 0 := by have := (List.getElem?_eq_some_iff.1 hj).1; simp [encN] at this; omega
    subst this
    simp [encN] at hj
    subst hj
    exact (blk_cell (heap_alloc_new W _) 0).trans rfl) (fun u hu => by simp [encN] at hu; subst hu; rfl) (by unfold maxLen; omega) (by omega) hal.bel.size
  have hg : Gn wl w' v' (D ++ [i]) := ⟨by rw [List.length_append]; simpa [encN] using h1, ((Only.refl (fun k => v.ownBlock = some k) wl).of_below hal.bel).grown h2 (fun k hk _ => hk) |>.below (Nat.le_refl _) (fun k hk e => by
    rcases h.own.2 with ⟨rfl, _⟩ | ⟨g, cap, cur, rfl, hg, _⟩
    · cases e
    · simp only [Value.ownBlock, Option.some.injEq] at e
      omega)⟩
  refine Tab.wpList_append_run hgd s x 49 ho _ _ hs hx hrun (hK v' w' hg ?_)
  rcases h1.2 with ⟨rfl, _⟩ | ⟨g, cap, cur, rfl, _⟩
  · exact ⟨_, _, _, rfl⟩
  · exact ⟨_, _, _, rfl⟩
/-- the ranges below k that differ -/
def difs (n m : Nat) (F G : Dg) (k : Nat) : List Int := ((List.range k).filter fun i => decide (¬ (n = 17 ∧ m = 17 ∧ F i = G i))).map fun (i : Nat) => (i : Int)
theorem difs_step (n m : Nat) (F G : Dg) (k : Nat) : difs n m F G (k + 1) = difs n m F G k ++ (if ¬ (n = 17 ∧ m = 17 ∧ F k = G k) then [(k : Int)] else []) := by
  unfold difs
  rw [List.range_succ, List.filter_append, List.map_append]
  congr 1
  by_cases h : n = 17 ∧ m = 17 ∧ F k = G k
  · rw [if_neg (fun e => e h)]; simp [h]
  · rw [if_pos h, List.filter_cons, if_pos (decide_eq_true h), List.filter_nil]; rfl
theorem difs_len (n m : Nat) (F G : Dg) (k : Nat) : (difs n m F G k).length ≤ k := by
  unfold difs
  rw [List.length_map]
  exact Nat.le_trans (List.length_filter_le _ _) (by simp)
set_option maxRecDepth 100000 in
set_option maxHeartbeats 8000000 in
theorem differ_any (A B : Option Addr) (n m cap cap' : Nat) (F G : Dg) (w : World) (ha : RdG w A n F) (hb : RdG w B m G) :
    Calls Tryz.prog 14 #[.slice A n cap, .slice B m cap'] w fun e w' => ∃ v', e = .returned v' ∧ Gn w w' v' (difs n m F G 17) := by
  have HA := Lib.hid ha
  have HG := Lib.hid hb
  clear ha hb
  go_enter Tryz.func14, Tryz.ntmps14
  go_wp2
  go_loopw [4, 6] (fun s4 s6 wr => ∃ i : Nat, i ≤ 17 ∧ s6 = .int .i64 i ∧ Gn w wr s4 (difs n m F G i) ∧ (∃ x y z, s4 = .slice x y z)) (fun _ s6 _ => 17 - (intOf s6).toNat)
  case atStart => exact ⟨0, by omega, rfl, gn_nil w, _, _, _, rfl⟩
  case round =>
    obtain ⟨i, hi, rfl, hg, x4, y4, z4, rfl⟩ := hrel
    have HN := Lib.hid hg
    have HL := Lib.hid (show (difs n m F G i).length ≤ 10000 from Nat.le_trans (difs_len n m F G i) (by omega))
    have HS := Lib.hid (difs_step n m F G i)
    clear hg
    by_cases hlt : i < 17
    · have hlt' : (i : Int) < 17 := by omega
      have i0 : (0 : Int) ≤ (i : Int) := by omega
      have HND := Lib.hid (HN.out.below (Below.refl _ _).drew)
      by_cases h1 : n = 17
      · have h1' : (n : Int) = 17 := by omega
        by_cases h2 : m = 17
        · subst h1
          subst h2
          obtain ⟨b1, o1, rfl, x1, x2⟩ := HA.out i hlt
          obtain ⟨b2, o2, rfl, y1, y2⟩ := HG.out i hlt
          have HX4 := Lib.hid (show At _ b1 (o1 + i * n2) (encG (F i)) ∧ At _ b2 (o2 + i * n2) (encG (G i)) from ⟨at_g (later HND.out.bel x1) (later HND.out.bel x2), at_g (later HND.out.bel y1) (later HND.out.bel y2)⟩)
          clear x1 x2 y1 y2
          obtain ⟨p, hp⟩ : ∃ p, F i = p := ⟨_, rfl⟩
          obtain ⟨q, hq⟩ : ∃ q, G i = q := ⟨_, rfl⟩
          have HE := Lib.hid (show F i = G i ↔ p = q by rw [hp, hq])
          rw [hp, hq] at HX4
          clear hp hq h1'
          obtain ⟨y, hy⟩ : ∃ y, decide (p = q) = y := ⟨_, rfl⟩
          have HY := Lib.hid hy
          clear hy
          cases y with
          | true =>
            have HX := Lib.hid (show ¬ ¬ ((17 : Nat) = 17 ∧ (17 : Nat) = 17 ∧ F i = G i) from fun e => e ⟨rfl, rfl, HE.out.2 (of_decide_eq_true HY.out)⟩)
            have HT := Lib.hid (show difs 17 17 F G (i + 1) = difs 17 17 F G i by rw [HS.out, if_neg HX.out, List.append_nil])
            go_upto_region 4 with fail
            refine wp_region_held_drew (S := (fun w' => At w' b1 (o1 + i * n2) (encG p) ∧ At w' b2 (o2 + i * n2) (encG q))) (by kernel_rfl) HX4.out (fun _ => ?_)
            refine held_take 0 9 (v := ?_) rfl rfl (by kernel_rfl) (by kernel_rfl) (by kernel_rfl) (fun _ _ _ h => h) (by rfl) ?_ HX4.out ?_
            rotate_left
            · (intro w hSw; (try dsimp only at hSw); have r1 := hSw.1.load (k := n2) (encG_n _) Tryz.prog; have r2 := hSw.2.load (k := n2) (encG_n _) Tryz.prog; have q5 := HY.out; clear hSw;try simp only [List.getElem_toArray, List.getElem_cons_zero, List.getElem_cons_succ]; go_simp; try (with_reducible rfl))
            try simp only [List.setIfInBounds_toArray, List.set_cons_zero, List.set_cons_succ]
            refine held_call 1 10 rfl rfl (by kernel_rfl) (by rfl) (fun K hK => ?_)
            try simp only [List.getElem_toArray, List.getElem_cons_zero, List.getElem_cons_succ]
            (go_simp)
            try simp only [Act.put, List.setIfInBounds_toArray, List.set_cons_zero, List.set_cons_succ]
            refine hK.out _ _ _ HX4.out ?_
            clear hK K
            refine held_take 2 11 (v := ?_) rfl rfl (by kernel_rfl) (by kernel_rfl) (by kernel_rfl) (fun _ _ _ h => h) (by rfl) ?_ HX4.out ?_
            rotate_left
            · (intro w hSw; (try dsimp only at hSw); have r1 := hSw.1.load (k := n2) (encG_n _) Tryz.prog; have r2 := hSw.2.load (k := n2) (encG_n _) Tryz.prog; have q5 := HY.out; clear hSw;try simp only [List.getElem_toArray, List.getElem_cons_zero, List.getElem_cons_succ]; go_simp; try (with_reducible rfl))
            try simp only [List.setIfInBounds_toArray, List.set_cons_zero, List.set_cons_succ]
            refine held_take 3 12 (v := ?_) rfl rfl (by kernel_rfl) (by kernel_rfl) (by kernel_rfl) (fun _ _ _ h => h) (by rfl) ?_ HX4.out ?_
            rotate_left
            · (intro w hSw; (try dsimp only at hSw); have r1 := hSw.1.load (k := n2) (encG_n _) Tryz.prog; have r2 := hSw.2.load (k := n2) (encG_n _) Tryz.prog; have q5 := HY.out; clear hSw;try simp only [List.getElem_toArray, List.getElem_cons_zero, List.getElem_cons_succ]; go_simp; try (with_reducible rfl))
            try simp only [List.setIfInBounds_toArray, List.set_cons_zero, List.set_cons_succ]
            refine held_take 4 13 (v := ?_) rfl rfl (by kernel_rfl) (by kernel_rfl) (by kernel_rfl) (fun _ _ _ h => h) (by rfl) ?_ HX4.out ?_
            rotate_left
            · (intro w hSw; (try dsimp only at hSw); have r1 := hSw.1.load (k := n2) (encG_n _) Tryz.prog; have r2 := hSw.2.load (k := n2) (encG_n _) Tryz.prog; have q5 := HY.out; clear hSw;try simp only [List.getElem_toArray, List.getElem_cons_zero, List.getElem_cons_succ]; go_simp; try (with_reducible rfl))
            try simp only [List.setIfInBounds_toArray, List.set_cons_zero, List.set_cons_succ]
            refine held_call 5 14 rfl rfl (by kernel_rfl) (by rfl) (fun K hK => ?_)
            try simp only [List.getElem_toArray, List.getElem_cons_zero, List.getElem_cons_succ]
            (go_simp)
            try simp only [Act.put, List.setIfInBounds_toArray, List.set_cons_zero, List.set_cons_succ]
            refine hK.out _ _ _ HX4.out ?_
            clear hK K
            refine held_take 6 15 (v := ?_) rfl rfl (by kernel_rfl) (by kernel_rfl) (by kernel_rfl) (fun _ _ _ h => h) (by rfl) ?_ HX4.out ?_
            rotate_left
            · (intro w hSw; (try dsimp only at hSw); have r1 := hSw.1.load (k := n2) (encG_n _) Tryz.prog; have r2 := hSw.2.load (k := n2) (encG_n _) Tryz.prog; have q5 := HY.out; clear hSw;try simp only [List.getElem_toArray, List.getElem_cons_zero, List.getElem_cons_succ]; go_simp; try (with_reducible rfl))
            try simp only [List.setIfInBounds_toArray, List.set_cons_zero, List.set_cons_succ]
            refine held_take 7 16 (v := ?_) rfl rfl (by kernel_rfl) (by kernel_rfl) (by kernel_rfl) (fun _ _ _ h => h) (by rfl) ?_ HX4.out ?_
            rotate_left
            · (intro w hSw; (try dsimp only at hSw); have r1 := hSw.1.load (k := n2) (encG_n _) Tryz.prog; have r2 := hSw.2.load (k := n2) (encG_n _) Tryz.prog; have q5 := HY.out; clear hSw;try simp only [List.getElem_toArray, List.getElem_cons_zero, List.getElem_cons_succ]; go_simp; try (with_reducible rfl))
            try simp only [List.setIfInBounds_toArray, List.set_cons_zero, List.set_cons_succ]
            refine held_take 8 17 (v := ?_) rfl rfl (by kernel_rfl) (by kernel_rfl) (by kernel_rfl) (fun _ _ _ h => h) (by rfl) ?_ HX4.out ?_
            rotate_left
            · (intro w hSw; (try dsimp only at hSw); have r1 := hSw.1.load (k := n2) (encG_n _) Tryz.prog; have r2 := hSw.2.load (k := n2) (encG_n _) Tryz.prog; have q5 := HY.out; clear hSw;try simp only [List.getElem_toArray, List.getElem_cons_zero, List.getElem_cons_succ]; go_simp; try (with_reducible rfl))
            try simp only [List.setIfInBounds_toArray, List.set_cons_zero, List.set_cons_succ]
            refine held_take 9 18 (v := ?_) rfl rfl (by kernel_rfl) (by kernel_rfl) (by kernel_rfl) (fun _ _ _ h => h) (by rfl) ?_ HX4.out ?_
            rotate_left
            · (intro w hSw; (try dsimp only at hSw); have r1 := hSw.1.load (k := n2) (encG_n _) Tryz.prog; have r2 := hSw.2.load (k := n2) (encG_n _) Tryz.prog; have q5 := HY.out; clear hSw;try simp only [List.getElem_toArray, List.getElem_cons_zero, List.getElem_cons_succ]; go_simp; try (with_reducible rfl))
            try simp only [List.setIfInBounds_toArray, List.set_cons_zero, List.set_cons_succ]
            refine held_take 10 19 (v := ?_) rfl rfl (by kernel_rfl) (by kernel_rfl) (by kernel_rfl) (fun _ _ _ h => h) (by rfl) ?_ HX4.out ?_
            rotate_left
            · (intro w hSw; (try dsimp only at hSw); have r1 := hSw.1.load (k := n2) (encG_n _) Tryz.prog; have r2 := hSw.2.load (k := n2) (encG_n _) Tryz.prog; have q5 := HY.out; clear hSw;try simp only [List.getElem_toArray, List.getElem_cons_zero, List.getElem_cons_succ]; go_simp; try (with_reducible rfl))
            try simp only [List.setIfInBounds_toArray, List.set_cons_zero, List.set_cons_succ]
            refine held_take 11 20 (v := ?_) rfl rfl (by kernel_rfl) (by kernel_rfl) (by kernel_rfl) (fun _ _ _ h => h) (by rfl) ?_ HX4.out ?_
            rotate_left
            · (intro w hSw; (try dsimp only at hSw); have r1 := hSw.1.load (k := n2) (encG_n _) Tryz.prog; have r2 := hSw.2.load (k := n2) (encG_n _) Tryz.prog; have q5 := HY.out; clear hSw;try simp only [List.getElem_toArray, List.getElem_cons_zero, List.getElem_cons_succ]; go_simp; try (with_reducible rfl))
            try simp only [List.setIfInBounds_toArray, List.set_cons_zero, List.set_cons_succ]
            refine held_take 12 21 (v := ?_) rfl rfl (by kernel_rfl) (by kernel_rfl) (by kernel_rfl) (fun _ _ _ h => h) (by rfl) ?_ HX4.out ?_
            rotate_left
            · (intro w hSw; (try dsimp only at hSw); have r1 := hSw.1.load (k := n2) (encG_n _) Tryz.prog; have r2 := hSw.2.load (k := n2) (encG_n _) Tryz.prog; have q5 := HY.out; clear hSw;try simp only [List.getElem_toArray, List.getElem_cons_zero, List.getElem_cons_succ]; go_simp; try (with_reducible rfl))
            try simp only [List.setIfInBounds_toArray, List.set_cons_zero, List.set_cons_succ]
            refine held_take 13 22 (v := ?_) rfl rfl (by kernel_rfl) (by kernel_rfl) (by kernel_rfl) (fun _ _ _ h => h) (by rfl) ?_ HX4.out ?_
            rotate_left
            · (intro w hSw; (try dsimp only at hSw); have r1 := hSw.1.load (k := n2) (encG_n _) Tryz.prog; have r2 := hSw.2.load (k := n2) (encG_n _) Tryz.prog; have q5 := HY.out; clear hSw;try simp only [List.getElem_toArray, List.getElem_cons_zero, List.getElem_cons_succ]; go_simp; try (with_reducible rfl))
            try simp only [List.setIfInBounds_toArray, List.set_cons_zero, List.set_cons_succ]
            refine held_take 14 23 (v := ?_) rfl rfl (by kernel_rfl) (by kernel_rfl) (by kernel_rfl) (fun _ _ _ h => h) (by rfl) ?_ HX4.out ?_
            rotate_left
            · (intro w hSw; (try dsimp only at hSw); have r1 := hSw.1.load (k := n2) (encG_n _) Tryz.prog; have r2 := hSw.2.load (k := n2) (encG_n _) Tryz.prog; have q5 := HY.out; clear hSw;try simp only [List.getElem_toArray, List.getElem_cons_zero, List.getElem_cons_succ]; go_simp; try (with_reducible rfl))
            try simp only [List.setIfInBounds_toArray, List.set_cons_zero, List.set_cons_succ]
            refine held_take 15 24 (v := ?_) rfl rfl (by kernel_rfl) (by kernel_rfl) (by kernel_rfl) (fun _ _ _ h => h) (by rfl) ?_ HX4.out ?_
            rotate_left
            · (intro w hSw; (try dsimp only at hSw); have r1 := hSw.1.load (k := n2) (encG_n _) Tryz.prog; have r2 := hSw.2.load (k := n2) (encG_n _) Tryz.prog; have q5 := HY.out; clear hSw;try simp only [List.getElem_toArray, List.getElem_cons_zero, List.getElem_cons_succ]; go_simp; try (with_reducible rfl))
            try simp only [List.setIfInBounds_toArray, List.set_cons_zero, List.set_cons_succ]
            refine held_take 16 25 (v := ?_) rfl rfl (by kernel_rfl) (by kernel_rfl) (by kernel_rfl) (fun _ _ _ h => h) (by rfl) ?_ HX4.out ?_
            rotate_left
            · (intro w hSw; (try dsimp only at hSw); have r1 := hSw.1.load (k := n2) (encG_n _) Tryz.prog; have r2 := hSw.2.load (k := n2) (encG_n _) Tryz.prog; have q5 := HY.out; clear hSw;try simp only [List.getElem_toArray, List.getElem_cons_zero, List.getElem_cons_succ]; go_simp; try (with_reducible rfl))
            try simp only [List.setIfInBounds_toArray, List.set_cons_zero, List.set_cons_succ]
            refine held_take 17 26 (v := ?_) rfl rfl (by kernel_rfl) (by kernel_rfl) (by kernel_rfl) (fun _ _ _ h => h) (by rfl) ?_ HX4.out ?_
            rotate_left
            · (intro w hSw; (try dsimp only at hSw); have r1 := hSw.1.load (k := n2) (encG_n _) Tryz.prog; have r2 := hSw.2.load (k := n2) (encG_n _) Tryz.prog; have q5 := HY.out; clear hSw;try simp only [List.getElem_toArray, List.getElem_cons_zero, List.getElem_cons_succ]; go_simp; try (with_reducible rfl))
            try simp only [List.setIfInBounds_toArray, List.set_cons_zero, List.set_cons_succ]
            refine held_take 18 27 (v := ?_) rfl rfl (by kernel_rfl) (by kernel_rfl) (by kernel_rfl) (fun _ _ _ h => h) (by rfl) ?_ HX4.out ?_
            rotate_left
            · (intro w hSw; (try dsimp only at hSw); have r1 := hSw.1.load (k := n2) (encG_n _) Tryz.prog; have r2 := hSw.2.load (k := n2) (encG_n _) Tryz.prog; have q5 := HY.out; clear hSw;try simp only [List.getElem_toArray, List.getElem_cons_zero, List.getElem_cons_succ]; go_simp; try (with_reducible rfl))
            try simp only [List.setIfInBounds_toArray, List.set_cons_zero, List.set_cons_succ]
            refine wpAnyH_done (by kernel_rfl) ?_ _
            go_wp2
            go_roundw
            case rel => exact ⟨i + 1, by omega, by go_num, by rw [HT.out]; exact HND.out, _, _, _, rfl⟩
            case measure => simp [intOf]; omega
          | false =>
            have HX := Lib.hid (show ¬ ((17 : Nat) = 17 ∧ (17 : Nat) = 17 ∧ F i = G i) from fun e => of_decide_eq_false HY.out (HE.out.1 e.2.2))
            have HT := Lib.hid (show difs 17 17 F G (i + 1) = difs 17 17 F G i ++ [(i : Int)] by rw [HS.out, if_pos HX.out])
            go_upto_region 4 with fail
            refine wp_region_held_drew (S := (fun w' => At w' b1 (o1 + i * n2) (encG p) ∧ At w' b2 (o2 + i * n2) (encG q))) (by kernel_rfl) HX4.out (fun _ => ?_)
            refine held_take 0 9 (v := ?_) rfl rfl (by kernel_rfl) (by kernel_rfl) (by kernel_rfl) (fun _ _ _ h => h) (by rfl) ?_ HX4.out ?_
            rotate_left
            · (intro w hSw; (try dsimp only at hSw); have r1 := hSw.1.load (k := n2) (encG_n _) Tryz.prog; have r2 := hSw.2.load (k := n2) (encG_n _) Tryz.prog; have q5 := HY.out; clear hSw;try simp only [List.getElem_toArray, List.getElem_cons_zero, List.getElem_cons_succ]; go_simp; try (with_reducible rfl))
            try simp only [List.setIfInBounds_toArray, List.set_cons_zero, List.set_cons_succ]
            refine held_call 1 10 rfl rfl (by kernel_rfl) (by rfl) (fun K hK => ?_)
            try simp only [List.getElem_toArray, List.getElem_cons_zero, List.getElem_cons_succ]
            (go_simp)
            try simp only [Act.put, List.setIfInBounds_toArray, List.set_cons_zero, List.set_cons_succ]
            refine hK.out _ _ _ HX4.out ?_
            clear hK K
            refine held_take 2 11 (v := ?_) rfl rfl (by kernel_rfl) (by kernel_rfl) (by kernel_rfl) (fun _ _ _ h => h) (by rfl) ?_ HX4.out ?_
            rotate_left
            · (intro w hSw; (try dsimp only at hSw); have r1 := hSw.1.load (k := n2) (encG_n _) Tryz.prog; have r2 := hSw.2.load (k := n2) (encG_n _) Tryz.prog; have q5 := HY.out; clear hSw;try simp only [List.getElem_toArray, List.getElem_cons_zero, List.getElem_cons_succ]; go_simp; try (with_reducible rfl))
            try simp only [List.setIfInBounds_toArray, List.set_cons_zero, List.set_cons_succ]
            refine held_take 3 12 (v := ?_) rfl rfl (by kernel_rfl) (by kernel_rfl) (by kernel_rfl) (fun _ _ _ h => h) (by rfl) ?_ HX4.out ?_
            rotate_left
            · (intro w hSw; (try dsimp only at hSw); have r1 := hSw.1.load (k := n2) (encG_n _) Tryz.prog; have r2 := hSw.2.load (k := n2) (encG_n _) Tryz.prog; have q5 := HY.out; clear hSw;try simp only [List.getElem_toArray, List.getElem_cons_zero, List.getElem_cons_succ]; go_simp; try (with_reducible rfl))
            try simp only [List.setIfInBounds_toArray, List.set_cons_zero, List.set_cons_succ]
            refine held_take 4 13 (v := ?_) rfl rfl (by kernel_rfl) (by kernel_rfl) (by kernel_rfl) (fun _ _ _ h => h) (by rfl) ?_ HX4.out ?_
            rotate_left
            · (intro w hSw; (try dsimp only at hSw); have r1 := hSw.1.load (k := n2) (encG_n _) Tryz.prog; have r2 := hSw.2.load (k := n2) (encG_n _) Tryz.prog; have q5 := HY.out; clear hSw;try simp only [List.getElem_toArray, List.getElem_cons_zero, List.getElem_cons_succ]; go_simp; try (with_reducible rfl))
            try simp only [List.setIfInBounds_toArray, List.set_cons_zero, List.set_cons_succ]
            refine held_call 5 14 rfl rfl (by kernel_rfl) (by rfl) (fun K hK => ?_)
            try simp only [List.getElem_toArray, List.getElem_cons_zero, List.getElem_cons_succ]
            (go_simp)
            try simp only [Act.put, List.setIfInBounds_toArray, List.set_cons_zero, List.set_cons_succ]
            refine hK.out _ _ _ HX4.out ?_
            clear hK K
            refine held_take 6 15 (v := ?_) rfl rfl (by kernel_rfl) (by kernel_rfl) (by kernel_rfl) (fun _ _ _ h => h) (by rfl) ?_ HX4.out ?_
            rotate_left
            · (intro w hSw; (try dsimp only at hSw); have r1 := hSw.1.load (k := n2) (encG_n _) Tryz.prog; have r2 := hSw.2.load (k := n2) (encG_n _) Tryz.prog; have q5 := HY.out; clear hSw;try simp only [List.getElem_toArray, List.getElem_cons_zero, List.getElem_cons_succ]; go_simp; try (with_reducible rfl))
            try simp only [List.setIfInBounds_toArray, List.set_cons_zero, List.set_cons_succ]
            refine held_take 7 16 (v := ?_) rfl rfl (by kernel_rfl) (by kernel_rfl) (by kernel_rfl) (fun _ _ _ h => h) (by rfl) ?_ HX4.out ?_
            rotate_left
            · (intro w hSw; (try dsimp only at hSw); have r1 := hSw.1.load (k := n2) (encG_n _) Tryz.prog; have r2 := hSw.2.load (k := n2) (encG_n _) Tryz.prog; have q5 := HY.out; clear hSw;try simp only [List.getElem_toArray, List.getElem_cons_zero, List.getElem_cons_succ]; go_simp; try (with_reducible rfl))
            try simp only [List.setIfInBounds_toArray, List.set_cons_zero, List.set_cons_succ]
            refine held_take 8 17 (v := ?_) rfl rfl (by kernel_rfl) (by kernel_rfl) (by kernel_rfl) (fun _ _ _ h => h) (by rfl) ?_ HX4.out ?_
            rotate_left
            · (intro w hSw; (try dsimp only at hSw); have r1 := hSw.1.load (k := n2) (encG_n _) Tryz.prog; have r2 := hSw.2.load (k := n2) (encG_n _) Tryz.prog; have q5 := HY.out; clear hSw;try simp only [List.getElem_toArray, List.getElem_cons_zero, List.getElem_cons_succ]; go_simp; try (with_reducible rfl))
            try simp only [List.setIfInBounds_toArray, List.set_cons_zero, List.set_cons_succ]
            refine held_take 9 18 (v := ?_) rfl rfl (by kernel_rfl) (by kernel_rfl) (by kernel_rfl) (fun _ _ _ h => h) (by rfl) ?_ HX4.out ?_
            rotate_left
            · (intro w hSw; (try dsimp only at hSw); have r1 := hSw.1.load (k := n2) (encG_n _) Tryz.prog; have r2 := hSw.2.load (k := n2) (encG_n _) Tryz.prog; have q5 := HY.out; clear hSw;try simp only [List.getElem_toArray, List.getElem_cons_zero, List.getElem_cons_succ]; go_simp; try (with_reducible rfl))
            try simp only [List.setIfInBounds_toArray, List.set_cons_zero, List.set_cons_succ]
            refine held_take 10 19 (v := ?_) rfl rfl (by kernel_rfl) (by kernel_rfl) (by kernel_rfl) (fun _ _ _ h => h) (by rfl) ?_ HX4.out ?_
            rotate_left
            · (intro w hSw; (try dsimp only at hSw); have r1 := hSw.1.load (k := n2) (encG_n _) Tryz.prog; have r2 := hSw.2.load (k := n2) (encG_n _) Tryz.prog; have q5 := HY.out; clear hSw;try simp only [List.getElem_toArray, List.getElem_cons_zero, List.getElem_cons_succ]; go_simp; try (with_reducible rfl))
            try simp only [List.setIfInBounds_toArray, List.set_cons_zero, List.set_cons_succ]
            refine held_take 11 20 (v := ?_) rfl rfl (by kernel_rfl) (by kernel_rfl) (by kernel_rfl) (fun _ _ _ h => h) (by rfl) ?_ HX4.out ?_
            rotate_left
            · (intro w hSw; (try dsimp only at hSw); have r1 := hSw.1.load (k := n2) (encG_n _) Tryz.prog; have r2 := hSw.2.load (k := n2) (encG_n _) Tryz.prog; have q5 := HY.out; clear hSw;try simp only [List.getElem_toArray, List.getElem_cons_zero, List.getElem_cons_succ]; go_simp; try (with_reducible rfl))
            try simp only [List.setIfInBounds_toArray, List.set_cons_zero, List.set_cons_succ]
            refine held_take 12 21 (v := ?_) rfl rfl (by kernel_rfl) (by kernel_rfl) (by kernel_rfl) (fun _ _ _ h => h) (by rfl) ?_ HX4.out ?_
            rotate_left
            · (intro w hSw; (try dsimp only at hSw); have r1 := hSw.1.load (k := n2) (encG_n _) Tryz.prog; have r2 := hSw.2.load (k := n2) (encG_n _) Tryz.prog; have q5 := HY.out; clear hSw;try simp only [List.getElem_toArray, List.getElem_cons_zero, List.getElem_cons_succ]; go_simp; try (with_reducible rfl))
            try simp only [List.setIfInBounds_toArray, List.set_cons_zero, List.set_cons_succ]
            refine held_take 13 22 (v := ?_) rfl rfl (by kernel_rfl) (by kernel_rfl) (by kernel_rfl) (fun _ _ _ h => h) (by rfl) ?_ HX4.out ?_
            rotate_left
            · (intro w hSw; (try dsimp only at hSw); have r1 := hSw.1.load (k := n2) (encG_n _) Tryz.prog; have r2 := hSw.2.load (k := n2) (encG_n _) Tryz.prog; have q5 := HY.out; clear hSw;try simp only [List.getElem_toArray, List.getElem_cons_zero, List.getElem_cons_succ]; go_simp; try (with_reducible rfl))
            try simp only [List.setIfInBounds_toArray, List.set_cons_zero, List.set_cons_succ]
            refine held_take 14 23 (v := ?_) rfl rfl (by kernel_rfl) (by kernel_rfl) (by kernel_rfl) (fun _ _ _ h => h) (by rfl) ?_ HX4.out ?_
            rotate_left
            · (intro w hSw; (try dsimp only at hSw); have r1 := hSw.1.load (k := n2) (encG_n _) Tryz.prog; have r2 := hSw.2.load (k := n2) (encG_n _) Tryz.prog; have q5 := HY.out; clear hSw;try simp only [List.getElem_toArray, List.getElem_cons_zero, List.getElem_cons_succ]; go_simp; try (with_reducible rfl))
            try simp only [List.setIfInBounds_toArray, List.set_cons_zero, List.set_cons_succ]
            refine held_take 15 24 (v := ?_) rfl rfl (by kernel_rfl) (by kernel_rfl) (by kernel_rfl) (fun _ _ _ h => h) (by rfl) ?_ HX4.out ?_
            rotate_left
            · (intro w hSw; (try dsimp only at hSw); have r1 := hSw.1.load (k := n2) (encG_n _) Tryz.prog; have r2 := hSw.2.load (k := n2) (encG_n _) Tryz.prog; have q5 := HY.out; clear hSw;try simp only [List.getElem_toArray, List.getElem_cons_zero, List.getElem_cons_succ]; go_simp; try (with_reducible rfl))
            try simp only [List.setIfInBounds_toArray, List.set_cons_zero, List.set_cons_succ]
            refine held_take 16 25 (v := ?_) rfl rfl (by kernel_rfl) (by kernel_rfl) (by kernel_rfl) (fun _ _ _ h => h) (by rfl) ?_ HX4.out ?_
            rotate_left
            · (intro w hSw; (try dsimp only at hSw); have r1 := hSw.1.load (k := n2) (encG_n _) Tryz.prog; have r2 := hSw.2.load (k := n2) (encG_n _) Tryz.prog; have q5 := HY.out; clear hSw;try simp only [List.getElem_toArray, List.getElem_cons_zero, List.getElem_cons_succ]; go_simp; try (with_reducible rfl))
            try simp only [List.setIfInBounds_toArray, List.set_cons_zero, List.set_cons_succ]
            refine held_take 17 26 (v := ?_) rfl rfl (by kernel_rfl) (by kernel_rfl) (by kernel_rfl) (fun _ _ _ h => h) (by rfl) ?_ HX4.out ?_
            rotate_left
            · (intro w hSw; (try dsimp only at hSw); have r1 := hSw.1.load (k := n2) (encG_n _) Tryz.prog; have r2 := hSw.2.load (k := n2) (encG_n _) Tryz.prog; have q5 := HY.out; clear hSw;try simp only [List.getElem_toArray, List.getElem_cons_zero, List.getElem_cons_succ]; go_simp; try (with_reducible rfl))
            try simp only [List.setIfInBounds_toArray, List.set_cons_zero, List.set_cons_succ]
            refine held_take 18 27 (v := ?_) rfl rfl (by kernel_rfl) (by kernel_rfl) (by kernel_rfl) (fun _ _ _ h => h) (by rfl) ?_ HX4.out ?_
            rotate_left
            · (intro w hSw; (try dsimp only at hSw); have r1 := hSw.1.load (k := n2) (encG_n _) Tryz.prog; have r2 := hSw.2.load (k := n2) (encG_n _) Tryz.prog; have q5 := HY.out; clear hSw;try simp only [List.getElem_toArray, List.getElem_cons_zero, List.getElem_cons_succ]; go_simp; try (with_reducible rfl))
            try simp only [List.setIfInBounds_toArray, List.set_cons_zero, List.set_cons_succ]
            refine wpAnyH_done (by kernel_rfl) ?_ _
            generalize wr.drew = W4 at HND ⊢
            go_wp2_with (refine wpList_appN rfl (.tmp 28) (.tmp 30) rfl _ _ (i : Int) rfl rfl HND.out HL.out ?_; rintro v7 w7 h7 ⟨x7, y7, z7, rfl⟩; have H7 := Lib.hid h7; clear h7)
            go_roundw
            case rel => exact ⟨i + 1, by omega, by go_num, by rw [HT.out]; exact H7.out, _, _, _, rfl⟩
            case measure => simp [intOf]; omega
        · have HX := Lib.hid (show ¬ (n = 17 ∧ m = 17 ∧ F i = G i) from fun e => h2 e.2.1)
          have g2 : ¬ (m : Int) = 17 := by omega
          have g3 : decide ((m : Int) = 17) = false := decide_eq_false g2
          have g4 : ((m : Int) == 17) = false := by simpa using g2
          have g5 : ((m : Int) != 17) = true := by simpa using g2
          have g6 : decide (¬ (m : Int) = 17) = true := decide_eq_true g2
          subst h1
          go_upto_region 4 with fail
          refine wp_region_held_drew (S := (fun _ => True)) (by kernel_rfl) trivial (fun _ => ?_)
          refine held_take 0 9 (v := ?_) rfl rfl (by kernel_rfl) (by kernel_rfl) (by kernel_rfl) (fun _ _ _ h => h) (by rfl) ?_ trivial ?_
          rotate_left
          · (intro w hSw; (try dsimp only at hSw); try simp only [List.getElem_toArray, List.getElem_cons_zero, List.getElem_cons_succ]; go_simp; try (with_reducible rfl))
          try simp only [List.setIfInBounds_toArray, List.set_cons_zero, List.set_cons_succ]
          refine held_call 1 10 rfl rfl (by kernel_rfl) (by rfl) (fun K hK => ?_)
          try simp only [List.getElem_toArray, List.getElem_cons_zero, List.getElem_cons_succ]
          (go_simp)
          try simp only [Act.put, List.setIfInBounds_toArray, List.set_cons_zero, List.set_cons_succ]
          refine hK.out _ _ _ trivial ?_
          clear hK K
          refine held_take 2 11 (v := ?_) rfl rfl (by kernel_rfl) (by kernel_rfl) (by kernel_rfl) (fun _ _ _ h => h) (by rfl) ?_ trivial ?_
          rotate_left
          · (intro w hSw; (try dsimp only at hSw); try simp only [List.getElem_toArray, List.getElem_cons_zero, List.getElem_cons_succ]; go_simp; try (with_reducible rfl))
          try simp only [List.setIfInBounds_toArray, List.set_cons_zero, List.set_cons_succ]
          refine held_take 3 12 (v := ?_) rfl rfl (by kernel_rfl) (by kernel_rfl) (by kernel_rfl) (fun _ _ _ h => h) (by rfl) ?_ trivial ?_
          rotate_left
          · (intro w hSw; (try dsimp only at hSw); try simp only [List.getElem_toArray, List.getElem_cons_zero, List.getElem_cons_succ]; go_simp; try (with_reducible rfl))
          try simp only [List.setIfInBounds_toArray, List.set_cons_zero, List.set_cons_succ]
          refine held_take 4 13 (v := ?_) rfl rfl (by kernel_rfl) (by kernel_rfl) (by kernel_rfl) (fun _ _ _ h => h) (by rfl) ?_ trivial ?_
          rotate_left
          · (intro w hSw; (try dsimp only at hSw); try simp only [List.getElem_toArray, List.getElem_cons_zero, List.getElem_cons_succ]; go_simp; try (with_reducible rfl))
          try simp only [List.setIfInBounds_toArray, List.set_cons_zero, List.set_cons_succ]
          refine held_call 5 14 rfl rfl (by kernel_rfl) (by rfl) (fun K hK => ?_)
          try simp only [List.getElem_toArray, List.getElem_cons_zero, List.getElem_cons_succ]
          (go_simp)
          try simp only [Act.put, List.setIfInBounds_toArray, List.set_cons_zero, List.set_cons_succ]
          refine hK.out _ _ _ trivial ?_
          clear hK K
          refine held_take 6 15 (v := ?_) rfl rfl (by kernel_rfl) (by kernel_rfl) (by kernel_rfl) (fun _ _ _ h => h) (by rfl) ?_ trivial ?_
          rotate_left
          · (intro w hSw; (try dsimp only at hSw); try simp only [List.getElem_toArray, List.getElem_cons_zero, List.getElem_cons_succ]; go_simp; try (with_reducible rfl))
          try simp only [List.setIfInBounds_toArray, List.set_cons_zero, List.set_cons_succ]
          refine held_take 7 16 (v := ?_) rfl rfl (by kernel_rfl) (by kernel_rfl) (by kernel_rfl) (fun _ _ _ h => h) (by rfl) ?_ trivial ?_
          rotate_left
          · (intro w hSw; (try dsimp only at hSw); try simp only [List.getElem_toArray, List.getElem_cons_zero, List.getElem_cons_succ]; go_simp; try (with_reducible rfl))
          try simp only [List.setIfInBounds_toArray, List.set_cons_zero, List.set_cons_succ]
          refine held_take 8 17 (v := ?_) rfl rfl (by kernel_rfl) (by kernel_rfl) (by kernel_rfl) (fun _ _ _ h => h) (by rfl) ?_ trivial ?_
          rotate_left
          · (intro w hSw; (try dsimp only at hSw); try simp only [List.getElem_toArray, List.getElem_cons_zero, List.getElem_cons_succ]; go_simp; try (with_reducible rfl))
          try simp only [List.setIfInBounds_toArray, List.set_cons_zero, List.set_cons_succ]
          refine held_skip 9 18 rfl rfl (by kernel_rfl) (by kernel_rfl) (by kernel_rfl) (fun _ _ _ h => h) (by rfl) trivial ?_
          try simp only [List.setIfInBounds_toArray, List.set_cons_zero, List.set_cons_succ]
          refine held_skip 10 19 rfl rfl (by kernel_rfl) (by kernel_rfl) (by kernel_rfl) (fun _ _ _ h => h) (by rfl) trivial ?_
          try simp only [List.setIfInBounds_toArray, List.set_cons_zero, List.set_cons_succ]
          refine held_skip 11 20 rfl rfl (by kernel_rfl) (by kernel_rfl) (by kernel_rfl) (fun _ _ _ h => h) (by rfl) trivial ?_
          try simp only [List.setIfInBounds_toArray, List.set_cons_zero, List.set_cons_succ]
          refine held_skip 12 21 rfl rfl (by kernel_rfl) (by kernel_rfl) (by kernel_rfl) (fun _ _ _ h => h) (by rfl) trivial ?_
          try simp only [List.setIfInBounds_toArray, List.set_cons_zero, List.set_cons_succ]
          refine held_skip 13 22 rfl rfl (by kernel_rfl) (by kernel_rfl) (by kernel_rfl) (fun _ _ _ h => h) (by rfl) trivial ?_
          try simp only [List.setIfInBounds_toArray, List.set_cons_zero, List.set_cons_succ]
          refine held_skip 14 23 rfl rfl (by kernel_rfl) (by kernel_rfl) (by kernel_rfl) (fun _ _ _ h => h) (by rfl) trivial ?_
          try simp only [List.setIfInBounds_toArray, List.set_cons_zero, List.set_cons_succ]
          refine held_skip 15 24 rfl rfl (by kernel_rfl) (by kernel_rfl) (by kernel_rfl) (fun _ _ _ h => h) (by rfl) trivial ?_
          try simp only [List.setIfInBounds_toArray, List.set_cons_zero, List.set_cons_succ]
          refine held_skip 16 25 rfl rfl (by kernel_rfl) (by kernel_rfl) (by kernel_rfl) (fun _ _ _ h => h) (by rfl) trivial ?_
          try simp only [List.setIfInBounds_toArray, List.set_cons_zero, List.set_cons_succ]
          refine held_skip 17 26 rfl rfl (by kernel_rfl) (by kernel_rfl) (by kernel_rfl) (fun _ _ _ h => h) (by rfl) trivial ?_
          try simp only [List.setIfInBounds_toArray, List.set_cons_zero, List.set_cons_succ]
          refine held_take 18 27 (v := ?_) rfl rfl (by kernel_rfl) (by kernel_rfl) (by kernel_rfl) (fun _ _ _ h => h) (by rfl) ?_ trivial ?_
          rotate_left
          · (intro w hSw; (try dsimp only at hSw); try simp only [List.getElem_toArray, List.getElem_cons_zero, List.getElem_cons_succ]; go_simp; try (with_reducible rfl))
          try simp only [List.setIfInBounds_toArray, List.set_cons_zero, List.set_cons_succ]
          refine wpAnyH_done (by kernel_rfl) ?_ _
          have HT := Lib.hid (show difs 17 m F G (i + 1) = difs 17 m F G i ++ [(i : Int)] by rw [HS.out, if_pos HX.out])
          generalize wr.drew = W4 at HND ⊢
          go_wp2_with (refine wpList_appN rfl (.tmp 28) (.tmp 30) rfl _ _ (i : Int) rfl rfl HND.out HL.out ?_; rintro v7 w7 h7 ⟨x7, y7, z7, rfl⟩; have H7 := Lib.hid h7; clear h7)
          go_roundw
          case rel => exact ⟨i + 1, by omega, by go_num, by rw [HT.out]; exact H7.out, _, _, _, rfl⟩
          case measure => simp [intOf]; omega
      · have HX := Lib.hid (show ¬ (n = 17 ∧ m = 17 ∧ F i = G i) from fun e => h1 e.1)
        have g2 : ¬ (n : Int) = 17 := by omega
        have g3 : decide ((n : Int) = 17) = false := decide_eq_false g2
        have g4 : ((n : Int) == 17) = false := by simpa using g2
        have g5 : ((n : Int) != 17) = true := by simpa using g2
        have g6 : decide (¬ (n : Int) = 17) = true := decide_eq_true g2
        go_upto_region 4 with fail
        refine wp_region_held_drew (S := (fun _ => True)) (by kernel_rfl) trivial (fun _ => ?_)
        refine held_take 0 9 (v := ?_) rfl rfl (by kernel_rfl) (by kernel_rfl) (by kernel_rfl) (fun _ _ _ h => h) (by rfl) ?_ trivial ?_
        rotate_left
        · (intro w hSw; (try dsimp only at hSw); try simp only [List.getElem_toArray, List.getElem_cons_zero, List.getElem_cons_succ]; go_simp; try (with_reducible rfl))
        try simp only [List.setIfInBounds_toArray, List.set_cons_zero, List.set_cons_succ]
        refine held_call 1 10 rfl rfl (by kernel_rfl) (by rfl) (fun K hK => ?_)
        try simp only [List.getElem_toArray, List.getElem_cons_zero, List.getElem_cons_succ]
        (go_simp)
        try simp only [Act.put, List.setIfInBounds_toArray, List.set_cons_zero, List.set_cons_succ]
        refine hK.out _ _ _ trivial ?_
        clear hK K
        refine held_take 2 11 (v := ?_) rfl rfl (by kernel_rfl) (by kernel_rfl) (by kernel_rfl) (fun _ _ _ h => h) (by rfl) ?_ trivial ?_
        rotate_left
        · (intro w hSw; (try dsimp only at hSw); try simp only [List.getElem_toArray, List.getElem_cons_zero, List.getElem_cons_succ]; go_simp; try (with_reducible rfl))
        try simp only [List.setIfInBounds_toArray, List.set_cons_zero, List.set_cons_succ]
        refine held_take 3 12 (v := ?_) rfl rfl (by kernel_rfl) (by kernel_rfl) (by kernel_rfl) (fun _ _ _ h => h) (by rfl) ?_ trivial ?_
        rotate_left
        · (intro w hSw; (try dsimp only at hSw); try simp only [List.getElem_toArray, List.getElem_cons_zero, List.getElem_cons_succ]; go_simp; try (with_reducible rfl))
        try simp only [List.setIfInBounds_toArray, List.set_cons_zero, List.set_cons_succ]
        refine held_skip 4 13 rfl rfl (by kernel_rfl) (by kernel_rfl) (by kernel_rfl) (fun _ _ _ h => h) (by rfl) trivial ?_
        try simp only [List.setIfInBounds_toArray, List.set_cons_zero, List.set_cons_succ]
        refine held_skip 5 14 rfl rfl (by kernel_rfl) (by kernel_rfl) (by kernel_rfl) (fun _ _ _ h => h) (by rfl) trivial ?_
        try simp only [List.setIfInBounds_toArray, List.set_cons_zero, List.set_cons_succ]
        refine held_skip 6 15 rfl rfl (by kernel_rfl) (by kernel_rfl) (by kernel_rfl) (fun _ _ _ h => h) (by rfl) trivial ?_
        try simp only [List.setIfInBounds_toArray, List.set_cons_zero, List.set_cons_succ]
        refine held_take 7 16 (v := ?_) rfl rfl (by kernel_rfl) (by kernel_rfl) (by kernel_rfl) (fun _ _ _ h => h) (by rfl) ?_ trivial ?_
        rotate_left
        · (intro w hSw; (try dsimp only at hSw); try simp only [List.getElem_toArray, List.getElem_cons_zero, List.getElem_cons_succ]; go_simp; try (with_reducible rfl))
        try simp only [List.setIfInBounds_toArray, List.set_cons_zero, List.set_cons_succ]
        refine held_take 8 17 (v := ?_) rfl rfl (by kernel_rfl) (by kernel_rfl) (by kernel_rfl) (fun _ _ _ h => h) (by rfl) ?_ trivial ?_
        rotate_left
        · (intro w hSw; (try dsimp only at hSw); try simp only [List.getElem_toArray, List.getElem_cons_zero, List.getElem_cons_succ]; go_simp; try (with_reducible rfl))
        try simp only [List.setIfInBounds_toArray, List.set_cons_zero, List.set_cons_succ]
        refine held_skip 9 18 rfl rfl (by kernel_rfl) (by kernel_rfl) (by kernel_rfl) (fun _ _ _ h => h) (by rfl) trivial ?_
        try simp only [List.setIfInBounds_toArray, List.set_cons_zero, List.set_cons_succ]
        refine held_skip 10 19 rfl rfl (by kernel_rfl) (by kernel_rfl) (by kernel_rfl) (fun _ _ _ h => h) (by rfl) trivial ?_
        try simp only [List.setIfInBounds_toArray, List.set_cons_zero, List.set_cons_succ]
        refine held_skip 11 20 rfl rfl (by kernel_rfl) (by kernel_rfl) (by kernel_rfl) (fun _ _ _ h => h) (by rfl) trivial ?_
        try simp only [List.setIfInBounds_toArray, List.set_cons_zero, List.set_cons_succ]
        refine held_skip 12 21 rfl rfl (by kernel_rfl) (by kernel_rfl) (by kernel_rfl) (fun _ _ _ h => h) (by rfl) trivial ?_
        try simp only [List.setIfInBounds_toArray, List.set_cons_zero, List.set_cons_succ]
        refine held_skip 13 22 rfl rfl (by kernel_rfl) (by kernel_rfl) (by kernel_rfl) (fun _ _ _ h => h) (by rfl) trivial ?_
        try simp only [List.setIfInBounds_toArray, List.set_cons_zero, List.set_cons_succ]
        refine held_skip 14 23 rfl rfl (by kernel_rfl) (by kernel_rfl) (by kernel_rfl) (fun _ _ _ h => h) (by rfl) trivial ?_
        try simp only [List.setIfInBounds_toArray, List.set_cons_zero, List.set_cons_succ]
        refine held_skip 15 24 rfl rfl (by kernel_rfl) (by kernel_rfl) (by kernel_rfl) (fun _ _ _ h => h) (by rfl) trivial ?_
        try simp only [List.setIfInBounds_toArray, List.set_cons_zero, List.set_cons_succ]
        refine held_skip 16 25 rfl rfl (by kernel_rfl) (by kernel_rfl) (by kernel_rfl) (fun _ _ _ h => h) (by rfl) trivial ?_
        try simp only [List.setIfInBounds_toArray, List.set_cons_zero, List.set_cons_succ]
        refine held_skip 17 26 rfl rfl (by kernel_rfl) (by kernel_rfl) (by kernel_rfl) (fun _ _ _ h => h) (by rfl) trivial ?_
        try simp only [List.setIfInBounds_toArray, List.set_cons_zero, List.set_cons_succ]
        refine held_take 18 27 (v := ?_) rfl rfl (by kernel_rfl) (by kernel_rfl) (by kernel_rfl) (fun _ _ _ h => h) (by rfl) ?_ trivial ?_
        rotate_left
        · (intro w hSw; (try dsimp only at hSw); try simp only [List.getElem_toArray, List.getElem_cons_zero, List.getElem_cons_succ]; go_simp; try (with_reducible rfl))
        try simp only [List.setIfInBounds_toArray, List.set_cons_zero, List.set_cons_succ]
        refine wpAnyH_done (by kernel_rfl) ?_ _
        have HT := Lib.hid (show difs n m F G (i + 1) = difs n m F G i ++ [(i : Int)] by rw [HS.out, if_pos HX.out])
        generalize wr.drew = W4 at HND ⊢
        go_wp2_with (refine wpList_appN rfl (.tmp 28) (.tmp 30) rfl _ _ (i : Int) rfl rfl HND.out HL.out ?_; rintro v7 w7 h7 ⟨x7, y7, z7, rfl⟩; have H7 := Lib.hid h7; clear h7)
        go_roundw
        case rel => exact ⟨i + 1, by omega, by go_num, by rw [HT.out]; exact H7.out, _, _, _, rfl⟩
        case measure => simp [intOf]; omega
    · obtain rfl : i = 17 := by omega
      rw [show ((17 : Nat) : Int) = 17 from rfl]
      go_wp2
      go_ret
      exact ⟨_, rfl, HN.out⟩
end Dig
end Go.Proofs.YtdcbbjlbfghpbaaGreat
