/-
  Joined texts: Lay Srt Col. Conditions: those that each theorem names.
-/
import Derived.Shelf.SlSortCmp.WholeK
import Derived.Shelf.SlGeneric
import Derived.Test.YtbeoclcnajfjcaaProg
import Derived.Test.YtbeoclcnajfjcaaTb
import Derived.Shelf.SlSortCmp.NoneTotal
import Derived.RangeFuncNested
import Derived.RangeFuncBox
import Derived.RangeFuncBound
import Derived.RangeFuncCalls
import Derived.RangeFuncLeaves
import Derived.Shelf.Abstract
import Derived.OwnWalkIn
import Derived.TacticsInMore
import Derived.LoopNIn
import Derived.LoopIn
import Derived.Maps.AppendAt
import Derived.Deep.WholeRow
/-
  slices.SortFunc at routes: the contract of the shelf laid at this program (numbers of functions and types). No condition.
-/
namespace Go.Proofs
open Go.Shelf
def Try.sortR_ren : Go.Shelf.Ren := ⟨fun | 6 => 51 | 15 => 67 | 14 => 66 | 28 => 79 | 29 => 80 | 20 => 71 | 21 => 72 | 22 => 73 | 23 => 74 | 24 => 75 | 25 => 76 | 26 => 77 | 27 => 78 | 46 => 82 | 47 => 83 | 48 => 84 | 49 => 85 | 50 => 86 | 57 => 87 | n => n, fun | 22 => 31 | 24 => 34 | 25 => 76 | 3 => 3 | 39 => 104 | 0 => 0 | 53 => 32 | 55 => 116 | 4 => 4 | 46 => 109 | 45 => 108 | 50 => 79 | 5 => 5 | 9 => 9 | 66 => 118 | 70 => 122 | 76 => 124 | 77 => 125 | n => n, fun | n => n⟩
theorem Try.sortR : Go.Proofs.SlLaysF0.n6 Try.prog Try.sortR_ren := {
  mixed := by kernel_rfl
  f6 := ⟨Try.f51.name, by decide, Try.func51.trans (congrArg some (by kernel_rfl))⟩
  f14 := ⟨Try.f66.name, by decide, Try.func66.trans (congrArg some (by kernel_rfl))⟩
  f15 := Try.func67.trans (congrArg some (by kernel_rfl))
  f20 := ⟨Try.f71.name, by decide, Try.func71.trans (congrArg some (by kernel_rfl))⟩
  f21 := ⟨Try.f72.name, by decide, Try.func72.trans (congrArg some (by kernel_rfl))⟩
  f22 := ⟨Try.f73.name, by decide, Try.func73.trans (congrArg some (by kernel_rfl))⟩
  f23 := ⟨Try.f74.name, by decide, Try.func74.trans (congrArg some (by kernel_rfl))⟩
  f24 := ⟨Try.f75.name, by decide, Try.func75.trans (congrArg some (by kernel_rfl))⟩
  f25 := ⟨Try.f76.name, by decide, Try.func76.trans (congrArg some (by kernel_rfl))⟩
  f26 := ⟨Try.f77.name, by decide, Try.func77.trans (congrArg some (by kernel_rfl))⟩
  f27 := ⟨Try.f78.name, by decide, Try.func78.trans (congrArg some (by kernel_rfl))⟩
  f28 := Try.func79.trans (congrArg some (by kernel_rfl))
  f29 := Try.func80.trans (congrArg some (by kernel_rfl))
  f46 := ⟨Try.f82.name, by decide, Try.func82.trans (congrArg some (by kernel_rfl))⟩
  f47 := Try.func83.trans (congrArg some (by kernel_rfl))
  f48 := Try.func84.trans (congrArg some (by kernel_rfl))
  f49 := ⟨Try.f85.name, by decide, Try.func85.trans (congrArg some (by kernel_rfl))⟩
  f50 := ⟨Try.f86.name, by decide, Try.func86.trans (congrArg some (by kernel_rfl))⟩
  f57 := ⟨Try.f87.name, by decide, Try.func87.trans (congrArg some (by kernel_rfl))⟩
  t0 := Try.underlying0
  a0 := Try.isAgg0
  z0 := Try.sizeOf0
  v0 := Try.zeroValue0
  t3 := Try.underlying3
  a3 := Try.isAgg3
  z3 := Try.sizeOf3
  v3 := Try.zeroValue3
  t4 := Try.underlying4
  a4 := Try.isAgg4
  z4 := Try.sizeOf4
  v4 := Try.zeroValue4
  t5 := Try.underlying5
  a5 := Try.isAgg5
  z5 := Try.sizeOf5
  v5 := Try.zeroValue5
  t9 := Try.underlying9
  a9 := Try.isAgg9
  z9 := Try.sizeOf9
  v9 := Try.zeroValue9
  t22 := Try.underlying31
  a22 := Try.isAgg31
  z22 := Try.sizeOf31
  v22 := Try.zeroValue31
  t25 := Try.underlying76
  a25 := Try.isAgg76
  z25 := Try.sizeOf76
  v25 := Try.zeroValue76
  t39 := Try.underlying104
  a39 := Try.isAgg104
  z39 := Try.sizeOf104
  v39 := Try.zeroValue104
  t45 := Try.underlying108
  a45 := Try.isAgg108
  z45 := Try.sizeOf108
  v45 := Try.zeroValue108
  t46 := Try.underlying109
  a46 := Try.isAgg109
  z46 := Try.sizeOf109
  v46 := Try.zeroValue109
  t50 := Try.underlying79
  a50 := Try.isAgg79
  z50 := Try.sizeOf79
  v50 := Try.zeroValue79
  t53 := Try.underlying32
  a53 := Try.isAgg32
  z53 := Try.sizeOf32
  v53 := Try.zeroValue32
  t55 := Try.underlying116
  a55 := Try.isAgg116
  z55 := Try.sizeOf116
  v55 := Try.zeroValue116
  t66 := Try.underlying118
  a66 := Try.isAgg118
  z66 := Try.sizeOf118
  v66 := Try.zeroValue118
  t70 := Try.underlying122
  a70 := Try.isAgg122
  z70 := Try.sizeOf122
  v70 := Try.zeroValue122
  t76 := Try.underlying124
  a76 := Try.isAgg124
  z76 := Try.sizeOf124
  v76 := Try.zeroValue124
  t77 := Try.underlying125
  a77 := Try.isAgg125
  z77 := Try.sizeOf125
  v77 := Try.zeroValue125 }
end Go.Proofs

/-
  Rows of routes; slices.SortFunc at routes. Conditions: those that each theorem names.
-/
namespace Go.Proofs.Ytbeoclcnajfjcaa
open Go Go.RowKit H2
set_option linter.unusedVariables false
set_option linter.unusedSimpArgs false
namespace Tab
def flat (L : List Rt) : List Value := L.flatMap encR
theorem flat_nil : flat [] = [] := rfl
theorem flat_cons (r : Rt) (L : List Rt) : flat (r :: L) = encR r ++ flat L := rfl
theorem flat_app (A B : List Rt) : flat (A ++ B) = flat A ++ flat B := by simp [flat]
theorem flat_one (r : Rt) : flat [r] = encR r := by simp [flat]
theorem flat_len : ∀ L : List Rt, (flat L).length = L.length * 20
  | [] => rfl
  | r :: L => by rw [flat_cons, List.length_append, encR_len, flat_len L, List.length_cons]; omega
theorem flat_get : ∀ (L : List Rt) (i j : Nat) (hi : i < L.length), j < 20 → (flat L)[i * 20 + j]? = (encR L[i])[j]?
  | [], _, _, hi, _ => by simp at hi
  | r :: L, 0, j, _, hj => by rw [flat_cons, Nat.zero_mul, Nat.zero_add, List.getElem?_append_left (by rw [encR_len]; exact hj)]; rfl
  | r :: L, i + 1, j, hi, hj => by
    rw [flat_cons, List.getElem?_append_right (by rw [encR_len]; omega), encR_len, show (i + 1) * 20 + j - 20 = i * 20 + j by omega, flat_get L i j (by simpa using hi) hj]
    rfl
theorem flat_take : ∀ (L : List Rt) (i : Nat), (flat L).take (i * 20) = flat (L.take i)
  | [], i => by simp [flat]
  | r :: L, 0 => by simp [flat]
  | r :: L, i + 1 => by
    rw [flat_cons, List.take_succ_cons, flat_cons, List.take_append, encR_len, show (i + 1) * 20 - 20 = i * 20 by omega, flat_take L i, List.take_of_length_le (by rw [encR_len]; omega)]
theorem flat_drop : ∀ (L : List Rt) (i : Nat), (flat L).drop (i * 20) = flat (L.drop i)
  | [], i => by simp [flat]
  | r :: L, 0 => by simp [flat]
  | r :: L, i + 1 => by
    rw [flat_cons, List.drop_succ_cons, List.drop_append, encR_len, show (i + 1) * 20 - 20 = i * 20 by omega, flat_drop L i, List.drop_of_length_le (by rw [encR_len]; omega), List.nil_append]
theorem flat_one' (L : List Rt) : ∀ v ∈ flat L, v.oneCell' = true := fun v hv => by
  obtain ⟨r, _, h⟩ := List.mem_flatMap.1 hv
  exact encR_one r v h
theorem flatK_eq (L : List Rt) : Sort.flatK encR 20 L.toArray = (flat L).toArray := by
  refine Sort.ext_get! (by simp [flat_len]) (fun t ht => ?_)
  have ht' : t < L.length * 20 := by simpa using ht
  rw [Sort.get_flatK _ _ _ _ (by simpa using ht')]
  have h1 : t / 20 < L.length := by omega
  have h2 := flat_get L (t / 20) (t % 20) h1 (Nat.mod_lt _ (by omega))
  rw [show t / 20 * 20 + t % 20 = t by omega] at h2
  have e1 : L.toArray[t / 20]! = L[t / 20] := by simp [h1]
  rw [e1]
  have h3 : t % 20 < (encR L[t / 20]).length := by rw [encR_len]; exact Nat.mod_lt _ (by omega)
  rw [List.getElem?_eq_getElem h3] at h2
  have h4 : t < (flat L).length := by rw [flat_len]; exact ht'
  have h5 := (List.getElem?_eq_some_iff.1 h2).2
  simp [h3, h4, h5]
def cfR (a b : Rt) : Int := cmpP a.to b.to
theorem ltOf_cf (a b : Rt) : ltOf cfR a b = decide (Lt a.to b.to) := rfl
theorem swo_cf : Sort.SWO (ltOf cfR) where
  irrefl x := by rw [ltOf_cf]; exact decide_eq_false (lt_irrefl _)
  trans x y z h k := by
    rw [ltOf_cf, decide_eq_true_iff] at *
    exact lt_trans h k
  ntrans x y z h k := by
    rw [ltOf_cf, decide_eq_false_iff_not] at *
    exact le_le k h
/-- more, and drawn -/
theorem grown_of_grew {w w' : World} (h : Grew w w') : ∃ q os, w' = Sort.grow (w.drewN q) os := by
  obtain ⟨⟨h1, h2, h3, h4, h5⟩, h6⟩ := h
  refine ⟨w'.drawn - w.drawn, w'.heap.extract w.heap.size w'.heap.size, ?_⟩
  cases w with
  | mk heap tape drawn os output =>
  cases w' with
  | mk heap' tape' drawn' os' output' =>
    simp only at h1 h2 h3 h4 h5 h6
    subst h1 h2 h3
    simp only [Sort.grow, World.drewN, World.mk.injEq, and_true, true_and]
    refine ⟨?_, by omega⟩
    apply Array.ext_getElem?
    intro i
    by_cases hi : i < heap.size
    · rw [Array.getElem?_append_left hi]; exact h5 i hi
    · rw [Array.getElem?_append_right (by omega), Array.getElem?_extract]
      by_cases h7 : i < heap'.size
      · rw [if_pos (by omega)]
        congr 1
        omega
      · rw [if_neg (by omega), Array.getElem?_eq_none (by omega)]
theorem cmpLays (blk off size : Nat) (w : World) : CmpLays Try.prog 39 #[] encR 20 cfR blk off size w :=
  fun _ _ _ _ x y => (new2_any x y _).mono fun _ _ ⟨he, hg⟩ => ⟨he, grown_of_grew hg⟩
theorem only_grow {S : Nat → Prop} {a w : World} (h : Only S a w) (os : Array Obj) : Only S a (Sort.grow w os) :=
  ⟨h.os, h.tape, h.output, Nat.le_trans h.size (by simp [Sort.grow]), fun i hi hn => by
    rw [← h.block i hi hn]
    show (w.heap ++ os)[i]? = w.heap[i]?
    rw [Array.getElem?_append_left (Nat.lt_of_lt_of_le hi h.size)]⟩
set_option maxHeartbeats 2000000 in
theorem sort_any (w : World) (base g cap : Nat) (L : List Rt) (h : w.ownsRow base 34 20 (.slice (some ⟨g, 0, none⟩) L.length cap) L.length (flat L)) (hn : L.length < 4611686018427387904) :
    Calls Try.prog 51 #[.slice (some ⟨g, 0, none⟩) L.length cap, .func (.func 39) #[] #[]] w fun e w' =>
      e = .returned (.tuple #[]) ∧ (∃ L' : List Rt, L'.Perm L ∧ L'.Pairwise (fun a b => ¬ Lt b.to a.to) ∧ w'.ownsRow base 34 20 (.slice (some ⟨g, 0, none⟩) L.length cap) L'.length (flat L')) ∧ Only (fun i => i = g) w w' := by
  rcases h.2 with ⟨h0, _⟩ | ⟨g', cap', cur, hv, hb, hh, hc, hm, hsz, ht⟩
  · cases h0
  simp only [Value.slice.injEq, Option.some.injEq, Addr.mk.injEq, and_true, true_and] at hv
  obtain ⟨rfl, rfl⟩ := hv
  have hH : Sort.HoldsK encR 20 w g 0 L.toArray := by
    intro j hj
    rw [flatK_eq] at hj ⊢
    have hj' : j < (flat L).length := by simpa using hj
    have e : (flat L).toArray[j]! = (flat L)[j] := by simp [hj']
    rw [Nat.zero_add, e]
    refine ⟨?_, blk_free hh j⟩
    rw [blk_cell hh j]
    have h1 : cur.toList[j]? = some (flat L)[j] := by
      have : (cur.toList.take (L.length * 20))[j]? = some (flat L)[j] := by rw [ht, List.getElem?_eq_getElem hj']
      rw [List.getElem?_take] at this
      split at this
      · exact this
      · cases this
    simpa using h1
  have eg : ∀ args w, (callFunc 39 args).run Try.prog w = .ok (.enter 39 args) w := enters_of Try.func39 (by kernel_rfl) rfl
  have hcon := AnyQ.slices_SortFunc Try.sortR 20 Try.isAgg34 Try.sizeOf34 encR encR_len encR_one cfR swo_cf 39 #[] g 0 cap L.toArray w eg (cmpLays g 0 _ w) hH (blk_lt hh) (by simpa using hn)
  rw [List.size_toArray] at hcon
  refine hcon.mono ?_
  rintro e w' ⟨rfl, d', n, os, hp, hs, rfl⟩
  have hsd : d'.size = L.length := by simpa using hp.1
  have hex : d'.extract 0 L.length = d' := by rw [← hsd]; exact Array.extract_size
  refine ⟨rfl, ⟨d'.toList, ?_, ?_, ?_⟩, ?_⟩
  · have := hp.2.2
    rw [hex] at this
    simpa using this
  · rw [List.pairwise_iff_getElem]
    intro i j hi hj hij
    have hj' : j < d'.size := by simpa using hj
    have hi' : i < d'.size := by simpa using hi
    have h1 := hs i j (Nat.zero_le _) hij (by omega)
    rw [ltOf_cf, decide_eq_false_iff_not, getElem!_pos d' j hj', getElem!_pos d' i hi'] at h1
    simpa using h1
  · refine ⟨by rw [flat_len], .inr ⟨g, cap, Sort.putCells id 0 (Sort.flatK encR 20 d') cur, by simp [hsd], hb, ?_, by simpa [hsd] using hc, hm, by simpa [Sort.putCells] using hsz, ?_⟩⟩
    · show (_ ++ os)[g]? = _
      rw [Array.getElem?_append_left (by show g < ((Sort.ahead w n).heap.modify _ _).size; rw [Array.size_modify]; exact blk_lt hh)]
      show ((w.heap.modify g _)[g]?) = _
      rw [Array.getElem?_modify, if_pos rfl, hh]
      rfl
    · have e : Sort.flatK encR 20 d' = (flat d'.toList).toArray := by rw [← flatK_eq]
      rw [e]
      apply List.ext_getElem?
      intro j
      rw [List.getElem?_take]
      have hl : (flat d'.toList).length = d'.size * 20 := by rw [flat_len]; simp
      split
      · rename_i hj
        have hj' : j < d'.size * 20 := by simpa using hj
        unfold Sort.putCells
        have hjc : j < cur.size := by
          have := Nat.mul_le_mul_right 20 hc
          omega
        rw [Array.getElem?_toList, Array.getElem?_mapIdx, Array.getElem?_eq_getElem hjc]
        simp [hl, hj', List.getElem?_eq_getElem (show j < (flat d'.toList).length by omega)]
      · rename_i hj
        rw [List.getElem?_eq_none]
        rw [hl]
        simp at hj
        omega
  · refine only_grow ?_ os
    exact ⟨rfl, rfl, rfl, by show w.heap.size ≤ (w.heap.modify g _).size; simp, fun i hi hn => by
      show (w.heap.modify g _)[i]? = _
      rw [Array.getElem?_modify, if_neg (fun e => hn e.symm)]⟩
theorem sort_none (p : Option Addr) (cap : Nat) (fv : Value) (w : World) : Calls Try.prog 51 #[.slice p 0 cap, fv] w fun e w' => e = .returned (.tuple #[]) ∧ w = w' :=
  (AnyF.slices_SortFunc_none Try.sortR p cap fv w).mono fun _ _ ⟨he, hw⟩ => ⟨he, hw.symm⟩
end Tab
end Go.Proofs.Ytbeoclcnajfjcaa

/-
  slices.Values, Collect, AppendSeq, SortedFunc at routes. Conditions: those that each theorem names.
-/
namespace Go.Proofs.Ytbeoclcnajfjcaa
open Go Go.RowKit H2
set_option linter.unusedVariables false
set_option linter.unusedSimpArgs false
namespace Tab
attribute [local go_sem] Oper.semAt_some
theorem wpListIn_row_run {F : Fence} {n : Nat} {P : Program} {ops : Array Oper} {rest : List Oper} {o : Oper} {a : Act} {w w' : World} {Q : Exit → Act → World → Prop} (hgd : o.guard = none) (t : TypeId) (k : Nat) (parts : Array (Nat × Operand)) (ho : o.op = .buildSlice t k parts) (vs : Array (Nat × Value)) (hv : (parts.map fun (i, x) => (i, a.eval x)) = vs) {v : Value}
    (hr : (Instr.buildSlice t k vs).run P w = .ok v w') (h : wpListIn F n P ops Q rest (a.put o.dst v) w') : wpListIn F n P ops Q (o :: rest) a w := by
  refine wpListIn_plain hgd fun K hK' => ?_
  subst hv
  unfold Oper.wpIn
  refine ⟨?_, ?_⟩
  · simp [Oper.about, ho]
  · rw [Oper.semAt_plain F _ _ (by rw [ho]; intro c hc'; cases hc')]
    simp only [execOp, ho, hr, Sem.run_bind, Result.andThen_ok, Sem.run_pure]
    exact hK' _ _ h
/-- a value that reads as a row of routes, in blocks below n₀ -/
def Rds (n₀ : Nat) (W : World) (v : Value) (L : List Rt) : Prop :=
  (∃ c, v = .slice none 0 c ∧ L = []) ∨ ∃ b off cap, v = .slice (some ⟨b, off, none⟩) L.length cap ∧ b < n₀ ∧ L.length ≤ cap ∧ At W b off (flat L)
theorem Rds.below {n₀ : Nat} {A B : World} (h : Below n₀ A B) {v : Value} {L : List Rt} : Rds n₀ A v L → Rds n₀ B v L
  | .inl e => .inl e
  | .inr ⟨b, off, cap, e, hb, hl, hc⟩ => .inr ⟨b, off, cap, e, hb, hl, fun j u hj => (h.cell (p := ⟨b, off + j, none⟩) hb).trans (hc j u hj)⟩
theorem At.row {w : World} {B o : Nat} {L : List Rt} (h : At w B o (flat L)) {i : Nat} (hi : i < L.length) : RAt w B (o + i * 20) L[i] := ⟨fun j u hj => by
  have hj20 : j < 20 := by
    have := (List.getElem?_eq_some_iff.1 hj).1
    rwa [encR_len] at this
  have := h (i * 20 + j) u (by rw [flat_get L i j hi hj20]; exact hj)
  rwa [← Nat.add_assoc] at this⟩
theorem store_new (w : World) (x : Rt) : Sem.run Try.prog (storeCells ⟨w.heap.size, 0, none⟩ (encR x) 0) (w.alloc (.cells (encR zR).toArray 34 (0, 0))) = .ok () (w.alloc (.cells (encR x).toArray 34 (0, 0))) := by
  have h := store_row (o := 0) (vs := encR x) (heap_alloc_new w (.cells (encR zR).toArray 34 (0, 0))) (by simp [encR_len]) (encR_one x) Try.prog
  rw [splice_whole (by simp [encR_len]), World.setRow_alloc_new] at h
  exact h
set_option maxRecDepth 100000 in
set_option maxHeartbeats 4000000 in
theorem values1_in (F : Fence) (n : Nat) (hF : F.fn 52) (hro : F.round = none) (hn : 1 ≤ n) (l Bs n₀ b off cap : Nat) (L : List Rt) (hreach : L.length ≤ 1000000) (hb : b < n₀) (J Jx : List Rt → World → Prop)
    (hJ : ∀ pre W o, J pre W → J pre (W.alloc o)) (W : World) (hn₀ : n₀ ≤ W.heap.size)
    (hY : ∀ pre x W1, J pre W1 → pre.length < L.length → YieldAt F (n - 1) Try.prog l #[.agg (encR x).toArray] W1 fun e W' =>
      (e = .returned (.bool true) ∧ J (pre ++ [x]) W' ∧ Below n₀ W1 W') ∨ (e = .returned (.bool false) ∧ Jx (pre ++ [x]) W'))
    (hBs : W.cell? ⟨Bs, 0, none⟩ = some (.slice (some ⟨b, off, none⟩) L.length cap)) (hc : At W b off (flat L)) (h0 : J [] W) :
    CallsIn F n Try.prog 52 #[.func (.yield l) #[] #[], .pointer (some ⟨Bs, 0, none⟩)] W fun e W' => (∃ v, e = .returned v) ∧
      (J L W' ∨ (∃ pre, pre <+: L ∧ Jx pre W')) := by
  have HC := Lib.hid hc
  clear hc
  refine callsIn_of_wp Try.func52 rfl hF ?_ hro
  simp only [Try.ntmps52, List.size_toArray, List.length_cons, List.length_nil, Nat.reduceAdd, Nat.reduceSub, Array.replicate_succ, Array.replicate_zero, List.push_toArray, List.append_toArray, List.nil_append, List.cons_append]
  gi_wp2
  gi_loopw [7] (fun i wr => ∃ k : Nat, k ≤ L.length ∧ i = .int .i64 k ∧ J (L.take k) wr ∧ Below n₀ W wr) (fun i _ => L.length - (intOf i).toNat)
  case atStart => exact ⟨0, Nat.zero_le _, rfl, h0, Below.refl _ _⟩
  case round =>
    obtain ⟨k, hk, rfl, hJs, hnx⟩ := hrel
    by_cases hlt : k < L.length
    · have hcx := ((show At wr b off (flat L) from fun j u hj => (hnx.cell (p := ⟨b, off + j, none⟩) hb).trans (HC.out j u hj)).row hlt).all.load (k := n20) (encR_n _) Try.prog
      have hcx2 : Sem.run Try.prog (loadCellsFrom ⟨b, off + k * n20, none⟩ 0 n20 #[]) wr = .ok (encR L[k]).toArray wr := hcx
      have hst := store_new wr L[k]
      have hld := (rAt_new wr L[k] 34 (0, 0)).all.load (k := n20) (encR_n _) Try.prog
      have HT := Lib.hid (List.take_append_getElem hlt)
      have HW := Lib.hid (hnx.alloc (Nat.le_trans hn₀ hnx.size) (.cells (encR L[k]).toArray 34 (0, 0)))
      clear hcx hnx
      obtain ⟨fn, tmps, assign, body, hy, hR⟩ := hY _ L[k] (wr.alloc (.cells (encR L[k]).toArray 34 (0, 0))) (hJ _ _ _ hJs) (by rw [List.length_take]; omega)
      gi_wp2
      refine hR.mono ?_
      rintro e W3 (⟨rfl, hJ3, hk3⟩ | ⟨rfl, hJx3⟩)
      · rw [HT.out] at hJ3
        gi_wp2
        go_roundw
        case rel => exact ⟨k + 1, by omega, by go_num, hJ3, HW.out.trans hk3⟩
        case measure => simp [intOf]; omega
      · rw [HT.out] at hJx3
        gi_wp2
        refine bodyPost_ret (results_none rfl _ _ _) rfl ?_
        exact ⟨⟨_, rfl⟩, .inr ⟨_, List.take_prefix _ _, hJx3⟩⟩
    · obtain rfl : k = L.length := by omega
      rw [List.take_length] at hJs
      gi_wp2
      go_end0
      exact ⟨⟨_, rfl⟩, .inl hJs⟩
end Tab
end Go.Proofs.Ytbeoclcnajfjcaa
