/-
  Joined texts: RouteA DigE BytB Lay Srt Col. Conditions: those that each theorem names.
-/
import Derived.Test.YtdcbbjlbfghpbaaGreatMakeA
import Derived.Laws.IdiomStrings
import Derived.Test.YtdcbbjlbfghpbaaGreatDa
import Derived.Below
import Derived.ArgAppend
import Derived.Lib.ConvBytes
import Derived.Laws.BytesString
import Derived.Laws.BytesArg
import Derived.Laws.OwnMore
import Derived.Shelf.SlSortCmp.WholeK
import Derived.Shelf.SlGeneric
import Derived.Test.YtdcbbjlbfghpbaaGreatProg
import Derived.Test.YtdcbbjlbfghpbaaGreatDb
import Derived.Shelf.SlSortCmp.NoneTotal
import Derived.RangeFuncNested
import Derived.RangeFuncBox
import Derived.RangeFuncBound
import Derived.RangeFuncCalls
import Derived.RangeFuncLeaves
import Derived.Shelf.Abstract
import Derived.OwnWalkIn
import Derived.TacticsInMore
import Derived.LoopNIn
import Derived.LoopIn
import Derived.Maps.AppendAt
import Derived.Deep.WholeRow
/-
  The digest laws' route. Conditions: those that each theorem names.
-/
namespace Go.Proofs.YtdcbbjlbfghpbaaGreat
open Go Go.RowKit H2
set_option linter.unusedVariables false
set_option linter.unusedSimpArgs false
namespace Dig
open Tab
/-- the prefix of one byte -/
def px (k : UInt8) : Pf := ⟨false, #v[k, 0, 0, 0, 0, 0, 0, 0, 0, 0, 0, 0, 0, 0, 0, 0], 8⟩
def rx (k : UInt8) (m : Int) : Rt := ⟨px k, m, 0⟩
set_option maxRecDepth 100000 in
set_option maxHeartbeats 8000000 in
theorem route_any (a : UInt8) (m : Int) (w : World) : Calls Tryz.prog 13 #[.int .i64 a.toNat, .int .i64 m] w fun e w' => e = .returned (.agg (encR (rx a m)).toArray) ∧ Below w.heap.size w w' := by
  have HMK := Lib.hid (fun W => make_any a W)
  have ha : a.toNat < 256 := a.toNat_lt
  have hw : IntKind.u8.wrap (a.toNat : Int) = (a.toNat : Int) := by simp [IntKind.wrap, IntKind.bits, IntKind.signed]; omega
  have HUP := Lib.hid (show upto a 8 = px a by
    unfold upto hi px
    rw [show a.toNat / 2 ^ (8 - 8) * 2 ^ (8 - 8) = a.toNat by simp, UInt8.ofNat_toNat])
  have HRX := Lib.hid (show rx a m = ⟨px a, m, 0⟩ from rfl)
  rw [HRX.out, ← HUP.out]
  clear HUP HRX
  generalize upto a 8 = p at HMK ⊢
  go_enter Tryz.func13, Tryz.ntmps13
  go_upto_region 1 with fail
  have HB4 := Lib.hid (heap_alloc_new w (.cells (encR zR).toArray 36 (0, 0)))
  have hb := Lib.hid (show Below w.heap.size w (w.alloc (.cells (encR zR).toArray 36 (0, 0))) from (Below.refl _ _).alloc (Nat.le_refl _) _)
  have HLT := Lib.hid (show w.heap.size < (w.alloc (.cells (encR zR).toArray 36 (0, 0))).heap.size by simp)
  generalize w.alloc _ = W at HB4 hb HLT ⊢
  obtain ⟨B4, hB4⟩ : ∃ b, w.heap.size = b := ⟨_, rfl⟩
  have HL4 := Lib.hid (show w.heap.size ≤ B4 by rw [hB4]; exact Nat.le_refl _)
  rw [hB4] at HB4 HLT ⊢
  clear hB4
  have hcv : (convert 87 9 (.slice (some ⟨W.heap.size, 0, none⟩) 4 4)).run Tryz.prog (W.alloc (.cells #[.int .u8 (a.toNat : Int), .int .u8 0, .int .u8 0, .int .u8 0] 5)) = .ok (.string ⟨#[a, 0, 0, 0]⟩) (W.alloc (.cells #[.int .u8 (a.toNat : Int), .int .u8 0, .int .u8 0, .int .u8 0] 5)) := run_convert_bytes_back (P := Tryz.prog) (W.alloc (.cells #[.int .u8 (a.toNat : Int), .int .u8 0, .int .u8 0, .int .u8 0] 5)) 87 9 5 ⟨W.heap.size, 0, none⟩ 4 [a, 0, 0, 0] Tryz.underlying87 Tryz.underlying5 Tryz.underlying9 (by
    intro j hj
    rw [Addr.add_lit, Nat.zero_add, blk_cell (heap_alloc_new W _)]
    rcases (show j = 0 ∨ j = 1 ∨ j = 2 ∨ j = 3 by simp at hj; omega) with rfl | rfl | rfl | rfl <;> rfl)
  have hb2 := Lib.hid (hb.out.alloc hb.out.size (.cells #[.int .u8 (a.toNat : Int), .int .u8 0, .int .u8 0, .int .u8 0] 5))
  have HB42 := Lib.hid (((Below.refl _ W).alloc (Nat.le_refl _) (.cells #[.int .u8 (a.toNat : Int), .int .u8 0, .int .u8 0, .int .u8 0] 5)).block B4 HLT.out |>.trans HB4.out)
  go_upto_region 2 with (go_at_call 40; (with_reducible refine (HMK.out _).mono ?_); rintro e w3 ⟨rfl, hb3⟩; clear hcv; have HB4 := Lib.hid ((hb3.block B4 (blk_lt HB42.out)).trans HB42.out); have hb := Lib.hid (hb2.out.trans (hb3.mono hb2.out.size)); clear hb3; have hst := store_row (o := 0) (vs := encP p) (heap_alloc_new w3 (.cells (encP zP).toArray 33 (0, 0))) (by simp [encP_len]) (encP_one _) Tryz.prog; rw [splice_whole (by simp [encP_len])] at hst)
  clear hst
  have HB5 := Lib.hid (setRow_heap (w3.alloc (.cells (encP zP).toArray 33 (0, 0))) w3.heap.size _ (encP p).toArray 33 (0, 0) (heap_alloc_new w3 _))
  have HB6 := Lib.hid (show ((w3.alloc (.cells (encP zP).toArray 33 (0, 0))).setRow w3.heap.size (encP p).toArray).heap[B4]? = some (.cells (encR zR).toArray 36 (0, 0)) from
    (setRow_other _ w3.heap.size B4 _ (by have := blk_lt HB4.out; omega)).trans (((Below.refl _ w3).alloc (Nat.le_refl _) _).block B4 (blk_lt HB4.out) |>.trans HB4.out))
  have hb7 := Lib.hid (below_setRow (hb.out.alloc hb.out.size (.cells (encP zP).toArray 33 (0, 0))) hb.out.size (encP p).toArray)
  generalize w3.heap.size = B5 at HB5 HB6 hb7 ⊢
  generalize (w3.alloc _).setRow _ _ = W5 at HB5 HB6 hb7 ⊢
  have hl := (at_row HB5.out).load (k := n18) (encP_n _) Tryz.prog
  have hst := store_row (o := 0) (vs := encR ⟨p, m, 0⟩) HB6.out (by simp [encR_len]) (encR_one _) Tryz.prog
  rw [splice_whole (by simp [encR_len])] at hst
  have hl2 := (at_row (setRow_heap W5 B4 _ (encR ⟨p, m, 0⟩).toArray _ _ HB6.out)).load (k := n20) (encR_n _) Tryz.prog
  go_wp2_with (refine wpList_build_run (o := ⟨some 17, .build 36 #[(0, .tmp 15), (1, .tmp 16)], _, _, _, _⟩) rfl 36 #[(0, .tmp 15), (1, .tmp 16)] rfl #[(0, .agg (encP p).toArray), (1, .int .i64 m)] (by simp [Act.eval, Act.put]) (build_R2 _ _ _) ?_)
  exact bodyPost_ret (v := .agg (encR ⟨p, m, 0⟩).toArray) (by simp [results, Tryz.results13, go_sem, hl2]) rfl ⟨rfl, below_setRow hb7.out HL4.out _⟩
end Dig
end Go.Proofs.YtdcbbjlbfghpbaaGreat

/-
  Digest: '==' of digests. Conditions: those that each theorem names.
-/
namespace Go.Proofs.YtdcbbjlbfghpbaaGreat
open Go Go.RowKit
set_option linter.unusedVariables false
set_option linter.unusedSimpArgs false
namespace Dig
open Tab
def encG (x : Int × Int) : List Value := [.int .i64 x.1, .int .u64 x.2]
theorem run_eq_dig (d : Nat) (w : World) (p q : Int × Int) : (Op.equalIn (d + 4) 58 (.agg (encG p).toArray) (.agg (encG q).toArray)).run Tryz.prog w = .ok (decide (p = q)) w := by
  have hS : Tryz.prog.underlying 58 = some (.struct (Tryz.prog.fieldsOf 58)) := by kernel_rfl
  have hp : Tryz.prog.stoodInHeld 58 = false := by kernel_rfl
  have hf : ∃ f0 f1 : Field, (Tryz.prog.fieldsOf 58).toList = [f0, f1] ∧ (f0.name ≠ "_" ∧ f0.type = 3 ∧ f0.offset = 0) ∧ (f1.name ≠ "_" ∧ f1.type = 56 ∧ f1.offset = 1) := by
    simp only [Program.fieldsOf, Tryz.underlying58]
    exact ⟨_, _, rfl, ⟨by decide, rfl, rfl⟩, ⟨by decide, rfl, rfl⟩⟩
  obtain ⟨f0, f1, hl, ⟨n0, t0, o0⟩, ⟨n1, t1, o1⟩⟩ := hf
  rw [run_equalIn_agg w (d + 3) _ _ _ hS hp, hl]
  have b0 : ∀ w, (isAgg 3).run Tryz.prog w = .ok false w := fun w => Tryz.isAgg3 w
  have b1 : ∀ w, (isAgg 56).run Tryz.prog w = .ok false w := fun w => Tryz.isAgg56 w
  have g0 : ∀ p : Int × Int, (encG p)[0]? = some (.int .i64 p.1) := fun p => rfl
  have g1 : ∀ p : Int × Int, (encG p)[1]? = some (.int .u64 p.2) := fun p => rfl
  rw [eqFields_cons (r := decide (p.1 = q.1)) n0 (by rw [t0, o0]; exact part_one (g0 p) b0 w) (by rw [t0, o0]; exact part_one (g0 q) b0 w) (by rw [t0, run_equalIn_int w (d + 2) _ .i64 .i64 _ _ Tryz.underlying3]; congr 1)]
  rw [eqFields_cons (r := decide (p.2 = q.2)) n1 (by rw [t1, o1]; exact part_one (g1 p) b1 w) (by rw [t1, o1]; exact part_one (g1 q) b1 w) (by rw [t1, run_equalIn_int w (d + 2) _ .u64 .u64 _ _ Tryz.underlying56]; congr 1)]
  obtain ⟨a1, l1⟩ := p
  obtain ⟨a2, l2⟩ := q
  by_cases h1 : a1 = a2 <;> by_cases h2 : l1 = l2 <;> simp [h1, h2, Op.eqFields]
theorem neqG (p q : Int × Int) (w : World) : (binOp .neq 58 (.agg (encG p).toArray) (.agg (encG q).toArray)).run Tryz.prog w = .ok (.bool (!decide (p = q))) w := by rw [run_neq_struct, run_eq_dig]; rfl
/-- .. with the cells written out -/
theorem neqG' (a b c d : Int) (w : World) : (binOp .neq 58 (.agg #[.int .i64 a, .int .u64 b]) (.agg #[.int .i64 c, .int .u64 d])).run Tryz.prog w = .ok (.bool (!decide (a = c ∧ b = d))) w := by
  have := neqG (a, b) (c, d) w
  simp only [Prod.mk.injEq] at this
  exact this
/-! the size of a digest: under a name, so that a walk does not load it cell by cell -/
def n2 : Nat := 2
theorem szG (w : World) : Sem.run Tryz.prog (Go.sizeOf 58) w = .ok n2 w := Tryz.sizeOf58 w
theorem szGr (w : World) : Sem.run Tryz.prog (Go.sizeOf 82) w = .ok n2 w := Tryz.sizeOf82 w
theorem encG_n (x : Int × Int) : (encG x).length = n2 := rfl
theorem n2_ne : (n2 = 0) = False := by unfold n2; simp
theorem encG_one (x : Int × Int) : ∀ v ∈ encG x, v.oneCell' = true := fun v hv => by
  unfold encG at hv
  simp only [List.mem_cons, List.not_mem_nil, or_false] at hv
  rcases hv with rfl | rfl <;> rfl
theorem at_g {w : World} {b o : Nat} {x : Int × Int} (h1 : w.cell? ⟨b, o, none⟩ = some (.int .i64 x.1)) (h2 : w.cell? ⟨b, o + 1, none⟩ = some (.int .u64 x.2)) : At w b o (encG x) := fun j u hj => by
  rcases j with _ | _ | j
  · simp [encG] at hj; subst hj; exact h1
  · simp [encG] at hj; subst hj; exact h2
  · simp [encG] at hj
theorem At.g0 {w : World} {b o : Nat} {x : Int × Int} (h : At w b o (encG x)) : w.cell? ⟨b, o, none⟩ = some (.int .i64 x.1) := h 0 _ rfl
theorem At.g1 {w : World} {b o : Nat} {x : Int × Int} (h : At w b o (encG x)) : w.cell? ⟨b, o + 1, none⟩ = some (.int .u64 x.2) := h 1 _ rfl
theorem run_eq_digr (d : Nat) (w : World) (p q : Int × Int) : (Op.equalIn (d + 4) 82 (.agg (encG p).toArray) (.agg (encG q).toArray)).run Tryz.prog w = .ok (decide (p = q)) w := by
  have hS : Tryz.prog.underlying 82 = some (.struct (Tryz.prog.fieldsOf 82)) := by kernel_rfl
  have hp : Tryz.prog.stoodInHeld 82 = false := by kernel_rfl
  have hf : ∃ f0 f1 : Field, (Tryz.prog.fieldsOf 82).toList = [f0, f1] ∧ (f0.name ≠ "_" ∧ f0.type = 3 ∧ f0.offset = 0) ∧ (f1.name ≠ "_" ∧ f1.type = 56 ∧ f1.offset = 1) := by
    simp only [Program.fieldsOf, Tryz.underlying82]
    exact ⟨_, _, rfl, ⟨by decide, rfl, rfl⟩, ⟨by decide, rfl, rfl⟩⟩
  obtain ⟨f0, f1, hl, ⟨m0, t0, o0⟩, ⟨m1, t1, o1⟩⟩ := hf
  rw [run_equalIn_agg w (d + 3) _ _ _ hS hp, hl]
  have b0 : ∀ w, (isAgg 3).run Tryz.prog w = .ok false w := fun w => Tryz.isAgg3 w
  have b1 : ∀ w, (isAgg 56).run Tryz.prog w = .ok false w := fun w => Tryz.isAgg56 w
  have g0 : ∀ p : Int × Int, (encG p)[0]? = some (.int .i64 p.1) := fun p => rfl
  have g1 : ∀ p : Int × Int, (encG p)[1]? = some (.int .u64 p.2) := fun p => rfl
  rw [eqFields_cons (r := decide (p.1 = q.1)) m0 (by rw [t0, o0]; exact part_one (g0 p) b0 w) (by rw [t0, o0]; exact part_one (g0 q) b0 w) (by rw [t0, run_equalIn_int w (d + 2) _ .i64 .i64 _ _ Tryz.underlying3]; congr 1)]
  rw [eqFields_cons (r := decide (p.2 = q.2)) m1 (by rw [t1, o1]; exact part_one (g1 p) b1 w) (by rw [t1, o1]; exact part_one (g1 q) b1 w) (by rw [t1, run_equalIn_int w (d + 2) _ .u64 .u64 _ _ Tryz.underlying56]; congr 1)]
  obtain ⟨a1, l1⟩ := p
  obtain ⟨a2, l2⟩ := q
  by_cases h1 : a1 = a2 <;> by_cases h2 : l1 = l2 <;> simp [h1, h2, Op.eqFields]
theorem neqGr (p q : Int × Int) (w : World) : (binOp .neq 82 (.agg (encG p).toArray) (.agg (encG q).toArray)).run Tryz.prog w = .ok (.bool (!decide (p = q))) w := by rw [run_neq_struct, run_eq_digr]; rfl
end Dig
end Go.Proofs.YtdcbbjlbfghpbaaGreat

/-
  Rows of bytes that grow, conversions between bytes and texts. Conditions: those that each theorem names.
-/
namespace Go.Proofs.YtdcbbjlbfghpbaaGreat
open Go Go.RowKit H2
set_option linter.unusedVariables false
set_option linter.unusedSimpArgs false
namespace Byt
def u8 (c : UInt8) : Value := .int .u8 (c.toNat : Int)
def encB (bs : List UInt8) : List Value := bs.map u8
theorem encB_len (bs : List UInt8) : (encB bs).length = bs.length := by simp [encB]
theorem encB_one (bs : List UInt8) : ∀ v ∈ encB bs, v.oneCell' = true := fun v hv => by
  obtain ⟨c, _, rfl⟩ := List.mem_map.1 hv
  rfl
/-- a row of bytes, in a block of its own that base does not reach -/
def By (base : Nat) (w : World) (v : Value) (bs : List UInt8) : Prop := (v = .slice none 0 0 ∧ bs = []) ∨ ∃ (g cap : Nat) (cur : Array Value) (lo hi : Nat), v = .slice (some ⟨g, 0, none⟩) bs.length cap ∧ base ≤ g ∧ w.heap[g]? = some (.cells cur 5 (lo, hi)) ∧ bs.length ≤ cap ∧ cap ≤ maxLen ∧ cur.size = cap ∧ (∀ j : Nat, j < cap → ¬ (lo ≤ j ∧ j < hi)) ∧ (∀ (j : Nat) (u : Value), (encB bs)[j]? = some u → cur[j]? = some u)
theorem By.below {base : Nat} {w w' : World} {v : Value} {bs : List UInt8} (h : By base w v bs) (hb : Below w.heap.size w w') : By base w' v bs := by
  rcases h with h | ⟨g, cap, cur, lo, hi, h1, h2, h3, r⟩
  · exact .inl h
  · exact .inr ⟨g, cap, cur, lo, hi, h1, h2, (hb.block g (blk_lt h3)).trans h3, r⟩
theorem By.form {base : Nat} {w : World} {v : Value} {bs : List UInt8} (h : By base w v bs) : ∃ A cap, v = .slice A bs.length cap ∧ bs.length ≤ cap ∧ cap ≤ maxLen ∧ ∀ (j : Nat) (u : Value), (encB bs)[j]? = some u → ∃ g, A = some ⟨g, 0, none⟩ ∧ w.cell? ⟨g, j, none⟩ = some u := by
  rcases h with ⟨rfl, rfl⟩ | ⟨g, cap, cur, lo, hi, rfl, h2, h3, h4, h5, h6, h7, h8⟩
  · exact ⟨none, 0, rfl, Nat.le_refl _, by decide, fun j u h => by simp [encB] at h⟩
  · exact ⟨_, cap, rfl, h4, h5, fun j u h => ⟨g, rfl, (blk_cell h3 j).trans (h8 j u h)⟩⟩
theorem infoB : ∃ i0 : TypeInfo, Tryz.prog.info? 5 = some i0 ∧ i0.zero = some (.int .u8 0) ∧ i0.size = 1 ∧ i0.bytes = 1 := by
  cases h : Tryz.prog.info? 5 with
  | none => exact absurd h (by have : (Tryz.prog.info? 5).isSome = true := by kernel_rfl
                               intro e; rw [e] at this; cases this)
  | some i =>
    have e : (Tryz.prog.info? 5).map (fun i => (i.zero, i.size, i.bytes)) = some (some (.int .u8 0), 1, 1) := by kernel_rfl
    rw [h] at e
    simp only [Option.map_some, Option.some.injEq, Prod.mk.injEq] at e
    exact ⟨i, rfl, e.1, e.2.1, e.2.2⟩
theorem by_own {base base' : Nat} {w : World} {v : Value} {bs : List UInt8} (h : w.ownsRow base 5 1 v bs.length (encB bs)) (hb : base' ≤ base) : By base' w v bs := by
  rcases h.2 with ⟨rfl, h0⟩ | ⟨g, cap, cur, rfl, hg, hh, hc, hm, hs, ht⟩
  · exact .inl ⟨rfl, List.length_eq_zero_iff.1 h0⟩
  · refine .inr ⟨g, cap, cur, 0, 0, rfl, Nat.le_trans hb hg, hh, hc, hm, by rw [hs, Nat.mul_one], fun j _ e => by omega, fun j u hj => ?_⟩
    have hjl := (List.getElem?_eq_some_iff.1 hj).1
    rw [← ht, List.getElem?_take, if_pos (by rw [encB_len] at hjl; omega)] at hj
    simpa using hj
/-- a run of append of one byte -/
theorem app_byte (w : World) (base : Nat) (v : Value) (bs : List UInt8) (c : UInt8) (ty : TypeId) (h : By base w v bs) (hl : bs.length ≤ 100000) (hb : base ≤ w.heap.size) (a : Addr) (cc : Nat) (ha : w.cell? a = some (u8 c)) (hne : ∀ g, v.ownBlock = some g → a.block ≠ g) :
    ∃ v' w', (Builtin.append_ #[87, 87] ty #[v, .slice (some a) 1 cc]).run Tryz.prog w = .ok v' w' ∧ By base w' v' (bs ++ [c]) ∧ w.grownBy w' v.ownBlock := by
  obtain ⟨i0, hi, hz0, hz1, hz2⟩ := infoB
  have hnews : ∀ j u, (encB [c])[j]? = some u → w.cell? (a.add j) = some u := fun j u hj => by
    have : j = 0 := by have := (List.getElem?_eq_some_iff.1 hj).1; simp [encB] at this; omega
    subst this
    simp [encB] at hj
    subst hj
    simpa [Addr.add] using ha
  have hen : encB bs ++ encB [c] = encB (bs ++ [c]) := by simp [encB]
  rcases h with ⟨rfl, rfl⟩ | ⟨g, cap, cur, lo, hi', rfl, h2, h3, h4, h5, h6, h7, h8⟩
  · obtain ⟨v', w', hrun, g1, g2, _⟩ := run_append_own (P := Tryz.prog) w base 87 ty 5 i0 _ 1 1 Tryz.underlying87 hi hz0 hz1 hz2 (by simp [Value.cells]) (by omega) (.slice none 0 0) 0 [] (World.ownsRow_nil _ _ _ _) a 1 cc (encB [c]) (by simp [encB]) hnews (encB_one _) (by unfold maxLen; omega) (by omega) hb
    exact ⟨v', w', hrun, by_own (by simpa [encB] using g1) (Nat.le_refl _), g2⟩
  · by_cases hr : bs.length + 1 ≤ cap
    · have hc0 : ∃ u, cur[bs.length]? = some u := ⟨_, Array.getElem?_eq_getElem (show bs.length < cur.size by omega)⟩
      obtain ⟨u0, hu0⟩ := hc0
      have hrun := run_append_room_cells (P := Tryz.prog) w 87 ty 5 i0 Tryz.underlying87 hi g 0 bs.length cap a 1 cc (encB [c]) (by rw [hz1]; simp [encB]) hnews (encB_one _) hr (fun j hj => by
          have : j = 0 := by simp [encB] at hj; omega
          subst this
          rw [hz1, show (0 : Nat) + bs.length * 1 + 0 = bs.length by omega, blk_cell h3, hu0]
          rfl) (fun j hj => by
          have : j = 0 := by simp [encB] at hj; omega
          subst this
          rw [hz1, show (0 : Nat) + bs.length * 1 + 0 = bs.length by omega]
          unfold World.frozen?
          simp only [h3]
          have := h7 bs.length (by omega)
          simp only [Bool.and_eq_false_iff, decide_eq_false_iff_not]
          omega)
      rw [hz1, show (0 : Nat) + bs.length * 1 = bs.length by omega] at hrun
      have hset : w.setCells g bs.length (encB [c]) = w.setCell ⟨g, bs.length, none⟩ (u8 c) := rfl
      rw [hset] at hrun
      have hh : (w.setCell ⟨g, bs.length, none⟩ (u8 c)).heap[g]? = some (.cells (cur.setIfInBounds bs.length (u8 c)) 5 (lo, hi')) := by simp [World.setCell, Array.getElem?_modify, h3]
      refine ⟨_, _, hrun, .inr ⟨g, cap, _, lo, hi', by simp, h2, hh, by simp; omega, h5, by simpa using h6, h7, fun j u hj => ?_⟩, ?_⟩
      · rw [← hen, List.getElem?_append] at hj
        rw [Array.getElem?_setIfInBounds]
        split at hj
        · rename_i hlt
          rw [encB_len] at hlt
          rw [if_neg (by omega)]
          exact h8 j u hj
        · rename_i hlt
          rw [encB_len] at hlt hj
          have e0 : j = bs.length := by have := (List.getElem?_eq_some_iff.1 hj).1; simp [encB] at this; omega
          subst e0
          rw [if_pos rfl, if_pos (by omega)]
          simpa [encB] using hj
      · exact ⟨rfl, rfl, rfl, by simp [World.setCell], fun k hk hne' => Below.heap_setCell _ _ _ _ (fun e => hne' (by simp [Value.ownBlock, e]))⟩
    · obtain ⟨v', w', hrun, g1, g2⟩ := run_append_arg_grows (P := Tryz.prog) w 87 ty 5 i0 _ 1 1 Tryz.underlying87 hi hz0 hz1 hz2 (by simp [Value.cells]) (by omega) ⟨g, 0, none⟩ bs.length cap (encB bs) (by rw [encB_len, Nat.mul_one]) (fun j u hj => by
          rw [Addr.add_lit, Nat.zero_add, blk_cell h3]; exact h8 j u hj) a 1 cc (encB [c]) (by simp [encB]) hnews (by omega) (by unfold maxLen; omega) (by omega)
      refine ⟨v', w', hrun, by_own (base := w.heap.size) (by rw [List.length_append, List.length_singleton, ← hen]; exact g1) hb, ?_⟩
      exact ⟨g2.os, g2.tape, g2.output, g2.size, fun k hk _ => g2.block k hk (by simp)⟩
def str (bs : List UInt8) : ByteArray := ⟨bs.toArray⟩
end Byt
end Go.Proofs.YtdcbbjlbfghpbaaGreat

/-
  slices.SortFunc at routes: the contract of the shelf laid at this program (numbers of functions and types). No condition.
-/
namespace Go.Proofs
open Go.Shelf
def Tryz.sortR_ren : Go.Shelf.Ren := ⟨fun | 6 => 56 | 15 => 80 | 14 => 79 | 28 => 96 | 29 => 97 | 20 => 88 | 21 => 89 | 22 => 90 | 23 => 91 | 24 => 92 | 25 => 93 | 26 => 94 | 27 => 95 | 46 => 100 | 47 => 101 | 48 => 102 | 49 => 103 | 50 => 104 | 57 => 107 | n => n, fun | 22 => 22 | 24 => 36 | 25 => 71 | 3 => 3 | 39 => 111 | 0 => 0 | 53 => 34 | 55 => 56 | 4 => 4 | 46 => 137 | 45 => 136 | 50 => 76 | 5 => 5 | 9 => 9 | 66 => 144 | 70 => 147 | 76 => 152 | 77 => 153 | n => n, fun | n => n⟩
theorem Tryz.sortR : Go.Proofs.SlLaysF0.n6 Tryz.prog Tryz.sortR_ren := {
  mixed := by kernel_rfl
  f6 := ⟨Tryz.f56.name, by decide, Tryz.func56.trans (congrArg some (by kernel_rfl))⟩
  f14 := ⟨Tryz.f79.name, by decide, Tryz.func79.trans (congrArg some (by kernel_rfl))⟩
  f15 := Tryz.func80.trans (congrArg some (by kernel_rfl))
  f20 := ⟨Tryz.f88.name, by decide, Tryz.func88.trans (congrArg some (by kernel_rfl))⟩
  f21 := ⟨Tryz.f89.name, by decide, Tryz.func89.trans (congrArg some (by kernel_rfl))⟩
  f22 := ⟨Tryz.f90.name, by decide, Tryz.func90.trans (congrArg some (by kernel_rfl))⟩
  f23 := ⟨Tryz.f91.name, by decide, Tryz.func91.trans (congrArg some (by kernel_rfl))⟩
  f24 := ⟨Tryz.f92.name, by decide, Tryz.func92.trans (congrArg some (by kernel_rfl))⟩
  f25 := ⟨Tryz.f93.name, by decide, Tryz.func93.trans (congrArg some (by kernel_rfl))⟩
  f26 := ⟨Tryz.f94.name, by decide, Tryz.func94.trans (congrArg some (by kernel_rfl))⟩
  f27 := ⟨Tryz.f95.name, by decide, Tryz.func95.trans (congrArg some (by kernel_rfl))⟩
  f28 := Tryz.func96.trans (congrArg some (by kernel_rfl))
  f29 := Tryz.func97.trans (congrArg some (by kernel_rfl))
  f46 := ⟨Tryz.f100.name, by decide, Tryz.func100.trans (congrArg some (by kernel_rfl))⟩
  f47 := Tryz.func101.trans (congrArg some (by kernel_rfl))
  f48 := Tryz.func102.trans (congrArg some (by kernel_rfl))
  f49 := ⟨Tryz.f103.name, by decide, Tryz.func103.trans (congrArg some (by kernel_rfl))⟩
  f50 := ⟨Tryz.f104.name, by decide, Tryz.func104.trans (congrArg some (by kernel_rfl))⟩
  f57 := ⟨Tryz.f107.name, by decide, Tryz.func107.trans (congrArg some (by kernel_rfl))⟩
  t0 := Tryz.underlying0
  a0 := Tryz.isAgg0
  z0 := Tryz.sizeOf0
  v0 := Tryz.zeroValue0
  t3 := Tryz.underlying3
  a3 := Tryz.isAgg3
  z3 := Tryz.sizeOf3
  v3 := Tryz.zeroValue3
  t4 := Tryz.underlying4
  a4 := Tryz.isAgg4
  z4 := Tryz.sizeOf4
  v4 := Tryz.zeroValue4
  t5 := Tryz.underlying5
  a5 := Tryz.isAgg5
  z5 := Tryz.sizeOf5
  v5 := Tryz.zeroValue5
  t9 := Tryz.underlying9
  a9 := Tryz.isAgg9
  z9 := Tryz.sizeOf9
  v9 := Tryz.zeroValue9
  t22 := Tryz.underlying22
  a22 := Tryz.isAgg22
  z22 := Tryz.sizeOf22
  v22 := Tryz.zeroValue22
  t25 := Tryz.underlying71
  a25 := Tryz.isAgg71
  z25 := Tryz.sizeOf71
  v25 := Tryz.zeroValue71
  t39 := Tryz.underlying111
  a39 := Tryz.isAgg111
  z39 := Tryz.sizeOf111
  v39 := Tryz.zeroValue111
  t45 := Tryz.underlying136
  a45 := Tryz.isAgg136
  z45 := Tryz.sizeOf136
  v45 := Tryz.zeroValue136
  t46 := Tryz.underlying137
  a46 := Tryz.isAgg137
  z46 := Tryz.sizeOf137
  v46 := Tryz.zeroValue137
  t50 := Tryz.underlying76
  a50 := Tryz.isAgg76
  z50 := Tryz.sizeOf76
  v50 := Tryz.zeroValue76
  t53 := Tryz.underlying34
  a53 := Tryz.isAgg34
  z53 := Tryz.sizeOf34
  v53 := Tryz.zeroValue34
  t55 := Tryz.underlying56
  a55 := Tryz.isAgg56
  z55 := Tryz.sizeOf56
  v55 := Tryz.zeroValue56
  t66 := Tryz.underlying144
  a66 := Tryz.isAgg144
  z66 := Tryz.sizeOf144
  v66 := Tryz.zeroValue144
  t70 := Tryz.underlying147
  a70 := Tryz.isAgg147
  z70 := Tryz.sizeOf147
  v70 := Tryz.zeroValue147
  t76 := Tryz.underlying152
  a76 := Tryz.isAgg152
  z76 := Tryz.sizeOf152
  v76 := Tryz.zeroValue152
  t77 := Tryz.underlying153
  a77 := Tryz.isAgg153
  z77 := Tryz.sizeOf153
  v77 := Tryz.zeroValue153 }
end Go.Proofs

/-
  Rows of routes; slices.SortFunc at routes. Conditions: those that each theorem names.
-/
namespace Go.Proofs.YtdcbbjlbfghpbaaGreat
open Go Go.RowKit H2
set_option linter.unusedVariables false
set_option linter.unusedSimpArgs false
namespace Tab
def flat (L : List Rt) : List Value := L.flatMap encR
theorem flat_nil : flat [] = [] := rfl
theorem flat_cons (r : Rt) (L : List Rt) : flat (r :: L) = encR r ++ flat L := rfl
theorem flat_app (A B : List Rt) : flat (A ++ B) = flat A ++ flat B := by simp [flat]
theorem flat_one (r : Rt) : flat [r] = encR r := by simp [flat]
theorem flat_len : ∀ L : List Rt, (flat L).length = L.length * 20
  | [] => rfl
  | r :: L => by rw [flat_cons, List.length_append, encR_len, flat_len L, List.length_cons]; omega
theorem flat_get : ∀ (L : List Rt) (i j : Nat) (hi : i < L.length), j < 20 → (flat L)[i * 20 + j]? = (encR L[i])[j]?
  | [], _, _, hi, _ => by simp at hi
  | r :: L, 0, j, _, hj => by rw [flat_cons, Nat.zero_mul, Nat.zero_add, List.getElem?_append_left (by rw [encR_len]; exact hj)]; rfl
  | r :: L, i + 1, j, hi, hj => by
    rw [flat_cons, List.getElem?_append_right (by rw [encR_len]; omega), encR_len, show (i + 1) * 20 + j - 20 = i * 20 + j by omega, flat_get L i j (by simpa using hi) hj]
    rfl
theorem flat_take : ∀ (L : List Rt) (i : Nat), (flat L).take (i * 20) = flat (L.take i)
  | [], i => by simp [flat]
  | r :: L, 0 => by simp [flat]
  | r :: L, i + 1 => by
    rw [flat_cons, List.take_succ_cons, flat_cons, List.take_append, encR_len, show (i + 1) * 20 - 20 = i * 20 by omega, flat_take L i, List.take_of_length_le (by rw [encR_len]; omega)]
theorem flat_drop : ∀ (L : List Rt) (i : Nat), (flat L).drop (i * 20) = flat (L.drop i)
  | [], i => by simp [flat]
  | r :: L, 0 => by simp [flat]
  | r :: L, i + 1 => by
    rw [flat_cons, List.drop_succ_cons, List.drop_append, encR_len, show (i + 1) * 20 - 20 = i * 20 by omega, flat_drop L i, List.drop_of_length_le (by rw [encR_len]; omega), List.nil_append]
theorem flat_one' (L : List Rt) : ∀ v ∈ flat L, v.oneCell' = true := fun v hv => by
  obtain ⟨r, _, h⟩ := List.mem_flatMap.1 hv
  exact encR_one r v h
theorem flatK_eq (L : List Rt) : Sort.flatK encR 20 L.toArray = (flat L).toArray := by
  refine Sort.ext_get! (by simp [flat_len]) (fun t ht => ?_)
  have ht' : t < L.length * 20 := by simpa using ht
  rw [Sort.get_flatK _ _ _ _ (by simpa using ht')]
  have h1 : t / 20 < L.length := by omega
  have h2 := flat_get L (t / 20) (t % 20) h1 (Nat.mod_lt _ (by omega))
  rw [show t / 20 * 20 + t % 20 = t by omega] at h2
  have e1 : L.toArray[t / 20]! = L[t / 20] := by simp [h1]
  rw [e1]
  have h3 : t % 20 < (encR L[t / 20]).length := by rw [encR_len]; exact Nat.mod_lt _ (by omega)
  rw [List.getElem?_eq_getElem h3] at h2
  have h4 : t < (flat L).length := by rw [flat_len]; exact ht'
  have h5 := (List.getElem?_eq_some_iff.1 h2).2
  simp [h3, h4, h5]
def cfR (a b : Rt) : Int := cmpP a.to b.to
theorem ltOf_cf (a b : Rt) : ltOf cfR a b = decide (Lt a.to b.to) := rfl
theorem swo_cf : Sort.SWO (ltOf cfR) where
  irrefl x := by rw [ltOf_cf]; exact decide_eq_false (lt_irrefl _)
  trans x y z h k := by
    rw [ltOf_cf, decide_eq_true_iff] at *
    exact lt_trans h k
  ntrans x y z h k := by
    rw [ltOf_cf, decide_eq_false_iff_not] at *
    exact le_le k h
/-- more, and drawn -/
theorem grown_of_grew {w w' : World} (h : Grew w w') : ∃ q os, w' = Sort.grow (w.drewN q) os := by
  obtain ⟨⟨h1, h2, h3, h4, h5⟩, h6⟩ := h
  refine ⟨w'.drawn - w.drawn, w'.heap.extract w.heap.size w'.heap.size, ?_⟩
  cases w with
  | mk heap tape drawn os output =>
  cases w' with
  | mk heap' tape' drawn' os' output' =>
    simp only at h1 h2 h3 h4 h5 h6
    subst h1 h2 h3
    simp only [Sort.grow, World.drewN, World.mk.injEq, and_true, true_and]
    refine ⟨?_, by omega⟩
    apply Array.ext_getElem?
    intro i
    by_cases hi : i < heap.size
    · rw [Array.getElem?_append_left hi]; exact h5 i hi
    · rw [Array.getElem?_append_right (by omega), Array.getElem?_extract]
      by_cases h7 : i < heap'.size
      · rw [if_pos (by omega)]
        congr 1
        omega
      · rw [if_neg (by omega), Array.getElem?_eq_none (by omega)]
theorem cmpLays (blk off size : Nat) (w : World) : CmpLays Tryz.prog 29 #[] encR 20 cfR blk off size w :=
  fun _ _ _ _ x y => (new2_any x y _).mono fun _ _ ⟨he, hg⟩ => ⟨he, grown_of_grew hg⟩
theorem only_grow {S : Nat → Prop} {a w : World} (h : Only S a w) (os : Array Obj) : Only S a (Sort.grow w os) :=
  ⟨h.os, h.tape, h.output, Nat.le_trans h.size (by simp [Sort.grow]), fun i hi hn => by
    rw [← h.block i hi hn]
    show (w.heap ++ os)[i]? = w.heap[i]?
    rw [Array.getElem?_append_left (Nat.lt_of_lt_of_le hi h.size)]⟩
set_option maxHeartbeats 2000000 in
theorem sort_any (w : World) (base g cap : Nat) (L : List Rt) (h : w.ownsRow base 36 20 (.slice (some ⟨g, 0, none⟩) L.length cap) L.length (flat L)) (hn : L.length < 4611686018427387904) :
    Calls Tryz.prog 56 #[.slice (some ⟨g, 0, none⟩) L.length cap, .func (.func 29) #[] #[]] w fun e w' =>
      e = .returned (.tuple #[]) ∧ (∃ L' : List Rt, L'.Perm L ∧ L'.Pairwise (fun a b => ¬ Lt b.to a.to) ∧ w'.ownsRow base 36 20 (.slice (some ⟨g, 0, none⟩) L.length cap) L'.length (flat L')) ∧ Only (fun i => i = g) w w' := by
  rcases h.2 with ⟨h0, _⟩ | ⟨g', cap', cur, hv, hb, hh, hc, hm, hsz, ht⟩
  · cases h0
  simp only [Value.slice.injEq, Option.some.injEq, Addr.mk.injEq, and_true, true_and] at hv
  obtain ⟨rfl, rfl⟩ := hv
  have hH : Sort.HoldsK encR 20 w g 0 L.toArray := by
    intro j hj
    rw [flatK_eq] at hj ⊢
    have hj' : j < (flat L).length := by simpa using hj
    have e : (flat L).toArray[j]! = (flat L)[j] := by simp [hj']
    rw [Nat.zero_add, e]
    refine ⟨?_, blk_free hh j⟩
    rw [blk_cell hh j]
    have h1 : cur.toList[j]? = some (flat L)[j] := by
      have : (cur.toList.take (L.length * 20))[j]? = some (flat L)[j] := by rw [ht, List.getElem?_eq_getElem hj']
      rw [List.getElem?_take] at this
      split at this
      · exact this
      · cases this
    simpa using h1
  have eg : ∀ args w, (callFunc 29 args).run Tryz.prog w = .ok (.enter 29 args) w := enters_of Tryz.func29 (by kernel_rfl) rfl
  have hcon := AnyQ.slices_SortFunc Tryz.sortR 20 Tryz.isAgg36 Tryz.sizeOf36 encR encR_len encR_one cfR swo_cf 29 #[] g 0 cap L.toArray w eg (cmpLays g 0 _ w) hH (blk_lt hh) (by simpa using hn)
  rw [List.size_toArray] at hcon
  refine hcon.mono ?_
  rintro e w' ⟨rfl, d', n, os, hp, hs, rfl⟩
  have hsd : d'.size = L.length := by simpa using hp.1
  have hex : d'.extract 0 L.length = d' := by rw [← hsd]; exact Array.extract_size
  refine ⟨rfl, ⟨d'.toList, ?_, ?_, ?_⟩, ?_⟩
  · have := hp.2.2
    rw [hex] at this
    simpa using this
  · rw [List.pairwise_iff_getElem]
    intro i j hi hj hij
    have hj' : j < d'.size := by simpa using hj
    have hi' : i < d'.size := by simpa using hi
    have h1 := hs i j (Nat.zero_le _) hij (by omega)
    rw [ltOf_cf, decide_eq_false_iff_not, getElem!_pos d' j hj', getElem!_pos d' i hi'] at h1
    simpa using h1
  · refine ⟨by rw [flat_len], .inr ⟨g, cap, Sort.putCells id 0 (Sort.flatK encR 20 d') cur, by simp [hsd], hb, ?_, by simpa [hsd] using hc, hm, by simpa [Sort.putCells] using hsz, ?_⟩⟩
    · show (_ ++ os)[g]? = _
      rw [Array.getElem?_append_left (by show g < ((Sort.ahead w n).heap.modify _ _).size; rw [Array.size_modify]; exact blk_lt hh)]
      show ((w.heap.modify g _)[g]?) = _
      rw [Array.getElem?_modify, if_pos rfl, hh]
      rfl
    · have e : Sort.flatK encR 20 d' = (flat d'.toList).toArray := by rw [← flatK_eq]
      rw [e]
      apply List.ext_getElem?
      intro j
      rw [List.getElem?_take]
      have hl : (flat d'.toList).length = d'.size * 20 := by rw [flat_len]; simp
      split
      · rename_i hj
        have hj' : j < d'.size * 20 := by simpa using hj
        unfold Sort.putCells
        have hjc : j < cur.size := by
          have := Nat.mul_le_mul_right 20 hc
          omega
        rw [Array.getElem?_toList, Array.getElem?_mapIdx, Array.getElem?_eq_getElem hjc]
        simp [hl, hj', List.getElem?_eq_getElem (show j < (flat d'.toList).length by omega)]
      · rename_i hj
        rw [List.getElem?_eq_none]
        rw [hl]
        simp at hj
        omega
  · refine only_grow ?_ os
    exact ⟨rfl, rfl, rfl, by show w.heap.size ≤ (w.heap.modify g _).size; simp, fun i hi hn => by
      show (w.heap.modify g _)[i]? = _
      rw [Array.getElem?_modify, if_neg (fun e => hn e.symm)]⟩
theorem sort_none (p : Option Addr) (cap : Nat) (fv : Value) (w : World) : Calls Tryz.prog 56 #[.slice p 0 cap, fv] w fun e w' => e = .returned (.tuple #[]) ∧ w = w' :=
  (AnyF.slices_SortFunc_none Tryz.sortR p cap fv w).mono fun _ _ ⟨he, hw⟩ => ⟨he, hw.symm⟩
end Tab
end Go.Proofs.YtdcbbjlbfghpbaaGreat

/-
  slices.Values, Collect, AppendSeq, SortedFunc at routes. Conditions: those that each theorem names.
-/
namespace Go.Proofs.YtdcbbjlbfghpbaaGreat
open Go Go.RowKit H2
set_option linter.unusedVariables false
set_option linter.unusedSimpArgs false
namespace Tab
attribute [local go_sem] Oper.semAt_some
theorem wpListIn_row_run {F : Fence} {n : Nat} {P : Program} {ops : Array Oper} {rest : List Oper} {o : Oper} {a : Act} {w w' : World} {Q : Exit → Act → World → Prop} (hgd : o.guard = none) (t : TypeId) (k : Nat) (parts : Array (Nat × Operand)) (ho : o.op = .buildSlice t k parts) (vs : Array (Nat × Value)) (hv : (parts.map fun (i, x) => (i, a.eval x)) = vs) {v : Value}
    (hr : (Instr.buildSlice t k vs).run P w = .ok v w') (h : wpListIn F n P ops Q rest (a.put o.dst v) w') : wpListIn F n P ops Q (o :: rest) a w := by
  refine wpListIn_plain hgd fun K hK' => ?_
  subst hv
  unfold Oper.wpIn
  refine ⟨?_, ?_⟩
  · simp [Oper.about, ho]
  · rw [Oper.semAt_plain F _ _ (by rw [ho]; intro c hc'; cases hc')]
    simp only [execOp, ho, hr, Sem.run_bind, Result.andThen_ok, Sem.run_pure]
    exact hK' _ _ h
/-- a value that reads as a row of routes, in blocks below n₀ -/
def Rds (n₀ : Nat) (W : World) (v : Value) (L : List Rt) : Prop :=
  (∃ c, v = .slice none 0 c ∧ L = []) ∨ ∃ b off cap, v = .slice (some ⟨b, off, none⟩) L.length cap ∧ b < n₀ ∧ L.length ≤ cap ∧ At W b off (flat L)
theorem Rds.below {n₀ : Nat} {A B : World} (h : Below n₀ A B) {v : Value} {L : List Rt} : Rds n₀ A v L → Rds n₀ B v L
  | .inl e => .inl e
  | .inr ⟨b, off, cap, e, hb, hl, hc⟩ => .inr ⟨b, off, cap, e, hb, hl, fun j u hj => (h.cell (p := ⟨b, off + j, none⟩) hb).trans (hc j u hj)⟩
theorem At.row {w : World} {B o : Nat} {L : List Rt} (h : At w B o (flat L)) {i : Nat} (hi : i < L.length) : RAt w B (o + i * 20) L[i] := ⟨fun j u hj => by
  have hj20 : j < 20 := by
    have := (List.getElem?_eq_some_iff.1 hj).1
    rwa [encR_len] at this
  have := h (i * 20 + j) u (by rw [flat_get L i j hi hj20]; exact hj)
  rwa [← Nat.add_assoc] at this⟩
theorem store_new (w : World) (x : Rt) : Sem.run Tryz.prog (storeCells ⟨w.heap.size, 0, none⟩ (encR x) 0) (w.alloc (.cells (encR zR).toArray 36 (0, 0))) = .ok () (w.alloc (.cells (encR x).toArray 36 (0, 0))) := by
  have h := store_row (o := 0) (vs := encR x) (heap_alloc_new w (.cells (encR zR).toArray 36 (0, 0))) (by simp [encR_len]) (encR_one x) Tryz.prog
  rw [splice_whole (by simp [encR_len]), World.setRow_alloc_new] at h
  exact h
set_option maxRecDepth 100000 in
set_option maxHeartbeats 4000000 in
theorem values1_in (F : Fence) (n : Nat) (hF : F.fn 57) (hro : F.round = none) (hn : 1 ≤ n) (l Bs n₀ b off cap : Nat) (L : List Rt) (hreach : L.length ≤ 1000000) (hb : b < n₀) (J Jx : List Rt → World → Prop)
    (hJ : ∀ pre W o, J pre W → J pre (W.alloc o)) (W : World) (hn₀ : n₀ ≤ W.heap.size)
    (hY : ∀ pre x W1, J pre W1 → pre.length < L.length → YieldAt F (n - 1) Tryz.prog l #[.agg (encR x).toArray] W1 fun e W' =>
      (e = .returned (.bool true) ∧ J (pre ++ [x]) W' ∧ Below n₀ W1 W') ∨ (e = .returned (.bool false) ∧ Jx (pre ++ [x]) W'))
    (hBs : W.cell? ⟨Bs, 0, none⟩ = some (.slice (some ⟨b, off, none⟩) L.length cap)) (hc : At W b off (flat L)) (h0 : J [] W) :
    CallsIn F n Tryz.prog 57 #[.func (.yield l) #[] #[], .pointer (some ⟨Bs, 0, none⟩)] W fun e W' => (∃ v, e = .returned v) ∧
      (J L W' ∨ (∃ pre, pre <+: L ∧ Jx pre W')) := by
  have HC := Lib.hid hc
  clear hc
  refine callsIn_of_wp Tryz.func57 rfl hF ?_ hro
  simp only [Tryz.ntmps57, List.size_toArray, List.length_cons, List.length_nil, Nat.reduceAdd, Nat.reduceSub, Array.replicate_succ, Array.replicate_zero, List.push_toArray, List.append_toArray, List.nil_append, List.cons_append]
  gi_wp2
  gi_loopw [7] (fun i wr => ∃ k : Nat, k ≤ L.length ∧ i = .int .i64 k ∧ J (L.take k) wr ∧ Below n₀ W wr) (fun i _ => L.length - (intOf i).toNat)
  case atStart => exact ⟨0, Nat.zero_le _, rfl, h0, Below.refl _ _⟩
  case round =>
    obtain ⟨k, hk, rfl, hJs, hnx⟩ := hrel
    by_cases hlt : k < L.length
    · have hcx := ((show At wr b off (flat L) from fun j u hj => (hnx.cell (p := ⟨b, off + j, none⟩) hb).trans (HC.out j u hj)).row hlt).all.load (k := n20) (encR_n _) Tryz.prog
      have hcx2 : Sem.run Tryz.prog (loadCellsFrom ⟨b, off + k * n20, none⟩ 0 n20 #[]) wr = .ok (encR L[k]).toArray wr := hcx
      have hst := store_new wr L[k]
      have hld := (rAt_new wr L[k] 36 (0, 0)).all.load (k := n20) (encR_n _) Tryz.prog
      have HT := Lib.hid (List.take_append_getElem hlt)
      have HW := Lib.hid (hnx.alloc (Nat.le_trans hn₀ hnx.size) (.cells (encR L[k]).toArray 36 (0, 0)))
      clear hcx hnx
      obtain ⟨fn, tmps, assign, body, hy, hR⟩ := hY _ L[k] (wr.alloc (.cells (encR L[k]).toArray 36 (0, 0))) (hJ _ _ _ hJs) (by rw [List.length_take]; omega)
      gi_wp2
      refine hR.mono ?_
      rintro e W3 (⟨rfl, hJ3, hk3⟩ | ⟨rfl, hJx3⟩)
      · rw [HT.out] at hJ3
        gi_wp2
        go_roundw
        case rel => exact ⟨k + 1, by omega, by go_num, hJ3, HW.out.trans hk3⟩
        case measure => simp [intOf]; omega
      · rw [HT.out] at hJx3
        gi_wp2
        refine bodyPost_ret (results_none rfl _ _ _) rfl ?_
        exact ⟨⟨_, rfl⟩, .inr ⟨_, List.take_prefix _ _, hJx3⟩⟩
    · obtain rfl : k = L.length := by omega
      rw [List.take_length] at hJs
      gi_wp2
      go_end0
      exact ⟨⟨_, rfl⟩, .inl hJs⟩
end Tab
end Go.Proofs.YtdcbbjlbfghpbaaGreat
