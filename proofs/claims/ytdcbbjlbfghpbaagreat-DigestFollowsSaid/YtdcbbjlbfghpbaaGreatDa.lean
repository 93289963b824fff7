/-
  Joined texts: Frame Gen Held PfxA Held2 PfxB PfxE. Conditions: those that each theorem names.
-/
import Derived.WalkLawsBesides
import Derived.Below
import Derived.Deep.Draws
import Derived.Laws.OwnMore
import Derived.Laws.AppendOwn
import Derived.Deep.RegionHeld3
import Derived.Test.YtdcbbjlbfghpbaaGreatTabP
import Derived.Deep.DeepCutAuto
import Derived.Deep.CutBlock
import Derived.WalkKit
import Derived.Lib.Hide
import Derived.Deep.QuietTactic
import Derived.BigQuiet
import Derived.Shelf.SlicesQ.Load
import Derived.Laws.CopyRow
import Derived.Laws.CopyOwn
import Derived.Test.YtdcbbjlbfghpbaaGreatProg
import Derived.Deep.MidRow
import Derived.Laws.BitsAllLaws
import Derived.StillTailTactics
import Derived.Laws.StructEq
/-
  Frames: which blocks a call may have turned. Plain laws on worlds; no program. Conditions: none.
-/
namespace Go.Proofs.YtdcbbjlbfghpbaaGreat
open Go Go.RowKit
set_option linter.unusedVariables false
/-- of what was there, only blocks of S may have turned -/
structure Only (S : Nat → Prop) (w w' : World) : Prop where
  os : w'.os = w.os
  tape : w'.tape = w.tape
  output : w'.output = w.output
  size : w.heap.size ≤ w'.heap.size
  block : ∀ i, i < w.heap.size → ¬ S i → w'.heap[i]? = w.heap[i]?
theorem Only.refl (S : Nat → Prop) (w : World) : Only S w w := ⟨rfl, rfl, rfl, Nat.le_refl _, fun _ _ _ => rfl⟩
theorem Only.trans {S S' : Nat → Prop} {a b c : World} (h : Only S a b) (k : Only S' b c) (hs : ∀ i, i < a.heap.size → S' i → S i) : Only S a c :=
  ⟨k.os.trans h.os, k.tape.trans h.tape, k.output.trans h.output, Nat.le_trans h.size k.size, fun i hi hn =>
    (k.block i (Nat.lt_of_lt_of_le hi h.size) (fun hk => hn (hs i hi hk))).trans (h.block i hi hn)⟩
theorem Only.mono {S S' : Nat → Prop} {a b : World} (h : Only S a b) (hs : ∀ i, i < a.heap.size → S i → S' i) : Only S' a b :=
  ⟨h.os, h.tape, h.output, h.size, fun i hi hn => h.block i hi (fun hk => hn (hs i hi hk))⟩
theorem Only.alloc {S : Nat → Prop} {a w : World} (h : Only S a w) (o : Obj) : Only S a (w.alloc o) :=
  ⟨h.os, h.tape, h.output, Nat.le_trans h.size (by simp), fun i hi hn => (Below.heap_alloc w o i (Nat.lt_of_lt_of_le hi h.size)).trans (h.block i hi hn)⟩
theorem Only.drew {S : Nat → Prop} {a w : World} (h : Only S a w) : Only S a w.drew := ⟨h.os, h.tape, h.output, h.size, h.block⟩
theorem Only.drewN {S : Nat → Prop} {a w : World} (h : Only S a w) (n : Nat) : Only S a (w.drewN n) := ⟨h.os, h.tape, h.output, h.size, h.block⟩
theorem Only.setCell {S : Nat → Prop} {a w : World} (h : Only S a w) {p : Addr} (hp : p.block < a.heap.size → S p.block) (u : Value) : Only S a (w.setCell p u) :=
  ⟨h.os, h.tape, h.output, by simpa [World.setCell] using h.size, fun i hi hn => (Below.heap_setCell w p u i (by rintro rfl; exact hn (hp hi))).trans (h.block i hi hn)⟩
theorem Only.grown {S : Nat → Prop} {a w w' : World} {row : Option Nat} (h : Only S a w) (hg : w.grownBy w' row) (hr : ∀ k, row = some k → k < a.heap.size → S k) : Only S a w' :=
  h.trans (S' := fun i => row = some i) ⟨hg.os, hg.tape, hg.output, hg.size, fun i hi hn => hg.block i hi (fun e => hn e.symm)⟩ (fun i hi e => hr i e hi)
theorem Only.of_below {S : Nat → Prop} {a w w' : World} (h : Only S a w) (hb : Below w.heap.size w w') : Only S a w' :=
  h.trans (S' := fun _ => False) ⟨hb.os, hb.tape, hb.output, hb.size, fun i hi _ => hb.block i hi⟩ (fun _ _ e => e.elim)
theorem Only.below {S : Nat → Prop} {w w' : World} (h : Only S w w') {B : Nat} (hB : B ≤ w.heap.size) (hs : ∀ i, i < B → ¬ S i) : Below B w w' :=
  ⟨h.os, h.tape, h.output, h.size, fun i hi => h.block i (Nat.lt_of_lt_of_le hi hB) (hs i hi)⟩
theorem Only.obj {S : Nat → Prop} {w w' : World} (h : Only S w w') {i : Nat} {o : Obj} (hi : w.heap[i]? = some o) (hn : ¬ S i) : w'.heap[i]? = some o :=
  (h.block i (Array.getElem?_eq_some_iff.1 hi).1 hn).trans hi
theorem Only.cell {S : Nat → Prop} {w w' : World} (h : Only S w w') {p : Addr} {v : Value} (hc : w.cell? p = some v) (hn : ¬ S p.block) : w'.cell? p = some v :=
  (World.cell?_of_block (h.block p.block (World.block_lt_of_cell? w p hc) hn)).trans hc
theorem Only.own {S : Nat → Prop} {w w' : World} (h : Only S w w') {base size n : Nat} {e : TypeId} {v : Value} {xs : List Value} (ho : w.ownsRow base e size v n xs) (hn : ∀ k, v.ownBlock = some k → ¬ S k) : w'.ownsRow base e size v n xs := by
  refine ⟨ho.1, ?_⟩
  rcases ho.2 with h2 | ⟨g, cap, cur, rfl, hb, hh, r⟩
  · exact .inl h2
  · exact .inr ⟨g, cap, cur, rfl, hb, h.obj hh (hn g rfl), r⟩
/-- a block of another element type than an owned row's is not the row's -/
theorem own_ne_blk {w : World} {base size n g : Nat} {e t : TypeId} {v : Value} {xs : List Value} {cs : Array Value} {fr : Nat × Nat} (h : w.ownsRow base e size v n xs) (hg : w.heap[g]? = some (.cells cs t fr)) (hne : e ≠ t) : v.ownBlock ≠ some g := by
  rcases h.2 with ⟨rfl, _⟩ | ⟨g', cap, cur, rfl, _, hh, _⟩
  · simp [Value.ownBlock]
  · intro he
    have : g' = g := by simpa [Value.ownBlock] using he
    subst this
    rw [hh] at hg
    injection hg with hg
    injection hg with _ ht
    exact hne ht
theorem blk_set {w : World} {g : Nat} {t : TypeId} {cs : Array Value} (h : w.heap[g]? = some (.cells cs t (0, 0))) (i : Nat) (u : Value) : (w.setCell ⟨g, i, none⟩ u).heap[g]? = some (.cells (cs.setIfInBounds i u) t (0, 0)) := by
  simp [World.setCell, Array.getElem?_modify, h]
theorem blk_cell {w : World} {g : Nat} {t : TypeId} {cs : Array Value} {fr : Nat × Nat} (h : w.heap[g]? = some (.cells cs t fr)) (i : Nat) : w.cell? ⟨g, i, none⟩ = cs[i]? := cell_of_row w g i cs t fr h
theorem blk_free {w : World} {g : Nat} {t : TypeId} {cs : Array Value} (h : w.heap[g]? = some (.cells cs t (0, 0))) (i : Nat) : w.frozen? ⟨g, i, none⟩ = false := by simp [World.frozen?, h]
theorem blk_lt {w : World} {g : Nat} {o : Obj} (h : w.heap[g]? = some o) : g < w.heap.size := (Array.getElem?_eq_some_iff.1 h).1
/-- an owned row whose cells are known one by one: a store -/
theorem own_set {w : World} {base n g cap : Nat} {e : TypeId} {xs : List Value} (h : w.ownsRow base e 1 (.slice (some ⟨g, 0, none⟩) n cap) n xs) (i : Nat) (hi : i < n) (u : Value) :
    (w.setCell ⟨g, i, none⟩ u).ownsRow base e 1 (.slice (some ⟨g, 0, none⟩) n cap) n (xs.set i u) := by
  obtain ⟨h1, h2⟩ := h
  refine ⟨by simpa using h1, ?_⟩
  rcases h2 with ⟨h2, _⟩ | ⟨g', cap', cur, hv, hb, hh, hn, hm, hs, ht⟩
  · cases h2
  · simp only [Value.slice.injEq, Option.some.injEq, Addr.mk.injEq, and_true, true_and] at hv
    obtain ⟨rfl, rfl⟩ := hv
    refine .inr ⟨g, cap, cur.setIfInBounds i u, rfl, hb, blk_set hh i u, hn, hm, by simpa using hs, ?_⟩
    rw [Array.toList_setIfInBounds, List.take_set, ht]
theorem own_form {w : World} {base n size : Nat} {e : TypeId} {v : Value} {xs : List Value} (h : w.ownsRow base e size v n xs) (hn : 0 < n) : ∃ g cap, v = .slice (some ⟨g, 0, none⟩) n cap ∧ base ≤ g ∧ n ≤ cap ∧ g < w.heap.size := by
  rcases h.2 with ⟨_, h0⟩ | ⟨g, cap, cur, rfl, hb, hh, hc, _⟩
  · omega
  · exact ⟨g, cap, rfl, hb, hc, blk_lt hh⟩
theorem own_cell {w : World} {base n g cap : Nat} {e : TypeId} {xs : List Value} (h : w.ownsRow base e 1 (.slice (some ⟨g, 0, none⟩) n cap) n xs) (i : Nat) (u : Value) (hu : xs[i]? = some u) : w.cell? ⟨g, i, none⟩ = some u := by
  have := h.cells (g := g) rfl i u hu
  simpa [Addr.add] using (by
    have e : (⟨g, 0, none⟩ : Addr).add i = ⟨g, i, none⟩ := by unfold Addr.add; split <;> simp_all
    rw [e] at this
    exact this)
theorem own_free {w : World} {base n g cap : Nat} {e : TypeId} {xs : List Value} (h : w.ownsRow base e 1 (.slice (some ⟨g, 0, none⟩) n cap) n xs) (i : Nat) : w.frozen? ⟨g, i, none⟩ = false := by
  rcases h.2 with ⟨h2, _⟩ | ⟨g', cap', cur, hv, hb, hh, _⟩
  · cases h2
  · simp only [Value.slice.injEq, Option.some.injEq, Addr.mk.injEq, and_true, true_and] at hv
    obtain ⟨rfl, rfl⟩ := hv
    exact blk_free hh i
end Go.Proofs.YtdcbbjlbfghpbaaGreat

/-
  Small laws on worlds and walks. No program. Conditions: none.
-/
namespace Go.Proofs.YtdcbbjlbfghpbaaGreat
open Go Go.RowKit
/-- all old cells and marks read as they did -/
theorem bcell {W w1 : World} (hb : Below W.heap.size W w1) : (∀ b o, b < W.heap.size → w1.cell? ⟨b, o, none⟩ = W.cell? ⟨b, o, none⟩) ∧ (∀ b o, b < W.heap.size → w1.frozen? ⟨b, o, none⟩ = W.frozen? ⟨b, o, none⟩) :=
  ⟨fun b o h => hb.cell (p := ⟨b, o, none⟩) h, fun b o h => hb.frozen (p := ⟨b, o, none⟩) h⟩
/-- the world under a name of which only F is kept -/
theorem wp_gen {P : Program} {c : Code} {Q : Exit → Act → World → Prop} {a : Act} {w : World} (F : World → Prop) (h : F w) (k : ∀ W, F W → Code.wp P c Q a W) : Code.wp P c Q a w := k w h
theorem later {w wx : World} {a : Addr} {v : Value} (hb : Below w.heap.size w wx) (h : w.cell? a = some v) : wx.cell? a = some v := (hb.cell (World.block_lt_of_cell? _ _ h)).trans h
theorem quiet_same {P : Program} {f : FuncId} {args : Array Value} {w : World} {v : Value} (h : Calls P f args w fun e w' => e = .returned v ∧ w = w') : Calls P f args w fun e w' => e = .returned v ∧ Below w.heap.size w w' :=
  h.mono fun _ _ ⟨he, hw⟩ => ⟨he, hw ▸ Below.refl _ _⟩
end Go.Proofs.YtdcbbjlbfghpbaaGreat

/-
  A region that draws its order, walked operation by operation. Plain laws; no program. Conditions: those that each theorem names.
-/
namespace Go.Proofs.YtdcbbjlbfghpbaaGreat
open Go
set_option linter.unusedVariables false
variable {P : Program} {ops : Array Oper} {Q : Exit → Act → World → Prop} {S : World → Prop}
/-- number i, which lays its value into slot d, is taken first -/
theorem held_take (i d : Nat) {oi : Oper} {v : Value} {fuel : Nat} {listed : Array Bool} {T : Array Value} {D : List Deferred} {w : World} (hi : ops[i]? = some oi) (hd : oi.dst = some d)
    (hs : Region.noSelect ops = true) (hf : Region.free .any ops listed i = true) (hr : (Region.ready .any ops listed).contains i = true)
    (hQ : ∀ c a w, Q (.panic c) (a.put oi.dst v) w → Q (.panic c) a w) (hw : Region.wanted oi (yielded ops T) = true) (hy : ∀ w, S w → (execOp (Act.mk T D).eval oi).run P w = .ok (.value v) w) (hS : S w)
    (h : wpAnyH P .any ops Q S fuel (listed.setIfInBounds i true) ⟨T.setIfInBounds d v, D⟩ w) : wpAnyH P .any ops Q S (fuel + 1) listed ⟨T, D⟩ w := by
  refine wpAnyH_take hi hs hf hr hQ (.inl ⟨hw, hy⟩) hS ?_
  rw [hd]
  exact h
/-- number i, whose guard is false, is passed by -/
theorem held_skip (i d : Nat) {oi : Oper} {fuel : Nat} {listed : Array Bool} {T : Array Value} {D : List Deferred} {w : World} (hi : ops[i]? = some oi) (hd : oi.dst = some d)
    (hs : Region.noSelect ops = true) (hf : Region.free .any ops listed i = true) (hr : (Region.ready .any ops listed).contains i = true)
    (hQ : ∀ c a w, Q (.panic c) (a.put oi.dst undef) w → Q (.panic c) a w) (hw : Region.wanted oi (yielded ops T) = false) (hS : S w)
    (h : wpAnyH P .any ops Q S fuel (listed.setIfInBounds i true) ⟨T.setIfInBounds d undef, D⟩ w) : wpAnyH P .any ops Q S (fuel + 1) listed ⟨T, D⟩ w := by
  refine wpAnyH_take hi hs hf hr hQ (.inr ⟨hw, rfl⟩) hS ?_
  rw [hd]
  exact h
/-- number i alone may come up, and its guard is false -/
theorem held_pass (i d : Nat) {oi : Oper} {fuel : Nat} {listed : Array Bool} {T : Array Value} {D : List Deferred} {w : World} (hi : ops[i]? = some oi) (hd : oi.dst = some d)
    (hr : Region.ready .any ops listed = [i]) (hw : Region.wanted oi (yielded ops T) = false) (hS : S w)
    (h : wpAnyH P .any ops Q S fuel (listed.setIfInBounds i true) ⟨T.setIfInBounds d undef, D⟩ w) : wpAnyH P .any ops Q S (fuel + 1) listed ⟨T, D⟩ w := by
  refine wpAnyH_ready hr (by simp) (AllReadyH.cons hi (fun K hK => ?_) AllReadyH.nil)
  rw [if_neg (by simpa using hw), hd]
  exact hK.out _ _ hS (fun _ => h)
/-- number i alone may come up, and is carried out -/
theorem held_call (i d : Nat) {oi : Oper} {fuel : Nat} {listed : Array Bool} {T : Array Value} {D : List Deferred} {w : World} (hi : ops[i]? = some oi) (hd : oi.dst = some d)
    (hr : Region.ready .any ops listed = [i]) (hw : Region.wanted oi (yielded ops T) = true)
    (h : ∀ K' : Act → World → Prop, Shut (∀ T D w, S w → wpAnyH P .any ops Q S fuel (listed.setIfInBounds i true) ⟨T, D⟩ w → K' ⟨T, D⟩ w) → Oper.wp P oi ⟨T, D⟩ w K' Q) : wpAnyH P .any ops Q S (fuel + 1) listed ⟨T, D⟩ w := by
  refine wpAnyH_ready hr (by simp) (AllReadyH.cons hi (fun K hK => ?_) AllReadyH.nil)
  rw [if_pos hw]
  exact h K (fun T D w hS h => hK.out _ _ hS (fun _ => h))
end Go.Proofs.YtdcbbjlbfghpbaaGreat

/-
  Prefixes in memory: cells, loads, what small functions return. Conditions: those that each theorem names.
-/
namespace Go.Proofs.YtdcbbjlbfghpbaaGreat
open Go Go.RowKit
set_option linter.unusedVariables false
set_option linter.unusedSimpArgs false
namespace Tab
def encA (a : Vector UInt8 16) : List Value := a.toList.map fun b => .int .u8 (b.toNat : Int)
def encP (p : Pf) : List Value := .bool p.six :: (encA p.addr ++ [.int .i64 p.len])
def encR (r : Rt) : List Value := encP r.to ++ [.int .i64 r.metric, .int .u32 r.seq]
theorem encA_len (a : Vector UInt8 16) : (encA a).length = 16 := by simp [encA]
theorem encP_len (p : Pf) : (encP p).length = 18 := by simp [encP, encA_len]
theorem encR_len (r : Rt) : (encR r).length = 20 := by simp [encR, encP_len]
/-! the sizes of an address, a prefix, a route: under names, so that a walk does not load them cell by cell -/
def n16 : Nat := 16
def n18 : Nat := 18
def n20 : Nat := 20
theorem sz16 (w : World) : Sem.run Tryz.prog (Go.sizeOf 31) w = .ok n16 w := Tryz.sizeOf31 w
theorem sz18 (w : World) : Sem.run Tryz.prog (Go.sizeOf 33) w = .ok n18 w := Tryz.sizeOf33 w
theorem sz20 (w : World) : Sem.run Tryz.prog (Go.sizeOf 36) w = .ok n20 w := Tryz.sizeOf36 w
theorem encA_n (a : Vector UInt8 16) : (encA a).length = n16 := encA_len a
theorem encP_n (p : Pf) : (encP p).length = n18 := encP_len p
theorem encR_n (r : Rt) : (encR r).length = n20 := encR_len r
attribute [simp 10000] sz16 sz18 sz20
theorem n16_ne : (n16 = 0) = False := by unfold n16; simp
theorem n18_ne : (n18 = 0) = False := by unfold n18; simp
theorem n20_ne : (n20 = 0) = False := by unfold n20; simp
attribute [go_sem] encA_n encP_n encR_n n16_ne n18_ne n20_ne
/-- some cells, one behind the other -/
def At (w : World) (B o : Nat) (cs : List Value) : Prop := ∀ j u, cs[j]? = some u → w.cell? ⟨B, o + j, none⟩ = some u
theorem At.load {w : World} {B o k : Nat} {cs : List Value} (h : At w B o cs) (hk : cs.length = k) (P : Program) : Sem.run P (loadCellsFrom ⟨B, o, none⟩ 0 k #[]) w = .ok cs.toArray w :=
  run_loadCellsFrom_list P w ⟨B, o, none⟩ cs k hk (fun j v hj => by rw [Addr.add_lit]; exact h j v hj)
theorem At.below {w w' : World} {B o : Nat} {cs : List Value} (h : At w B o cs) (hb : Below w.heap.size w w') : At w' B o cs := fun j u hj => later hb (h j u hj)
theorem At.sub {w : World} {B o : Nat} {a b : List Value} (h : At w B o (a ++ b)) : At w B o a ∧ At w B (o + a.length) b :=
  ⟨fun j u hj => h j u (by rw [List.getElem?_append_left (List.getElem?_eq_some_iff.1 hj).1]; exact hj), fun j u hj => by
    have := h (a.length + j) u (by rw [List.getElem?_append_right (by omega), show a.length + j - a.length = j by omega]; exact hj)
    rwa [← Nat.add_assoc] at this⟩
theorem At.one {w : World} {B o : Nat} {a : Value} (h : At w B o [a]) : w.cell? ⟨B, o, none⟩ = some a := h 0 a rfl
theorem At.cons {w : World} {B o : Nat} {a : Value} {l : List Value} (h : At w B o (a :: l)) : w.cell? ⟨B, o, none⟩ = some a ∧ At w B (o + 1) l :=
  ⟨h 0 a rfl, fun j u hj => by have := h (j + 1) u hj; rwa [show o + (j + 1) = o + 1 + j by omega] at this⟩
theorem At.drewN {w : World} {B o : Nat} {cs : List Value} (h : At w B o cs) (n : Nat) : At (w.drewN n) B o cs := h
theorem At.drew {w : World} {B o : Nat} {cs : List Value} (h : At w B o cs) : At w.drew B o cs := h
theorem at_new (w : World) (cs : List Value) (T : TypeId) (fr : Nat × Nat) : At (w.alloc (.cells cs.toArray T fr)) w.heap.size 0 cs := fun j u hj => by
  rw [Nat.zero_add, blk_cell (t := T) (cs := cs.toArray) (fr := fr) (heap_alloc_new w _)]
  simpa using hj
theorem at_row {w : World} {B : Nat} {cs : List Value} {T : TypeId} {fr : Nat × Nat} (h : w.heap[B]? = some (.cells cs.toArray T fr)) : At w B 0 cs := fun j u hj => by
  rw [Nat.zero_add, blk_cell h]
  simpa using hj
theorem At.alloc {w : World} {B o : Nat} {cs : List Value} (h : At w B o cs) (x : Obj) : At (w.alloc x) B o cs := h.below ((Below.refl _ _).alloc (Nat.le_refl _) _)
/-- some cells of a block written over -/
def splice (cur : Array Value) (o : Nat) (vs : List Value) : Array Value := (cur.toList.take o ++ vs ++ cur.toList.drop (o + vs.length)).toArray
theorem splice_whole {cur : Array Value} {vs : List Value} (h : vs.length = cur.size) : splice cur 0 vs = vs.toArray := by
  unfold splice
  rw [List.drop_of_length_le (by simp; omega)]
  simp
theorem splice_size {cur : Array Value} {o : Nat} {vs : List Value} (h : o + vs.length ≤ cur.size) : (splice cur o vs).size = cur.size := by
  simp [splice]; omega
theorem store_row {w : World} {g o : Nat} {t : TypeId} {cur : Array Value} {vs : List Value} (hg : w.heap[g]? = some (.cells cur t (0, 0))) (hl : o + vs.length ≤ cur.size) (h1 : ∀ v ∈ vs, v.oneCell' = true) (P : Program) :
    (storeCells ⟨g, o, none⟩ vs 0).run P w = .ok () (w.setRow g (splice cur o vs)) := by
  have := run_storeCells_at (P := P) g o t vs 0 cur w hg (by omega) h1
  simpa [splice] using this
theorem encA_one (a : Vector UInt8 16) : ∀ v ∈ encA a, v.oneCell' = true := fun v hv => by
  unfold encA at hv
  obtain ⟨b, _, rfl⟩ := List.mem_map.1 hv
  rfl
theorem encP_one (p : Pf) : ∀ v ∈ encP p, v.oneCell' = true := fun v hv => by
  unfold encP at hv
  simp only [List.mem_cons, List.mem_append, List.not_mem_nil, or_false] at hv
  rcases hv with rfl | h | rfl
  · rfl
  · exact encA_one _ v h
  · rfl
theorem encR_one (r : Rt) : ∀ v ∈ encR r, v.oneCell' = true := fun v hv => by
  unfold encR at hv
  simp only [List.mem_cons, List.mem_append, List.not_mem_nil, or_false] at hv
  rcases hv with h | rfl | rfl
  · exact encP_one _ v h
  · rfl
  · rfl
theorem bdN {n : Nat} {a b : World} (h : Below n a b) (q : Nat) : Below n a (b.drewN q) := ⟨h.os, h.tape, h.output, h.size, h.block⟩
/-- nothing that was there has turned; more may have been drawn -/
structure Grew (w w' : World) : Prop where
  bel : Below w.heap.size w w'
  dr : w.drawn ≤ w'.drawn
theorem Grew.refl (w : World) : Grew w w := ⟨Below.refl _ _, Nat.le_refl _⟩
theorem Grew.alloc {a w : World} (h : Grew a w) (o : Obj) : Grew a (w.alloc o) := ⟨h.bel.alloc h.bel.size o, h.dr⟩
theorem Grew.drew {a w : World} (h : Grew a w) : Grew a w.drew := ⟨h.bel.drew, Nat.le_succ_of_le h.dr⟩
theorem Grew.drewN {a w : World} (h : Grew a w) (n : Nat) : Grew a (w.drewN n) := ⟨bdN h.bel n, Nat.le_trans h.dr (Nat.le_add_right _ _)⟩
theorem Grew.trans {a b c : World} (h : Grew a b) (k : Grew b c) : Grew a c := ⟨h.bel.trans (k.bel.mono h.bel.size), Nat.le_trans h.dr k.dr⟩
/-- a prefix in memory -/
structure PAt (w : World) (B o : Nat) (p : Pf) : Prop where
  all : At w B o (encP p)
theorem PAt.below {w w' : World} {B o : Nat} {p : Pf} (h : PAt w B o p) (hb : Below w.heap.size w w') : PAt w' B o p := ⟨h.all.below hb⟩
theorem PAt.drewN {w : World} {B o : Nat} {p : Pf} (h : PAt w B o p) (n : Nat) : PAt (w.drewN n) B o p := ⟨h.all⟩
theorem PAt.drew {w : World} {B o : Nat} {p : Pf} (h : PAt w B o p) : PAt w.drew B o p := ⟨h.all⟩
theorem PAt.six {w : World} {B o : Nat} {p : Pf} (h : PAt w B o p) : w.cell? ⟨B, o, none⟩ = some (.bool p.six) := h.all.cons.1
theorem PAt.addr {w : World} {B o : Nat} {p : Pf} (h : PAt w B o p) : At w B (o + 1) (encA p.addr) := h.all.cons.2.sub.1
theorem PAt.len {w : World} {B o : Nat} {p : Pf} (h : PAt w B o p) : w.cell? ⟨B, o + 17, none⟩ = some (.int .i64 p.len) := by
  have := h.all.cons.2.sub.2.one
  rwa [encA_len, show o + 1 + 16 = o + 17 by omega] at this
theorem kind_any (p : Pf) (w : World) : Calls Tryz.prog 60 #[.agg (encP p).toArray] w fun e w' => e = .returned (.int .i64 (kindOf p.six)) ∧ Grew w w' := by
  go_enter Tryz.func60, Tryz.ntmps60
  go_upto_region 1 with fail
  have H := Lib.hid (PAt.mk (at_new w (encP p) 33 (0, 0)))
  have hb := Lib.hid (show Grew w (w.alloc (.cells (encP p).toArray 33 (0, 0))) from (Grew.refl _).alloc _)
  generalize w.alloc _ = W at H hb ⊢
  have h0 := H.out.six
  cases hs : p.six <;> rw [hs] at h0
  · go_wp2
    go_ret
    rw [hs]
    exact ⟨rfl, hb.out⟩
  · go_wp2
    go_ret
    rw [hs]
    exact ⟨rfl, hb.out⟩
end Tab
end Go.Proofs.YtdcbbjlbfghpbaaGreat

/-
  A region that draws its order: the condition may grow on the way; an operation that leaves no value; a row stored in the midst of a block. Plain laws; no program. Conditions: those that each theorem names.
-/
namespace Go.Proofs.YtdcbbjlbfghpbaaGreat
open Go
set_option linter.unusedVariables false
namespace H2
theorem held_mono {P : Program} {ops : Array Oper} {Q : Exit → Act → World → Prop} {md : Region.Mode} {S S' : World → Prop} (h : ∀ w, S' w → S w) : ∀ (fuel : Nat) (listed : Array Bool) (a : Act) (w : World), wpAnyH P md ops Q S' fuel listed a w → wpAnyH P md ops Q S fuel listed a w
  | 0, _, _, _, hh => hh
  | fuel + 1, _, _, _, hh => ⟨hh.1, fun i hi => wpOp_mono (fun a' w' h' => ⟨h _ h'.1, held_mono h fuel _ a' w' h'.2⟩) (hh.2 i hi)⟩
theorem cell_other {w : World} {q a : Addr} {u v : Value} (h : w.cell? a = some v) (hq : q.block ≠ a.block) : (w.setCell q u).cell? a = some v := (World.cell?_setCell_far w q a u hq).trans h
/-- number i alone may come up, and is carried out; it leaves no value -/
theorem held_do {P : Program} {ops : Array Oper} {Q : Exit → Act → World → Prop} {S : World → Prop} (i : Nat) {oi : Oper} {fuel : Nat} {listed : Array Bool} {T : Array Value} {D : List Deferred} {w : World} (hi : ops[i]? = some oi)
    (hr : Region.ready .any ops listed = [i]) (hw : Region.wanted oi (yielded ops T) = true)
    (h : ∀ K' : Act → World → Prop, Shut (∀ T D w, S w → wpAnyH P .any ops Q S fuel (listed.setIfInBounds i true) ⟨T, D⟩ w → K' ⟨T, D⟩ w) → Oper.wp P oi ⟨T, D⟩ w K' Q) : wpAnyH P .any ops Q S (fuel + 1) listed ⟨T, D⟩ w := by
  refine wpAnyH_ready hr (by simp) (AllReadyH.cons hi (fun K hK => ?_) AllReadyH.nil)
  rw [if_pos hw]
  exact h K (fun T D w hS h => hK.out _ _ hS (fun _ => h))
/-- two may come up: each is carried out first -/
theorem held_two {P : Program} {ops : Array Oper} {Q : Exit → Act → World → Prop} {S : World → Prop} (i j : Nat) {oi oj : Oper} {fuel : Nat} {listed : Array Bool} {T : Array Value} {D : List Deferred} {w : World} (hi : ops[i]? = some oi) (hj : ops[j]? = some oj)
    (hr : Region.ready .any ops listed = [i, j]) (hw : Region.wanted oi (yielded ops T) = true) (hw2 : Region.wanted oj (yielded ops T) = true)
    (h : ∀ K' : Act → World → Prop, Shut (∀ T D w, S w → wpAnyH P .any ops Q S fuel (listed.setIfInBounds i true) ⟨T, D⟩ w → K' ⟨T, D⟩ w) → Oper.wp P oi ⟨T, D⟩ w K' Q)
    (h2 : ∀ K' : Act → World → Prop, Shut (∀ T D w, S w → wpAnyH P .any ops Q S fuel (listed.setIfInBounds j true) ⟨T, D⟩ w → K' ⟨T, D⟩ w) → Oper.wp P oj ⟨T, D⟩ w K' Q) : wpAnyH P .any ops Q S (fuel + 1) listed ⟨T, D⟩ w := by
  refine wpAnyH_ready hr (by simp) (AllReadyH.cons hi (fun K hK => ?_) (AllReadyH.cons hj (fun K hK => ?_) AllReadyH.nil))
  · rw [if_pos hw]
    exact h K (fun T D w hS h => hK.out _ _ hS (fun _ => h))
  · rw [if_pos hw2]
    exact h2 K (fun T D w hS h => hK.out _ _ hS (fun _ => h))
theorem blk_cells {g : Nat} {t : TypeId} : ∀ (vs : List Value) (o : Nat) {w : World} {cs : Array Value} (_ : w.heap[g]? = some (.cells cs t (0, 0))), ∃ cs', (w.setCells g o vs).heap[g]? = some (.cells cs' t (0, 0)) ∧ cs'.size = cs.size ∧ ∀ k, cs'[k]? = if o ≤ k ∧ k < o + vs.length ∧ k < cs.size then vs[k - o]? else cs[k]?
  | [], o, w, cs, h => ⟨cs, h, rfl, fun k => by simp; intro h1 h2; omega⟩
  | v :: r, o, w, cs, h => by
    obtain ⟨cs', h1, h2, h3⟩ := blk_cells r (o + 1) (blk_set h o v)
    refine ⟨cs', h1, by simpa using h2, fun k => ?_⟩
    rw [h3 k, Array.getElem?_setIfInBounds]
    by_cases e : o = k
    · subst e
      rw [if_neg (by omega), if_pos rfl]
      by_cases hs : o < cs.size
      · rw [if_pos hs, if_pos ⟨by omega, by simp, hs⟩]; simp
      · rw [if_neg hs, if_neg (by omega), Array.getElem?_eq_none (by omega)]
    · by_cases hk : o + 1 ≤ k ∧ k < o + 1 + r.length ∧ k < cs.size
      · rw [if_pos (by simpa using hk), if_pos ⟨by omega, by simp; omega, hk.2.2⟩, show k - o = (k - (o + 1)) + 1 by omega, List.getElem?_cons_succ]
      · rw [if_neg (by simpa using hk), if_neg e, if_neg (by simp; omega)]
theorem Only.setCells {S : Nat → Prop} {g : Nat} : ∀ (vs : List Value) (o : Nat) {a w : World} (_ : Only S a w) (_ : g < a.heap.size → S g), Only S a (w.setCells g o vs)
  | [], _, _, _, h, _ => h
  | v :: r, o, a, w, h, hp => Only.setCells r (o + 1) (Only.setCell h (p := ⟨g, o, none⟩) hp v) hp
end H2
end Go.Proofs.YtdcbbjlbfghpbaaGreat

/-
  Package prefix: masked, Right. Conditions: those that each theorem names.
-/
namespace Go.Proofs.YtdcbbjlbfghpbaaGreat
open Go Go.RowKit H2
set_option linter.unusedVariables false
set_option linter.unusedSimpArgs false
namespace Tab
/-- byte j of an address of which n bits are kept -/
def mb (n : Int) (j : Nat) (b : UInt8) : UInt8 := if n - 8 * j ≤ 0 then 0 else if n - 8 * j < 8 then b &&& ((255 : UInt8) <<< (8 - (n - 8 * j)).toNat.toUInt8) else b
def maskA (a : Vector UInt8 16) (n : Int) : Vector UInt8 16 := Vector.ofFn fun j => mb n j.val a[j]
/-- the cells behind k rounds -/
def Msk (w : World) (B : Nat) (a : Vector UInt8 16) (n : Int) (k : Nat) : Prop :=
  ∃ cur, w.heap[B]? = some (.cells cur 31 (0, 0)) ∧ cur.size = 16 ∧ ∀ j, (h : j < 16) → cur[j]? = some (.int .u8 ((if j < k then mb n j a[j] else a[j]).toNat : Int))
theorem encA_get (a : Vector UInt8 16) (j : Nat) (h : j < 16) : (encA a)[j]? = some (.int .u8 ((a[j]).toNat : Int)) := by
  unfold encA
  rw [List.getElem?_map, Vector.getElem?_toList, Vector.getElem?_eq_getElem h]
  rfl
theorem msk_new (w : World) (a : Vector UInt8 16) (n : Int) : Msk (w.alloc (.cells (encA a).toArray 31 (0, 0))) w.heap.size a n 0 :=
  ⟨_, heap_alloc_new w _, by simp [encA_len], fun j h => by
    rw [if_neg (by omega)]
    have := encA_get a j h
    simpa using this⟩
theorem Msk.cell {w : World} {B : Nat} {a : Vector UInt8 16} {n : Int} {k : Nat} (h : Msk w B a n k) {j : Nat} (hj : j < 16) (hk : k ≤ j) : w.cell? ⟨B, j, none⟩ = some (.int .u8 ((a[j]).toNat : Int)) := by
  obtain ⟨cur, h1, h2, h3⟩ := h
  rw [blk_cell h1, h3 j hj, if_neg (by omega)]
theorem Msk.free {w : World} {B : Nat} {a : Vector UInt8 16} {n : Int} {k : Nat} (h : Msk w B a n k) (j : Nat) : w.frozen? ⟨B, j, none⟩ = false := by
  obtain ⟨cur, h1, h2, h3⟩ := h
  exact blk_free h1 j
theorem Msk.put {w : World} {B : Nat} {a : Vector UInt8 16} {n : Int} {k : Nat} (h : Msk w B a n k) (hk : k < 16) {v : Int} (hv : v = ((mb n k a[k]).toNat : Int)) : Msk (w.setCell ⟨B, k, none⟩ (.int .u8 v)) B a n (k + 1) := by
  obtain ⟨cur, h1, h2, h3⟩ := h
  refine ⟨_, blk_set h1 k _, by simpa using h2, fun j hj => ?_⟩
  rw [Array.getElem?_setIfInBounds]
  by_cases e : k = j
  · subst e
    rw [if_pos rfl, if_pos (by omega), if_pos (by omega), hv]
  · rw [if_neg e, h3 j hj]
    by_cases hl : j < k
    · rw [if_pos hl, if_pos (by omega)]
    · rw [if_neg hl, if_neg (by omega)]
theorem Msk.same {w : World} {B : Nat} {a : Vector UInt8 16} {n : Int} {k : Nat} (h : Msk w B a n k) (hk : k < 16) (hm : mb n k a[k] = a[k]) : Msk w B a n (k + 1) := by
  obtain ⟨cur, h1, h2, h3⟩ := h
  refine ⟨cur, h1, h2, fun j hj => ?_⟩
  rw [h3 j hj]
  by_cases e : k = j
  · subst e
    rw [if_neg (by omega), if_pos (by omega), hm]
  · by_cases hl : j < k
    · rw [if_pos hl, if_pos (by omega)]
    · rw [if_neg hl, if_neg (by omega)]
theorem Msk.below {w w' : World} {B : Nat} {a : Vector UInt8 16} {n : Int} {k : Nat} (h : Msk w B a n k) (hb : Below w.heap.size w w') : Msk w' B a n k := by
  obtain ⟨cur, h1, h2, h3⟩ := h
  exact ⟨cur, (hb.block B (blk_lt h1)).trans h1, h2, h3⟩
theorem Msk.drew {w : World} {B : Nat} {a : Vector UInt8 16} {n : Int} {k : Nat} (h : Msk w B a n k) : Msk w.drew B a n k := h
theorem Msk.done {w : World} {B : Nat} {a : Vector UInt8 16} {n : Int} (h : Msk w B a n 16) : At w B 0 (encA (maskA a n)) := by
  obtain ⟨cur, h1, h2, h3⟩ := h
  intro j u hj
  have hj16 : j < 16 := by
    have := (List.getElem?_eq_some_iff.1 hj).1
    rwa [encA_len] at this
  rw [encA_get _ j hj16] at hj
  rw [Nat.zero_add, blk_cell h1, h3 j hj16, if_pos hj16, ← hj]
  simp [maskA]
theorem mb_val (x : UInt8) (s : Int) (h0 : 0 < s) (h8 : s < 8) : bits .and .u8 (x.toNat : Int) (IntKind.u8.wrap (255 * 2 ^ s.toNat)) = ((x &&& ((255 : UInt8) <<< s.toNat.toUInt8)).toNat : Int) := by
  have key : ∀ y : UInt8, bits .and .u8 (x.toNat : Int) ((y.toNat : Nat) : Int) = ((x &&& y).toNat : Int) := fun y => by
    rw [u8_and_nat _ _ x.toNat_lt y.toNat_lt, UInt8.toNat_and]
  rcases (show s = 1 ∨ s = 2 ∨ s = 3 ∨ s = 4 ∨ s = 5 ∨ s = 6 ∨ s = 7 by omega) with rfl | rfl | rfl | rfl | rfl | rfl | rfl
  · exact key 254
  · exact key 252
  · exact key 248
  · exact key 240
  · exact key 224
  · exact key 192
  · exact key 128
set_option maxRecDepth 100000 in
set_option maxHeartbeats 4000000 in
theorem masked_any (a : Vector UInt8 16) (n : Int) (w : World) (h0 : -1000 ≤ n) (h1 : n ≤ 1000) : Calls Tryz.prog 65 #[.agg (encA a).toArray, .int .i64 n] w fun e w' => e = .returned (.agg (encA (maskA a n)).toArray) ∧ Below w.heap.size w w' := by
  go_enter Tryz.func65, Tryz.ntmps65
  go_upto_region 1 with fail
  have HM := Lib.hid ((msk_new w a n))
  have hbw := Lib.hid (show Below w.heap.size w (w.alloc (.cells (encA a).toArray 31 (0, 0))) from (Below.refl _ _).alloc (Nat.le_refl _) _)
  have hB2 := Lib.hid (heap_alloc_new (w.alloc (.cells (encA a).toArray 31 (0, 0))) (.cells #[.int .u8 0, .int .u8 0, .int .u8 0, .int .u8 0, .int .u8 0, .int .u8 0, .int .u8 0, .int .u8 0, .int .u8 0, .int .u8 0, .int .u8 0, .int .u8 0, .int .u8 0, .int .u8 0, .int .u8 0, .int .u8 0] 31 (0, 0)))
  have hbx := Lib.hid (show Below w.heap.size w ((w.alloc (.cells (encA a).toArray 31 (0, 0))).alloc (.cells #[.int .u8 0, .int .u8 0, .int .u8 0, .int .u8 0, .int .u8 0, .int .u8 0, .int .u8 0, .int .u8 0, .int .u8 0, .int .u8 0, .int .u8 0, .int .u8 0, .int .u8 0, .int .u8 0, .int .u8 0, .int .u8 0] 31 (0, 0))) from hbw.out.alloc hbw.out.size _)
  have HM2 := Lib.hid (show Msk ((w.alloc (.cells (encA a).toArray 31 (0, 0))).alloc (.cells #[.int .u8 0, .int .u8 0, .int .u8 0, .int .u8 0, .int .u8 0, .int .u8 0, .int .u8 0, .int .u8 0, .int .u8 0, .int .u8 0, .int .u8 0, .int .u8 0, .int .u8 0, .int .u8 0, .int .u8 0, .int .u8 0] 31 (0, 0))) w.heap.size a n 0 from HM.out.below ((Below.refl _ _).alloc (Nat.le_refl _) _))
  clear HM
  generalize (w.alloc (.cells (encA a).toArray 31 (0, 0))).alloc _ = W at HM2 hB2 hbx ⊢
  have hsz : (w.alloc (.cells (encA a).toArray 31 (0, 0))).heap.size = w.heap.size + 1 := by simp
  rw [hsz] at hB2
  clear hsz hbw
  obtain ⟨B2, hB2e⟩ : ∃ b, w.heap.size + 1 = b := ⟨_, rfl⟩
  rw [hB2e] at hB2 ⊢
  obtain ⟨B, hBe⟩ : ∃ b, w.heap.size = b := ⟨_, rfl⟩
  rw [hBe] at HM2 ⊢
  have HN := Lib.hid (show w.heap.size ≤ B ∧ B < B2 from by omega)
  clear hB2e hBe
  go_wp2
  go_loopw [7] (fun s7 wr => ∃ k : Nat, k ≤ 16 ∧ s7 = .int .i64 k ∧ Msk wr B a n k ∧ wr.heap[B2]? = W.heap[B2]? ∧ Below w.heap.size w wr) (fun s7 _ => 16 - (intOf s7).toNat)
  case atStart => exact ⟨0, by omega, rfl, HM2.out, rfl, hbx.out⟩
  case round =>
    obtain ⟨k, hk, rfl, hm, h2, hb⟩ := hrel
    have M := Lib.hid hm
    have H2 := Lib.hid (h2.trans hB2.out)
    have HB := Lib.hid hb
    clear hm h2 hb HM2 hbx
    by_cases hlt : k < 16
    · have hlt' : (k : Int) < 16 := by omega
      have k0 : (0 : Int) ≤ (k : Int) := by omega
      have ew : IntKind.i64.wrap (8 * (k : Int)) = 8 * (k : Int) := IntWalk.i64_in _ (by omega)
      have es : IntKind.i64.wrap (n - 8 * (k : Int)) = n - 8 * (k : Int) := IntWalk.i64_in _ (by omega)
      have hc := M.out.cell hlt (Nat.le_refl _)
      have hf := M.out.free k
      by_cases hl0 : n - 8 * (k : Int) ≤ 0
      · have M1 := Lib.hid (M.out.put hlt (v := 0) (by unfold mb; rw [if_pos hl0]; rfl))
        go_wp2
        go_roundw
        case rel => exact ⟨k + 1, by omega, by go_num, M1.out, (Below.heap_setCell wr ⟨B, k, none⟩ _ B2 (by simp; have := HN.out; omega)).trans (H2.out.trans hB2.out.symm), HB.out.setCell HN.out.1 _⟩
        case measure => simp [intOf]; omega
      · have hl0' : ¬ n - 8 * (k : Int) ≤ 0 := hl0
        by_cases hl8 : n - 8 * (k : Int) < 8
        · have M1 := Lib.hid (M.out.drew.put hlt (v := bits .and .u8 ((a[k]).toNat : Int) (IntKind.u8.wrap (255 * 2 ^ (8 - (n - 8 * (k : Int))).toNat))) (by unfold mb; rw [if_neg hl0, if_pos hl8]; exact mb_val _ _ (by omega) (by omega)))
          have e8 : IntKind.i64.wrap (8 - (n - 8 * (k : Int))) = 8 - (n - 8 * (k : Int)) := IntWalk.i64_in _ (by omega)
          go_upto_region 8 with fail
          refine wp_region_still_tail 8 (by kernel_rfl) (by kernel_rfl) ?_
          simp only [List.take_succ_cons, List.take_zero, List.drop_succ_cons, List.drop_zero]
          change wpStill _ _ wr.drew _ _ _
          repeat still_step
          refine wpStill_nil ?_
          change wpList _ _ _ _ _ wr.drew
          go_wp2
          go_roundw
          case rel => exact ⟨k + 1, by omega, by go_num, M1.out, (Below.heap_setCell wr ⟨B, k, none⟩ _ B2 (by simp; have := HN.out; omega)).trans (H2.out.trans hB2.out.symm), HB.out.drew.setCell HN.out.1 _⟩
          case measure => simp [intOf]; omega
        · have M1 := Lib.hid (M.out.same hlt (by unfold mb; rw [if_neg hl0, if_neg hl8]))
          go_wp2
          go_roundw
          case rel => exact ⟨k + 1, by omega, by go_num, M1.out, H2.out.trans hB2.out.symm, HB.out⟩
          case measure => simp [intOf]; omega
    · obtain rfl : k = 16 := by omega
      have hld := M.out.done.load (encA_n _) Tryz.prog
      have hst := store_row (o := 0) (vs := encA (maskA a n)) H2.out (by simp [encA_len]) (encA_one _) Tryz.prog
      rw [splice_whole (by simp [encA_len])] at hst
      have hl2 := (at_row (setRow_heap wr B2 _ (encA (maskA a n)).toArray _ _ H2.out)).load (encA_n _) Tryz.prog
      go_wp2
      exact bodyPost_ret (v := .agg (encA (maskA a n)).toArray) (by simp [results, Tryz.results65, go_sem, hl2]) rfl ⟨rfl, below_setRow HB.out (by have := HN.out; omega) _⟩
end Tab
end Go.Proofs.YtdcbbjlbfghpbaaGreat

/-
  '==' at addresses, prefixes and routes. Conditions: those that each theorem names.
-/
namespace Go.Proofs.YtdcbbjlbfghpbaaGreat
open Go Go.RowKit
set_option linter.unusedVariables false
set_option linter.unusedSimpArgs false
namespace Tab
/-- are bytes s to s + n alike? -/
def sameB (a b : Vector UInt8 16) (s : Nat) : Nat → Bool
  | 0 => true
  | n + 1 => decide (a.toList.getD s 0 = b.toList.getD s 0) && sameB a b (s + 1) n
theorem sameB_iff (a b : Vector UInt8 16) : ∀ (n s : Nat), sameB a b s n = true ↔ ∀ i, s ≤ i → i < s + n → a.toList.getD i 0 = b.toList.getD i 0
  | 0, s => ⟨fun _ i h1 h2 => by omega, fun _ => rfl⟩
  | n + 1, s => by
    rw [sameB, Bool.and_eq_true, decide_eq_true_iff, sameB_iff a b n (s + 1)]
    constructor
    · rintro ⟨h1, h2⟩ i h3 h4
      rcases Nat.eq_or_lt_of_le h3 with rfl | h5
      · exact h1
      · exact h2 i h5 (by omega)
    · intro h
      exact ⟨h s (Nat.le_refl _) (by omega), fun i h1 h2 => h i (by omega) (by omega)⟩
theorem sameB_eq (a b : Vector UInt8 16) : sameB a b 0 16 = decide (a = b) := by
  rw [Bool.eq_iff_iff, decide_eq_true_iff, sameB_iff]
  constructor
  · intro h
    refine Vector.toList_inj.1 (List.ext_getElem (by simp) (fun i h1 h2 => ?_))
    have := h i (Nat.zero_le _) (by simpa using h1)
    rw [List.getD_eq_getElem?_getD, List.getD_eq_getElem?_getD, List.getElem?_eq_getElem h1, List.getElem?_eq_getElem h2] at this
    simpa using this
  · rintro rfl i _ _
    rfl
theorem part_byte (a : Vector UInt8 16) (i : Nat) (hi : i < 16) (w : World) : (part 5 (encA a).toArray (i * 1)).run Tryz.prog w = .ok (.int .u8 ((a.toList.getD i 0).toNat : Int)) w := by
  have h4 : (isAgg 5).run Tryz.prog w = .ok false w := Tryz.isAgg5 w
  have h2 : (Go.sizeOf 5).run Tryz.prog w = .ok 1 w := Tryz.sizeOf5 w
  have hg : (encA a)[i]? = some (.int .u8 ((a.toList.getD i 0).toNat : Int)) := by
    unfold encA
    rw [List.getElem?_map, List.getD_eq_getElem?_getD, List.getElem?_eq_getElem (by simpa using hi)]
    rfl
  simp [part, h4, h2, hg]
theorem run_eq_bytes (d : Nat) (w : World) (a b : Vector UInt8 16) : (Op.equalIn (d + 2) 31 (.agg (encA a).toArray) (.agg (encA b).toArray)).run Tryz.prog w = .ok (decide (a = b)) w := by
  have h1 : Tryz.prog.underlying 31 = some (.array 16 5) := Tryz.underlying31
  have h2 : (Go.sizeOf 5).run Tryz.prog w = .ok 1 w := Tryz.sizeOf5 w
  have h3 : Tryz.prog.underlying 5 = some (.int .u8) := Tryz.underlying5
  rw [Op.equalIn]
  simp only [Sem.run_bind, run_underlying h1, Result.andThen_ok, h2, Std.Legacy.Range.forIn_eq_forIn_range']
  have key : ∀ (n s : Nat), s + n ≤ 16 → (forIn (List.range' s n) ((none : Option Bool), ()) (fun i (__s : Option Bool × Unit) => do
            let x ← part 5 (encA a).toArray (i * 1)
            let y ← part 5 (encA b).toArray (i * 1)
            let r ← Op.equalIn (d + 1) 5 x y
            if (!r) = true then pure (ForInStep.done (some false, ())) else pure (ForInStep.yield (none, ()))) : Sem (Option Bool × Unit)).run Tryz.prog w = .ok (if sameB a b s n = true then (none, ()) else (some false, ())) w := by
    intro n
    induction n with
    | zero => intro s _; simp [sameB]
    | succ n ih =>
      intro s hs
      rw [List.range'_succ, List.forIn_cons]
      simp only [Sem.run_bind, part_byte _ s (by omega), Result.andThen_ok, run_equalIn_int w d _ .u8 .u8 _ _ h3]
      rw [sameB]
      by_cases e : a.toList.getD s 0 = b.toList.getD s 0
      · rw [e]
        simp only [beq_self_eq_true, Bool.not_true, Bool.false_eq_true, if_false, Sem.run_pure, Result.andThen_ok, decide_true, Bool.true_and]
        exact ih (s + 1) (by omega)
      · have e2 : (((a.toList.getD s 0).toNat : Int) == ((b.toList.getD s 0).toNat : Int)) = false := by
          rw [beq_eq_false_iff_ne]
          intro h
          exact e (UInt8.toNat_inj.1 (by omega))
        rw [e2, decide_eq_false e]
        simp
  have k16 := key 16 0 (by omega)
  rw [show ([:16] : Std.Legacy.Range).size = 16 from rfl]
  rw [k16, sameB_eq]
  by_cases e : a = b
  · simp [e]
  · simp [e]
theorem part_one {t : TypeId} {cs : List Value} {o : Nat} {v : Value} (h : cs[o]? = some v) (ha : ∀ w, (isAgg t).run Tryz.prog w = .ok false w) (w : World) : (part t cs.toArray o).run Tryz.prog w = .ok v w := by
  simp [part, ha w, h]
theorem part_agg {t : TypeId} {a b c : List Value} {o k : Nat} (hk : b.length = k) (hl : a.length = o) (ha : ∀ w, (isAgg t).run Tryz.prog w = .ok true w) (hz : ∀ w, (Go.sizeOf t).run Tryz.prog w = .ok k w) (w : World) : (part t (a ++ (b ++ c)).toArray o).run Tryz.prog w = .ok (.agg b.toArray) w := by
  subst hk hl
  have e : (a ++ (b ++ c)).toArray.extract a.length (a.length + b.length) = b.toArray := by
    simp [List.extract_eq_take_drop]
  simp [part, ha w, hz w]
theorem eqFields_cons {d : Nat} {xs ys : Array Value} {f : Field} {fs : List Field} {w : World} {x y : Value} {r : Bool} (hn : f.name ≠ "_") (hx : (part f.type xs f.offset).run Tryz.prog w = .ok x w) (hy : (part f.type ys f.offset).run Tryz.prog w = .ok y w) (hr : (Op.equalIn d f.type x y).run Tryz.prog w = .ok r w) :
    (Op.eqFields d xs ys (f :: fs)).run Tryz.prog w = if r = true then (Op.eqFields d xs ys fs).run Tryz.prog w else .ok false w := by
  rw [Op.eqFields, if_pos hn]
  simp only [Sem.run_bind, hx, hy, hr, Result.andThen_ok]
  cases r
  · simp
  · simp
theorem encP_get (p : Pf) : (encP p)[0]? = some (.bool p.six) ∧ (encP p)[17]? = some (.int .i64 p.len) := by
  refine ⟨rfl, ?_⟩
  unfold encP
  rw [List.getElem?_cons_succ, List.getElem?_append_right (Nat.le_of_eq (encA_len _)), encA_len]
  rfl
theorem run_eq_prefix (d : Nat) (w : World) (p q : Pf) : (Op.equalIn (d + 3) 33 (.agg (encP p).toArray) (.agg (encP q).toArray)).run Tryz.prog w = .ok (decide (p = q)) w := by
  have hS : Tryz.prog.underlying 33 = some (.struct (Tryz.prog.fieldsOf 33)) := by kernel_rfl
  have hp : Tryz.prog.stoodInHeld 33 = false := by kernel_rfl
  have hf : ∃ f0 f1 f2 : Field, (Tryz.prog.fieldsOf 33).toList = [f0, f1, f2] ∧ (f0.name ≠ "_" ∧ f0.type = 4 ∧ f0.offset = 0) ∧ (f1.name ≠ "_" ∧ f1.type = 31 ∧ f1.offset = 1) ∧ (f2.name ≠ "_" ∧ f2.type = 3 ∧ f2.offset = 17) := by
    simp only [Program.fieldsOf, Tryz.underlying33]
    exact ⟨_, _, _, rfl, ⟨by decide, rfl, rfl⟩, ⟨by decide, rfl, rfl⟩, ⟨by decide, rfl, rfl⟩⟩
  obtain ⟨f0, f1, f2, hl, ⟨n0, t0, o0⟩, ⟨n1, t1, o1⟩, ⟨n2, t2, o2⟩⟩ := hf
  rw [run_equalIn_agg w (d + 2) _ _ _ hS hp, hl]
  have b0 : ∀ w, (isAgg 4).run Tryz.prog w = .ok false w := fun w => Tryz.isAgg4 w
  have b2 : ∀ w, (isAgg 3).run Tryz.prog w = .ok false w := fun w => Tryz.isAgg3 w
  have b1 : ∀ w, (isAgg 31).run Tryz.prog w = .ok true w := fun w => Tryz.isAgg31 w
  have z1 : ∀ w, (Go.sizeOf 31).run Tryz.prog w = .ok 16 w := fun w => Tryz.sizeOf31 w
  have g1 : ∀ p : Pf, (part 31 (encP p).toArray 1).run Tryz.prog w = .ok (.agg (encA p.addr).toArray) w := fun p => part_agg (a := [.bool p.six]) (b := encA p.addr) (c := [.int .i64 p.len]) (encA_len _) rfl b1 z1 w
  rw [eqFields_cons (r := decide (p.six = q.six)) n0 (by rw [t0, o0]; exact part_one (encP_get p).1 b0 w) (by rw [t0, o0]; exact part_one (encP_get q).1 b0 w) (by rw [t0, run_equalIn_bool' w (d + 1) _ _ _ Tryz.underlying4]; congr 1)]
  rw [eqFields_cons (r := decide (p.addr = q.addr)) n1 (by rw [t1, o1]; exact g1 p) (by rw [t1, o1]; exact g1 q) (by rw [t1]; exact run_eq_bytes d w _ _)]
  rw [eqFields_cons (r := decide (p.len = q.len)) n2 (by rw [t2, o2]; exact part_one (encP_get p).2 b2 w) (by rw [t2, o2]; exact part_one (encP_get q).2 b2 w) (by rw [t2, run_equalIn_int w (d + 1) _ .i64 .i64 _ _ Tryz.underlying3]; congr 1)]
  obtain ⟨s1, a1, l1⟩ := p
  obtain ⟨s2, a2, l2⟩ := q
  by_cases h0 : s1 = s2 <;> by_cases h1 : a1 = a2 <;> by_cases h2 : l1 = l2 <;> simp [h0, h1, h2, Op.eqFields]
theorem encR_get (r : Rt) : (encR r)[18]? = some (.int .i64 r.metric) ∧ (encR r)[19]? = some (.int .u32 r.seq) := by
  unfold encR
  constructor
  · rw [List.getElem?_append_right (Nat.le_of_eq (encP_len _)), encP_len]
    rfl
  · rw [List.getElem?_append_right (by rw [encP_len]; omega), encP_len]
    rfl
theorem run_eq_route (d : Nat) (w : World) (p q : Rt) : (Op.equalIn (d + 4) 36 (.agg (encR p).toArray) (.agg (encR q).toArray)).run Tryz.prog w = .ok (decide (p = q)) w := by
  have hS : Tryz.prog.underlying 36 = some (.struct (Tryz.prog.fieldsOf 36)) := by kernel_rfl
  have hp : Tryz.prog.stoodInHeld 36 = false := by kernel_rfl
  have hf : ∃ f0 f1 f2 : Field, (Tryz.prog.fieldsOf 36).toList = [f0, f1, f2] ∧ (f0.name ≠ "_" ∧ f0.type = 33 ∧ f0.offset = 0) ∧ (f1.name ≠ "_" ∧ f1.type = 3 ∧ f1.offset = 18) ∧ (f2.name ≠ "_" ∧ f2.type = 34 ∧ f2.offset = 19) := by
    simp only [Program.fieldsOf, Tryz.underlying36]
    exact ⟨_, _, _, rfl, ⟨by decide, rfl, rfl⟩, ⟨by decide, rfl, rfl⟩, ⟨by decide, rfl, rfl⟩⟩
  obtain ⟨f0, f1, f2, hl, ⟨n0, t0, o0⟩, ⟨n1, t1, o1⟩, ⟨n2, t2, o2⟩⟩ := hf
  rw [run_equalIn_agg w (d + 3) _ _ _ hS hp, hl]
  have b1 : ∀ w, (isAgg 3).run Tryz.prog w = .ok false w := fun w => Tryz.isAgg3 w
  have b2 : ∀ w, (isAgg 34).run Tryz.prog w = .ok false w := fun w => Tryz.isAgg34 w
  have b0 : ∀ w, (isAgg 33).run Tryz.prog w = .ok true w := fun w => Tryz.isAgg33 w
  have z0 : ∀ w, (Go.sizeOf 33).run Tryz.prog w = .ok 18 w := fun w => Tryz.sizeOf33 w
  have g0 : ∀ p : Rt, (part 33 (encR p).toArray 0).run Tryz.prog w = .ok (.agg (encP p.to).toArray) w := fun p => part_agg (a := []) (b := encP p.to) (c := [.int .i64 p.metric, .int .u32 p.seq]) (encP_len _) rfl b0 z0 w
  rw [eqFields_cons (r := decide (p.to = q.to)) n0 (by rw [t0, o0]; exact g0 p) (by rw [t0, o0]; exact g0 q) (by rw [t0]; exact run_eq_prefix d w _ _)]
  rw [eqFields_cons (r := decide (p.metric = q.metric)) n1 (by rw [t1, o1]; exact part_one (encR_get p).1 b1 w) (by rw [t1, o1]; exact part_one (encR_get q).1 b1 w) (by rw [t1, run_equalIn_int w (d + 2) _ .i64 .i64 _ _ Tryz.underlying3]; congr 1)]
  rw [eqFields_cons (r := decide (p.seq = q.seq)) n2 (by rw [t2, o2]; exact part_one (encR_get p).2 b2 w) (by rw [t2, o2]; exact part_one (encR_get q).2 b2 w) (by rw [t2, run_equalIn_int w (d + 2) _ .u32 .u32 _ _ Tryz.underlying34]; congr 1)]
  obtain ⟨s1, a1, l1⟩ := p
  obtain ⟨s2, a2, l2⟩ := q
  by_cases h0 : s1 = s2 <;> by_cases h1 : a1 = a2 <;> by_cases h2 : l1 = l2 <;> simp [h0, h1, h2, Op.eqFields]
theorem eqA (a b : Vector UInt8 16) (w : World) : (binOp .eql 31 (.agg (encA a).toArray) (.agg (encA b).toArray)).run Tryz.prog w = .ok (.bool (decide (a = b))) w := by rw [run_eql_struct, run_eq_bytes]; rfl
theorem eqP (p q : Pf) (w : World) : (binOp .eql 33 (.agg (encP p).toArray) (.agg (encP q).toArray)).run Tryz.prog w = .ok (.bool (decide (p = q))) w := by rw [run_eql_struct, run_eq_prefix]; rfl
theorem neqP (p q : Pf) (w : World) : (binOp .neq 33 (.agg (encP p).toArray) (.agg (encP q).toArray)).run Tryz.prog w = .ok (.bool (!decide (p = q))) w := by rw [run_neq_struct, run_eq_prefix]; rfl
theorem eqR (p q : Rt) (w : World) : (binOp .eql 36 (.agg (encR p).toArray) (.agg (encR q).toArray)).run Tryz.prog w = .ok (.bool (decide (p = q))) w := by rw [run_eql_struct, run_eq_route]; rfl
theorem neqR (p q : Rt) (w : World) : (binOp .neq 36 (.agg (encR p).toArray) (.agg (encR q).toArray)).run Tryz.prog w = .ok (.bool (!decide (p = q))) w := by rw [run_neq_struct, run_eq_route]; rfl
attribute [go_sem 10000] eqA eqP neqP eqR neqR
end Tab
end Go.Proofs.YtdcbbjlbfghpbaaGreat
