/-
  Prefixes in memory: cells, loads, what small functions return. Conditions: those that each theorem names.
-/
import Derived.Test.YtbeoclcnajfjcaaTabP
import Derived.Test.YtbeoclcnajfjcaaFrame
import Derived.Test.YtbeoclcnajfjcaaGen
import Derived.Deep.DeepCutAuto
import Derived.Deep.CutBlock
import Derived.WalkKit
import Derived.Lib.Hide
import Derived.Deep.QuietTactic
import Derived.BigQuiet
import Derived.Shelf.SlicesQ.Load
import Derived.Laws.CopyRow
import Derived.Laws.CopyOwn
import Derived.Test.YtbeoclcnajfjcaaProg
import Derived.Test.YtbeoclcnajfjcaaHeld
namespace Go.Proofs.Ytbeoclcnajfjcaa
open Go Go.RowKit
set_option linter.unusedVariables false
set_option linter.unusedSimpArgs false
namespace Tab
def encA (a : Vector UInt8 16) : List Value := a.toList.map fun b => .int .u8 (b.toNat : Int)
def encP (p : Pf) : List Value := .bool p.six :: (encA p.addr ++ [.int .i64 p.len])
def encR (r : Rt) : List Value := encP r.to ++ [.int .i64 r.metric, .int .u32 r.seq]
theorem encA_len (a : Vector UInt8 16) : (encA a).length = 16 := by simp [encA]
theorem encP_len (p : Pf) : (encP p).length = 18 := by simp [encP, encA_len]
theorem encR_len (r : Rt) : (encR r).length = 20 := by simp [encR, encP_len]
/-! the sizes of an address, a prefix, a route: under names, so that a walk does not load them cell by cell -/
def n16 : Nat := 16
def n18 : Nat := 18
def n20 : Nat := 20
theorem sz16 (w : World) : Sem.run Try.prog (Go.sizeOf 23) w = .ok n16 w := Try.sizeOf23 w
theorem sz18 (w : World) : Sem.run Try.prog (Go.sizeOf 25) w = .ok n18 w := Try.sizeOf25 w
theorem sz20 (w : World) : Sem.run Try.prog (Go.sizeOf 34) w = .ok n20 w := Try.sizeOf34 w
theorem encA_n (a : Vector UInt8 16) : (encA a).length = n16 := encA_len a
theorem encP_n (p : Pf) : (encP p).length = n18 := encP_len p
theorem encR_n (r : Rt) : (encR r).length = n20 := encR_len r
attribute [simp 10000] sz16 sz18 sz20
theorem n16_ne : (n16 = 0) = False := by unfold n16; simp
theorem n18_ne : (n18 = 0) = False := by unfold n18; simp
theorem n20_ne : (n20 = 0) = False := by unfold n20; simp
attribute [go_sem] encA_n encP_n encR_n n16_ne n18_ne n20_ne
/-- some cells, one behind the other -/
def At (w : World) (B o : Nat) (cs : List Value) : Prop := ∀ j u, cs[j]? = some u → w.cell? ⟨B, o + j, none⟩ = some u
theorem At.load {w : World} {B o k : Nat} {cs : List Value} (h : At w B o cs) (hk : cs.length = k) (P : Program) : Sem.run P (loadCellsFrom ⟨B, o, none⟩ 0 k #[]) w = .ok cs.toArray w :=
  run_loadCellsFrom_list P w ⟨B, o, none⟩ cs k hk (fun j v hj => by rw [Addr.add_lit]; exact h j v hj)
theorem At.below {w w' : World} {B o : Nat} {cs : List Value} (h : At w B o cs) (hb : Below w.heap.size w w') : At w' B o cs := fun j u hj => later hb (h j u hj)
theorem At.sub {w : World} {B o : Nat} {a b : List Value} (h : At w B o (a ++ b)) : At w B o a ∧ At w B (o + a.length) b :=
  ⟨fun j u hj => h j u (by rw [List.getElem?_append_left (List.getElem?_eq_some_iff.1 hj).1]; exact hj), fun j u hj => by
    have := h (a.length + j) u (by rw [List.getElem?_append_right (by omega), show a.length + j - a.length = j by omega]; exact hj)
    rwa [← Nat.add_assoc] at this⟩
theorem At.one {w : World} {B o : Nat} {a : Value} (h : At w B o [a]) : w.cell? ⟨B, o, none⟩ = some a := h 0 a rfl
theorem At.cons {w : World} {B o : Nat} {a : Value} {l : List Value} (h : At w B o (a :: l)) : w.cell? ⟨B, o, none⟩ = some a ∧ At w B (o + 1) l :=
  ⟨h 0 a rfl, fun j u hj => by have := h (j + 1) u hj; rwa [show o + (j + 1) = o + 1 + j by omega] at this⟩
theorem At.drewN {w : World} {B o : Nat} {cs : List Value} (h : At w B o cs) (n : Nat) : At (w.drewN n) B o cs := h
theorem At.drew {w : World} {B o : Nat} {cs : List Value} (h : At w B o cs) : At w.drew B o cs := h
theorem at_new (w : World) (cs : List Value) (T : TypeId) (fr : Nat × Nat) : At (w.alloc (.cells cs.toArray T fr)) w.heap.size 0 cs := fun j u hj => by
  rw [Nat.zero_add, blk_cell (t := T) (cs := cs.toArray) (fr := fr) (heap_alloc_new w _)]
  simpa using hj
theorem at_row {w : World} {B : Nat} {cs : List Value} {T : TypeId} {fr : Nat × Nat} (h : w.heap[B]? = some (.cells cs.toArray T fr)) : At w B 0 cs := fun j u hj => by
  rw [Nat.zero_add, blk_cell h]
  simpa using hj
theorem At.alloc {w : World} {B o : Nat} {cs : List Value} (h : At w B o cs) (x : Obj) : At (w.alloc x) B o cs := h.below ((Below.refl _ _).alloc (Nat.le_refl _) _)
/-- some cells of a block written over -/
def splice (cur : Array Value) (o : Nat) (vs : List Value) : Array Value := (cur.toList.take o ++ vs ++ cur.toList.drop (o + vs.length)).toArray
theorem splice_whole {cur : Array Value} {vs : List Value} (h : vs.length = cur.size) : splice cur 0 vs = vs.toArray := by
  unfold splice
  rw [List.drop_of_length_le (by simp; omega)]
  simp
theorem splice_size {cur : Array Value} {o : Nat} {vs : List Value} (h : o + vs.length ≤ cur.size) : (splice cur o vs).size = cur.size := by
  simp [splice]; omega
theorem store_row {w : World} {g o : Nat} {t : TypeId} {cur : Array Value} {vs : List Value} (hg : w.heap[g]? = some (.cells cur t (0, 0))) (hl : o + vs.length ≤ cur.size) (h1 : ∀ v ∈ vs, v.oneCell' = true) (P : Program) :
    (storeCells ⟨g, o, none⟩ vs 0).run P w = .ok () (w.setRow g (splice cur o vs)) := by
  have := run_storeCells_at (P := P) g o t vs 0 cur w hg (by omega) h1
  simpa [splice] using this
theorem encA_one (a : Vector UInt8 16) : ∀ v ∈ encA a, v.oneCell' = true := fun v hv => by
  unfold encA at hv
  obtain ⟨b, _, rfl⟩ := List.mem_map.1 hv
  rfl
theorem encP_one (p : Pf) : ∀ v ∈ encP p, v.oneCell' = true := fun v hv => by
  unfold encP at hv
  simp only [List.mem_cons, List.mem_append, List.not_mem_nil, or_false] at hv
  rcases hv with rfl | h | rfl
  · rfl
  · exact encA_one _ v h
  · rfl
theorem encR_one (r : Rt) : ∀ v ∈ encR r, v.oneCell' = true := fun v hv => by
  unfold encR at hv
  simp only [List.mem_cons, List.mem_append, List.not_mem_nil, or_false] at hv
  rcases hv with h | rfl | rfl
  · exact encP_one _ v h
  · rfl
  · rfl
theorem bdN {n : Nat} {a b : World} (h : Below n a b) (q : Nat) : Below n a (b.drewN q) := ⟨h.os, h.tape, h.output, h.size, h.block⟩
/-- nothing that was there has turned; more may have been drawn -/
structure Grew (w w' : World) : Prop where
  bel : Below w.heap.size w w'
  dr : w.drawn ≤ w'.drawn
theorem Grew.refl (w : World) : Grew w w := ⟨Below.refl _ _, Nat.le_refl _⟩
theorem Grew.alloc {a w : World} (h : Grew a w) (o : Obj) : Grew a (w.alloc o) := ⟨h.bel.alloc h.bel.size o, h.dr⟩
theorem Grew.drew {a w : World} (h : Grew a w) : Grew a w.drew := ⟨h.bel.drew, Nat.le_succ_of_le h.dr⟩
theorem Grew.drewN {a w : World} (h : Grew a w) (n : Nat) : Grew a (w.drewN n) := ⟨bdN h.bel n, Nat.le_trans h.dr (Nat.le_add_right _ _)⟩
theorem Grew.trans {a b c : World} (h : Grew a b) (k : Grew b c) : Grew a c := ⟨h.bel.trans (k.bel.mono h.bel.size), Nat.le_trans h.dr k.dr⟩
/-- a prefix in memory -/
structure PAt (w : World) (B o : Nat) (p : Pf) : Prop where
  all : At w B o (encP p)
theorem PAt.below {w w' : World} {B o : Nat} {p : Pf} (h : PAt w B o p) (hb : Below w.heap.size w w') : PAt w' B o p := ⟨h.all.below hb⟩
theorem PAt.drewN {w : World} {B o : Nat} {p : Pf} (h : PAt w B o p) (n : Nat) : PAt (w.drewN n) B o p := ⟨h.all⟩
theorem PAt.drew {w : World} {B o : Nat} {p : Pf} (h : PAt w B o p) : PAt w.drew B o p := ⟨h.all⟩
theorem PAt.six {w : World} {B o : Nat} {p : Pf} (h : PAt w B o p) : w.cell? ⟨B, o, none⟩ = some (.bool p.six) := h.all.cons.1
theorem PAt.addr {w : World} {B o : Nat} {p : Pf} (h : PAt w B o p) : At w B (o + 1) (encA p.addr) := h.all.cons.2.sub.1
theorem PAt.len {w : World} {B o : Nat} {p : Pf} (h : PAt w B o p) : w.cell? ⟨B, o + 17, none⟩ = some (.int .i64 p.len) := by
  have := h.all.cons.2.sub.2.one
  rwa [encA_len, show o + 1 + 16 = o + 17 by omega] at this
theorem kind_any (p : Pf) (w : World) : Calls Try.prog 55 #[.agg (encP p).toArray] w fun e w' => e = .returned (.int .i64 (kindOf p.six)) ∧ Grew w w' := by
  go_enter Try.func55, Try.ntmps55
  go_upto_region 1 with fail
  have H := Lib.hid (PAt.mk (at_new w (encP p) 25 (0, 0)))
  have hb := Lib.hid (show Grew w (w.alloc (.cells (encP p).toArray 25 (0, 0))) from (Grew.refl _).alloc _)
  generalize w.alloc _ = W at H hb ⊢
  have h0 := H.out.six
  cases hs : p.six <;> rw [hs] at h0
  · go_wp2
    go_ret
    rw [hs]
    exact ⟨rfl, hb.out⟩
  · go_wp2
    go_ret
    rw [hs]
    exact ⟨rfl, hb.out⟩
end Tab
end Go.Proofs.Ytbeoclcnajfjcaa
