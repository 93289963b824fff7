/-
  Joined texts: Gen Frame Float Feas Held Held2 Own Typ ChS. Conditions: those that each theorem names.
-/
import Derived.WalkLawsBesides
import Derived.Below
import Derived.Deep.Draws
import Derived.Laws.OwnMore
import Derived.Laws.AppendOwn
import Derived.Test.YtebkpjefdaieaaaProg
import Derived.WalkKit
import Derived.KernelRfl
import Derived.Lib.Hide
import Derived.Outline
import Derived.LoopTactic
import Derived.Deep.RegionWith
import Derived.Deep.RegionHeld3
import Derived.Deep.MidRow
import Derived.OwnWalk
import Derived.Deep.AppendLies
/-
  Small laws on worlds and walks. No program. Conditions: none.
-/
namespace Go.Proofs.Ytebkpjefdaieaaa
open Go Go.RowKit
/-- all old cells and marks read as they did -/
theorem bcell {W w1 : World} (hb : Below W.heap.size W w1) : (∀ b o, b < W.heap.size → w1.cell? ⟨b, o, none⟩ = W.cell? ⟨b, o, none⟩) ∧ (∀ b o, b < W.heap.size → w1.frozen? ⟨b, o, none⟩ = W.frozen? ⟨b, o, none⟩) :=
  ⟨fun b o h => hb.cell (p := ⟨b, o, none⟩) h, fun b o h => hb.frozen (p := ⟨b, o, none⟩) h⟩
/-- the world under a name of which only F is kept -/
theorem wp_gen {P : Program} {c : Code} {Q : Exit → Act → World → Prop} {a : Act} {w : World} (F : World → Prop) (h : F w) (k : ∀ W, F W → Code.wp P c Q a W) : Code.wp P c Q a w := k w h
theorem later {w wx : World} {a : Addr} {v : Value} (hb : Below w.heap.size w wx) (h : w.cell? a = some v) : wx.cell? a = some v := (hb.cell (World.block_lt_of_cell? _ _ h)).trans h
theorem quiet_same {P : Program} {f : FuncId} {args : Array Value} {w : World} {v : Value} (h : Calls P f args w fun e w' => e = .returned v ∧ w = w') : Calls P f args w fun e w' => e = .returned v ∧ Below w.heap.size w w' :=
  h.mono fun _ _ ⟨he, hw⟩ => ⟨he, hw ▸ Below.refl _ _⟩
end Go.Proofs.Ytebkpjefdaieaaa

/-
  Frames: which blocks a call may have turned. Plain laws on worlds; no program. Conditions: none.
-/
namespace Go.Proofs.Ytebkpjefdaieaaa
open Go Go.RowKit
set_option linter.unusedVariables false
/-- of what was there, only blocks of S may have turned -/
structure Only (S : Nat → Prop) (w w' : World) : Prop where
  os : w'.os = w.os
  tape : w'.tape = w.tape
  output : w'.output = w.output
  size : w.heap.size ≤ w'.heap.size
  block : ∀ i, i < w.heap.size → ¬ S i → w'.heap[i]? = w.heap[i]?
theorem Only.refl (S : Nat → Prop) (w : World) : Only S w w := ⟨rfl, rfl, rfl, Nat.le_refl _, fun _ _ _ => rfl⟩
theorem Only.trans {S S' : Nat → Prop} {a b c : World} (h : Only S a b) (k : Only S' b c) (hs : ∀ i, i < a.heap.size → S' i → S i) : Only S a c :=
  ⟨k.os.trans h.os, k.tape.trans h.tape, k.output.trans h.output, Nat.le_trans h.size k.size, fun i hi hn =>
    (k.block i (Nat.lt_of_lt_of_le hi h.size) (fun hk => hn (hs i hi hk))).trans (h.block i hi hn)⟩
theorem Only.mono {S S' : Nat → Prop} {a b : World} (h : Only S a b) (hs : ∀ i, i < a.heap.size → S i → S' i) : Only S' a b :=
  ⟨h.os, h.tape, h.output, h.size, fun i hi hn => h.block i hi (fun hk => hn (hs i hi hk))⟩
theorem Only.alloc {S : Nat → Prop} {a w : World} (h : Only S a w) (o : Obj) : Only S a (w.alloc o) :=
  ⟨h.os, h.tape, h.output, Nat.le_trans h.size (by simp), fun i hi hn => (Below.heap_alloc w o i (Nat.lt_of_lt_of_le hi h.size)).trans (h.block i hi hn)⟩
theorem Only.drew {S : Nat → Prop} {a w : World} (h : Only S a w) : Only S a w.drew := ⟨h.os, h.tape, h.output, h.size, h.block⟩
theorem Only.drewN {S : Nat → Prop} {a w : World} (h : Only S a w) (n : Nat) : Only S a (w.drewN n) := ⟨h.os, h.tape, h.output, h.size, h.block⟩
theorem Only.setCell {S : Nat → Prop} {a w : World} (h : Only S a w) {p : Addr} (hp : p.block < a.heap.size → S p.block) (u : Value) : Only S a (w.setCell p u) :=
  ⟨h.os, h.tape, h.output, by simpa [World.setCell] using h.size, fun i hi hn => (Below.heap_setCell w p u i (by rintro rfl; exact hn (hp hi))).trans (h.block i hi hn)⟩
theorem Only.grown {S : Nat → Prop} {a w w' : World} {row : Option Nat} (h : Only S a w) (hg : w.grownBy w' row) (hr : ∀ k, row = some k → k < a.heap.size → S k) : Only S a w' :=
  h.trans (S' := fun i => row = some i) ⟨hg.os, hg.tape, hg.output, hg.size, fun i hi hn => hg.block i hi (fun e => hn e.symm)⟩ (fun i hi e => hr i e hi)
theorem Only.of_below {S : Nat → Prop} {a w w' : World} (h : Only S a w) (hb : Below w.heap.size w w') : Only S a w' :=
  h.trans (S' := fun _ => False) ⟨hb.os, hb.tape, hb.output, hb.size, fun i hi _ => hb.block i hi⟩ (fun _ _ e => e.elim)
theorem Only.below {S : Nat → Prop} {w w' : World} (h : Only S w w') {B : Nat} (hB : B ≤ w.heap.size) (hs : ∀ i, i < B → ¬ S i) : Below B w w' :=
  ⟨h.os, h.tape, h.output, h.size, fun i hi => h.block i (Nat.lt_of_lt_of_le hi hB) (hs i hi)⟩
theorem Only.obj {S : Nat → Prop} {w w' : World} (h : Only S w w') {i : Nat} {o : Obj} (hi : w.heap[i]? = some o) (hn : ¬ S i) : w'.heap[i]? = some o :=
  (h.block i (Array.getElem?_eq_some_iff.1 hi).1 hn).trans hi
theorem Only.cell {S : Nat → Prop} {w w' : World} (h : Only S w w') {p : Addr} {v : Value} (hc : w.cell? p = some v) (hn : ¬ S p.block) : w'.cell? p = some v :=
  (World.cell?_of_block (h.block p.block (World.block_lt_of_cell? w p hc) hn)).trans hc
theorem Only.own {S : Nat → Prop} {w w' : World} (h : Only S w w') {base size n : Nat} {e : TypeId} {v : Value} {xs : List Value} (ho : w.ownsRow base e size v n xs) (hn : ∀ k, v.ownBlock = some k → ¬ S k) : w'.ownsRow base e size v n xs := by
  refine ⟨ho.1, ?_⟩
  rcases ho.2 with h2 | ⟨g, cap, cur, rfl, hb, hh, r⟩
  · exact .inl h2
  · exact .inr ⟨g, cap, cur, rfl, hb, h.obj hh (hn g rfl), r⟩
/-- a block of another element type than an owned row's is not the row's -/
theorem own_ne_blk {w : World} {base size n g : Nat} {e t : TypeId} {v : Value} {xs : List Value} {cs : Array Value} {fr : Nat × Nat} (h : w.ownsRow base e size v n xs) (hg : w.heap[g]? = some (.cells cs t fr)) (hne : e ≠ t) : v.ownBlock ≠ some g := by
  rcases h.2 with ⟨rfl, _⟩ | ⟨g', cap, cur, rfl, _, hh, _⟩
  · simp [Value.ownBlock]
  · intro he
    have : g' = g := by simpa [Value.ownBlock] using he
    subst this
    rw [hh] at hg
    injection hg with hg
    injection hg with _ ht
    exact hne ht
theorem blk_set {w : World} {g : Nat} {t : TypeId} {cs : Array Value} (h : w.heap[g]? = some (.cells cs t (0, 0))) (i : Nat) (u : Value) : (w.setCell ⟨g, i, none⟩ u).heap[g]? = some (.cells (cs.setIfInBounds i u) t (0, 0)) := by
  simp [World.setCell, Array.getElem?_modify, h]
theorem blk_cell {w : World} {g : Nat} {t : TypeId} {cs : Array Value} {fr : Nat × Nat} (h : w.heap[g]? = some (.cells cs t fr)) (i : Nat) : w.cell? ⟨g, i, none⟩ = cs[i]? := cell_of_row w g i cs t fr h
theorem blk_free {w : World} {g : Nat} {t : TypeId} {cs : Array Value} (h : w.heap[g]? = some (.cells cs t (0, 0))) (i : Nat) : w.frozen? ⟨g, i, none⟩ = false := by simp [World.frozen?, h]
theorem blk_lt {w : World} {g : Nat} {o : Obj} (h : w.heap[g]? = some o) : g < w.heap.size := (Array.getElem?_eq_some_iff.1 h).1
/-- an owned row whose cells are known one by one: a store -/
theorem own_set {w : World} {base n g cap : Nat} {e : TypeId} {xs : List Value} (h : w.ownsRow base e 1 (.slice (some ⟨g, 0, none⟩) n cap) n xs) (i : Nat) (hi : i < n) (u : Value) :
    (w.setCell ⟨g, i, none⟩ u).ownsRow base e 1 (.slice (some ⟨g, 0, none⟩) n cap) n (xs.set i u) := by
  obtain ⟨h1, h2⟩ := h
  refine ⟨by simpa using h1, ?_⟩
  rcases h2 with ⟨h2, _⟩ | ⟨g', cap', cur, hv, hb, hh, hn, hm, hs, ht⟩
  · cases h2
  · simp only [Value.slice.injEq, Option.some.injEq, Addr.mk.injEq, and_true, true_and] at hv
    obtain ⟨rfl, rfl⟩ := hv
    refine .inr ⟨g, cap, cur.setIfInBounds i u, rfl, hb, blk_set hh i u, hn, hm, by simpa using hs, ?_⟩
    rw [Array.toList_setIfInBounds, List.take_set, ht]
theorem own_form {w : World} {base n size : Nat} {e : TypeId} {v : Value} {xs : List Value} (h : w.ownsRow base e size v n xs) (hn : 0 < n) : ∃ g cap, v = .slice (some ⟨g, 0, none⟩) n cap ∧ base ≤ g ∧ n ≤ cap ∧ g < w.heap.size := by
  rcases h.2 with ⟨_, h0⟩ | ⟨g, cap, cur, rfl, hb, hh, hc, _⟩
  · omega
  · exact ⟨g, cap, rfl, hb, hc, blk_lt hh⟩
theorem own_cell {w : World} {base n g cap : Nat} {e : TypeId} {xs : List Value} (h : w.ownsRow base e 1 (.slice (some ⟨g, 0, none⟩) n cap) n xs) (i : Nat) (u : Value) (hu : xs[i]? = some u) : w.cell? ⟨g, i, none⟩ = some u := by
  have := h.cells (g := g) rfl i u hu
  simpa [Addr.add] using (by
    have e : (⟨g, 0, none⟩ : Addr).add i = ⟨g, i, none⟩ := by unfold Addr.add; split <;> simp_all
    rw [e] at this
    exact this)
theorem own_free {w : World} {base n g cap : Nat} {e : TypeId} {xs : List Value} (h : w.ownsRow base e 1 (.slice (some ⟨g, 0, none⟩) n cap) n xs) (i : Nat) : w.frozen? ⟨g, i, none⟩ = false := by
  rcases h.2 with ⟨h2, _⟩ | ⟨g', cap', cur, hv, hb, hh, _⟩
  · cases h2
  · simp only [Value.slice.injEq, Option.some.injEq, Addr.mk.injEq, and_true, true_and] at hv
    obtain ⟨rfl, rfl⟩ := hv
    exact blk_free hh i
end Go.Proofs.Ytebkpjefdaieaaa

/-
  Plain laws on doubles that are whole numbers of 32 bits: they compare, add and subtract as the numbers do; and the words of the layer 'feasible' on whole numbers. Conditions: those that each law names.
-/
namespace Go.Proofs.Ytebkpjefdaieaaa.F64
open Ieee Go

/-- the bits of the double that is the whole number n -/
def fb (n : Int) : Nat := FloatKind.f64.nearest n

theorem cut_exact (s : Bool) (way : Toward) (n drop : Nat) (h : drop ≤ n.log2 + 2) (hd : 2 ^ drop ∣ n) : way.cut s n drop = n / 2 ^ drop := by
  obtain ⟨c, rfl⟩ := hd
  have hp : 0 < 2 ^ drop := Nat.two_pow_pos _
  unfold Toward.cut
  rw [Nat.min_eq_left h, Nat.one_shiftLeft]
  simp only [Nat.mul_mod_right]
  cases way <;> simp

theorem log2_le {m : Nat} (h : m < 2 ^ 53) (h0 : m ≠ 0) : m.log2 ≤ 52 := by
  have := (Nat.log2_lt h0).2 h
  omega

theorem nearest_scaled (neg : Bool) (m k : Nat) (h : m < 2 ^ 53) (h0 : m ≠ 0) (_hk : k ≤ 1074) :
    double.nearest neg (m * 2 ^ k) (-(k : Int)) = double.word neg ((m.log2 + 1022) * 2 ^ 52 + m * 2 ^ (52 - m.log2)) := by
  have hl := log2_le h h0
  have hp : 0 < 2 ^ k := Nat.two_pow_pos _
  have hmk : m * 2 ^ k ≠ 0 := Nat.mul_ne_zero h0 (by omega)
  have hlog : (m * 2 ^ k).log2 = m.log2 + k := by
    rw [Nat.log2_eq_iff hmk]
    have h1 := Nat.log2_self_le h0
    have h2 := Nat.lt_log2_self (n := m)
    constructor
    · rw [Nat.pow_add]; exact Nat.mul_le_mul_right _ h1
    · rw [show m.log2 + k + 1 = (m.log2 + 1) + k from by omega, Nat.pow_add]; exact Nat.mul_lt_mul_of_pos_right h2 hp
  have hself := Nat.log2_self_le h0
  have hlt := Nat.lt_log2_self (n := m)
  have hlast : max (-(k : Int) + (m * 2 ^ k).log2 - double.fractionBits) double.leastPlace = (m.log2 : Int) - 52 := by
    rw [hlog]
    have : double.leastPlace = -1074 := by decide
    rw [this]
    simp only [double]
    omega
  have hkept : Toward.even.cut neg ((m * 2 ^ k) <<< (-(k : Int) - ((m.log2 : Int) - 52)).toNat) (((m.log2 : Int) - 52) - -(k : Int)).toNat = m * 2 ^ (52 - m.log2) := by
    rw [Nat.shiftLeft_eq]
    by_cases hc : m.log2 + k ≤ 52
    · rw [show (-(k : Int) - ((m.log2 : Int) - 52)).toNat = 52 - m.log2 - k from by omega, show (((m.log2 : Int) - 52) - -(k : Int)).toNat = 0 from by omega]
      rw [cut_exact _ _ _ _ (by omega) (by simp)]
      rw [Nat.mul_assoc, ← Nat.pow_add]
      simp
      congr 2
      omega
    · rw [show (-(k : Int) - ((m.log2 : Int) - 52)).toNat = 0 from by omega, show (((m.log2 : Int) - 52) - -(k : Int)).toNat = m.log2 + k - 52 from by omega]
      rw [Nat.pow_zero, Nat.mul_one]
      have hsp : m * 2 ^ k = m * 2 ^ (52 - m.log2) * 2 ^ (m.log2 + k - 52) := by
        rw [Nat.mul_assoc, ← Nat.pow_add]
        congr 2
        omega
      rw [cut_exact _ _ _ _ (by omega) (by rw [hsp]; exact Nat.dvd_mul_left _ _)]
      rw [hsp, Nat.mul_div_cancel _ (Nat.two_pow_pos _)]
  unfold Format.nearest
  rw [if_neg hmk]
  simp only [hlast, hkept]
  have hlp : double.leastPlace = -1074 := by decide
  have hb : double.binade = 2 ^ 52 := by decide
  have hi : double.infRung = 2047 * 2 ^ 52 := by decide
  rw [hlp, hb, hi]
  rw [show ((m.log2 : Int) - 52 - -1074).toNat = m.log2 + 1022 from by omega]
  have hup : m * 2 ^ (52 - m.log2) < 2 ^ 53 := by
    have : m * 2 ^ (52 - m.log2) < 2 ^ (m.log2 + 1) * 2 ^ (52 - m.log2) := Nat.mul_lt_mul_of_pos_right hlt (Nat.two_pow_pos _)
    rw [← Nat.pow_add, show m.log2 + 1 + (52 - m.log2) = 53 from by omega] at this
    exact this
  rw [Nat.min_eq_left]
  have : (m.log2 + 1022) * 2 ^ 52 ≤ 1074 * 2 ^ 52 := Nat.mul_le_mul_right _ (by omega)
  exact Nat.le_trans (Nat.add_le_add this (Nat.le_of_lt hup)) (by decide)

/-- what a whole number's double stands for -/
def dat (n : Int) : Datum := if n = 0 then .number false 0 (-1074) else .number (decide (n < 0)) (n.natAbs * 2 ^ (52 - n.natAbs.log2)) ((n.natAbs.log2 : Int) - 52)

theorem read_word (neg : Bool) (m : Nat) (h : m < 2 ^ 53) (h0 : m ≠ 0) :
    double.read (double.word neg ((m.log2 + 1022) * 2 ^ 52 + m * 2 ^ (52 - m.log2))) = .number neg (m * 2 ^ (52 - m.log2)) ((m.log2 : Int) - 52) := by
  have hl := log2_le h h0
  have hself := Nat.log2_self_le h0
  have hlt := Nat.lt_log2_self (n := m)
  have hup : m * 2 ^ (52 - m.log2) < 2 ^ 53 := by
    have : m * 2 ^ (52 - m.log2) < 2 ^ (m.log2 + 1) * 2 ^ (52 - m.log2) := Nat.mul_lt_mul_of_pos_right hlt (Nat.two_pow_pos _)
    rw [← Nat.pow_add, show m.log2 + 1 + (52 - m.log2) = 53 from by omega] at this
    exact this
  have hlo : 2 ^ 52 ≤ m * 2 ^ (52 - m.log2) := by
    have : 2 ^ m.log2 * 2 ^ (52 - m.log2) ≤ m * 2 ^ (52 - m.log2) := Nat.mul_le_mul_right _ hself
    rw [← Nat.pow_add, show m.log2 + (52 - m.log2) = 52 from by omega] at this
    exact this
  generalize m * 2 ^ (52 - m.log2) = q at hup hlo ⊢
  generalize m.log2 = l at hl ⊢
  have hs : double.signWeight = 2 ^ 63 := by decide
  have hb : double.binade = 2 ^ 52 := by decide
  have hi : double.infRung = 2047 * 2 ^ 52 := by decide
  have hlp : double.leastPlace = -1074 := by decide
  unfold Format.read Format.word
  rw [hs, hb, hi, hlp]
  have hr : (if neg = true then 2 ^ 63 + ((l + 1022) * 2 ^ 52 + q) else (l + 1022) * 2 ^ 52 + q) % 2 ^ 63 = (l + 1022) * 2 ^ 52 + q := by
    split <;> omega
  have hn : ((if neg = true then 2 ^ 63 + ((l + 1022) * 2 ^ 52 + q) else (l + 1022) * 2 ^ 52 + q) / 2 ^ 63 % 2 == 1) = neg := by
    cases neg
    · rw [if_neg (by decide), show ((l + 1022) * 2 ^ 52 + q) / 2 ^ 63 % 2 = 0 from by omega]; rfl
    · rw [if_pos rfl, show (2 ^ 63 + ((l + 1022) * 2 ^ 52 + q)) / 2 ^ 63 % 2 = 1 from by omega]; rfl
  rw [hr, hn]
  dsimp only
  rw [if_neg (by omega), if_pos (by omega)]
  congr 1 <;> omega

theorem read_fb (n : Int) (h : n.natAbs < 2 ^ 53) : double.read (fb n) = dat n := by
  unfold dat
  by_cases h0 : n = 0
  · subst h0; decide
  · rw [if_neg h0]
    have := nearest_scaled (decide (n < 0)) n.natAbs 0 h (by omega) (by omega)
    simp only [Nat.pow_zero, Nat.mul_one] at this
    show double.read (double.nearest (decide (n < 0)) n.natAbs 0) = _
    rw [show (-(((0 : Nat)) : Int)) = 0 from rfl] at this
    rw [this, read_word _ _ h (by omega)]

theorem signed_dat (n : Int) (h : n.natAbs < 2 ^ 53) (h0 : n ≠ 0) (k : Nat) (hk : 52 - n.natAbs.log2 ≤ k) :
    signed (decide (n < 0)) (n.natAbs * 2 ^ (52 - n.natAbs.log2)) (((n.natAbs.log2 : Int) - 52 - -(k : Int)).toNat) = n * 2 ^ k := by
  have hl := log2_le h (by omega)
  unfold signed
  rw [Nat.shiftLeft_eq, Nat.mul_assoc, ← Nat.pow_add, show 52 - n.natAbs.log2 + ((n.natAbs.log2 : Int) - 52 - -(k : Int)).toNat = k from by omega]
  by_cases hn : n < 0
  · simp only [hn, decide_true, if_true, Int.natCast_mul, Int.natCast_pow]
    rw [show ((n.natAbs : Nat) : Int) = -n from by omega, Int.neg_mul, Int.neg_neg]
    rfl
  · simp only [hn, decide_false, Bool.false_eq_true, if_false, Int.natCast_mul, Int.natCast_pow]
    rw [show ((n.natAbs : Nat) : Int) = n from by omega]
    rfl

/-- all of a whole number's double at one place -/
theorem dat_num (n : Int) (h : n.natAbs < 2 ^ 53) : ∃ (m : Nat) (k : Nat), dat n = .number (decide (n < 0)) m (-(k : Int)) ∧ k ≤ 1074 ∧ ∀ j : Nat, k ≤ j → signed (decide (n < 0)) m ((-(k : Int) - -(j : Int)).toNat) = n * 2 ^ j := by
  by_cases h0 : n = 0
  · subst h0
    exact ⟨0, 1074, by decide, by omega, fun j _ => by simp [signed]⟩
  · have hl := log2_le h (show n.natAbs ≠ 0 by omega)
    refine ⟨n.natAbs * 2 ^ (52 - n.natAbs.log2), 52 - n.natAbs.log2, ?_, by omega, fun j hj => ?_⟩
    · unfold dat
      rw [if_neg h0]
      congr 1
      omega
    · have := signed_dat n h h0 j hj
      rw [← this]
      congr 2
      omega

theorem compare_scaled (a b : Int) (k : Nat) : compare (a * 2 ^ k) (b * 2 ^ k) = compare a b := by
  have hp : (0 : Int) < 2 ^ k := Int.pow_pos (by omega)
  rcases Int.lt_trichotomy a b with h | h | h
  · rw [Int.compare_eq_lt.2 h, Int.compare_eq_lt.2 (Int.mul_lt_mul_of_pos_right h hp)]
  · subst h; simp
  · rw [Int.compare_eq_gt.2 h, Int.compare_eq_gt.2 (Int.mul_lt_mul_of_pos_right h hp)]

theorem order_fb (a b : Int) (ha : a.natAbs < 2 ^ 53) (hb : b.natAbs < 2 ^ 53) : double.order (fb a) (fb b) = some (compare a b) := by
  unfold Format.order
  rw [read_fb a ha, read_fb b hb]
  obtain ⟨m, i, e1, hi, f1⟩ := dat_num a ha
  obtain ⟨n, j, e2, hj, f2⟩ := dat_num b hb
  rw [e1, e2]
  simp only [Datum.order]
  rcases Nat.le_total i j with h | h
  · rw [show min (-(i : Int)) (-(j : Int)) = -(j : Int) from by omega, f1 j h, f2 j (by omega), compare_scaled]
  · rw [show min (-(i : Int)) (-(j : Int)) = -(i : Int) from by omega, f1 i (by omega), f2 i h, compare_scaled]

theorem write_sum (neg : Bool) (t : Int) (h : t.natAbs < 2 ^ 53) (k : Nat) (hk : k ≤ 1074) (hneg : neg = decide (t < 0)) :
    double.write (.number neg (t * 2 ^ k).natAbs (-(k : Int))) = fb t := by
  subst hneg
  by_cases h0 : t = 0
  · subst h0; simp [Format.write, Format.nearest]; decide
  · have e : (t * 2 ^ k).natAbs = t.natAbs * 2 ^ k := by rw [Int.natAbs_mul, Int.natAbs_pow]; rfl
    show double.nearest _ _ _ = double.nearest (decide (t < 0)) t.natAbs 0
    rw [e, nearest_scaled _ _ k h (by omega) hk]
    have := nearest_scaled (decide (t < 0)) t.natAbs 0 h (by omega) (by omega)
    simp only [Nat.pow_zero, Nat.mul_one] at this
    rw [show (-(((0 : Nat)) : Int)) = 0 from rfl] at this
    rw [this]

theorem sum_fb (a b : Int) (ha : a.natAbs < 2 ^ 53) (hb : b.natAbs < 2 ^ 53) (hs : (a + b).natAbs < 2 ^ 53) (h0 : 0 ≤ a) :
    double.add (fb a) (fb b) = some (fb (a + b)) := by
  unfold Format.add
  rw [read_fb a ha, read_fb b hb]
  obtain ⟨m, i, e1, hi, f1⟩ := dat_num a ha
  obtain ⟨n, j, e2, hj, f2⟩ := dat_num b hb
  rw [e1, e2]
  simp only [Datum.sum, Option.map_some]
  have hp : ∀ k : Nat, (0 : Int) < 2 ^ k := fun k => Int.pow_pos (by omega)
  have key : ∀ k : Nat, i ≤ k → j ≤ k → k ≤ 1074 → double.write (.number (if a * 2 ^ k + b * 2 ^ k = 0 then decide (a < 0) && decide (b < 0) else decide (a * 2 ^ k + b * 2 ^ k < 0)) (a * 2 ^ k + b * 2 ^ k).natAbs (-(k : Int))) = fb (a + b) := by
    intro k _ _ hk
    rw [← Int.add_mul]
    refine write_sum _ _ hs k hk ?_
    by_cases hz : a + b = 0
    · rw [hz]; simp; omega
    · rw [if_neg (by intro h; rcases Int.mul_eq_zero.1 h with h | h; exact hz h; have := hp k; omega)]
      congr 1
      refine propext ⟨fun h => ?_, fun h => ?_⟩
      · apply Int.not_le.1; intro h'; have := Int.mul_nonneg h' (Int.le_of_lt (hp k)); omega
      · have := Int.mul_lt_mul_of_pos_right h (hp k); simpa using this
  congr 1
  rcases Nat.le_total i j with h | h
  · rw [show min (-(i : Int)) (-(j : Int)) = -(j : Int) from by omega, f1 j h, f2 j (by omega)]
    exact key j h (Nat.le_refl _) hj
  · rw [show min (-(i : Int)) (-(j : Int)) = -(i : Int) from by omega, f1 i (by omega), f2 i h]
    exact key i (Nat.le_refl _) h hi

theorem opp_dat (b : Int) (hb : b.natAbs < 2 ^ 53) : ∃ (m : Nat) (j : Nat), (dat b).opposite = .number (!decide (b < 0)) m (-(j : Int)) ∧ j ≤ 1074 ∧ ∀ k : Nat, j ≤ k → signed (!decide (b < 0)) m ((-(j : Int) - -(k : Int)).toNat) = -b * 2 ^ k := by
  obtain ⟨n, j, e2, hj, f2⟩ := dat_num b hb
  refine ⟨n, j, by rw [e2]; rfl, hj, fun k hk => ?_⟩
  have := f2 k hk
  rw [Int.neg_mul, ← this]
  unfold signed
  cases decide (b < 0) <;> simp

theorem sub_fb (a b : Int) (ha : a.natAbs < 2 ^ 53) (hb : b.natAbs < 2 ^ 53) (hs : (a - b).natAbs < 2 ^ 53) (h0 : 0 ≤ a) :
    double.sub (fb a) (fb b) = some (fb (a - b)) := by
  unfold Format.sub
  rw [read_fb a ha, read_fb b hb]
  obtain ⟨m, i, e1, hi, f1⟩ := dat_num a ha
  obtain ⟨n, j, e2, hj, f2⟩ := opp_dat b hb
  rw [e1, e2]
  simp only [Datum.sum, Option.map_some]
  have hp : ∀ k : Nat, (0 : Int) < 2 ^ k := fun k => Int.pow_pos (by omega)
  have key : ∀ k : Nat, i ≤ k → j ≤ k → k ≤ 1074 → double.write (.number (if a * 2 ^ k + -b * 2 ^ k = 0 then decide (a < 0) && !decide (b < 0) else decide (a * 2 ^ k + -b * 2 ^ k < 0)) (a * 2 ^ k + -b * 2 ^ k).natAbs (-(k : Int))) = fb (a - b) := by
    intro k _ _ hk
    rw [← Int.add_mul, ← Int.sub_eq_add_neg]
    refine write_sum _ _ hs k hk ?_
    by_cases hz : a - b = 0
    · rw [hz]; simp; omega
    · rw [if_neg (by intro h; rcases Int.mul_eq_zero.1 h with h | h; exact hz h; have := hp k; omega)]
      congr 1
      refine propext ⟨fun h => ?_, fun h => ?_⟩
      · apply Int.not_le.1; intro h'; have := Int.mul_nonneg h' (Int.le_of_lt (hp k)); omega
      · have := Int.mul_lt_mul_of_pos_right h (hp k); simpa using this
  congr 1
  rcases Nat.le_total i j with h | h
  · rw [show min (-(i : Int)) (-(j : Int)) = -(j : Int) from by omega, f1 j h, f2 j (by omega)]
    exact key j h (Nat.le_refl _) hj
  · rw [show min (-(i : Int)) (-(j : Int)) = -(i : Int) from by omega, f1 i (by omega), f2 i h]
    exact key i (Nat.le_refl _) h hi

theorem toInt_fb (a : Int) (ha : a.natAbs < 2 ^ 53) : (FloatKind.f64.decode (fb a)).toInt .zero = some a := by
  show (double.read (fb a)).toInt .zero = some a
  rw [read_fb a ha]
  by_cases h0 : a = 0
  · subst h0; decide
  · have hl := log2_le ha (show a.natAbs ≠ 0 by omega)
    unfold dat
    rw [if_neg h0]
    simp only [Datum.toInt, Datum.integral]
    rw [show ((a.natAbs.log2 : Int) - 52).toNat = 0 from by omega, show (-((a.natAbs.log2 : Int) - 52)).toNat = 52 - a.natAbs.log2 from by omega, Nat.shiftLeft_eq, Nat.pow_zero, Nat.mul_one]
    rw [cut_exact _ _ _ _ ?_ (Nat.dvd_mul_left _ _), Nat.mul_div_cancel _ (Nat.two_pow_pos _)]
    · unfold signed
      simp only [Nat.shiftLeft_zero, Option.some.injEq]
      by_cases hn : a < 0
      · simp [hn]; omega
      · simp [hn]; omega
    · have h1 : a.natAbs * 2 ^ (52 - a.natAbs.log2) ≠ 0 := Nat.mul_ne_zero (by omega) (by have := Nat.two_pow_pos (52 - a.natAbs.log2); omega)
      have h2 : 52 - a.natAbs.log2 ≤ (a.natAbs * 2 ^ (52 - a.natAbs.log2)).log2 := by
        rw [Nat.le_log2 h1]
        have : 1 * 2 ^ (52 - a.natAbs.log2) ≤ a.natAbs * 2 ^ (52 - a.natAbs.log2) := Nat.mul_le_mul_right _ (by omega)
        omega
      omega

end Go.Proofs.Ytebkpjefdaieaaa.F64
namespace Go.Proofs.Ytebkpjefdaieaaa.FR
open Go F64
/-- a whole number that fits 32 bits -/
def Sm (a : Int) : Prop := 0 ≤ a ∧ a ≤ 4294967295
instance (a : Int) : Decidable (Sm a) := inferInstanceAs (Decidable (_ ∧ _))
theorem Sm.lo {a : Int} (h : Sm a) : 0 ≤ a := h.1
theorem Sm.hi {a : Int} (h : Sm a) : a ≤ 4294967295 := h.2
theorem Sm.nat {a : Int} (h : Sm a) : a.natAbs < 2 ^ 53 := by unfold Sm at h; omega
theorem fi_fb (a : Int) : floatOfInt .f64 a = fb a := rfl
theorem order_sm {a b : Int} (ha : Sm a) (hb : Sm b) : FloatKind.f64.format.order (floatOfInt .f64 a) (floatOfInt .f64 b) = some (compare a b) := order_fb a b ha.nat hb.nat
theorem fi_zero : floatOfInt .f64 0 = 0 := by decide
theorem fi_inf : floatOfInt .f64 65535 = 4679239875398991872 := by decide
theorem order_sub0 {a b : Int} (ha : Sm a) (hb : Sm b) : FloatKind.f64.format.order (floatOfInt .f64 (a - b)) 0 = some (compare a b) := by
  rw [← fi_zero]
  have := order_fb (a - b) 0 (by unfold Sm at ha hb; omega) (by decide)
  rw [show FloatKind.f64.format.order (floatOfInt .f64 (a - b)) (floatOfInt .f64 0) = _ from this]
  congr 1
  rcases Int.lt_trichotomy a b with h | h | h
  · rw [Int.compare_eq_lt.2 h, Int.compare_eq_lt.2 (by omega)]
  · subst h; simp
  · rw [Int.compare_eq_gt.2 h, Int.compare_eq_gt.2 (by omega)]
theorem order_inf {a : Int} (ha : Sm a) : FloatKind.f64.format.order (floatOfInt .f64 a) 4679239875398991872 = some (compare a 65535) := by
  rw [← fi_inf]; exact order_sm ha ⟨by omega, by omega⟩
theorem cmp_lt (a b : Int) : (compare a b == Ordering.lt) = decide (a < b) := by
  by_cases h : a < b
  · simp [h, Int.compare_eq_lt.2 h]
  · have : compare a b ≠ .lt := fun e => h (Int.compare_eq_lt.1 e)
    simp [h, this]
theorem cmp_gt (a b : Int) : (compare a b == Ordering.gt) = decide (b < a) := by
  by_cases h : b < a
  · simp [h, Int.compare_eq_gt.2 h]
  · have : compare a b ≠ .gt := fun e => h (Int.compare_eq_gt.1 e)
    simp [h, this]
theorem cmp_eq (a b : Int) : (compare a b == Ordering.eq) = decide (a = b) := by
  by_cases h : a = b
  · subst h; simp
  · have : compare a b ≠ .eq := fun e => h (Int.compare_eq_eq.1 e)
    simp [h, this]
theorem cmp_ne (a b : Int) : (some (compare a b) != some Ordering.eq) = decide (a ≠ b) := by
  have := cmp_eq a b
  simp only [bne]
  simp [this]
section
variable {P : Program} (w : World)
theorem run_fsub {a b : Int} (ha : Sm a) (hb : Sm b) (t : TypeId) : (binOp .sub t (.float .f64 (floatOfInt .f64 a)) (.float .f64 (floatOfInt .f64 b))).run P w = .ok (.float .f64 (floatOfInt .f64 (a - b))) w :=
  run_float_arith w .sub t .f64 _ _ _ (sub_fb a b ha.nat hb.nat (by unfold Sm at ha hb; omega) ha.1)
theorem run_cadd {a b s : Int} (ha : Sm a) (hb : Sm b) (hs : Sm s) (t : TypeId) : (binOp .add t (.complex .f64 (floatOfInt .f64 a) (floatOfInt .f64 s)) (.complex .f64 (floatOfInt .f64 b) 0)).run P w = .ok (.complex .f64 (floatOfInt .f64 (a + b)) (floatOfInt .f64 s)) w := by
  refine run_complex_sum w .add (.inl rfl) t .f64 _ _ _ _ _ _ ?_
  have h1 : floatBits .add .f64 (floatOfInt .f64 a) (floatOfInt .f64 b) = some (floatOfInt .f64 (a + b)) := sum_fb a b ha.nat hb.nat (by unfold Sm at ha hb; omega) ha.1
  have h2 : floatBits .add .f64 (floatOfInt .f64 s) 0 = some (floatOfInt .f64 s) := by
    have := sum_fb s 0 hs.nat (by decide) (by have := hs.nat; simpa using this) hs.1
    rw [Int.add_zero, ← fi_fb, ← fi_fb, fi_zero] at this
    exact this
  simp [cSumBits, h1, h2]
theorem run_toI64 {a : Int} (ha : Sm a) (src dst : TypeId) (hs : (P.underlying src).isSome = true) (hd : P.underlying dst = some (.int .i64)) : (convert src dst (.float .f64 (floatOfInt .f64 a))).run P w = .ok (.int .i64 a) w := by
  refine run_convert_float_int w src dst .f64 .i64 _ a hs hd ?_
  unfold floatToIntVal
  rw [fi_fb, toInt_fb a ha.nat]
  unfold Sm at ha
  have h1 : IntKind.i64.min = -9223372036854775808 := by decide
  have h2 : IntKind.i64.max = 9223372036854775807 := by decide
  rw [h1, h2]
  dsimp only
  rw [if_pos (by omega)]
theorem run_toU32 {a : Int} (ha : Sm a) (src dst : TypeId) (hs : (P.underlying src).isSome = true) (hd : P.underlying dst = some (.int .u32)) : (convert src dst (.float .f64 (floatOfInt .f64 a))).run P w = .ok (.int .u32 a) w := by
  refine run_convert_float_int w src dst .f64 .u32 _ a hs hd ?_
  unfold floatToIntVal
  rw [fi_fb, toInt_fb a ha.nat]
  unfold Sm at ha
  have h1 : IntKind.u32.min = 0 := by decide
  have h2 : IntKind.u32.max = 4294967295 := by decide
  rw [h1, h2]
  dsimp only
  rw [if_pos ha]
end
/-- a distance -/
abbrev dv (m s : Int) : Value := .complex .f64 (floatOfInt .f64 m) (floatOfInt .f64 s)
end Go.Proofs.Ytebkpjefdaieaaa.FR
namespace Go.Proofs.Ytebkpjefdaieaaa.FP
/-- as the program takes a metric -/
def cl (m : Int) : Int := min (max m 0) 65535
theorem cl_range (m : Int) : 0 ≤ cl m ∧ cl m ≤ 65535 := by unfold cl; omega
theorem max_ite (m : Int) : (if m < 0 then (0 : Int) else m) = max m 0 := by split <;> omega
theorem min_ite (m : Int) : (if 65535 < m then (65535 : Int) else m) = min m 65535 := by split <;> omega
theorem cl_fold (m : Int) : min (max m 0) 65535 = cl m := rfl
def bet (m s m' s' : Int) : Bool := decide (s' < s) || (s == s' && decide (m < m'))
theorem bet_iff (m s m' s' : Int) : bet m s m' s' = true ↔ s' < s ∨ s = s' ∧ m < m' := by simp [bet]
theorem bet_false (m s m' s' : Int) : bet m s m' s' = false ↔ ¬ (s' < s ∨ s = s' ∧ m < m') := by rw [← bet_iff]; simp
/-- the metric behind a link -/
def addm (m c : Int) : Int := min (m + cl c) 65535
def fea (m s fm fs : Int) : Bool := decide (m < 65535) && (decide (65535 ≤ fm) || bet m s fm fs)
theorem fea_iff (m s fm fs : Int) : fea m s fm fs = true ↔ m < 65535 ∧ (65535 ≤ fm ∨ bet m s fm fs = true) := by simp [fea]
/-- what is chosen of the first i offers (metrics om, numbers os; m links of costs cm): the place, and how far it is -/
def ch (om os cm : Nat → Int) (m : Nat) (fm fs : Int) : Nat → Int × Int × Int
  | 0 => (-1, 65535, 0)
  | i + 1 => if i < m ∧ fea (om i) (os i) fm fs = true ∧ 0 < cm i ∧ addm (om i) (cm i) < 65535 ∧ ((ch om os cm m fm fs i).1 < 0 ∨ bet (addm (om i) (cm i)) (os i) (ch om os cm m fm fs i).2.1 (ch om os cm m fm fs i).2.2 = true)
      then (i, addm (om i) (cm i), os i) else ch om os cm m fm fs i
theorem ch_yes {om os cm : Nat → Int} {m : Nat} {fm fs : Int} {i : Nat} (h : i < m ∧ fea (om i) (os i) fm fs = true ∧ 0 < cm i ∧ addm (om i) (cm i) < 65535 ∧ ((ch om os cm m fm fs i).1 < 0 ∨ bet (addm (om i) (cm i)) (os i) (ch om os cm m fm fs i).2.1 (ch om os cm m fm fs i).2.2 = true)) :
    ch om os cm m fm fs (i + 1) = ((i : Int), addm (om i) (cm i), os i) := by rw [ch, if_pos h]
theorem ch_no {om os cm : Nat → Int} {m : Nat} {fm fs : Int} {i : Nat} (h : ¬ (i < m ∧ fea (om i) (os i) fm fs = true ∧ 0 < cm i ∧ addm (om i) (cm i) < 65535 ∧ ((ch om os cm m fm fs i).1 < 0 ∨ bet (addm (om i) (cm i)) (os i) (ch om os cm m fm fs i).2.1 (ch om os cm m fm fs i).2.2 = true))) :
    ch om os cm m fm fs (i + 1) = ch om os cm m fm fs i := by rw [ch, if_neg h]
theorem addm_range {m : Int} (c : Int) (h0 : 0 ≤ m) : 0 ≤ addm m c ∧ addm m c ≤ 65535 := by have := cl_range c; unfold addm; omega
theorem addm_add (m x y : Int) (h0 : 0 ≤ m) (hx : 0 ≤ x) (hy : 0 ≤ y) : addm (addm m x) y = addm m (x + y) := by unfold addm cl; omega
theorem ch_range (om os cm : Nat → Int) (m : Nat) (fm fs : Int) (N : Nat) (h : ∀ i, i < N → 0 ≤ om i ∧ (0 ≤ os i ∧ os i ≤ 4294967295)) (n : Nat) (hn : n ≤ N) :
    -1 ≤ (ch om os cm m fm fs n).1 ∧ (ch om os cm m fm fs n).1 ≤ (n : Int) - 1 ∧ (0 ≤ (ch om os cm m fm fs n).2.1 ∧ (ch om os cm m fm fs n).2.1 ≤ 65535) ∧ (0 ≤ (ch om os cm m fm fs n).2.2 ∧ (ch om os cm m fm fs n).2.2 ≤ 4294967295) := by
  induction n with
  | zero => simp [ch]
  | succ n ih =>
    have ih := ih (by omega)
    unfold ch
    split
    · rename_i hc
      have h1 := h n (by omega)
      have h2 := addm_range (cm n) h1.1
      exact ⟨by dsimp only; omega, by dsimp only; omega, h2, h1.2⟩
    · exact ⟨ih.1, by omega, ih.2.2⟩
theorem sm_addm {m : Int} (c : Int) (h0 : FR.Sm m) : FR.Sm (addm m c) := by have := addm_range c h0.1; exact ⟨by omega, by omega⟩
theorem addm_le {m : Int} (c : Int) (h0 : FR.Sm m) : addm m c ≤ 65535 := (addm_range c h0.1).2
end Go.Proofs.Ytebkpjefdaieaaa.FP

/-
  What the functions of package feasible return, as words on whole numbers. Conditions: the parts of a distance are whole numbers of 32 bits.
-/
namespace Go.Proofs.Ytebkpjefdaieaaa
open Go.RowKit FR FP
set_option linter.unusedVariables false
set_option linter.unusedSimpArgs false
attribute [local go_sem] order_sm order_sub0 order_inf cmp_lt cmp_gt cmp_eq cmp_ne run_fsub run_cadd run_toI64 run_toU32 max_ite min_ite cl_fold
namespace Feas
theorem sm_cl (m : Int) : Sm (cl m) := by have := cl_range m; exact ⟨by omega, by omega⟩
theorem metric_any (m s : Int) (hm : Sm m) (w : World) : Calls Try.prog 40 #[dv m s] w fun e w' => e = .returned (.int .i64 m) ∧ w = w' := by
  go_enter Try.func40, Try.ntmps40
  go_wp2
  go_ret
  exact ⟨rfl, rfl⟩
theorem seq_any (m s : Int) (hs : Sm s) (w : World) : Calls Try.prog 57 #[dv m s] w fun e w' => e = .returned (.int .u32 s) ∧ w = w' := by
  go_enter Try.func57, Try.ntmps57
  go_wp2
  go_ret
  exact ⟨rfl, rfl⟩
theorem far_any (m s : Int) (hm : Sm m) (w : World) : Calls Try.prog 58 #[dv m s] w fun e w' => e = .returned (.bool (decide (65535 ≤ m))) ∧ w = w' := by
  go_enter Try.func58, Try.ntmps58
  go_wp2
  go_ret
  have e : (decide (65535 < m) || decide (m = 65535)) = decide (65535 ≤ m) := by
    rw [← Bool.decide_or]; congr 1; exact propext ⟨fun h => by omega, fun h => by omega⟩
  simp [e]
theorem make_any (m s : Int) (w : World) : Calls Try.prog 51 #[.int .i64 m, .int .u32 s] w fun e w' => e = .returned (dv (cl m) s) ∧ w = w' := by
  go_enter Try.func51, Try.ntmps51
  go_wp2
  go_ret
  exact ⟨rfl, rfl⟩
theorem bet_any (a b c d : Int) (h1 : Sm a) (h2 : Sm b) (h3 : Sm c) (h4 : Sm d) (w : World) : Calls Try.prog 59 #[dv a b, dv c d] w fun e w' => e = .returned (.bool (bet a b c d)) ∧ w = w' := by
  go_enter Try.func59, Try.ntmps59
  go_wp2
  · have h : ¬ b = d := by simpa using ‹(!decide (b = d)) = true›
    go_ret
    simp [bet, h]
  · have h : b = d := by simpa using ‹(!decide (b = d)) = false›
    go_ret
    simp [bet, h]
theorem none_any (w : World) : Calls Try.prog 50 #[] w fun e w' => e = .returned (dv 65535 0) ∧ w = w' := by
  go_enter Try.func50, Try.ntmps50
  go_wp2_with (go_at_call 51; refine (make_any _ _ _).mono ?_; rintro e w' ⟨rfl, rfl⟩)
  go_ret
  exact ⟨rfl, rfl⟩
theorem feas_any (a b c d : Int) (h1 : Sm a) (h2 : Sm b) (h3 : Sm c) (h4 : Sm d) (w : World) : Calls Try.prog 66 #[dv a b, dv c d] w fun e w' => e = .returned (.bool (fea a b c d)) ∧ w = w' := by
  have hf1 : decide (a < 65535) = !decide (65535 ≤ a) := by by_cases h : a < 65535 <;> simp [h]; omega
  unfold fea
  rw [hf1]
  clear hf1
  cases hx : decide (65535 ≤ a) <;> cases hy : decide (65535 ≤ c) <;>
  · go_enter Try.func66, Try.ntmps66
    go_wp2_with (first | (go_at_call_of 58 (dv a b); refine (far_any _ _ h1 _).mono ?_; rintro e w' ⟨rfl, rfl⟩) | (go_at_call_of 58 (dv c d); refine (far_any _ _ h3 _).mono ?_; rintro e w' ⟨rfl, rfl⟩) | (go_at_call 59; refine (bet_any _ _ _ _ h1 h2 h3 h4 _).mono ?_; rintro e w' ⟨rfl, rfl⟩))
    go_ret
    first | exact ⟨rfl, rfl⟩ | simp
theorem add_any (m s c : Int) (h1 : Sm m) (h2 : Sm s) (h3 : m ≤ 65535) (w : World) : Calls Try.prog 53 #[dv m s, .int .i64 c] w fun e w' => e = .returned (dv (addm m c) s) ∧ w = w' := by
  have hc := sm_cl c
  have hr := cl_range c
  have hm := h1.1
  by_cases h : 65535 ≤ m + cl c
  · have e1 : addm m c = cl 65535 := by unfold addm; rw [show cl 65535 = 65535 from rfl]; omega
    rw [e1]; clear e1
    go_enter Try.func53, Try.ntmps53
    go_wp2_with (first | (go_at_call 40; refine (metric_any _ _ h1 _).mono ?_; rintro e w' ⟨rfl, rfl⟩) | (go_at_call 57; refine (seq_any _ _ h2 _).mono ?_; rintro e w' ⟨rfl, rfl⟩) | (go_at_call 51; refine (make_any _ _ _).mono ?_; rintro e w' ⟨rfl, rfl⟩))
    go_ret
    exact ⟨rfl, rfl⟩
  · have e1 : addm m c = m + cl c := by unfold addm; omega
    rw [e1]; clear e1
    go_enter Try.func53, Try.ntmps53
    go_wp2_with (first | (go_at_call 40; refine (metric_any _ _ h1 _).mono ?_; rintro e w' ⟨rfl, rfl⟩) | (go_at_call 57; refine (seq_any _ _ h2 _).mono ?_; rintro e w' ⟨rfl, rfl⟩) | (go_at_call 51; refine (make_any _ _ _).mono ?_; rintro e w' ⟨rfl, rfl⟩))
    go_ret
    exact ⟨rfl, rfl⟩
/-- a slice that reads as distances -/
def Rd (w : World) (A : Option Addr) (n : Nat) (om os : Nat → Int) : Prop := ∀ i, i < n → ∃ b o, A = some ⟨b, o, none⟩ ∧ w.cell? ⟨b, o + i, none⟩ = some (dv (om i) (os i))
set_option maxHeartbeats 4000000 in
theorem choose_any (A B : Option Addr) (n m c d : Nat) (om os cm cs : Nat → Int) (fm fs : Int) (w : World) (hn : n ≤ 1000000) (hm : m ≤ 1000000)
    (ha : Rd w A n om os) (hb : Rd w B m cm cs) (ho : ∀ i, i < n → (Sm (om i) ∧ om i ≤ 65535) ∧ Sm (os i)) (hc : ∀ i, i < m → Sm (cm i)) (hf : Sm fm) (hg : Sm fs) :
    Calls Try.prog 52 #[.slice A n c, .slice B m d, dv fm fs] w fun e w' => e = .returned (.int .i64 (ch om os cm m fm fs n).1) ∧ w = w' := by
  have HA := Lib.hid ha; have HB := Lib.hid hb; have HO := Lib.hid ho; have HC := Lib.hid hc
  clear ha hb ho hc
  go_enter Try.func52, Try.ntmps52
  go_wp2_with (go_at_call 50; refine (none_any _).mono ?_; rintro e w' ⟨rfl, rfl⟩)
  go_loop [7, 8, 15] (fun s7 s8 s15 => ∃ k : Nat, k ≤ n ∧ s15 = .int .i64 k ∧ s7 = .int .i64 (ch om os cm m fm fs k).1 ∧ s8 = dv (ch om os cm m fm fs k).2.1 (ch om os cm m fm fs k).2.2) (fun _ _ s15 => n - (intOf s15).toNat)
  case atStart => exact ⟨0, Nat.zero_le _, rfl, rfl, rfl⟩
  case round =>
    obtain ⟨k, hk, rfl, rfl, rfl⟩ := hrel
    by_cases hlt : k < n
    · obtain ⟨b, o, rfl, hcell⟩ := HA.out k hlt
      obtain ⟨⟨hok, hoi⟩, hos⟩ := HO.out k hlt
      have hqr := ch_range om os cm m fm fs n (fun i hi => ⟨(HO.out i hi).1.1.1, (HO.out i hi).2⟩) k hk
      have hyes := @ch_yes om os cm m fm fs k
      have hno := @ch_no om os cm m fm fs k
      generalize hq : ch om os cm m fm fs k = q at hyes hno hqr ⊢
      obtain ⟨at_, bm, bs⟩ := q
      dsimp only at hyes hno hqr ⊢
      have HY := Lib.hid hyes
      have HN := Lib.hid hno
      have hat1 := hqr.1
      have hat2 := hqr.2.1
      have hbm : Sm bm := ⟨hqr.2.2.1.1, by have := hqr.2.2.1.2; omega⟩
      have hbs : Sm bs := hqr.2.2.2
      clear hq hyes hno hqr
      by_cases hm2 : k < m
      · obtain ⟨b2, o2, rfl, hcell2⟩ := HB.out k hm2
        have hck := HC.out k hm2
        have hsa : Sm (addm (om k) (cm k)) := by have := addm_range (cm k) hok.1; exact ⟨by omega, by omega⟩
        cases hfe : fea (om k) (os k) fm fs
        · have hfe2 := Lib.hid hfe
          have H1 := Lib.hid (show ch om os cm m fm fs (k + 1) = _ from HN.out (fun h => by have h2 := h.2.1; rw [hfe2.out] at h2; cases h2))
          go_wp2_with (first | (go_at_call 66; refine (feas_any _ _ _ _ hok hos hf hg _).mono ?_; rintro e w' ⟨rfl, rfl⟩) | (go_at_call 40; refine (metric_any _ _ hck _).mono ?_; rintro e w' ⟨rfl, rfl⟩) | (go_at_call 53; refine (add_any _ _ _ hok hos hoi _).mono ?_; rintro e w' ⟨rfl, rfl⟩) | (go_at_call 58; refine (far_any _ _ hsa _).mono ?_; rintro e w' ⟨rfl, rfl⟩) | (go_at_call 59; refine (bet_any _ _ _ _ hsa hos hbm hbs _).mono ?_; rintro e w' ⟨rfl, rfl⟩))
          all_goals
            go_round
            case rel => exact ⟨k + 1, by omega, by go_num, by rw [H1.out], by rw [H1.out]⟩
            case measure => simp [intOf]; omega
        · have hfe2 := Lib.hid hfe
          by_cases hc0 : 0 < cm k
          · by_cases hin : addm (om k) (cm k) < 65535
            · have hin2 : decide (65535 ≤ addm (om k) (cm k)) = false := by simp; omega
              by_cases hneg : at_ < 0
              · have H1 := Lib.hid (show ch om os cm m fm fs (k + 1) = _ from HY.out ⟨hm2, hfe2.out, hc0, hin, .inl hneg⟩)
                go_wp2_with (first | (go_at_call 66; refine (feas_any _ _ _ _ hok hos hf hg _).mono ?_; rintro e w' ⟨rfl, rfl⟩) | (go_at_call 40; refine (metric_any _ _ hck _).mono ?_; rintro e w' ⟨rfl, rfl⟩) | (go_at_call 53; refine (add_any _ _ _ hok hos hoi _).mono ?_; rintro e w' ⟨rfl, rfl⟩) | (go_at_call 58; refine (far_any _ _ hsa _).mono ?_; rintro e w' ⟨rfl, rfl⟩) | (go_at_call 59; refine (bet_any _ _ _ _ hsa hos hbm hbs _).mono ?_; rintro e w' ⟨rfl, rfl⟩))
                all_goals
                  go_round
                  case rel => exact ⟨k + 1, by omega, by go_num, by rw [H1.out], by rw [H1.out]⟩
                  case measure => simp [intOf]; omega
              · cases hbt : bet (addm (om k) (cm k)) (os k) bm bs
                · have hbt2 := Lib.hid hbt
                  have H1 := Lib.hid (show ch om os cm m fm fs (k + 1) = _ from HN.out (fun h => by rcases h.2.2.2.2 with h2 | h2; exact hneg h2; rw [hbt2.out] at h2; cases h2))
                  go_wp2_with (first | (go_at_call 66; refine (feas_any _ _ _ _ hok hos hf hg _).mono ?_; rintro e w' ⟨rfl, rfl⟩) | (go_at_call 40; refine (metric_any _ _ hck _).mono ?_; rintro e w' ⟨rfl, rfl⟩) | (go_at_call 53; refine (add_any _ _ _ hok hos hoi _).mono ?_; rintro e w' ⟨rfl, rfl⟩) | (go_at_call 58; refine (far_any _ _ hsa _).mono ?_; rintro e w' ⟨rfl, rfl⟩) | (go_at_call 59; refine (bet_any _ _ _ _ hsa hos hbm hbs _).mono ?_; rintro e w' ⟨rfl, rfl⟩))
                  all_goals
                    go_round
                    case rel => exact ⟨k + 1, by omega, by go_num, by rw [H1.out], by rw [H1.out]⟩
                    case measure => simp [intOf]; omega
                · have hbt2 := Lib.hid hbt
                  have H1 := Lib.hid (show ch om os cm m fm fs (k + 1) = _ from HY.out ⟨hm2, hfe2.out, hc0, hin, .inr hbt2.out⟩)
                  go_wp2_with (first | (go_at_call 66; refine (feas_any _ _ _ _ hok hos hf hg _).mono ?_; rintro e w' ⟨rfl, rfl⟩) | (go_at_call 40; refine (metric_any _ _ hck _).mono ?_; rintro e w' ⟨rfl, rfl⟩) | (go_at_call 53; refine (add_any _ _ _ hok hos hoi _).mono ?_; rintro e w' ⟨rfl, rfl⟩) | (go_at_call 58; refine (far_any _ _ hsa _).mono ?_; rintro e w' ⟨rfl, rfl⟩) | (go_at_call 59; refine (bet_any _ _ _ _ hsa hos hbm hbs _).mono ?_; rintro e w' ⟨rfl, rfl⟩))
                  all_goals
                    go_round
                    case rel => exact ⟨k + 1, by omega, by go_num, by rw [H1.out], by rw [H1.out]⟩
                    case measure => simp [intOf]; omega
            · have H1 := Lib.hid (show ch om os cm m fm fs (k + 1) = _ from HN.out (fun h => hin h.2.2.2.1))
              go_wp2_with (first | (go_at_call 66; refine (feas_any _ _ _ _ hok hos hf hg _).mono ?_; rintro e w' ⟨rfl, rfl⟩) | (go_at_call 40; refine (metric_any _ _ hck _).mono ?_; rintro e w' ⟨rfl, rfl⟩) | (go_at_call 53; refine (add_any _ _ _ hok hos hoi _).mono ?_; rintro e w' ⟨rfl, rfl⟩) | (go_at_call 58; refine (far_any _ _ hsa _).mono ?_; rintro e w' ⟨rfl, rfl⟩) | (go_at_call 59; refine (bet_any _ _ _ _ hsa hos hbm hbs _).mono ?_; rintro e w' ⟨rfl, rfl⟩))
              all_goals
                go_round
                case rel => exact ⟨k + 1, by omega, by go_num, by rw [H1.out], by rw [H1.out]⟩
                case measure => simp [intOf]; omega
          · have H1 := Lib.hid (show ch om os cm m fm fs (k + 1) = _ from HN.out (fun h => hc0 h.2.2.1))
            go_wp2_with (first | (go_at_call 66; refine (feas_any _ _ _ _ hok hos hf hg _).mono ?_; rintro e w' ⟨rfl, rfl⟩) | (go_at_call 40; refine (metric_any _ _ hck _).mono ?_; rintro e w' ⟨rfl, rfl⟩) | (go_at_call 53; refine (add_any _ _ _ hok hos hoi _).mono ?_; rintro e w' ⟨rfl, rfl⟩) | (go_at_call 58; refine (far_any _ _ hsa _).mono ?_; rintro e w' ⟨rfl, rfl⟩) | (go_at_call 59; refine (bet_any _ _ _ _ hsa hos hbm hbs _).mono ?_; rintro e w' ⟨rfl, rfl⟩))
            all_goals
              go_round
              case rel => exact ⟨k + 1, by omega, by go_num, by rw [H1.out], by rw [H1.out]⟩
              case measure => simp [intOf]; omega
      · have H1 := Lib.hid (show ch om os cm m fm fs (k + 1) = _ from HN.out (fun h => hm2 h.1))
        go_wp2_with (first | (go_at_call 66; refine (feas_any _ _ _ _ hok hos hf hg _).mono ?_; rintro e w' ⟨rfl, rfl⟩) | (go_at_call 40; refine (metric_any _ _ hck _).mono ?_; rintro e w' ⟨rfl, rfl⟩) | (go_at_call 53; refine (add_any _ _ _ hok hos hoi _).mono ?_; rintro e w' ⟨rfl, rfl⟩) | (go_at_call 58; refine (far_any _ _ hsa _).mono ?_; rintro e w' ⟨rfl, rfl⟩) | (go_at_call 59; refine (bet_any _ _ _ _ hsa hos hbm hbs _).mono ?_; rintro e w' ⟨rfl, rfl⟩))
        all_goals
          go_round
          case rel => exact ⟨k + 1, by omega, by go_num, by rw [H1.out], by rw [H1.out]⟩
          case measure => simp [intOf]; omega
    · go_wp2
      go_ret
      have e : k = n := by omega
      subst e
      exact ⟨rfl, rfl⟩
end Feas
end Go.Proofs.Ytebkpjefdaieaaa

/-
  A region that draws its order, walked operation by operation. Plain laws; no program. Conditions: those that each theorem names.
-/
namespace Go.Proofs.Ytebkpjefdaieaaa
open Go
set_option linter.unusedVariables false
variable {P : Program} {ops : Array Oper} {Q : Exit → Act → World → Prop} {S : World → Prop}
/-- number i, which lays its value into slot d, is taken first -/
theorem held_take (i d : Nat) {oi : Oper} {v : Value} {fuel : Nat} {listed : Array Bool} {T : Array Value} {D : List Deferred} {w : World} (hi : ops[i]? = some oi) (hd : oi.dst = some d)
    (hs : Region.noSelect ops = true) (hf : Region.free .any ops listed i = true) (hr : (Region.ready .any ops listed).contains i = true)
    (hQ : ∀ c a w, Q (.panic c) (a.put oi.dst v) w → Q (.panic c) a w) (hw : Region.wanted oi (yielded ops T) = true) (hy : ∀ w, S w → (execOp (Act.mk T D).eval oi).run P w = .ok (.value v) w) (hS : S w)
    (h : wpAnyH P .any ops Q S fuel (listed.setIfInBounds i true) ⟨T.setIfInBounds d v, D⟩ w) : wpAnyH P .any ops Q S (fuel + 1) listed ⟨T, D⟩ w := by
  refine wpAnyH_take hi hs hf hr hQ (.inl ⟨hw, hy⟩) hS ?_
  rw [hd]
  exact h
/-- number i, whose guard is false, is passed by -/
theorem held_skip (i d : Nat) {oi : Oper} {fuel : Nat} {listed : Array Bool} {T : Array Value} {D : List Deferred} {w : World} (hi : ops[i]? = some oi) (hd : oi.dst = some d)
    (hs : Region.noSelect ops = true) (hf : Region.free .any ops listed i = true) (hr : (Region.ready .any ops listed).contains i = true)
    (hQ : ∀ c a w, Q (.panic c) (a.put oi.dst undef) w → Q (.panic c) a w) (hw : Region.wanted oi (yielded ops T) = false) (hS : S w)
    (h : wpAnyH P .any ops Q S fuel (listed.setIfInBounds i true) ⟨T.setIfInBounds d undef, D⟩ w) : wpAnyH P .any ops Q S (fuel + 1) listed ⟨T, D⟩ w := by
  refine wpAnyH_take hi hs hf hr hQ (.inr ⟨hw, rfl⟩) hS ?_
  rw [hd]
  exact h
/-- number i alone may come up, and its guard is false -/
theorem held_pass (i d : Nat) {oi : Oper} {fuel : Nat} {listed : Array Bool} {T : Array Value} {D : List Deferred} {w : World} (hi : ops[i]? = some oi) (hd : oi.dst = some d)
    (hr : Region.ready .any ops listed = [i]) (hw : Region.wanted oi (yielded ops T) = false) (hS : S w)
    (h : wpAnyH P .any ops Q S fuel (listed.setIfInBounds i true) ⟨T.setIfInBounds d undef, D⟩ w) : wpAnyH P .any ops Q S (fuel + 1) listed ⟨T, D⟩ w := by
  refine wpAnyH_ready hr (by simp) (AllReadyH.cons hi (fun K hK => ?_) AllReadyH.nil)
  rw [if_neg (by simpa using hw), hd]
  exact hK.out _ _ hS (fun _ => h)
/-- number i alone may come up, and is carried out -/
theorem held_call (i d : Nat) {oi : Oper} {fuel : Nat} {listed : Array Bool} {T : Array Value} {D : List Deferred} {w : World} (hi : ops[i]? = some oi) (hd : oi.dst = some d)
    (hr : Region.ready .any ops listed = [i]) (hw : Region.wanted oi (yielded ops T) = true)
    (h : ∀ K' : Act → World → Prop, Shut (∀ T D w, S w → wpAnyH P .any ops Q S fuel (listed.setIfInBounds i true) ⟨T, D⟩ w → K' ⟨T, D⟩ w) → Oper.wp P oi ⟨T, D⟩ w K' Q) : wpAnyH P .any ops Q S (fuel + 1) listed ⟨T, D⟩ w := by
  refine wpAnyH_ready hr (by simp) (AllReadyH.cons hi (fun K hK => ?_) AllReadyH.nil)
  rw [if_pos hw]
  exact h K (fun T D w hS h => hK.out _ _ hS (fun _ => h))
end Go.Proofs.Ytebkpjefdaieaaa

/-
  A region that draws its order: the condition may grow on the way; an operation that leaves no value; a row stored in the midst of a block. Plain laws; no program. Conditions: those that each theorem names.
-/
namespace Go.Proofs.Ytebkpjefdaieaaa
open Go
set_option linter.unusedVariables false
namespace H2
theorem held_mono {P : Program} {ops : Array Oper} {Q : Exit → Act → World → Prop} {md : Region.Mode} {S S' : World → Prop} (h : ∀ w, S' w → S w) : ∀ (fuel : Nat) (listed : Array Bool) (a : Act) (w : World), wpAnyH P md ops Q S' fuel listed a w → wpAnyH P md ops Q S fuel listed a w
  | 0, _, _, _, hh => hh
  | fuel + 1, _, _, _, hh => ⟨hh.1, fun i hi => wpOp_mono (fun a' w' h' => ⟨h _ h'.1, held_mono h fuel _ a' w' h'.2⟩) (hh.2 i hi)⟩
theorem cell_other {w : World} {q a : Addr} {u v : Value} (h : w.cell? a = some v) (hq : q.block ≠ a.block) : (w.setCell q u).cell? a = some v := (World.cell?_setCell_far w q a u hq).trans h
/-- number i alone may come up, and is carried out; it leaves no value -/
theorem held_do {P : Program} {ops : Array Oper} {Q : Exit → Act → World → Prop} {S : World → Prop} (i : Nat) {oi : Oper} {fuel : Nat} {listed : Array Bool} {T : Array Value} {D : List Deferred} {w : World} (hi : ops[i]? = some oi)
    (hr : Region.ready .any ops listed = [i]) (hw : Region.wanted oi (yielded ops T) = true)
    (h : ∀ K' : Act → World → Prop, Shut (∀ T D w, S w → wpAnyH P .any ops Q S fuel (listed.setIfInBounds i true) ⟨T, D⟩ w → K' ⟨T, D⟩ w) → Oper.wp P oi ⟨T, D⟩ w K' Q) : wpAnyH P .any ops Q S (fuel + 1) listed ⟨T, D⟩ w := by
  refine wpAnyH_ready hr (by simp) (AllReadyH.cons hi (fun K hK => ?_) AllReadyH.nil)
  rw [if_pos hw]
  exact h K (fun T D w hS h => hK.out _ _ hS (fun _ => h))
theorem blk_cells {g : Nat} {t : TypeId} : ∀ (vs : List Value) (o : Nat) {w : World} {cs : Array Value} (_ : w.heap[g]? = some (.cells cs t (0, 0))), ∃ cs', (w.setCells g o vs).heap[g]? = some (.cells cs' t (0, 0)) ∧ cs'.size = cs.size ∧ ∀ k, cs'[k]? = if o ≤ k ∧ k < o + vs.length ∧ k < cs.size then vs[k - o]? else cs[k]?
  | [], o, w, cs, h => ⟨cs, h, rfl, fun k => by simp; intro h1 h2; omega⟩
  | v :: r, o, w, cs, h => by
    obtain ⟨cs', h1, h2, h3⟩ := blk_cells r (o + 1) (blk_set h o v)
    refine ⟨cs', h1, by simpa using h2, fun k => ?_⟩
    rw [h3 k, Array.getElem?_setIfInBounds]
    by_cases e : o = k
    · subst e
      rw [if_neg (by omega), if_pos rfl]
      by_cases hs : o < cs.size
      · rw [if_pos hs, if_pos ⟨by omega, by simp, hs⟩]; simp
      · rw [if_neg hs, if_neg (by omega), Array.getElem?_eq_none (by omega)]
    · by_cases hk : o + 1 ≤ k ∧ k < o + 1 + r.length ∧ k < cs.size
      · rw [if_pos (by simpa using hk), if_pos ⟨by omega, by simp; omega, hk.2.2⟩, show k - o = (k - (o + 1)) + 1 by omega, List.getElem?_cons_succ]
      · rw [if_neg (by simpa using hk), if_neg e, if_neg (by simp; omega)]
theorem Only.setCells {S : Nat → Prop} {g : Nat} : ∀ (vs : List Value) (o : Nat) {a w : World} (_ : Only S a w) (_ : g < a.heap.size → S g), Only S a (w.setCells g o vs)
  | [], _, _, _, h, _ => h
  | v :: r, o, a, w, h, hp => Only.setCells r (o + 1) (Only.setCell h (p := ⟨g, o, none⟩) hp v) hp
end H2
end Go.Proofs.Ytebkpjefdaieaaa

/-
  Owned rows: what an append leaves as it was. Plain laws on worlds; no program. Conditions: none.
-/
namespace Go.Proofs.Ytebkpjefdaieaaa
open Go Go.RowKit
set_option linter.unusedVariables false
namespace OW
theorem own_keep {w w' : World} {base size n : Nat} {e : TypeId} {v : Value} {xs : List Value} (h : w.ownsRow base e size v n xs) (hb : Below w.heap.size w w') : w'.ownsRow base e size v n xs :=
  (Only.of_below (Only.refl (fun _ => False) w) hb).own h (fun _ _ h => h)
theorem own_drewN {w : World} {base size n : Nat} {e : TypeId} {v : Value} {xs : List Value} (h : w.ownsRow base e size v n xs) (q : Nat) : (w.drewN q).ownsRow base e size v n xs := h
theorem own_mono {w : World} {base base' size n : Nat} {e : TypeId} {v : Value} {xs : List Value} (h : w.ownsRow base e size v n xs) (hb : base' ≤ base) : w.ownsRow base' e size v n xs := by
  refine ⟨h.1, ?_⟩
  rcases h.2 with h2 | ⟨g, cap, cur, rfl, hg, r⟩
  · exact .inl h2
  · exact .inr ⟨g, cap, cur, rfl, by omega, r⟩
theorem own_base {w : World} {base size n : Nat} {e : TypeId} {v : Value} {xs : List Value} (h : w.ownsRow base e size v n xs) {b : Nat} (hb : v.ownBlock = some b) : base ≤ b ∧ b < w.heap.size := by
  rcases h.2 with ⟨rfl, _⟩ | ⟨g, cap, cur, rfl, hb', hh, _⟩
  · cases hb
  · simp only [Value.ownBlock, Option.some.injEq] at hb
    have := blk_lt hh
    omega
theorem own_not {w : World} {base size n : Nat} {e : TypeId} {v : Value} {xs : List Value} (h : w.ownsRow base e size v n xs) {b : Nat} (hb : b < base) : v.ownBlock ≠ some b := fun hh => by have := (own_base h hh).1; omega
theorem own_apart {w : World} {base base' size size' n n' : Nat} {e e' : TypeId} {v v' : Value} {xs xs' : List Value} (h : w.ownsRow base e size v n xs) (h' : w.ownsRow base' e' size' v' n' xs') (hne : e' ≠ e) : ∀ g, v.ownBlock = some g → v'.ownBlock ≠ some g := by
  intro g hg
  rcases h.2 with ⟨rfl, _⟩ | ⟨g', cap, cur, rfl, hb', hh, _⟩
  · cases hg
  · simp only [Value.ownBlock, Option.some.injEq] at hg
    subst hg
    exact own_ne_blk h' hh hne
theorem app_only {S : Nat → Prop} {a wr w1 : World} {base size n : Nat} {e : TypeId} {v : Value} {xs : List Value} {o : Obj} (hB : Only S a wr) (ho : wr.ownsRow base e size v n xs) (hb : a.heap.size ≤ base) (hg : (wr.alloc o).grownBy w1 v.ownBlock) : Only S a w1 :=
  (hB.alloc o).grown hg (fun q hq hlt => by have := (own_base ho hq).1; omega)
theorem app_below {w wr w1 : World} {size n : Nat} {e : TypeId} {v : Value} {xs : List Value} {o : Obj} (hB : Below w.heap.size w wr) (ho : wr.ownsRow w.heap.size e size v n xs) (hg : (wr.alloc o).grownBy w1 v.ownBlock) : Below w.heap.size w w1 :=
  (((Only.refl (fun i => w.heap.size ≤ i) w).of_below hB).alloc o |>.grown hg (fun q hq _ => (own_base ho hq).1)).below (Nat.le_refl _) (fun i hi h => by omega)
theorem app_other {wr w1 : World} {base size n : Nat} {e : TypeId} {v vx : Value} {xs : List Value} {o : Obj} (hp : wr.ownsRow base e size v n xs) (hne : ∀ g, vx.ownBlock = some g → v.ownBlock ≠ some g) (hg : (wr.alloc o).grownBy w1 vx.ownBlock) : w1.ownsRow base e size v n xs :=
  ((Only.refl (fun i => vx.ownBlock = some i) wr).alloc o |>.grown hg (fun k hk _ => hk)).own hp (fun k hk h => hne k h hk)
theorem app_cell {wr w1 : World} {v : Value} {o : Obj} {p : Addr} {u : Value} (hc : wr.cell? p = some u) (hne : v.ownBlock ≠ some p.block) (hg : (wr.alloc o).grownBy w1 v.ownBlock) : w1.cell? p = some u :=
  ((Only.refl (fun i => v.ownBlock = some i) wr).alloc o |>.grown hg (fun k hk _ => hk)).cell hc hne
theorem app_obj {wr w1 : World} {v : Value} {o o' : Obj} {i : Nat} (hc : wr.heap[i]? = some o') (hne : v.ownBlock ≠ some i) (hg : (wr.alloc o).grownBy w1 v.ownBlock) : w1.heap[i]? = some o' :=
  ((Only.refl (fun i => v.ownBlock = some i) wr).alloc o |>.grown hg (fun k hk _ => hk)).obj hc hne
theorem app_size {wr w1 : World} {v : Value} {o : Obj} (hg : (wr.alloc o).grownBy w1 v.ownBlock) : wr.heap.size < w1.heap.size := by have := hg.size; simp at this; omega
end OW
end Go.Proofs.Ytebkpjefdaieaaa

/-
  Frames by the types of blocks: which kinds of blocks a call may have turned. Plain laws on worlds; no program. Conditions: none.
-/
namespace Go.Proofs.Ytebkpjefdaieaaa
open Go Go.RowKit
set_option linter.unusedVariables false
/-- block i holds cells of a type of T -/
def TypeAt (w : World) (i : Nat) (T : TypeId → Prop) : Prop := ∃ cs t fr, w.heap[i]? = some (.cells cs t fr) ∧ T t
/-- of what was there, only blocks of types of T may have turned -/
def OnlyT (T : TypeId → Prop) (w w' : World) : Prop := Only (fun i => TypeAt w i T) w w'
theorem OnlyT.refl (T : TypeId → Prop) (w : World) : OnlyT T w w := Only.refl _ w
theorem OnlyT.trans {T : TypeId → Prop} {a b c : World} (h : OnlyT T a b) (k : OnlyT T b c) : OnlyT T a c :=
  Only.trans h k fun i hi ht => Classical.byContradiction fun hn => by
    obtain ⟨cs, t, fr, h1, h2⟩ := ht
    rw [h.block i hi hn] at h1
    exact hn ⟨cs, t, fr, h1, h2⟩
theorem OnlyT.of_below {T : TypeId → Prop} {a w w' : World} (h : OnlyT T a w) (hb : Below w.heap.size w w') : OnlyT T a w' := Only.of_below h hb
theorem OnlyT.of_only {T : TypeId → Prop} {a w w' : World} {b : Nat} (h : OnlyT T a w) (ho : Only (fun i => i = b) w w') (hb : TypeAt w b T) : OnlyT T a w' :=
  h.trans (ho.mono fun i _ e => by subst e; exact hb)
theorem OnlyT.alloc {T : TypeId → Prop} {a w : World} (h : OnlyT T a w) (o : Obj) : OnlyT T a (w.alloc o) := Only.alloc h o
theorem OnlyT.drew {T : TypeId → Prop} {a w : World} (h : OnlyT T a w) : OnlyT T a w.drew := Only.drew h
theorem OnlyT.drewN {T : TypeId → Prop} {a w : World} (h : OnlyT T a w) (n : Nat) : OnlyT T a (w.drewN n) := Only.drewN h n
theorem OnlyT.setCell {T : TypeId → Prop} {a w : World} (h : OnlyT T a w) {p : Addr} (hp : p.block < w.heap.size → TypeAt w p.block T) (u : Value) : OnlyT T a (w.setCell p u) :=
  h.trans (Only.setCell (Only.refl _ w) hp u)
theorem OnlyT.grown {T : TypeId → Prop} {a w w' : World} {row : Option Nat} (h : OnlyT T a w) (hg : w.grownBy w' row) (hr : ∀ k, row = some k → k < w.heap.size → TypeAt w k T) : OnlyT T a w' :=
  h.trans (Only.grown (Only.refl _ w) hg hr)
theorem OnlyT.mono {T T' : TypeId → Prop} {a b : World} (h : OnlyT T a b) (hT : ∀ t, T t → T' t) : OnlyT T' a b :=
  Only.mono h fun i _ ⟨cs, t, fr, h1, h2⟩ => ⟨cs, t, fr, h1, hT t h2⟩
theorem OnlyT.obj {T : TypeId → Prop} {w w' : World} (h : OnlyT T w w') {i : Nat} {cs : Array Value} {t : TypeId} {fr : Nat × Nat} (hi : w.heap[i]? = some (.cells cs t fr)) (hn : ¬ T t) : w'.heap[i]? = some (.cells cs t fr) :=
  Only.obj h hi (fun ⟨cs', t', fr', h1, h2⟩ => by rw [hi] at h1; cases h1; exact hn h2)
theorem OnlyT.own {T : TypeId → Prop} {w w' : World} (h : OnlyT T w w') {base size n : Nat} {e : TypeId} {v : Value} {xs : List Value} (ho : w.ownsRow base e size v n xs) (hn : ¬ T e) : w'.ownsRow base e size v n xs :=
  Only.own h ho fun k hk ⟨cs, t, fr, h1, h2⟩ => by
    rcases ho.2 with ⟨rfl, _⟩ | ⟨g, cap, cur, rfl, hb, hh, _⟩
    · cases hk
    · simp only [Value.ownBlock, Option.some.injEq] at hk
      subst hk
      rw [hh] at h1
      cases h1
      exact hn h2
theorem own_type {w : World} {base size n : Nat} {e : TypeId} {v : Value} {xs : List Value} (ho : w.ownsRow base e size v n xs) {k : Nat} (hk : v.ownBlock = some k) {T : TypeId → Prop} (hT : T e) : TypeAt w k T := by
  rcases ho.2 with ⟨rfl, _⟩ | ⟨g, cap, cur, rfl, hb, hh, _⟩
  · cases hk
  · simp only [Value.ownBlock, Option.some.injEq] at hk
    subst hk
    exact ⟨_, _, _, hh, hT⟩
/-- what lay below base stands, if all that turned lay from base on -/
theorem OnlyT.size {T : TypeId → Prop} {w w' : World} (h : OnlyT T w w') : w.heap.size ≤ w'.heap.size := Only.size h
theorem blk_ne {w : World} {i j : Nat} {cs cs' : Array Value} {t t' : TypeId} {fr fr' : Nat × Nat} (h : w.heap[i]? = some (.cells cs t fr)) (h' : w.heap[j]? = some (.cells cs' t' fr')) (hne : t ≠ t') : i ≠ j := fun e => by
  subst e
  rw [h] at h'
  cases h'
  exact hne rfl
end Go.Proofs.Ytebkpjefdaieaaa

/-
  What is chosen: plain laws. No program. Conditions: those that each law names.
-/
namespace Go.Proofs.Ytebkpjefdaieaaa
open Go Go.RowKit FR FP
set_option linter.unusedVariables false
set_option linter.unusedSimpArgs false
namespace ChS
/-- may offer j be taken? -/
def May (om os cm : Nat → Int) (m : Nat) (fm fs : Int) (j : Nat) : Prop := j < m ∧ fea (om j) (os j) fm fs = true ∧ 0 < cm j ∧ addm (om j) (cm j) < 65535
theorem bet_chain {a b c d e f : Int} (h : bet a b c d = true) (h2 : bet e f c d = false) : bet e f a b = false := by
  rw [bet_iff] at h
  rw [bet_false] at h2 ⊢
  omega
theorem bet_self (a b : Int) : bet a b a b = false := by rw [bet_false]; omega
theorem ch_state (om os cm : Nat → Int) (m : Nat) (fm fs : Int) : ∀ k : Nat,
    (ch om os cm m fm fs k = (-1, 65535, 0) ∧ ∀ j, j < k → ¬ May om os cm m fm fs j) ∨
    ∃ a : Nat, ch om os cm m fm fs k = ((a : Int), addm (om a) (cm a), os a) ∧ a < k ∧ May om os cm m fm fs a ∧ ∀ j, j < k → May om os cm m fm fs j → bet (addm (om j) (cm j)) (os j) (addm (om a) (cm a)) (os a) = false
  | 0 => .inl ⟨rfl, fun j hj => by omega⟩
  | k + 1 => by
    have ih := ch_state om os cm m fm fs k
    by_cases hm : May om os cm m fm fs k
    · rcases ih with ⟨h1, h2⟩ | ⟨a, h1, ha, hma, h2⟩
      · refine .inr ⟨k, ch_yes ⟨hm.1, hm.2.1, hm.2.2.1, hm.2.2.2, .inl (by rw [h1]; decide)⟩, by omega, hm, fun j hj hj2 => ?_⟩
        by_cases e : j = k
        · subst e; exact bet_self _ _
        · exact absurd hj2 (h2 j (by omega))
      · cases hb : bet (addm (om k) (cm k)) (os k) (addm (om a) (cm a)) (os a)
        · refine .inr ⟨a, ?_, by omega, hma, fun j hj hj2 => ?_⟩
          · rw [ch_no, h1]
            rintro ⟨_, _, _, _, h | h⟩
            · rw [h1] at h; simp only at h; omega
            · rw [h1] at h; simp only at h; rw [hb] at h; cases h
          · by_cases e : j = k
            · subst e; exact hb
            · exact h2 j (by omega) hj2
        · refine .inr ⟨k, ch_yes ⟨hm.1, hm.2.1, hm.2.2.1, hm.2.2.2, .inr (by rw [h1]; exact hb)⟩, by omega, hm, fun j hj hj2 => ?_⟩
          by_cases e : j = k
          · subst e; exact bet_self _ _
          · exact bet_chain hb (h2 j (by omega) hj2)
    · have hn : ch om os cm m fm fs (k + 1) = ch om os cm m fm fs k := ch_no (fun h => hm ⟨h.1, h.2.1, h.2.2.1, h.2.2.2.1⟩)
      rcases ih with ⟨h1, h2⟩ | ⟨a, h1, ha, hma, h2⟩
      · refine .inl ⟨by rw [hn, h1], fun j hj => ?_⟩
        by_cases e : j = k
        · subst e; exact hm
        · exact h2 j (by omega)
      · refine .inr ⟨a, by rw [hn, h1], by omega, hma, fun j hj hj2 => ?_⟩
        by_cases e : j = k
        · subst e; exact absurd hj2 hm
        · exact h2 j (by omega) hj2
theorem ch_stop (om os cm : Nat → Int) (m : Nat) (fm fs : Int) (j : Nat) : ch om os cm m fm fs (m + j) = ch om os cm m fm fs m := by
  induction j with
  | zero => rfl
  | succ j ih => rw [← Nat.add_assoc, ch_no (fun h => by omega), ih]
theorem ch_end {om os cm : Nat → Int} {m n k : Nat} {fm fs : Int} (hk : k ≤ n) (h : k = n ∨ k = m) : ch om os cm m fm fs k = ch om os cm m fm fs n := by
  rcases h with rfl | rfl
  · rfl
  · obtain ⟨d, rfl⟩ := Nat.exists_eq_add_of_le hk
    exact (ch_stop om os cm k fm fs d).symm
end ChS
end Go.Proofs.Ytebkpjefdaieaaa
