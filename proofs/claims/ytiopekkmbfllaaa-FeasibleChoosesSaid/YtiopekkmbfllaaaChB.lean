/-
  Rows that grow side by side. Conditions: those that each theorem names.
-/
import Derived.Test.YtiopekkmbfllaaaOpenD
import Derived.Test.YtiopekkmbfllaaaFrame
import Derived.OwnWalk
import Derived.Deep.AppendLies
namespace Go.Proofs.Ytiopekkmbfllaaa
open Go Go.RowKit FR FP
set_option linter.unusedVariables false
set_option linter.unusedSimpArgs false
namespace Law18
open Feas
theorem own_keep {w w' : World} {base size n : Nat} {e : TypeId} {v : Value} {xs : List Value} (h : w.ownsRow base e size v n xs) (hb : Below w.heap.size w w') : w'.ownsRow base e size v n xs :=
  (Only.of_below (Only.refl (fun _ => False) w) hb).own h (fun _ _ h => h)
theorem own_base {w : World} {base size n : Nat} {e : TypeId} {v : Value} {xs : List Value} (h : w.ownsRow base e size v n xs) {b : Nat} (hb : v.ownBlock = some b) : base ≤ b ∧ b < w.heap.size := by
  rcases h.2 with ⟨rfl, _⟩ | ⟨g, cap, cur, rfl, hb', hh, _⟩
  · cases hb
  · simp only [Value.ownBlock, Option.some.injEq] at hb
    have := blk_lt hh
    omega
theorem own_apart {w : World} {base base' size size' n n' : Nat} {e e' : TypeId} {v v' : Value} {xs xs' : List Value} (h : w.ownsRow base e size v n xs) (h' : w.ownsRow base' e' size' v' n' xs') (hne : e' ≠ e) : ∀ g, v.ownBlock = some g → v'.ownBlock ≠ some g := by
  intro g hg
  rcases h.2 with ⟨rfl, _⟩ | ⟨g', cap, cur, rfl, hb', hh, _⟩
  · cases hg
  · simp only [Value.ownBlock, Option.some.injEq] at hg
    subst hg
    exact own_ne_blk h' hh hne
theorem app_below {w wr w1 : World} {size n : Nat} {e : TypeId} {v : Value} {xs : List Value} {o : Obj} (hB : Below w.heap.size w wr) (ho : wr.ownsRow w.heap.size e size v n xs) (hg : (wr.alloc o).grownBy w1 v.ownBlock) : Below w.heap.size w w1 :=
  (((Only.refl (fun i => w.heap.size ≤ i) w).of_below hB).alloc o |>.grown hg (fun q hq _ => (own_base ho hq).1)).below (Nat.le_refl _) (fun i hi h => by omega)
theorem app_other {wr w1 : World} {base size n : Nat} {e : TypeId} {v vx : Value} {xs : List Value} {o : Obj} (hp : wr.ownsRow base e size v n xs) (hne : ∀ g, vx.ownBlock = some g → v.ownBlock ≠ some g) (hg : (wr.alloc o).grownBy w1 vx.ownBlock) : w1.ownsRow base e size v n xs :=
  ((Only.refl (fun i => vx.ownBlock = some i) wr).alloc o |>.grown hg (fun k hk _ => hk)).own hp (fun k hk h => hne k h hk)
theorem app_cell {wr w1 : World} {v : Value} {o : Obj} {p : Addr} {u : Value} (hc : wr.cell? p = some u) (hne : v.ownBlock ≠ some p.block) (hg : (wr.alloc o).grownBy w1 v.ownBlock) : w1.cell? p = some u :=
  ((Only.refl (fun i => v.ownBlock = some i) wr).alloc o |>.grown hg (fun k hk _ => hk)).cell hc hne
theorem own_new {w : World} {base size n : Nat} {e : TypeId} {v : Value} {xs : List Value} (h : w.ownsRow base e size v n xs) : v.ownBlock ≠ some w.heap.size := fun hh => by have := (own_base h hh).2; omega
theorem ref_below (m s : Int) (hs : Sm s) (w : World) : Calls Try.prog 9 #[.agg #[.int .i64 m, .int .u32 s]] w fun e w' => e = .returned (.agg #[.int .i64 (cl m), .int .i64 s]) ∧ Below w.heap.size w w' :=
  (ref_any m s hs w).mono fun _ _ ⟨he, hw⟩ => ⟨he, hw ▸ (((Below.refl _ _).alloc (Nat.le_refl _) _).alloc (by simp) _).alloc (by simp; omega) _⟩
/-- distances, one behind the other -/
def xs (om os : Nat → Int) (k : Nat) : List Value := (List.range k).map fun i => dv (om i) (os i)
/-- the document's distances, one behind the other -/
def ps (om os : Nat → Int) : Nat → List Value
  | 0 => []
  | k + 1 => ps om os k ++ [.int .i64 (om k), .int .i64 (os k)]
def qs (cm : Nat → Int) (k : Nat) : List Value := (List.range k).map fun i => .int .i64 (cm i)
theorem xs_next (om os : Nat → Int) (k : Nat) : xs om os (k + 1) = xs om os k ++ [dv (om k) (os k)] := by simp [xs, List.range_succ]
theorem qs_next (cm : Nat → Int) (k : Nat) : qs cm (k + 1) = qs cm k ++ [.int .i64 (cm k)] := by simp [qs, List.range_succ]
theorem ps_next (om os : Nat → Int) (k : Nat) : ps om os (k + 1) = ps om os k ++ [.int .i64 (om k), .int .i64 (os k)] := rfl
theorem cl_cl (x : Int) : cl (cl x) = cl x := by have := cl_range x; rw [show cl (cl x) = min (max (cl x) 0) 65535 from rfl]; omega
theorem own_slice {w : World} {base size n : Nat} {e : TypeId} {v : Value} {xs : List Value} (h : w.ownsRow base e size v n xs) : ∃ A c, v = .slice A n c := by
  rcases h.2 with ⟨rfl, h2⟩ | ⟨g, cap, cur, rfl, _⟩
  · exact ⟨none, 0, by rw [h2]⟩
  · exact ⟨_, _, rfl⟩
theorem ps_len (om os : Nat → Int) (k : Nat) : (ps om os k).length = 2 * k := by
  induction k with
  | zero => rfl
  | succ k ih => simp [ps, ih]; omega
theorem ps_get (om os : Nat → Int) : ∀ (k i : Nat), i < k → (ps om os k)[i * 2]? = some (.int .i64 (om i)) ∧ (ps om os k)[i * 2 + 1]? = some (.int .i64 (os i))
  | 0, i, h => by omega
  | k + 1, i, h => by
    have hl := ps_len om os k
    rw [ps]
    by_cases e : i = k
    · subst e
      rw [List.getElem?_append_right (by omega), List.getElem?_append_right (by omega), hl, show i * 2 - 2 * i = 0 by omega, show i * 2 + 1 - 2 * i = 1 by omega]
      exact ⟨rfl, rfl⟩
    · rw [List.getElem?_append_left (by omega), List.getElem?_append_left (by omega)]
      exact ps_get om os k i (by omega)
theorem rd_own {w : World} {base n cap : Nat} {A : Option Addr} {om os : Nat → Int} (h : w.ownsRow base 26 1 (.slice A n cap) n (xs om os n)) : Rd w A n om os := fun i hi => by
  obtain ⟨g, c, hv, _, _, _⟩ := own_form h (by omega)
  simp only [Value.slice.injEq] at hv
  obtain ⟨rfl, _, rfl⟩ := hv
  refine ⟨g, 0, rfl, ?_⟩
  rw [Nat.zero_add]
  exact own_cell h i _ (by simp [xs, hi])
theorem ints_own {w : World} {base n cap : Nat} {A : Option Addr} {cm : Nat → Int} (h : w.ownsRow base 3 1 (.slice A n cap) n (qs cm n)) : RefCh.Ints w A n cm := fun i hi => by
  obtain ⟨g, c, hv, _, _, hl⟩ := own_form h (by omega)
  simp only [Value.slice.injEq] at hv
  obtain ⟨rfl, _, rfl⟩ := hv
  refine ⟨g, 0, rfl, hl, ?_⟩
  rw [Nat.zero_add]
  exact own_cell h i _ (by simp [qs, hi])
theorem prs_own {w : World} {base n cap : Nat} {A : Option Addr} {om os : Nat → Int} (h : w.ownsRow base 29 2 (.slice A n cap) n (ps om os n)) : RefCh.Prs w A n om os := fun i hi => by
  obtain ⟨g, c, hv, _, _, hl⟩ := own_form h (by omega)
  simp only [Value.slice.injEq] at hv
  obtain ⟨rfl, _, rfl⟩ := hv
  obtain ⟨p0, p1⟩ := ps_get om os n i hi
  have h0 := h.cells (g := g) rfl (i * 2) _ p0
  have h1 := h.cells (g := g) rfl (i * 2 + 1) _ p1
  have e : ∀ k, (⟨g, 0, none⟩ : Addr).add k = ⟨g, k, none⟩ := fun k => by unfold Addr.add; split <;> simp_all
  rw [e] at h0 h1
  exact ⟨g, 0, rfl, hl, by rw [Nat.zero_add]; exact h0, by rw [Nat.zero_add]; exact h1⟩
theorem rd_keep {w w' : World} {A : Option Addr} {n : Nat} {om os : Nat → Int} (h : Rd w A n om os) (hb : Below w.heap.size w w') : Rd w' A n om os := fun i hi => by
  obtain ⟨b, o, hA, hc⟩ := h i hi
  exact ⟨b, o, hA, later hb hc⟩
theorem ints_keep {w w' : World} {A : Option Addr} {n : Nat} {V : Nat → Int} (h : RefCh.Ints w A n V) (hb : Below w.heap.size w w') : RefCh.Ints w' A n V := fun i hi => by
  obtain ⟨b, o, hA, hl, hc⟩ := h i hi
  exact ⟨b, o, hA, Nat.lt_of_lt_of_le hl hb.size, later hb hc⟩
theorem prs_keep {w w' : World} {A : Option Addr} {n : Nat} {om os : Nat → Int} (h : RefCh.Prs w A n om os) (hb : Below w.heap.size w w') : RefCh.Prs w' A n om os := fun i hi => by
  obtain ⟨b, o, hA, hl, hc, hd⟩ := h i hi
  exact ⟨b, o, hA, Nat.lt_of_lt_of_le hl hb.size, later hb hc, later hb hd⟩
end Law18
end Go.Proofs.Ytiopekkmbfllaaa
