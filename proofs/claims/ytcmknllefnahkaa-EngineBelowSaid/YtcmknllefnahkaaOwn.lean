/-
  Owned rows: what an append leaves as it was. Plain laws on worlds; no program. Conditions: none.
-/
import Derived.Test.YtcmknllefnahkaaFrame
import Derived.OwnWalk
import Derived.Deep.AppendLies
namespace Go.Proofs.Ytcmknllefnahkaa
open Go Go.RowKit
set_option linter.unusedVariables false
namespace OW
theorem own_keep {w w' : World} {base size n : Nat} {e : TypeId} {v : Value} {xs : List Value} (h : w.ownsRow base e size v n xs) (hb : Below w.heap.size w w') : w'.ownsRow base e size v n xs :=
  (Only.of_below (Only.refl (fun _ => False) w) hb).own h (fun _ _ h => h)
theorem own_drewN {w : World} {base size n : Nat} {e : TypeId} {v : Value} {xs : List Value} (h : w.ownsRow base e size v n xs) (q : Nat) : (w.drewN q).ownsRow base e size v n xs := h
theorem own_mono {w : World} {base base' size n : Nat} {e : TypeId} {v : Value} {xs : List Value} (h : w.ownsRow base e size v n xs) (hb : base' ≤ base) : w.ownsRow base' e size v n xs := by
  refine ⟨h.1, ?_⟩
  rcases h.2 with h2 | ⟨g, cap, cur, rfl, hg, r⟩
  · exact .inl h2
  · exact .inr ⟨g, cap, cur, rfl, by omega, r⟩
theorem own_base {w : World} {base size n : Nat} {e : TypeId} {v : Value} {xs : List Value} (h : w.ownsRow base e size v n xs) {b : Nat} (hb : v.ownBlock = some b) : base ≤ b ∧ b < w.heap.size := by
  rcases h.2 with ⟨rfl, _⟩ | ⟨g, cap, cur, rfl, hb', hh, _⟩
  · cases hb
  · simp only [Value.ownBlock, Option.some.injEq] at hb
    have := blk_lt hh
    omega
theorem own_not {w : World} {base size n : Nat} {e : TypeId} {v : Value} {xs : List Value} (h : w.ownsRow base e size v n xs) {b : Nat} (hb : b < base) : v.ownBlock ≠ some b := fun hh => by have := (own_base h hh).1; omega
theorem own_apart {w : World} {base base' size size' n n' : Nat} {e e' : TypeId} {v v' : Value} {xs xs' : List Value} (h : w.ownsRow base e size v n xs) (h' : w.ownsRow base' e' size' v' n' xs') (hne : e' ≠ e) : ∀ g, v.ownBlock = some g → v'.ownBlock ≠ some g := by
  intro g hg
  rcases h.2 with ⟨rfl, _⟩ | ⟨g', cap, cur, rfl, hb', hh, _⟩
  · cases hg
  · simp only [Value.ownBlock, Option.some.injEq] at hg
    subst hg
    exact own_ne_blk h' hh hne
theorem app_only {S : Nat → Prop} {a wr w1 : World} {base size n : Nat} {e : TypeId} {v : Value} {xs : List Value} {o : Obj} (hB : Only S a wr) (ho : wr.ownsRow base e size v n xs) (hb : a.heap.size ≤ base) (hg : (wr.alloc o).grownBy w1 v.ownBlock) : Only S a w1 :=
  (hB.alloc o).grown hg (fun q hq hlt => by have := (own_base ho hq).1; omega)
theorem app_below {w wr w1 : World} {size n : Nat} {e : TypeId} {v : Value} {xs : List Value} {o : Obj} (hB : Below w.heap.size w wr) (ho : wr.ownsRow w.heap.size e size v n xs) (hg : (wr.alloc o).grownBy w1 v.ownBlock) : Below w.heap.size w w1 :=
  (((Only.refl (fun i => w.heap.size ≤ i) w).of_below hB).alloc o |>.grown hg (fun q hq _ => (own_base ho hq).1)).below (Nat.le_refl _) (fun i hi h => by omega)
theorem app_other {wr w1 : World} {base size n : Nat} {e : TypeId} {v vx : Value} {xs : List Value} {o : Obj} (hp : wr.ownsRow base e size v n xs) (hne : ∀ g, vx.ownBlock = some g → v.ownBlock ≠ some g) (hg : (wr.alloc o).grownBy w1 vx.ownBlock) : w1.ownsRow base e size v n xs :=
  ((Only.refl (fun i => vx.ownBlock = some i) wr).alloc o |>.grown hg (fun k hk _ => hk)).own hp (fun k hk h => hne k h hk)
theorem app_cell {wr w1 : World} {v : Value} {o : Obj} {p : Addr} {u : Value} (hc : wr.cell? p = some u) (hne : v.ownBlock ≠ some p.block) (hg : (wr.alloc o).grownBy w1 v.ownBlock) : w1.cell? p = some u :=
  ((Only.refl (fun i => v.ownBlock = some i) wr).alloc o |>.grown hg (fun k hk _ => hk)).cell hc hne
theorem app_obj {wr w1 : World} {v : Value} {o o' : Obj} {i : Nat} (hc : wr.heap[i]? = some o') (hne : v.ownBlock ≠ some i) (hg : (wr.alloc o).grownBy w1 v.ownBlock) : w1.heap[i]? = some o' :=
  ((Only.refl (fun i => v.ownBlock = some i) wr).alloc o |>.grown hg (fun k hk _ => hk)).obj hc hne
theorem app_size {wr w1 : World} {v : Value} {o : Obj} (hg : (wr.alloc o).grownBy w1 v.ownBlock) : wr.heap.size < w1.heap.size := by have := hg.size; simp at this; omega
end OW
end Go.Proofs.Ytcmknllefnahkaa
