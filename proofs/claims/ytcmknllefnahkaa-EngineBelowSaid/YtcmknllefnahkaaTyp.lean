/-
  Frames by the types of blocks: which kinds of blocks a call may have turned. Plain laws on worlds; no program. Conditions: none.
-/
import Derived.Test.YtcmknllefnahkaaOwn
namespace Go.Proofs.Ytcmknllefnahkaa
open Go Go.RowKit
set_option linter.unusedVariables false
/-- block i holds cells of a type of T -/
def TypeAt (w : World) (i : Nat) (T : TypeId → Prop) : Prop := ∃ cs t fr, w.heap[i]? = some (.cells cs t fr) ∧ T t
/-- of what was there, only blocks of types of T may have turned -/
def OnlyT (T : TypeId → Prop) (w w' : World) : Prop := Only (fun i => TypeAt w i T) w w'
theorem OnlyT.refl (T : TypeId → Prop) (w : World) : OnlyT T w w := Only.refl _ w
theorem OnlyT.trans {T : TypeId → Prop} {a b c : World} (h : OnlyT T a b) (k : OnlyT T b c) : OnlyT T a c :=
  Only.trans h k fun i hi ht => Classical.byContradiction fun hn => by
    obtain ⟨cs, t, fr, h1, h2⟩ := ht
    rw [h.block i hi hn] at h1
    exact hn ⟨cs, t, fr, h1, h2⟩
theorem OnlyT.of_below {T : TypeId → Prop} {a w w' : World} (h : OnlyT T a w) (hb : Below w.heap.size w w') : OnlyT T a w' := Only.of_below h hb
theorem OnlyT.of_only {T : TypeId → Prop} {a w w' : World} {b : Nat} (h : OnlyT T a w) (ho : Only (fun i => i = b) w w') (hb : TypeAt w b T) : OnlyT T a w' :=
  h.trans (ho.mono fun i _ e => by subst e; exact hb)
theorem OnlyT.alloc {T : TypeId → Prop} {a w : World} (h : OnlyT T a w) (o : Obj) : OnlyT T a (w.alloc o) := Only.alloc h o
theorem OnlyT.drew {T : TypeId → Prop} {a w : World} (h : OnlyT T a w) : OnlyT T a w.drew := Only.drew h
theorem OnlyT.drewN {T : TypeId → Prop} {a w : World} (h : OnlyT T a w) (n : Nat) : OnlyT T a (w.drewN n) := Only.drewN h n
theorem OnlyT.setCell {T : TypeId → Prop} {a w : World} (h : OnlyT T a w) {p : Addr} (hp : p.block < w.heap.size → TypeAt w p.block T) (u : Value) : OnlyT T a (w.setCell p u) :=
  h.trans (Only.setCell (Only.refl _ w) hp u)
theorem OnlyT.grown {T : TypeId → Prop} {a w w' : World} {row : Option Nat} (h : OnlyT T a w) (hg : w.grownBy w' row) (hr : ∀ k, row = some k → k < w.heap.size → TypeAt w k T) : OnlyT T a w' :=
  h.trans (Only.grown (Only.refl _ w) hg hr)
theorem OnlyT.mono {T T' : TypeId → Prop} {a b : World} (h : OnlyT T a b) (hT : ∀ t, T t → T' t) : OnlyT T' a b :=
  Only.mono h fun i _ ⟨cs, t, fr, h1, h2⟩ => ⟨cs, t, fr, h1, hT t h2⟩
theorem OnlyT.obj {T : TypeId → Prop} {w w' : World} (h : OnlyT T w w') {i : Nat} {cs : Array Value} {t : TypeId} {fr : Nat × Nat} (hi : w.heap[i]? = some (.cells cs t fr)) (hn : ¬ T t) : w'.heap[i]? = some (.cells cs t fr) :=
  Only.obj h hi (fun ⟨cs', t', fr', h1, h2⟩ => by rw [hi] at h1; cases h1; exact hn h2)
theorem OnlyT.own {T : TypeId → Prop} {w w' : World} (h : OnlyT T w w') {base size n : Nat} {e : TypeId} {v : Value} {xs : List Value} (ho : w.ownsRow base e size v n xs) (hn : ¬ T e) : w'.ownsRow base e size v n xs :=
  Only.own h ho fun k hk ⟨cs, t, fr, h1, h2⟩ => by
    rcases ho.2 with ⟨rfl, _⟩ | ⟨g, cap, cur, rfl, hb, hh, _⟩
    · cases hk
    · simp only [Value.ownBlock, Option.some.injEq] at hk
      subst hk
      rw [hh] at h1
      cases h1
      exact hn h2
theorem own_type {w : World} {base size n : Nat} {e : TypeId} {v : Value} {xs : List Value} (ho : w.ownsRow base e size v n xs) {k : Nat} (hk : v.ownBlock = some k) {T : TypeId → Prop} (hT : T e) : TypeAt w k T := by
  rcases ho.2 with ⟨rfl, _⟩ | ⟨g, cap, cur, rfl, hb, hh, _⟩
  · cases hk
  · simp only [Value.ownBlock, Option.some.injEq] at hk
    subst hk
    exact ⟨_, _, _, hh, hT⟩
/-- what lay below base stands, if all that turned lay from base on -/
theorem OnlyT.size {T : TypeId → Prop} {w w' : World} (h : OnlyT T w w') : w.heap.size ≤ w'.heap.size := Only.size h
theorem blk_ne {w : World} {i j : Nat} {cs cs' : Array Value} {t t' : TypeId} {fr fr' : Nat × Nat} (h : w.heap[i]? = some (.cells cs t fr)) (h' : w.heap[j]? = some (.cells cs' t' fr')) (hne : t ≠ t') : i ≠ j := fun e => by
  subst e
  rw [h] at h'
  cases h'
  exact hne rfl
end Go.Proofs.Ytcmknllefnahkaa
