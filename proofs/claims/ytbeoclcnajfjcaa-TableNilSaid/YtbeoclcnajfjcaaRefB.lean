/-
  The document's lists as they are made: append; its Put. Conditions: those that each theorem names.
-/
import Derived.Test.YtbeoclcnajfjcaaRefA
import Derived.Test.YtbeoclcnajfjcaaPutA
namespace Go.Proofs.Ytbeoclcnajfjcaa
open Go Go.RowKit H2
set_option linter.unusedVariables false
set_option linter.unusedSimpArgs false
namespace Tab
/-- what has been gathered -/
structure Gr (wl w : World) (v : Value) (D : List Rt) : Prop where
  own : w.ownsRow wl.heap.size 34 20 v D.length (flat D)
  bel : Below wl.heap.size wl w
theorem Gr.below {wl w w' : World} {v : Value} {D : List Rt} (h : Gr wl w v D) (hb : Below w.heap.size w w') : Gr wl w' v D := ⟨own_below h.own hb, h.bel.trans (hb.mono h.bel.size)⟩
theorem Gr.drewN {wl w : World} {v : Value} {D : List Rt} (h : Gr wl w v D) (n : Nat) : Gr wl (w.drewN n) v D := h.below (bdN (Below.refl _ _) _)
theorem Gr.drew {wl w : World} {v : Value} {D : List Rt} (h : Gr wl w v D) : Gr wl w.drew v D := h.below (Below.refl _ _).drew
theorem gr_nil (wl : World) : Gr wl wl (.slice none 0 0) [] := ⟨World.ownsRow_nil _ _ _ _, Below.refl _ _⟩
theorem gr_zero (wl : World) : Gr wl (wl.alloc (.cells #[] 34 (0, 0))) (.slice (some ⟨wl.heap.size, 0, none⟩) 0 0) [] := ⟨own_zero wl, (Below.refl _ _).alloc (Nat.le_refl _) _⟩
theorem Gr.rv {wl w : World} {v : Value} {D : List Rt} (h : Gr wl w v D) : ∃ A cap, Rv w v A cap D := by
  obtain ⟨A, c, hv, _⟩ := own_rv h.own
  exact ⟨A, c, hv⟩
theorem gr_grown {wl w w' : World} {v v' : Value} {D D' : List Rt} (h : Gr wl w v D) (h1 : w'.ownsRow wl.heap.size 34 20 v' D'.length (flat D')) (h2 : w.grownBy w' v.ownBlock) : Gr wl w' v' D' := by
  refine ⟨h1, ((Only.refl (fun k => v.ownBlock = some k) wl).of_below h.bel).grown h2 (fun k hk _ => hk) |>.below (Nat.le_refl _) (fun k hk e => ?_)⟩
  rcases h.own.2 with ⟨rfl, _⟩ | ⟨g, cap, cur, rfl, hg, _⟩
  · cases e
  · simp only [Value.ownBlock, Option.some.injEq] at e
    omega
/-- append of what is read -/
theorem wpList_appR {ops : Array Oper} {rest : List Oper} {o : Oper} {a : Act} {wl W : World} {Q : Exit → Act → World → Prop} (hgd : o.guard = none) (s x : Operand) (ho : o.op = .call { callee := .builtin .append, args := #[s, x], argTypes := #[31, 31] }) (v : Value) (D M : List Rt) (A : Option Addr) (n c : Nat) (hn : M.length = n)
    (hs : a.eval s = v) (hx : a.eval x = .slice A n c) (h : Gr wl W v D) (hr : Rd W A M) (hA : A = none → M = []) (hl : D.length + M.length ≤ 100000)
    (hK : ∀ v' w', Gr wl w' v' (D ++ M) → (∃ A n c, v' = .slice A n c) → wpList Try.prog ops Q rest (a.put o.dst v') w') : wpList Try.prog ops Q (o :: rest) a W := by
  subst hn
  obtain ⟨v', w', hrun, h1, h2⟩ := app_run W wl.heap.size v D M o.type h.own A c hr hA (by omega) h.bel.size
  have hg := gr_grown h h1 h2
  obtain ⟨A', c', hv⟩ := hg.rv
  exact wpList_append_run hgd s x 31 ho _ _ hs hx hrun (hK v' w' hg ⟨A', _, c', hv.eq⟩)
/-- append of one -/
theorem wpList_app1 {ops : Array Oper} {rest : List Oper} {o : Oper} {a : Act} {wl W : World} {Q : Exit → Act → World → Prop} (hgd : o.guard = none) (s x : Operand) (ho : o.op = .call { callee := .builtin .append, args := #[s, x], argTypes := #[31, 31] }) (v : Value) (r : Rt) (D : List Rt)
    (hs : a.eval s = v) (hx : a.eval x = .slice (some ⟨W.heap.size, 0, none⟩) 1 1) (h : Gr wl W v D) (hl : D.length ≤ 10000)
    (hK : ∀ v' w', Gr wl w' v' (D ++ [r]) → (∃ A n c, v' = .slice A n c) → wpList Try.prog ops Q rest (a.put o.dst v') w') : wpList Try.prog ops Q (o :: rest) a (W.alloc (.cells (encR r).toArray 34 (0, 0))) :=
  wpList_appR hgd s x ho v D [r] _ 1 1 rfl hs hx (h.below ((Below.refl _ _).alloc (Nat.le_refl _) _)) (Rd.at (L := [r]) (by rw [flat_one]; exact at_new W (encR r) _ _)) (fun e => by cases e) (by simp; omega) hK
/-- what the document's functions answer: a list and a code -/
def Lst (w w' : World) (L : List Rt) (c : Int) (e : Ending) : Prop := ∃ v A cap, e = .returned (.tuple #[v, .int .i64 c]) ∧ Rv w' v A cap L
end Tab
end Go.Proofs.Ytbeoclcnajfjcaa
