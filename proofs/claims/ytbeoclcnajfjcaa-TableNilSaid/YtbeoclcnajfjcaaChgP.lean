/-
  The changes from one table to another: plain list, and the laws its walk needs. Conditions: those that each theorem names.
-/
import Derived.Test.YtbeoclcnajfjcaaIncA
import Derived.Test.YtbeoclcnajfjcaaTabF
namespace Go.Proofs.Ytbeoclcnajfjcaa
open Go Go.RowKit H2
set_option linter.unusedVariables false
set_option linter.unusedSimpArgs false
namespace Tab
def gone (x : Rt) : In := ⟨3, ⟨x.to, 0, 0⟩⟩
/-- what turns the one into the other -/
def chg : List Rt → List Rt → List In
  | [], [] => []
  | [], y :: B => ⟨1, y⟩ :: chg [] B
  | x :: A, [] => gone x :: chg A []
  | x :: A, y :: B => if cmpP x.to y.to < 0 then gone x :: chg A (y :: B) else if 0 < cmpP x.to y.to then ⟨1, y⟩ :: chg (x :: A) B else if x = y then chg A B else ⟨2, y⟩ :: chg A B
termination_by A B => A.length + B.length
theorem chg_nn : chg [] [] = [] := by rw [chg]
theorem chg_n (y : Rt) (B : List Rt) : chg [] (y :: B) = ⟨1, y⟩ :: chg [] B := by rw [chg]
theorem chg_c (x : Rt) (A : List Rt) : chg (x :: A) [] = gone x :: chg A [] := by rw [chg]
theorem chg_cc (x y : Rt) (A B : List Rt) : chg (x :: A) (y :: B) = if cmpP x.to y.to < 0 then gone x :: chg A (y :: B) else if 0 < cmpP x.to y.to then ⟨1, y⟩ :: chg (x :: A) B else if x = y then chg A B else ⟨2, y⟩ :: chg A B := by rw [chg]
theorem chg_len : ∀ (n : Nat) (A B : List Rt), A.length + B.length ≤ n → (chg A B).length ≤ n
  | 0, [], [], _ => by rw [chg_nn]; exact Nat.le_refl _
  | 0, _ :: _, _, h => by simp at h
  | 0, [], _ :: _, h => by simp at h
  | n + 1, [], [], _ => by rw [chg_nn]; simp
  | n + 1, [], y :: B, h => by
    rw [chg_n, List.length_cons]
    exact Nat.succ_le_succ (chg_len n [] B (by simp at h ⊢; omega))
  | n + 1, x :: A, [], h => by
    rw [chg_c, List.length_cons]
    exact Nat.succ_le_succ (chg_len n A [] (by simp at h ⊢; omega))
  | n + 1, x :: A, y :: B, h => by
    rw [chg_cc]
    simp only [List.length_cons] at h
    split
    · rw [List.length_cons]; exact Nat.succ_le_succ (chg_len n A (y :: B) (by simp; omega))
    · split
      · rw [List.length_cons]; exact Nat.succ_le_succ (chg_len n (x :: A) B (by simp; omega))
      · split
        · exact Nat.le_succ_of_le (chg_len n A B (by omega))
        · rw [List.length_cons]; exact Nat.succ_le_succ (chg_len n A B (by omega))
/-- what has been gathered -/
structure Gat (wl w : World) (v : Value) (D : List In) : Prop where
  own : w.ownsRow wl.heap.size 43 21 v D.length (flatI D)
  bel : Below wl.heap.size wl w
theorem Gat.below {wl w w' : World} {v : Value} {D : List In} (h : Gat wl w v D) (hb : Below w.heap.size w w') : Gat wl w' v D := ⟨own_below h.own hb, h.bel.trans (hb.mono h.bel.size)⟩
theorem Gat.drewN {wl w : World} {v : Value} {D : List In} (h : Gat wl w v D) (n : Nat) : Gat wl (w.drewN n) v D := h.below (bdN (Below.refl _ _) _)
theorem gat_nil (wl : World) : Gat wl wl (.slice none 0 0) [] := ⟨World.ownsRow_nil _ _ _ _, Below.refl _ _⟩
theorem wpList_appI {ops : Array Oper} {rest : List Oper} {o : Oper} {a : Act} {wl W : World} {Q : Exit → Act → World → Prop} (hgd : o.guard = none) (s x : Operand) (ho : o.op = .call { callee := .builtin .append, args := #[s, x], argTypes := #[58, 58] }) (v : Value) (i : In) (D : List In)
    (hs : a.eval s = v) (hx : a.eval x = .slice (some ⟨W.heap.size, 0, none⟩) 1 1) (h : Gat wl W v D) (hl : D.length ≤ 100000)
    (hK : ∀ v' w', Gat wl w' v' (D ++ [i]) → (∃ A n c, v' = .slice A n c) → wpList Try.prog ops Q rest (a.put o.dst v') w') : wpList Try.prog ops Q (o :: rest) a (W.alloc (.cells (encI i).toArray 43 (0, 0))) := by
  obtain ⟨v', w', hr, h1, h2⟩ := appI_run (W.alloc (.cells (encI i).toArray 43 (0, 0))) wl.heap.size v D i o.type (h.own.alloc _) W.heap.size 1 (heap_alloc_new W _) hl (Nat.le_trans h.bel.size (by simp))
  refine wpList_append_run hgd s x 58 ho _ _ hs hx hr (hK v' w' ⟨h1, ?_⟩ ?_)
  · refine ((Only.refl (fun k => v.ownBlock = some k) wl).of_below (h.bel.alloc h.bel.size _)).grown h2 (fun k hk _ => hk) |>.below (Nat.le_refl _) (fun k hk e => ?_)
    rcases h.own.2 with ⟨rfl, _⟩ | ⟨g, cap, cur, rfl, hg, _⟩
    · cases e
    · simp only [Value.ownBlock, Option.some.injEq] at e
      omega
  · obtain ⟨A, c, hv⟩ := ownI_rv h1
    exact ⟨A, _, c, hv.eq⟩
theorem wpList_slice_run {P : Program} {ops : Array Oper} {rest : List Oper} {o : Oper} {a : Act} {w w' : World} {Q : Exit → Act → World → Prop} (hgd : o.guard = none) (t : TypeId) (x : Operand) (lo hi mx : Option Operand) (ho : o.op = .slice t x lo hi mx) (u : Value) (l h m : Option Value) (hx : a.eval x = u) (hl : lo.map a.eval = l) (hh : hi.map a.eval = h) (hm : mx.map a.eval = m) {v' : Value}
    (hr : (Instr.sliceAt t u l h m).run P w = .ok v' w') (hK : wpList P ops Q rest (a.put o.dst v') w') : wpList P ops Q (o :: rest) a w := by
  refine wpList_plain hgd fun K hK' => ?_
  unfold Oper.wp execOp
  simp only [ho, hx, hl, hh, hm, hr, Sem.run_bind, Result.andThen_ok, Sem.run_pure]
  exact hK' _ _ hK
theorem tail_run (b o n c : Nat) (hc : n + 1 ≤ c) : ∃ A', (∀ w, (Instr.sliceAt 31 (.slice (some ⟨b, o, none⟩) (n + 1) c) (some (.int .i64 1)) none none).run Try.prog w = .ok (.slice A' n (c - 1)) w) ∧ (0 < n → A' = some ⟨b, o + n20, none⟩) := by
  have h1 : (1 : Int) ≤ (n : Int) + 1 := by omega
  have h2 : (n : Int) + 1 ≤ (c : Int) := by omega
  by_cases hc1 : c = 1
  · obtain rfl : n = 0 := by omega
    subst hc1
    exact ⟨some ⟨b, o, none⟩, fun w => by simp [Instr.sliceAt, go_sem], fun h => by omega⟩
  · exact ⟨some ⟨b, o + n20, none⟩, fun w => by simp [Instr.sliceAt, go_sem, hc1, h1, h2], fun _ => rfl⟩
end Tab
end Go.Proofs.Ytbeoclcnajfjcaa
