/-
  What the laws of layer 06 share: tables that are put to, parts of tables. Conditions: those that each theorem names.
-/
import Derived.Test.YtbeoclcnajfjcaaAwkB
import Derived.Test.YtbeoclcnajfjcaaRefF
namespace Go.Proofs.Ytbeoclcnajfjcaa
open Go Go.RowKit H2
set_option linter.unusedVariables false
set_option linter.unusedSimpArgs false
namespace Tab
theorem tb_put {W w : World} {b : Nat} {v : Value} {T : List Rt} (r : Rt) (h : Tb W.heap.size w b v T) (hb : Below W.heap.size W w) :
    Calls Try.prog 12 #[.pointer (some ⟨b, 0, none⟩), .agg (encR r).toArray] w fun e w' => e = .returned (.int .i64 (putC T r)) ∧ ∃ v', Tb W.heap.size w' b v' (putT T r) ∧ Below W.heap.size W w' :=
  (put_any r w h).mono fun e w' ⟨v', he, h1, h2⟩ => ⟨he, v', h1, hb.trans (tb_below h h2)⟩
theorem tb_drop {W w : World} {b : Nat} {v : Value} {T : List Rt} (p : Pf) (h : Tb W.heap.size w b v T) (hb : Below W.heap.size W w) :
    Calls Try.prog 14 #[.pointer (some ⟨b, 0, none⟩), .agg (encP p).toArray] w fun e w' => e = .returned (.int .i64 (dropC T p)) ∧ ∃ v', Tb W.heap.size w' b v' (del T p) ∧ Below W.heap.size W w' :=
  (drop_any p w h).mono fun e w' ⟨v', he, h1, h2⟩ => ⟨he, v', h1, hb.trans (tb_below h h2)⟩
theorem Tb.only {base : Nat} {w w' : World} {b : Nat} {v : Value} {T : List Rt} (h : Tb base w b v T) (ho : Only (fun k => k < base) w w') : Tb base w' b v T :=
  ⟨ho.obj h.blk (by have := h.lo; omega), ho.own h.own (fun k hk e => by
    rcases h.own.2 with ⟨h0, _⟩ | ⟨g, cap, cur, h0, hg, _⟩
    · rw [h0] at hk; cases hk
    · rw [h0] at hk
      simp only [Value.ownBlock, Option.some.injEq] at hk
      omega), h.lo, h.tok⟩
/-- two boxes that change their contents -/
theorem swap_only {base B B2 : Nat} {w : World} (cs cs2 : Array Value) (h1 : B < base) (h2 : B2 < base) : Only (fun k => k < base) w ((w.setRow B cs).setRow B2 cs2) :=
  Tab.Only.setRow (S := fun k => k < base) (g := B2) (Tab.Only.setRow (S := fun k => k < base) (g := B) (Only.refl _ w) (fun _ => h1) cs) (fun _ => h2) cs2
theorem btw_self (T : List Rt) (p : Pf) : btw T p p = [] := by
  unfold btw
  rw [List.drop_eq_nil_iff, List.length_take]
  exact Nat.min_le_left _ _
theorem btw_back {T : List Rt} (hs : Srt T) {p q : Pf} (h : ¬ 0 < cmpP p q) : btw T q p = [] := by
  rw [← btw_inB hs, List.filter_eq_nil_iff]
  intro r hr
  unfold inB
  rw [Bool.and_eq_true, decide_eq_true_iff, decide_eq_true_iff]
  intro hp
  have hqp : ¬ Lt q p := fun e => by
    have h2 := cmp_neg p q
    unfold Lt at e
    omega
  exact hp.1 (lt_le (show Lt r.to p from hp.2) hqp)
theorem filter_at {T : List Rt} {k : Nat} (hk : k < T.length) (f : Rt → Bool) (h : f T[k] = true) : ∃ hj : ((T.take k).filter f).length < (T.filter f).length, (T.filter f)[((T.take k).filter f).length]'hj = T[k] := by
  have e : T.filter f = (T.take k).filter f ++ T[k] :: (T.drop (k + 1)).filter f := by
    have h1 : T = T.take k ++ T[k] :: T.drop (k + 1) := by rw [← List.drop_eq_getElem_cons hk, List.take_append_drop]
    have h2 : (T.take k ++ T[k] :: T.drop (k + 1)).filter f = (T.take k).filter f ++ T[k] :: (T.drop (k + 1)).filter f := by
      rw [List.filter_append, List.filter_cons, if_pos h]
    rw [← h2, ← h1]
  have hj : ((T.take k).filter f).length < (T.filter f).length := by
    have := congrArg List.length e
    rw [List.length_append, List.length_cons] at this
    omega
  refine ⟨hj, ?_⟩
  have h3 : (T.filter f)[((T.take k).filter f).length]? = some T[k] := by
    rw [e, List.getElem?_append_right (Nat.le_refl _), Nat.sub_self]
    rfl
  exact (List.getElem?_eq_some_iff.1 h3).2
end Tab
end Go.Proofs.Ytbeoclcnajfjcaa
