/-
  Lists that lie apart from a table. Conditions: those that each theorem names.
-/
import Derived.Test.YtbeoclcnajfjcaaDoA
import Derived.Test.YtbeoclcnajfjcaaTf
import Derived.Test.YtbeoclcnajfjcaaOpenL
namespace Go.Proofs.Ytbeoclcnajfjcaa
open Go Go.RowKit H2
set_option linter.unusedVariables false
set_option linter.unusedSimpArgs false
namespace Tab
theorem RAt.only {S : Nat → Prop} {w w' : World} {B o : Nat} {r : Rt} (h : RAt w B o r) (ho : Only S w w') (hn : ¬ S B) : RAt w' B o r := ⟨fun j u hj => ho.cell (h.all j u hj) hn⟩
theorem OAt.only {S : Nat → Prop} {w w' : World} {B o : Nat} {r : OpL} (h : OAt w B o r) (ho : Only S w w') (hn : ¬ S B) : OAt w' B o r := ⟨fun j u hj => ho.cell (h.all j u hj) hn⟩
/-- what lies behind all that there was is no part of a table -/
theorem tb_new_no {base : Nat} {w : World} {b : Nat} {v : Value} {T : List Rt} (h : Tb base w b v T) {g : Nat} (hg : w.heap.size ≤ g) : ¬ (g = b ∨ v.ownBlock = some g) := fun e => by
  rcases e with e | e
  · have := h.lt; omega
  · have := own_lt h.own e; omega
/-- a list that lies apart from a table -/
structure Ap (w : World) (b : Nat) (v u : Value) (A : Option Addr) (cap : Nat) (L : List Rt) : Prop where
  rv : Rv w u A cap L
  ap : ∀ g o, A = some ⟨g, o, none⟩ → ¬ (g = b ∨ v.ownBlock = some g)
theorem Ap.below {w w' : World} {b : Nat} {v u : Value} {A : Option Addr} {cap : Nat} {L : List Rt} (h : Ap w b v u A cap L) (hb : Below w.heap.size w w') : Ap w' b v u A cap L := ⟨h.rv.below hb, h.ap⟩
theorem Ap.step {w w' : World} {b : Nat} {v v' u : Value} {A : Option Addr} {cap : Nat} {L : List Rt} (h : Ap w b v u A cap L) (ho : Only (fun k => k = b ∨ v.ownBlock = some k) w w') (hk : Kin w v v') : Ap w' b v' u A cap L := by
  refine ⟨⟨h.rv.eq, h.rv.len, h.rv.capm, fun i hi => ?_, h.rv.nil, fun a e => ?_⟩, fun g o e => ?_⟩
  · obtain ⟨g, o, e, hr⟩ := h.rv.rd i hi
    exact ⟨g, o, e, hr.only ho (h.ap g o e)⟩
  · obtain ⟨g, o, rfl, hl⟩ := h.rv.adr a e
    exact ⟨g, o, rfl, Nat.lt_of_lt_of_le hl ho.size⟩
  · intro e2
    have h2 := h.ap g o e
    rcases e2 with e2 | e2
    · exact h2 (.inl e2)
    · rcases hk g e2 with e3 | e3
      · exact h2 (.inr e3)
      · obtain ⟨g', o', e4, hl⟩ := h.rv.adr _ e
        cases e4
        omega
theorem ap_new {base : Nat} {w w' : World} {b : Nat} {v u : Value} {T L : List Rt} {A : Option Addr} {cap : Nat} (h : Tb base w b v T) (hr : Rv w' u A cap L) (hf : ∀ g o, A = some ⟨g, o, none⟩ → w.heap.size ≤ g) : Ap w' b v u A cap L :=
  ⟨hr, fun g o e => tb_new_no h (hf g o e)⟩
theorem ap_frm {base : Nat} {w w' : World} {b : Nat} {v u u' : Value} {T L L' : List Rt} {A A' : Option Addr} {cap cap' : Nat} (h : Ap w b v u A cap L) (ht : Tb base w b v T) (hr : Rv w' u' A' cap' L') (hf : Frm w A A') : Ap w' b v u' A' cap' L' :=
  ⟨hr, fun g o e => by
    rcases hf with hf | hf
    · exact h.ap g o (hf ▸ e)
    · exact tb_new_no ht (hf g o e)⟩
theorem del_head {T : List Rt} (hs : Srt T) {k : Nat} (hk : k < T.length) : del (T.drop k) T[k].to = T.drop (k + 1) := by
  have hd := List.drop_eq_getElem_cons hk
  have hs2 : Srt (T.drop k) := List.Pairwise.sublist (List.drop_sublist _ _) hs
  rw [hd] at hs2 ⊢
  have h1 := (srt_cons.1 hs2).1
  unfold del
  rw [List.filter_cons, if_neg (by simp), List.filter_eq_self]
  intro r hr
  exact decide_eq_true (fun e => lt_ne (h1 r hr) e.symm)
/-- routes whose metrics may be turned -/
def Lm (w : World) (base : Nat) (A : Option Addr) (n : Nat) : Prop := ∀ i, i < n → ∃ g o cur, A = some ⟨g, o, none⟩ ∧ base ≤ g ∧ w.heap[g]? = some (.cells cur 34 (0, 0)) ∧ ∃ m, cur[o + i * 20 + 18]? = some (.int .i64 m)
theorem own_lm {w : World} {base : Nat} {v : Value} {T : List Rt} (h : w.ownsRow base 34 20 v T.length (flat T)) : ∃ A cap, v = .slice A T.length cap ∧ Lm w base A T.length := by
  rcases h.2 with ⟨rfl, h0⟩ | ⟨g, cap, cur, rfl, hg, hh, hc, hm, hs, ht⟩
  · exact ⟨none, 0, by rw [h0], fun i hi => by rw [h0] at hi; omega⟩
  · refine ⟨_, cap, rfl, fun i hi => ⟨g, 0, cur, rfl, hg, hh, ?_⟩⟩
    have h1 := (own_at h).row hi
    have h2 := h1.met
    rw [blk_cell hh] at h2
    exact ⟨_, h2⟩
theorem Lm.set {w : World} {base g o n : Nat} (h : Lm w base (some ⟨g, o, none⟩) n) (k : Nat) (m : Int) : Lm (w.setCell ⟨g, o + k * 20 + 18, none⟩ (.int .i64 m)) base (some ⟨g, o, none⟩) n := fun i hi => by
  obtain ⟨g', o', cur, e, hg, hh, m', hm⟩ := h i hi
  cases e
  refine ⟨g, o, _, rfl, hg, blk_set hh _ _, ?_⟩
  rw [Array.getElem?_setIfInBounds]
  split
  · rename_i e
    have hlt := (Array.getElem?_eq_some_iff.1 hm).1
    rw [if_pos (by omega)]
    exact ⟨m, rfl⟩
  · exact ⟨m', hm⟩
end Tab
end Go.Proofs.Ytbeoclcnajfjcaa
