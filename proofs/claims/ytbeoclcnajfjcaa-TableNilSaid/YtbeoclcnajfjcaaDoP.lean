/-
  What Table.Do answers, in plain Lean. Conditions: those that each theorem names.
-/
import Derived.Test.YtbeoclcnajfjcaaDropA
namespace Go.Proofs.Ytbeoclcnajfjcaa
set_option linter.unusedVariables false
namespace Tab
def doC (T : List Rt) (x : In) : Int :=
  if x.kind = 3 then (if x.rt.metric = 0 ∧ x.rt.seq = 0 ∧ rightP x.rt.to = true then dropC T x.rt.to else 1)
  else if (x.kind = 1 ∨ x.kind = 2) ∧ right x.rt = true then
    (if x.kind = 1 ∧ has T x.rt.to = true then 9 else if x.kind = 2 ∧ has T x.rt.to = false then 8 else putC T x.rt)
  else 1
def doT (T : List Rt) (x : In) : List Rt :=
  if x.kind = 3 then (if x.rt.metric = 0 ∧ x.rt.seq = 0 ∧ rightP x.rt.to = true then del T x.rt.to else T)
  else if (x.kind = 1 ∨ x.kind = 2) ∧ right x.rt = true then
    (if x.kind = 1 ∧ has T x.rt.to = true then T else if x.kind = 2 ∧ has T x.rt.to = false then T else putT T x.rt)
  else T

theorem doK {T : List Rt} {p : Pf} {m q k : Int} {hv : Bool} (hk : k = 1 ∨ k = 2) (hr : right ⟨p, m, q⟩ = true) (h : has T p = hv) :
    doC T ⟨k, ⟨p, m, q⟩⟩ = (if k = 1 ∧ hv = true then 9 else if k = 2 ∧ hv = false then 8 else putC T ⟨p, m, q⟩) ∧ doT T ⟨k, ⟨p, m, q⟩⟩ = (if k = 1 ∧ hv = true then T else if k = 2 ∧ hv = false then T else putT T ⟨p, m, q⟩) := by
  subst h
  unfold doC doT
  have h3 : ¬ k = 3 := by omega
  have h4 : (k = 1 ∨ k = 2) ∧ right ⟨p, m, q⟩ = true := ⟨hk, hr⟩
  dsimp only
  rw [if_neg h3, if_neg h3, if_pos h4, if_pos h4]
  exact ⟨rfl, rfl⟩
theorem do_bad {T : List Rt} {p : Pf} {m q k : Int} (h3 : ¬ k = 3) (h4 : ¬ ((k = 1 ∨ k = 2) ∧ right ⟨p, m, q⟩ = true)) : doC T ⟨k, ⟨p, m, q⟩⟩ = 1 ∧ doT T ⟨k, ⟨p, m, q⟩⟩ = T := by
  unfold doC doT
  dsimp only
  rw [if_neg h3, if_neg h3, if_neg h4, if_neg h4]
  exact ⟨rfl, rfl⟩
theorem do_put1 {T : List Rt} {p : Pf} {m q : Int} (hr : right ⟨p, m, q⟩ = true) (h : has T p = false) : doC T ⟨1, ⟨p, m, q⟩⟩ = putC T ⟨p, m, q⟩ ∧ doT T ⟨1, ⟨p, m, q⟩⟩ = putT T ⟨p, m, q⟩ := doK (.inl rfl) hr h
theorem do_there {T : List Rt} {p : Pf} {m q : Int} (hr : right ⟨p, m, q⟩ = true) (h : has T p = true) : doC T ⟨1, ⟨p, m, q⟩⟩ = 9 ∧ doT T ⟨1, ⟨p, m, q⟩⟩ = T := doK (.inl rfl) hr h
theorem do_away {T : List Rt} {p : Pf} {m q : Int} (hr : right ⟨p, m, q⟩ = true) (h : has T p = false) : doC T ⟨2, ⟨p, m, q⟩⟩ = 8 ∧ doT T ⟨2, ⟨p, m, q⟩⟩ = T := doK (.inr rfl) hr h
theorem do_put2 {T : List Rt} {p : Pf} {m q : Int} (hr : right ⟨p, m, q⟩ = true) (h : has T p = true) : doC T ⟨2, ⟨p, m, q⟩⟩ = putC T ⟨p, m, q⟩ ∧ doT T ⟨2, ⟨p, m, q⟩⟩ = putT T ⟨p, m, q⟩ := doK (.inr rfl) hr h
end Tab
end Go.Proofs.Ytbeoclcnajfjcaa
