/-
  The document's lists, in plain Lean: where a prefix is, what Put and Drop leave. Conditions: those that each theorem names.
-/
import Derived.Test.YtbeoclcnajfjcaaDoP
import Derived.Test.YtbeoclcnajfjcaaNewP
namespace Go.Proofs.Ytbeoclcnajfjcaa
set_option linter.unusedVariables false
namespace Tab
/-- the first to a prefix, or -1 -/
def fnd (L : List Rt) (p : Pf) : Int := if has L p = true then (L.findIdx (fun r => decide (r.to = p)) : Nat) else -1
theorem fnd_at {L : List Rt} {p : Pf} {k : Nat} (hk : k < L.length) (h : L[k].to = p) (hm : ∀ j (hj : j < L.length), j < k → L[j].to ≠ p) : fnd L p = k := by
  have hh : has L p = true := has_iff.2 ⟨_, List.getElem_mem hk, h⟩
  unfold fnd
  rw [if_pos hh]
  congr 1
  rw [List.findIdx_eq hk]
  exact ⟨by simpa using h, fun j hj => by simpa using hm j (by omega) hj⟩
theorem fnd_no {L : List Rt} {p : Pf} (h : has L p = false) : fnd L p = -1 := by
  unfold fnd
  rw [h]
  simp
theorem fnd_none {L : List Rt} {p : Pf} (hm : ∀ j (hj : j < L.length), L[j].to ≠ p) : fnd L p = -1 := fnd_no (has_false.2 (fun r hr => by
  obtain ⟨j, hj, rfl⟩ := List.getElem_of_mem hr
  exact hm j hj))
theorem fnd_srt {T : List Rt} (hs : Srt T) {p : Pf} (h : has T p = true) : fnd T p = pos T p := by
  obtain ⟨hi, e⟩ := (pos_has hs p).1 h
  exact fnd_at hi e (fun j hj hjk => lt_ne ((pos_lt hs hj).2 hjk))
theorem fnd_has {L : List Rt} {p : Pf} : (0 ≤ fnd L p) ↔ has L p = true := by
  cases h : has L p with
  | false => rw [fnd_no h]; simp
  | true =>
    unfold fnd
    rw [h, if_pos rfl]
    simp
theorem insIdx : ∀ (L : List Rt) (r : Rt) (i : Nat), i ≤ L.length → L.insertIdx i r = L.take i ++ r :: L.drop i
  | [], r, i, hi => by
    have : i = 0 := by simpa using hi
    subst this; rfl
  | x :: L, r, 0, _ => rfl
  | x :: L, r, i + 1, hi => by rw [List.insertIdx_succ_cons, insIdx L r i (by simpa using hi)]; rfl
/-- ins by a scan: what stands before the first place that is not ahead -/
theorem ins_scan {T : List Rt} (hs : Srt T) {r : Rt} (h : has T r.to = false) : ins T r = T.take (pos T r.to) ++ r :: T.drop (pos T r.to) := by
  rw [← ins_not hs h]
  exact insIdx T r _ (pos_le _ _)
theorem putT_new {T : List Rt} {r : Rt} (hr : right r = true) (hn : T.length < 300) : putT T r = ins T r := by
  unfold putT
  rw [if_pos hr]
  by_cases h : has T r.to = true
  · rw [if_pos h]
  · rw [if_neg h, if_pos hn]
end Tab
end Go.Proofs.Ytbeoclcnajfjcaa
