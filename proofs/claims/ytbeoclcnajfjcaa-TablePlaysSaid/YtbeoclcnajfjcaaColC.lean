/-
  slices.Collect, slices.SortedFunc at routes. Conditions: those that each theorem names.
-/
import Derived.Test.YtbeoclcnajfjcaaColB
namespace Go.Proofs.Ytbeoclcnajfjcaa
open Go Go.RowKit H2
set_option linter.unusedVariables false
set_option linter.unusedSimpArgs false
namespace Tab
theorem appendSeq_any (Bs : Nat) (sv : Value) (L : List Rt) (hreach : L.length ≤ 1000000) (w : World) (hBs : Bs < w.heap.size) (hc : w.cell? ⟨Bs, 0, none⟩ = some sv) (hI : Rds w.heap.size w sv L) :
    Calls Try.prog 65 #[.slice none 0 0, .func (.func 52) #[] #[.pointer (some ⟨Bs, 0, none⟩)]] w fun e W' => ∃ v, e = .returned v ∧ W'.ownsRow w.heap.size 34 20 v L.length (flat L) ∧ (v = .slice none 0 0 ↔ L = []) ∧ Below w.heap.size w W' :=
  (callsIn_wide (n := 3)).1 (appendSeq_in Fence.wide 3 trivial trivial rfl (by omega) Bs sv L hreach w hBs hc hI)
set_option maxHeartbeats 2000000 in
theorem collect_any (Bs : Nat) (sv : Value) (L : List Rt) (hreach : L.length ≤ 1000000) (w : World) (hBs : Bs < w.heap.size) (hc : w.cell? ⟨Bs, 0, none⟩ = some sv) (hI : Rds w.heap.size w sv L) :
    Calls Try.prog 50 #[.func (.func 52) #[] #[.pointer (some ⟨Bs, 0, none⟩)]] w fun e W' => ∃ v, e = .returned v ∧ W'.ownsRow w.heap.size 34 20 v L.length (flat L) ∧ (v = .slice none 0 0 ↔ L = []) ∧ Below w.heap.size w W' := by
  have H := Lib.hid (appendSeq_any Bs sv L hreach w hBs hc hI)
  clear hc hI hBs
  go_enter Try.func50, Try.ntmps50
  go_wp2_with (go_at_call 65; (with_reducible refine (H.out).mono ?_); rintro e w' ⟨v, rfl, h1, h2, h3⟩; have H1 := Lib.hid h1; have H2 := Lib.hid h2; have H3 := Lib.hid h3; clear h1 h2 h3)
  go_ret
  exact ⟨v, rfl, H1.out, H2.out, H3.out⟩
/-- a row sorted, its routes those of L -/
structure SrtOf (L L' : List Rt) : Prop where
  perm : L'.Perm L
  ord : L'.Pairwise fun a b => ¬ Lt b.to a.to
set_option maxHeartbeats 4000000 in
theorem sortedFunc_any (Bs : Nat) (sv : Value) (L : List Rt) (hreach : L.length ≤ 1000000) (w : World) (hBs : Bs < w.heap.size) (hc : w.cell? ⟨Bs, 0, none⟩ = some sv) (hI : Rds w.heap.size w sv L) :
    Calls Try.prog 37 #[.func (.func 52) #[] #[.pointer (some ⟨Bs, 0, none⟩)], .func (.func 39) #[] #[]] w fun e W' =>
      ∃ v L', e = .returned v ∧ SrtOf L L' ∧ W'.ownsRow w.heap.size 34 20 v L.length (flat L') ∧ Below w.heap.size w W' := by
  have H := Lib.hid (collect_any Bs sv L hreach w hBs hc hI)
  clear hc hI hBs
  rcases L with _ | ⟨r, L⟩
  · go_enter Try.func37, Try.ntmps37
    go_wp2_with (first
      | (go_at_call 50; (with_reducible refine (H.out).mono ?_); rintro e w' ⟨v, rfl, h1, h2, h3⟩; obtain rfl := h2.2 rfl; have H1 := Lib.hid h1; have H3 := Lib.hid h3; clear h1 h2 h3)
      | (go_at_call 51; (with_reducible refine (sort_none _ _ _ _).mono ?_); rintro e w2 ⟨rfl, rfl⟩))
    go_ret
    exact ⟨_, [], rfl, ⟨List.Perm.refl _, List.Pairwise.nil⟩, H1.out, H3.out⟩
  · obtain ⟨n, hn⟩ : ∃ n, (r :: L).length = n := ⟨_, rfl⟩
    have HN := Lib.hid hn
    rw [hn] at H
    clear hn
    go_enter Try.func37, Try.ntmps37
    go_wp2_with (first
      | (go_at_call 50; (with_reducible refine (H.out).mono ?_); rintro e w1 ⟨v, rfl, h1, h2, h3⟩; obtain ⟨g, cap, rfl, hg, _, _⟩ := own_form h1 (by have := HN.out; simp at this; omega); have H1 := Lib.hid h1; have H3 := Lib.hid h3; have HG := Lib.hid hg; clear h1 h2 h3 hg; have h4 := H1.out; rw [← HN.out] at h4; have HS := sort_any w1 w.heap.size g cap (r :: L) h4 (by omega); rw [HN.out] at HS; have HS' := Lib.hid HS; clear h4 HS)
      | (go_at_call 51; (with_reducible refine (HS'.out).mono ?_); rintro e w2 ⟨rfl, ⟨L', hp, ho, hr⟩, hon⟩; have HP := Lib.hid (SrtOf.mk hp ho); have HR := Lib.hid hr; have HO := Lib.hid (H3.out.trans (hon.below H3.out.size (fun i h1 h2 => by have := HG.out; omega))); clear hp ho hr hon))
    go_ret
    exact ⟨_, L', rfl, HP.out, by have := HR.out; rw [HP.out.perm.length_eq] at this; simpa using this, HO.out⟩
end Tab
end Go.Proofs.Ytbeoclcnajfjcaa
