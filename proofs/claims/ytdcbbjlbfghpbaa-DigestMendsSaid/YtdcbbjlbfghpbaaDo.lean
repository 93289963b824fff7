/-
  Joined texts: MendP MapB. Conditions: those that each theorem names.
-/
import Derived.Test.YtdcbbjlbfghpbaaDj
import Derived.Test.YtdcbbjlbfghpbaaDd
import Derived.Maps.OwnSet
import Derived.Maps.Views
import Derived.DeepKeys4
/-
  Ranges of one table replaced by another's: plain laws. Conditions: those that each theorem names.
-/
namespace Go.Proofs.Ytdcbbjlbfghpbaa
set_option linter.unusedVariables false
namespace Dig
open Tab
theorem srt_ne {A : List Rt} (h : Srt A) : A.Pairwise (fun a b => a.to ≠ b.to) := h.imp (fun {a b} hl e => by rw [e] at hl; exact lt_irrefl _ hl)
theorem srt_map_nodup {A : List Rt} (h : Srt A) : (A.map Rt.to).Nodup := by
  unfold List.Nodup
  rw [List.pairwise_map]
  exact srt_ne h
theorem srt_nodup {A : List Rt} (h : Srt A) : A.Nodup := (srt_ne h).imp (fun {a b} hl e => hl (by rw [e]))
/-- a table's routes of range k are replaced by another table's -/
def nx (X T' : List Rt) (k : Nat) : List Rt := (X.filter fun r => !inK k r) ++ T'.filter (inK k)
theorem inK_iff (k : Nat) (r : Rt) : inK (k : Int) r = true ↔ bk r.to = k := by
  unfold inK
  rw [decide_eq_true_eq]
  omega
/-- what has been replaced: the ranges of S are T' 's -/
def Mx (T T' X : List Rt) (S : Nat → Bool) : Prop := Srt X ∧ ∀ r, r ∈ X ↔ if S (bk r.to) = true then r ∈ T' else r ∈ T
theorem mx_start (T T' : List Rt) (h : Srt T) : Mx T T' T (fun _ => false) := ⟨h, fun r => by simp⟩
theorem mx_perm {T T' X : List Rt} {S : Nat → Bool} (hT : Srt T) (hT' : Srt T') (h : Mx T T' X S) : X.Perm ((T.filter fun r => !S (bk r.to)) ++ T'.filter fun r => S (bk r.to)) := by
  refine (List.perm_ext_iff_of_nodup (srt_nodup h.1) ?_).2 (fun r => ?_)
  · rw [List.nodup_append]
    refine ⟨(srt_nodup hT).filter _, (srt_nodup hT').filter _, fun a ha b hb e => ?_⟩
    subst e
    rw [List.mem_filter] at ha hb
    rw [hb.2] at ha
    exact absurd ha.2 (by simp)
  · rw [h.2 r, List.mem_append, List.mem_filter, List.mem_filter]
    by_cases hs : S (bk r.to) = true
    · rw [if_pos hs, hs]; simp
    · rw [if_neg hs]; simp [hs]
theorem len_two (T : List Rt) (p q : Rt → Bool) (h : ∀ r, p r = true → q r = true → False) : (T.filter p).length + (T.filter q).length ≤ T.length := by
  induction T with
  | nil => simp
  | cons x T ih =>
    simp only [List.filter_cons, List.length_cons]
    by_cases hp : p x = true
    · have hq : ¬ q x = true := fun e => h x hp e
      rw [if_pos hp, if_neg hq, List.length_cons]
      omega
    · rw [if_neg hp]
      by_cases hq : q x = true
      · rw [if_pos hq, List.length_cons]; omega
      · rw [if_neg hq]; omega
theorem mend_step {T T' X : List Rt} (hT : TOk T) (hT' : TOk T') (hl : T.length + T'.length ≤ 300) {S : Nat → Bool} (k : Nat) (hk : S k = false) (h : Mx T T' X S) :
    newC (nx X T' k) = 0 ∧ Mx T T' (fold (nx X T' k)) (fun j => S j || j == k) := by
  have hmem : ∀ r, r ∈ nx X T' k ↔ if (S (bk r.to) || bk r.to == k) = true then r ∈ T' else r ∈ T := fun r => by
    unfold nx
    rw [List.mem_append, List.mem_filter, List.mem_filter, h.2 r, inK_iff]
    by_cases hb : bk r.to = k
    · have h1 : inK (k : Int) r = true := (inK_iff k r).2 hb
      rw [h1, hb]
      simp
    · have h1 : inK (k : Int) r = false := by
        cases e : inK (k : Int) r with
        | false => rfl
        | true => exact absurd ((inK_iff k r).1 e) hb
      rw [h1]
      simp [hb]
  have hright : (nx X T' k).any (fun r => !right r) = false := by
    rw [List.any_eq_false]
    intro r hr
    have := (hmem r).1 hr
    have : right r = true := by
      split at this
      · exact hT'.ok r this
      · exact hT.ok r this
    rw [this]
    decide
  have hdup : dup (nx X T' k) = false := by
    unfold dup
    have : ((nx X T' k).map Rt.to).Nodup := by
      unfold nx List.Nodup
      rw [List.pairwise_map, List.pairwise_append]
      refine ⟨(srt_ne h.1).filter _, (srt_ne hT'.srt).filter _, fun a ha b hb e => ?_⟩
      rw [List.mem_filter] at ha hb
      have h1 := (inK_iff k b).1 hb.2
      rw [← e] at h1
      have h2 := (inK_iff k a).2 h1
      rw [h2] at ha
      exact absurd ha.2 (by decide)
    simpa using this
  have hlen : (nx X T' k).length ≤ 300 := by
    have hp := (mx_perm hT.srt hT'.srt h).filter (fun r => !inK k r)
    have e1 := hp.length_eq
    unfold nx
    rw [List.length_append, e1, List.filter_append, List.length_append, List.filter_filter, List.filter_filter]
    have a1 : (T.filter fun r => !inK k r && !S (bk r.to)).length ≤ T.length := List.length_filter_le _ _
    have a2 := len_two T' (fun r => !inK k r && S (bk r.to)) (inK k) (fun r h1 h2 => by rw [h2] at h1; simp at h1)
    omega
  have hc : newC (nx X T' k) = 0 := by
    unfold newC
    rw [if_neg (by rw [hright]; decide), if_neg (by rw [hdup]; decide), if_neg (by omega)]
  obtain ⟨f1, f2, _⟩ := fold_of hdup
  exact ⟨hc, f1, fun r => by rw [f2, hmem]⟩
theorem mend_end {T T' X : List Rt} (hT' : Srt T') {S : Nat → Bool} (h : Mx T T' X S) (ha : ∀ k, k < 17 → S k = false → T.filter (inK k) = T'.filter (inK k)) : X = T' := by
  refine srt_ext h.1 hT' (fun r => ?_)
  rw [h.2 r]
  split
  · exact Iff.rfl
  · rename_i hs
    have hs' : S (bk r.to) = false := by simpa using hs
    have := ha _ (bk_lt r.to) hs'
    have h1 : r ∈ T.filter (inK (bk r.to)) ↔ r ∈ T'.filter (inK (bk r.to)) := by rw [this]
    rw [List.mem_filter, List.mem_filter] at h1
    have h2 := (inK_iff (bk r.to) r).2 rfl
    simpa [h2] using h1
end Dig
end Go.Proofs.Ytdcbbjlbfghpbaa

/-
  A map from whole numbers to bools. Conditions: those that each theorem names.
-/
namespace Go.Proofs.Ytdcbbjlbfghpbaa
open Go Go.RowKit H2
set_option linter.unusedVariables false
set_option linter.unusedSimpArgs false
namespace MapB
set_option maxRecDepth 100000
open Go.Maps Go.WideMaps
abbrev RV : Value → Option (DataW Value × List MemPlace) := fun v => some (.held v, [])
/-- block b is a map of at most n entries in which key l holds F l; z stands where there is none -/
def MapF (w : World) (k : TypeId) (b n : Nat) (z : Value) (F : Lit → Value) : Prop := ∃ D : DataW Value, w.ownsMap Try.prog k RV b n D ∧ ∀ l, D.atKey l (.held z) = .held (F l)
theorem made (w : World) (k : TypeId) (z : Value) : MapF (w.alloc (.map #[] 0)) k w.heap.size 0 z (fun _ => z) := ⟨_, World.ownsMap_made w Try.prog k RV, fun l => WideAt.atKey_none _ (by simp)⟩
theorem MapF.obj {w w' : World} {k : TypeId} {b n : Nat} {z : Value} {F : Lit → Value} (h : MapF w k b n z F) (ho : w'.heap[b]? = w.heap[b]?) : MapF w' k b n z F := by
  obtain ⟨D, ⟨es, clock, hb, r⟩, hF⟩ := h
  exact ⟨D, ⟨es, clock, ho.trans hb, r⟩, hF⟩
theorem MapF.lt {w : World} {k : TypeId} {b n : Nat} {z : Value} {F : Lit → Value} (h : MapF w k b n z F) : b < w.heap.size := h.choose_spec.1.lt
theorem MapF.below {w w' : World} {k : TypeId} {b n : Nat} {z : Value} {F : Lit → Value} (h : MapF w k b n z F) (hb : Below w.heap.size w w') : MapF w' k b n z F := h.obj (hb.block b h.lt)
theorem MapF.only {S : Nat → Prop} {w w' : World} {k : TypeId} {b n : Nat} {z : Value} {F : Lit → Value} (h : MapF w k b n z F) (ho : Only S w w') (hS : ¬ S b) : MapF w' k b n z F := h.obj (ho.block b h.lt hS)
theorem MapF.grown {w w' : World} {row : Option Nat} {k : TypeId} {b n : Nat} {z : Value} {F : Lit → Value} (h : MapF w k b n z F) (hg : w.grownBy w' row) (hne : some b ≠ row) : MapF w' k b n z F := h.obj (hg.block b h.lt hne)
theorem MapF.mono {w : World} {k : TypeId} {b n n' : Nat} {z : Value} {F : Lit → Value} (h : MapF w k b n z F) (hn : n ≤ n') : MapF w k b n' z F := ⟨h.choose, h.choose_spec.1.mono hn, h.choose_spec.2⟩
theorem MapF.look {w : World} {k t e : TypeId} {b n : Nat} {z : Value} {F : Lit → Value} (h : MapF w k b n z F) (K : Keyed Try.prog k) (ht : Try.prog.underlying t = some (.map k e)) (hz : (zeroValue e).run Try.prog w = .ok z w) {key : Value} {kl : Lit} (hk : keyOf Try.prog k key = some kl) :
    (Instr.lookup t (.map (some b)) key false).run Try.prog w = .ok (F kl) w := by
  obtain ⟨D, hD, hF⟩ := h
  obtain ⟨v, ps, hrun, hv⟩ := hD.lookup K ht hz rfl hk
  have e := hF kl
  simp only [Option.some.injEq, Prod.mk.injEq] at hv
  rw [← hv.1] at e
  cases e
  exact hrun
open Classical in
theorem MapF.put {w : World} {k t e : TypeId} {b n : Nat} {z : Value} {F : Lit → Value} (h : MapF w k b n z F) (K : Keyed Try.prog k) (ht : Try.prog.underlying t = some (.map k e)) (hn : n < maxLen) {key : Value} {kl : Lit} (hk : keyOf Try.prog k key = some kl) (v : Value) :
    ∃ w', (Instr.mapUpdate t (.map (some b)) key v).run Try.prog w = .ok () w' ∧ MapF w' k b (n + 1) z (fun l => if l = kl then v else F l) ∧ w.grownBy w' (some b) := by
  obtain ⟨D, hD, hF⟩ := h
  obtain ⟨w', hrun, h1, h2⟩ := hD.update K ht hn hk (rfl : RV v = some (.held v, []))
  refine ⟨w', hrun, ⟨_, h1, fun l => ?_⟩, h2⟩
  show _ = DataW.held (if l = kl then v else F l)
  by_cases hl : l = kl
  · subst hl
    rw [if_pos rfl]
    exact atKey_put_same (hD.isMap) (K.key hk) _ _
  · rw [if_neg hl]
    exact (atKey_put_other hl _ _).trans (hF l)
theorem kI : Keyed Try.prog 3 := int_keyed Try.underlying3
theorem zeroB (w : World) : (zeroValue 4).run Try.prog w = .ok (.bool false) w := by kernel_rfl
theorem wfN {d : Nat} (h : d < 17) : (Lit.int .i64 (d : Int)).wf = true := by
  simp [Lit.wf, IntKind.min, IntKind.max, IntKind.signed, IntKind.bits]
  omega
/-- block b is a map that holds s at each number below 17 -/
def BoolOK (w : World) (b : Nat) (s : Nat → Bool) (n : Nat) : Prop := ∃ F, MapF w 3 b n (.bool false) F ∧ ∀ k : Nat, k < 17 → F (.int .i64 (k : Int)) = .bool (s k)
theorem bool_made (w : World) : BoolOK (w.alloc (.map #[] 0)) w.heap.size (fun _ => false) 0 := ⟨_, made w _ _, fun _ _ => rfl⟩
theorem BoolOK.below {w w' : World} {b n : Nat} {s : Nat → Bool} (x : BoolOK w b s n) (hb : Below w.heap.size w w') : BoolOK w' b s n := ⟨x.choose, x.choose_spec.1.below hb, x.choose_spec.2⟩
theorem BoolOK.lt {w : World} {b n : Nat} {s : Nat → Bool} (x : BoolOK w b s n) : b < w.heap.size := x.choose_spec.1.lt
theorem BoolOK.look {w : World} {b n : Nat} {s : Nat → Bool} (x : BoolOK w b s n) {k : Nat} (hk : k < 17) : (Instr.lookup 52 (.map (some b)) (.int .i64 (k : Int)) false).run Try.prog w = .ok (.bool (s k)) w := by
  obtain ⟨F, hm, hF⟩ := x
  have e := hm.look kI Try.underlying52 (zeroB w) (keyOf_int_mk Try.underlying3 (wfN hk))
  rw [hF k hk] at e
  exact e
theorem BoolOK.put {w : World} {b n : Nat} {s : Nat → Bool} (x : BoolOK w b s n) (hn : n < maxLen) {k : Nat} (hk : k < 17) :
    ∃ w', (Instr.mapUpdate 52 (.map (some b)) (.int .i64 (k : Int)) (.bool true)).run Try.prog w = .ok () w' ∧ BoolOK w' b (fun j => if j = k then true else s j) (n + 1) ∧ w.grownBy w' (some b) := by
  obtain ⟨F, hm, hF⟩ := x
  obtain ⟨w', hrun, h1, h2⟩ := hm.put kI Try.underlying52 hn (keyOf_int_mk Try.underlying3 (wfN hk)) (.bool true)
  refine ⟨w', hrun, ⟨_, h1, fun k' hk' => ?_⟩, h2⟩
  show _ = Value.bool (if k' = k then true else s k')
  by_cases he : k' = k
  · subst he
    rw [if_pos rfl, if_pos rfl]
  · rw [if_neg (fun e => he (by simp at e; omega)), if_neg he]
    exact hF k' hk'
end MapB
end Go.Proofs.Ytdcbbjlbfghpbaa
