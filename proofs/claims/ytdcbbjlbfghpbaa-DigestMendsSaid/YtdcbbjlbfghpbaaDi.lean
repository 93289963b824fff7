/-
  Joined texts: DropA DoP NewP RefP RefA RefB. Conditions: those that each theorem names.
-/
import Derived.Test.YtdcbbjlbfghpbaaDh
import Derived.Test.YtdcbbjlbfghpbaaDd
import Derived.Test.YtdcbbjlbfghpbaaDf
/-
  Table.Drop; incs in memory. Conditions: those that each theorem names.
-/
namespace Go.Proofs.Ytdcbbjlbfghpbaa
open Go Go.RowKit H2
set_option linter.unusedVariables false
set_option linter.unusedSimpArgs false
namespace Tab
structure In where
  kind : Int
  rt : Rt
  deriving DecidableEq, Inhabited
def encI (x : In) : List Value := .int .i64 x.kind :: encR x.rt
theorem encI_len (x : In) : (encI x).length = 21 := by simp [encI, encR_len]
def n21 : Nat := 21
theorem sz21 (w : World) : Sem.run Try.prog (Go.sizeOf 59) w = .ok n21 w := Try.sizeOf59 w
theorem encI_n (x : In) : (encI x).length = n21 := encI_len x
attribute [simp 10000] sz21
theorem n21_ne : (n21 = 0) = False := by unfold n21; simp
attribute [go_sem] encI_n n21_ne
theorem encI_one (r : In) : ∀ v ∈ encI r, v.oneCell' = true := fun v hv => by
  rcases List.mem_cons.1 hv with rfl | h
  · rfl
  · exact encR_one _ v h
structure IAt (w : World) (B o : Nat) (x : In) : Prop where
  all : At w B o (encI x)
theorem IAt.below {w w' : World} {B o : Nat} {x : In} (h : IAt w B o x) (hb : Below w.heap.size w w') : IAt w' B o x := ⟨h.all.below hb⟩
theorem IAt.drew {w : World} {B o : Nat} {x : In} (h : IAt w B o x) : IAt w.drew B o x := ⟨h.all⟩
theorem IAt.drewN {w : World} {B o : Nat} {x : In} (h : IAt w B o x) (n : Nat) : IAt (w.drewN n) B o x := ⟨h.all⟩
theorem IAt.kind {w : World} {B o : Nat} {x : In} (h : IAt w B o x) : w.cell? ⟨B, o, none⟩ = some (.int .i64 x.kind) := h.all.cons.1
theorem IAt.rt {w : World} {B o : Nat} {x : In} (h : IAt w B o x) : RAt w B (o + 1) x.rt := ⟨h.all.cons.2⟩
theorem IAt.lt {w : World} {B o : Nat} {x : In} (h : IAt w B o x) : B < w.heap.size := World.block_lt_of_cell? w ⟨B, o, none⟩ h.kind
theorem iAt_new (w : World) (x : In) (T : TypeId) (fr : Nat × Nat) : IAt (w.alloc (.cells (encI x).toArray T fr)) w.heap.size 0 x := ⟨at_new w _ T fr⟩
/-- what Drop answers -/
def dropC (T : List Rt) (p : Pf) : Int := if has T p then 0 else 8
end Tab
end Go.Proofs.Ytdcbbjlbfghpbaa

/-
  What Table.Do answers, in plain Lean. Conditions: those that each theorem names.
-/
namespace Go.Proofs.Ytdcbbjlbfghpbaa
set_option linter.unusedVariables false
namespace Tab
def doC (T : List Rt) (x : In) : Int :=
  if x.kind = 3 then (if x.rt.metric = 0 ∧ x.rt.seq = 0 ∧ rightP x.rt.to = true then dropC T x.rt.to else 1)
  else if (x.kind = 1 ∨ x.kind = 2) ∧ right x.rt = true then
    (if x.kind = 1 ∧ has T x.rt.to = true then 9 else if x.kind = 2 ∧ has T x.rt.to = false then 8 else putC T x.rt)
  else 1
def doT (T : List Rt) (x : In) : List Rt :=
  if x.kind = 3 then (if x.rt.metric = 0 ∧ x.rt.seq = 0 ∧ rightP x.rt.to = true then del T x.rt.to else T)
  else if (x.kind = 1 ∨ x.kind = 2) ∧ right x.rt = true then
    (if x.kind = 1 ∧ has T x.rt.to = true then T else if x.kind = 2 ∧ has T x.rt.to = false then T else putT T x.rt)
  else T

theorem doK {T : List Rt} {p : Pf} {m q k : Int} {hv : Bool} (hk : k = 1 ∨ k = 2) (hr : right ⟨p, m, q⟩ = true) (h : has T p = hv) :
    doC T ⟨k, ⟨p, m, q⟩⟩ = (if k = 1 ∧ hv = true then 9 else if k = 2 ∧ hv = false then 8 else putC T ⟨p, m, q⟩) ∧ doT T ⟨k, ⟨p, m, q⟩⟩ = (if k = 1 ∧ hv = true then T else if k = 2 ∧ hv = false then T else putT T ⟨p, m, q⟩) := by
  subst h
  unfold doC doT
  have h3 : ¬ k = 3 := by omega
  have h4 : (k = 1 ∨ k = 2) ∧ right ⟨p, m, q⟩ = true := ⟨hk, hr⟩
  dsimp only
  rw [if_neg h3, if_neg h3, if_pos h4, if_pos h4]
  exact ⟨rfl, rfl⟩
theorem do_bad {T : List Rt} {p : Pf} {m q k : Int} (h3 : ¬ k = 3) (h4 : ¬ ((k = 1 ∨ k = 2) ∧ right ⟨p, m, q⟩ = true)) : doC T ⟨k, ⟨p, m, q⟩⟩ = 1 ∧ doT T ⟨k, ⟨p, m, q⟩⟩ = T := by
  unfold doC doT
  dsimp only
  rw [if_neg h3, if_neg h3, if_neg h4, if_neg h4]
  exact ⟨rfl, rfl⟩
theorem do_put1 {T : List Rt} {p : Pf} {m q : Int} (hr : right ⟨p, m, q⟩ = true) (h : has T p = false) : doC T ⟨1, ⟨p, m, q⟩⟩ = putC T ⟨p, m, q⟩ ∧ doT T ⟨1, ⟨p, m, q⟩⟩ = putT T ⟨p, m, q⟩ := doK (.inl rfl) hr h
theorem do_there {T : List Rt} {p : Pf} {m q : Int} (hr : right ⟨p, m, q⟩ = true) (h : has T p = true) : doC T ⟨1, ⟨p, m, q⟩⟩ = 9 ∧ doT T ⟨1, ⟨p, m, q⟩⟩ = T := doK (.inl rfl) hr h
theorem do_away {T : List Rt} {p : Pf} {m q : Int} (hr : right ⟨p, m, q⟩ = true) (h : has T p = false) : doC T ⟨2, ⟨p, m, q⟩⟩ = 8 ∧ doT T ⟨2, ⟨p, m, q⟩⟩ = T := doK (.inr rfl) hr h
theorem do_put2 {T : List Rt} {p : Pf} {m q : Int} (hr : right ⟨p, m, q⟩ = true) (h : has T p = true) : doC T ⟨2, ⟨p, m, q⟩⟩ = putC T ⟨p, m, q⟩ ∧ doT T ⟨2, ⟨p, m, q⟩⟩ = putT T ⟨p, m, q⟩ := doK (.inr rfl) hr h
end Tab
end Go.Proofs.Ytdcbbjlbfghpbaa

/-
  What table.New makes, in plain Lean. Conditions: those that each theorem names.
-/
namespace Go.Proofs.Ytdcbbjlbfghpbaa
set_option linter.unusedVariables false
namespace Tab
/-- two to one prefix -/
def dup (L : List Rt) : Bool := !decide (L.map Rt.to).Nodup
/-- one by one -/
def fold (L : List Rt) : List Rt := L.foldl ins []
def newC (L : List Rt) : Int := if L.any (fun r => !right r) = true then 1 else if dup L = true then 9 else if 300 < L.length then 7 else 0
theorem srt_of {L L' : List Rt} (h : SrtOf L L') (hd : dup L = false) : Srt L' := by
  have hn : (L.map Rt.to).Nodup := by unfold dup at hd; simpa using hd
  have hn' : (L'.map Rt.to).Nodup := (h.perm.map Rt.to).nodup_iff.2 hn
  unfold List.Nodup at hn'
  rw [List.pairwise_map] at hn'
  refine (List.Pairwise.and h.ord hn').imp (fun {a b} ⟨h1, h2⟩ => ?_)
  rcases not_lt h1 with e | e
  · exact absurd e.symm h2
  · exact e
theorem mem_fold : ∀ (L T : List Rt), Srt T → (L.map Rt.to).Nodup → (∀ r ∈ L, ∀ x ∈ T, x.to ≠ r.to) → Srt (L.foldl ins T) ∧ (∀ x, x ∈ L.foldl ins T ↔ x ∈ L ∨ x ∈ T) ∧ (L.foldl ins T).length = L.length + T.length
  | [], T, hs, _, _ => ⟨hs, fun x => by simp, by simp⟩
  | r :: L, T, hs, hn, hd => by
    rw [List.map_cons, List.nodup_cons] at hn
    have hT : ∀ q ∈ L, ∀ x ∈ ins T r, x.to ≠ q.to := fun q hq x hx e => by
      rcases (mem_ins hs).1 hx with rfl | ⟨h1, _⟩
      · exact hn.1 (e ▸ List.mem_map_of_mem hq)
      · exact hd q (List.mem_cons_of_mem _ hq) x h1 e
    obtain ⟨h1, h2, h3⟩ := mem_fold L (ins T r) (srt_ins hs r) hn.2 hT
    rw [List.foldl_cons]
    refine ⟨h1, fun x => ?_, ?_⟩
    · rw [h2, mem_ins hs, List.mem_cons]
      constructor
      · rintro (h | h | h)
        · exact .inl (.inr h)
        · exact .inl (.inl h)
        · exact .inr h.1
      · rintro ((h | h) | h)
        · exact .inr (.inl h)
        · exact .inl h
        · exact .inr (.inr ⟨h, hd r (List.mem_cons_self ..) x h⟩)
    · have hh : has T r.to = false := has_false.2 (hd r (List.mem_cons_self ..))
      rw [h3, len_ins hs, hh, List.length_cons]
      simp
      omega
theorem fold_of {L : List Rt} (hd : dup L = false) : Srt (fold L) ∧ (∀ x, x ∈ fold L ↔ x ∈ L) ∧ (fold L).length = L.length := by
  have hn : (L.map Rt.to).Nodup := by unfold dup at hd; simpa using hd
  obtain ⟨h1, h2, h3⟩ := mem_fold L [] srt_nil hn (fun _ _ x hx => by cases hx)
  exact ⟨h1, fun x => by rw [show fold L = L.foldl ins [] from rfl, h2]; simp, by show (L.foldl ins []).length = _; simpa using h3⟩
theorem sort_fold {L L' : List Rt} (h : SrtOf L L') (hd : dup L = false) : L' = fold L :=
  srt_ext (srt_of h hd) (fold_of hd).1 (fun r => by rw [(fold_of hd).2.1, h.perm.mem_iff])
/-- two alike are neighbours -/
theorem no_dup {L L' : List Rt} (h : SrtOf L L') (ha : ∀ i (hi : i + 1 < L'.length), L'[i].to ≠ L'[i + 1].to) : dup L = false := by
  have key : ∀ (M : List Rt), M.Pairwise (fun a b => ¬ Lt b.to a.to) → (∀ i (hi : i + 1 < M.length), M[i].to ≠ M[i + 1].to) → (M.map Rt.to).Nodup := by
    intro M
    induction M with
    | nil => intro _ _; exact List.nodup_nil
    | cons x M ih =>
      intro ho ha
      rw [List.pairwise_cons] at ho
      rw [List.map_cons, List.nodup_cons]
      refine ⟨fun hm => ?_, ih ho.2 (fun i hi => ha (i + 1) (by simpa using hi))⟩
      obtain ⟨y, hy, e⟩ := List.mem_map.1 hm
      cases M with
      | nil => cases hy
      | cons z M =>
        have h0 := ha 0 (by simp)
        simp only [List.getElem_cons_zero, List.getElem_cons_succ] at h0
        have h1 := ho.1 z (List.mem_cons_self ..)
        have h2 : Lt x.to z.to := (not_lt h1).resolve_left (fun e => h0 e.symm)
        rcases List.mem_cons.1 hy with rfl | hy
        · exact h0 e.symm
        · have h3 := (List.pairwise_cons.1 ho.2).1 y hy
          rw [e] at h3
          exact h3 h2
  have := key L' h.ord ha
  unfold dup
  rw [(h.perm.map Rt.to).nodup_iff] at this
  simpa using this
theorem is_dup {L L' : List Rt} (h : SrtOf L L') {i : Nat} (hi : i + 1 < L'.length) (e : L'[i].to = L'[i + 1].to) : dup L = true := by
  unfold dup
  have : ¬ (L.map Rt.to).Nodup := fun hn => by
    have hn' := (h.perm.map Rt.to).nodup_iff.2 hn
    unfold List.Nodup at hn'
    rw [List.pairwise_map] at hn'
    exact (List.pairwise_iff_getElem.1 hn') i (i + 1) (by omega) hi (by omega) e
  simpa using this
end Tab
end Go.Proofs.Ytdcbbjlbfghpbaa

/-
  The document's lists, in plain Lean: where a prefix is, what Put and Drop leave. Conditions: those that each theorem names.
-/
namespace Go.Proofs.Ytdcbbjlbfghpbaa
set_option linter.unusedVariables false
namespace Tab
/-- the first to a prefix, or -1 -/
def fnd (L : List Rt) (p : Pf) : Int := if has L p = true then (L.findIdx (fun r => decide (r.to = p)) : Nat) else -1
theorem fnd_at {L : List Rt} {p : Pf} {k : Nat} (hk : k < L.length) (h : L[k].to = p) (hm : ∀ j (hj : j < L.length), j < k → L[j].to ≠ p) : fnd L p = k := by
  have hh : has L p = true := has_iff.2 ⟨_, List.getElem_mem hk, h⟩
  unfold fnd
  rw [if_pos hh]
  congr 1
  rw [List.findIdx_eq hk]
  exact ⟨by simpa using h, fun j hj => by simpa using hm j (by omega) hj⟩
theorem fnd_no {L : List Rt} {p : Pf} (h : has L p = false) : fnd L p = -1 := by
  unfold fnd
  rw [h]
  simp
theorem fnd_none {L : List Rt} {p : Pf} (hm : ∀ j (hj : j < L.length), L[j].to ≠ p) : fnd L p = -1 := fnd_no (has_false.2 (fun r hr => by
  obtain ⟨j, hj, rfl⟩ := List.getElem_of_mem hr
  exact hm j hj))
theorem fnd_srt {T : List Rt} (hs : Srt T) {p : Pf} (h : has T p = true) : fnd T p = pos T p := by
  obtain ⟨hi, e⟩ := (pos_has hs p).1 h
  exact fnd_at hi e (fun j hj hjk => lt_ne ((pos_lt hs hj).2 hjk))
theorem fnd_has {L : List Rt} {p : Pf} : (0 ≤ fnd L p) ↔ has L p = true := by
  cases h : has L p with
  | false => rw [fnd_no h]; simp
  | true =>
    unfold fnd
    rw [h, if_pos rfl]
    simp
theorem insIdx : ∀ (L : List Rt) (r : Rt) (i : Nat), i ≤ L.length → L.insertIdx i r = L.take i ++ r :: L.drop i
  | [], r, i, hi => by
    have : i = 0 := by simpa using hi
    subst this; rfl
  | x :: L, r, 0, _ => rfl
  | x :: L, r, i + 1, hi => by rw [List.insertIdx_succ_cons, insIdx L r i (by simpa using hi)]; rfl
/-- ins by a scan: what stands before the first place that is not ahead -/
theorem ins_scan {T : List Rt} (hs : Srt T) {r : Rt} (h : has T r.to = false) : ins T r = T.take (pos T r.to) ++ r :: T.drop (pos T r.to) := by
  rw [← ins_not hs h]
  exact insIdx T r _ (pos_le _ _)
theorem putT_new {T : List Rt} {r : Rt} (hr : right r = true) (hn : T.length < 300) : putT T r = ins T r := by
  unfold putT
  rw [if_pos hr]
  by_cases h : has T r.to = true
  · rw [if_pos h]
  · rw [if_neg h, if_pos hn]
end Tab
end Go.Proofs.Ytdcbbjlbfghpbaa

/-
  The document's Right, Find, Same. Conditions: those that each theorem names.
-/
namespace Go.Proofs.Ytdcbbjlbfghpbaa
open Go Go.RowKit H2
set_option linter.unusedVariables false
set_option linter.unusedSimpArgs false
namespace Tab
set_option maxRecDepth 100000 in
set_option maxHeartbeats 4000000 in
theorem refR_any (r : Rt) (w : World) : Calls Try.prog 30 #[.agg (encR r).toArray] w fun e w' => e = .returned (.bool (right r)) ∧ Below w.heap.size w w' := by
  cases hp : rightP r.to
  · have HV := Lib.hid hp
    have HR := Lib.hid (show right r = false by unfold right; rw [hp]; rfl)
    clear hp
    go_enter Try.func30, Try.ntmps30
    go_upto_region 1 with fail
    have H := Lib.hid (rAt_new w r 37 (0, 0))
    have hb := Lib.hid (show Below w.heap.size w (w.alloc (.cells (encR r).toArray 37 (0, 0))) from (Below.refl _ _).alloc (Nat.le_refl _) _)
    generalize w.alloc _ = W at H hb ⊢
    generalize w.heap.size = B at H ⊢
    have c0 := H.out.to.all.load (encP_n _) Try.prog
    go_wp2_with (go_at_call 50; (with_reducible refine (refRightP_any _ _).mono ?_); rintro e w2 ⟨rfl, hb2⟩; rw [HV.out]; have hb := Lib.hid (hb.out.trans (hb2.mono hb.out.size)); have c1 := (H.out.below hb2).met; clear hb2 c0)
    go_ret
    rw [HR.out]
    exact ⟨rfl, hb.out⟩
  · have HV := Lib.hid hp
    by_cases h0 : 0 ≤ r.metric
    · have h0' : decide (0 ≤ r.metric) = true := decide_eq_true h0
      by_cases h1 : r.metric < 65535
      · have h1' : decide (r.metric < 65535) = true := decide_eq_true h1
        have HR := Lib.hid (show right r = true by unfold right; rw [hp, h0', h1']; rfl)
        clear hp
        go_enter Try.func30, Try.ntmps30
        go_upto_region 1 with fail
        have H := Lib.hid (rAt_new w r 37 (0, 0))
        have hb := Lib.hid (show Below w.heap.size w (w.alloc (.cells (encR r).toArray 37 (0, 0))) from (Below.refl _ _).alloc (Nat.le_refl _) _)
        generalize w.alloc _ = W at H hb ⊢
        generalize w.heap.size = B at H ⊢
        have c0 := H.out.to.all.load (encP_n _) Try.prog
        go_wp2_with (go_at_call 50; (with_reducible refine (refRightP_any _ _).mono ?_); rintro e w2 ⟨rfl, hb2⟩; rw [HV.out]; have hb := Lib.hid (hb.out.trans (hb2.mono hb.out.size)); have c1 := (H.out.below hb2).met; clear hb2 c0)
        go_ret
        rw [HR.out]
        exact ⟨rfl, hb.out⟩
      · have h1' : decide (r.metric < 65535) = false := decide_eq_false h1
        have HR := Lib.hid (show right r = false by unfold right; rw [hp, h0', h1']; rfl)
        clear hp
        go_enter Try.func30, Try.ntmps30
        go_upto_region 1 with fail
        have H := Lib.hid (rAt_new w r 37 (0, 0))
        have hb := Lib.hid (show Below w.heap.size w (w.alloc (.cells (encR r).toArray 37 (0, 0))) from (Below.refl _ _).alloc (Nat.le_refl _) _)
        generalize w.alloc _ = W at H hb ⊢
        generalize w.heap.size = B at H ⊢
        have c0 := H.out.to.all.load (encP_n _) Try.prog
        go_wp2_with (go_at_call 50; (with_reducible refine (refRightP_any _ _).mono ?_); rintro e w2 ⟨rfl, hb2⟩; rw [HV.out]; have hb := Lib.hid (hb.out.trans (hb2.mono hb.out.size)); have c1 := (H.out.below hb2).met; clear hb2 c0)
        go_ret
        rw [HR.out]
        exact ⟨rfl, hb.out⟩
    · have h0' : decide (0 ≤ r.metric) = false := decide_eq_false h0
      have HR := Lib.hid (show right r = false by unfold right; rw [hp, h0']; rfl)
      clear hp
      go_enter Try.func30, Try.ntmps30
      go_upto_region 1 with fail
      have H := Lib.hid (rAt_new w r 37 (0, 0))
      have hb := Lib.hid (show Below w.heap.size w (w.alloc (.cells (encR r).toArray 37 (0, 0))) from (Below.refl _ _).alloc (Nat.le_refl _) _)
      generalize w.alloc _ = W at H hb ⊢
      generalize w.heap.size = B at H ⊢
      have c0 := H.out.to.all.load (encP_n _) Try.prog
      go_wp2_with (go_at_call 50; (with_reducible refine (refRightP_any _ _).mono ?_); rintro e w2 ⟨rfl, hb2⟩; rw [HV.out]; have hb := Lib.hid (hb.out.trans (hb2.mono hb.out.size)); have c1 := (H.out.below hb2).met; clear hb2 c0)
      go_ret
      rw [HR.out]
      exact ⟨rfl, hb.out⟩
set_option maxRecDepth 100000 in
set_option maxHeartbeats 4000000 in
theorem refFind_any (A : Option Addr) (cap : Nat) (L : List Rt) (hL : L.length ≤ 1000000) (p : Pf) (w : World) (hr : Rd w A L) :
    Calls Try.prog 74 #[.slice A L.length cap, .agg (encP p).toArray] w fun e w' => e = .returned (.int .i64 (fnd L p)) ∧ Below w.heap.size w w' := by
  have HR := Lib.hid hr
  obtain ⟨n, hn⟩ : ∃ n, L.length = n := ⟨_, rfl⟩
  have HN := Lib.hid hn
  rw [hn]
  rw [hn] at hL
  clear hr hn
  go_enter Try.func74, Try.ntmps74
  go_upto_region 1 with fail
  have H := Lib.hid (PAt.mk (at_new w (encP p) 34 (0, 0)))
  have hb := Lib.hid (show Below w.heap.size w (w.alloc (.cells (encP p).toArray 34 (0, 0))) from (Below.refl _ _).alloc (Nat.le_refl _) _)
  generalize w.alloc _ = W at H hb ⊢
  generalize w.heap.size = B at H ⊢
  go_wp2
  go_loopw [5] (fun s5 wr => ∃ k : Nat, k ≤ n ∧ s5 = .int .i64 k ∧ (∀ j (hj : j < L.length), j < k → L[j].to ≠ p) ∧ ∃ q, wr = W.drewN q) (fun s5 _ => n - (intOf s5).toNat)
  case atStart => exact ⟨0, by omega, rfl, fun j _ h => absurd h (by omega), 0, rfl⟩
  case round =>
    obtain ⟨k, hk, rfl, hne, q, hq⟩ := hrel
    have HNE := Lib.hid hne
    have HQ := Lib.hid hq
    clear hne hq
    by_cases hlt : k < n
    · have hlt' : (k : Int) < (n : Int) := by omega
      have k0 : (0 : Int) ≤ (k : Int) := by omega
      have hkl : k < L.length := by rw [HN.out]; exact hlt
      obtain ⟨b, o, rfl, hra⟩ := HR.out k hkl
      have hra := (hra.below hb.out).drewN q
      have hl1 : ∀ m, Sem.run Try.prog (loadCellsFrom ⟨b, o + k * n20, none⟩ 0 n18 #[]) (wr.drewN m) = .ok (encP L[k].to).toArray (wr.drewN m) := fun m => by
        rw [HQ.out]
        exact (hra.drewN m).to.all.load (k := n18) (encP_n _) Try.prog
      have hl2 : ∀ m, Sem.run Try.prog (loadCellsFrom ⟨B, 0, none⟩ 0 n18 #[]) (wr.drewN m) = .ok (encP p).toArray (wr.drewN m) := fun m => by
        rw [HQ.out]
        exact ((H.out.drewN q).drewN m).all.load (k := n18) (encP_n _) Try.prog
      clear hra
      by_cases he : L[k].to = p
      · have HE := Lib.hid (fnd_at hkl he HNE.out)
        rw [he] at hl1
        clear he
        go_wp2
        go_quiet (fail)
        go_wp2
        go_ret
        rw [HE.out]
        exact ⟨rfl, by rw [HQ.out]; exact bdN (bdN hb.out _) _⟩
      · have hd : decide (L[k].to = p) = false := decide_eq_false he
        have HE := Lib.hid he
        clear he
        generalize L[k].to = x at hl1 hd
        go_wp2
        go_quiet (fail)
        go_wp2
        go_roundw
        case rel => exact ⟨k + 1, by omega, by go_num, fun j hj h => by
          rcases Nat.lt_succ_iff_lt_or_eq.1 h with h | rfl
          · exact HNE.out j hj h
          · exact HE.out, _, by rw [HQ.out]; exact drewN2 W _ _⟩
        case measure => simp [intOf]; omega
    · have HE := Lib.hid (fnd_none (fun j hj => HNE.out j hj (by have := HN.out; omega)))
      have hlt' : ¬ (k : Int) < (n : Int) := by omega
      go_wp2
      go_ret
      rw [HE.out]
      exact ⟨rfl, by rw [HQ.out]; exact bdN hb.out _⟩
set_option maxRecDepth 100000 in
set_option maxHeartbeats 4000000 in
theorem refSame_any (A B : Option Addr) (cap cap' : Nat) (L M : List Rt) (hL : L.length ≤ 1000000) (hM : M.length ≤ 1000000) (w : World) (hr : Rd w A L) (hs : Rd w B M) :
    Calls Try.prog 20 #[.slice A L.length cap, .slice B M.length cap'] w fun e w' => e = .returned (.bool (decide (L = M))) ∧ Below w.heap.size w w' := by
  have HR := Lib.hid hr
  have HS := Lib.hid hs
  clear hr hs
  by_cases hlen : L.length = M.length
  · have HL := Lib.hid hlen
    obtain ⟨n, hn⟩ : ∃ n, L.length = n := ⟨_, rfl⟩
    have HLN := Lib.hid hn
    rw [← hlen, hn]
    rw [hn] at hL
    clear hM hlen hn
    go_enter Try.func20, Try.ntmps20
    go_wp2
    go_loopw [5] (fun s5 wr => ∃ k : Nat, k ≤ n ∧ s5 = .int .i64 k ∧ L.take k = M.take k ∧ ∃ q, wr = w.drewN q) (fun s5 _ => n - (intOf s5).toNat)
    case atStart => exact ⟨0, by omega, rfl, rfl, 0, rfl⟩
    case round =>
      obtain ⟨k, hk, rfl, hn, q, hq⟩ := hrel
      have HN := Lib.hid hn
      have HQ := Lib.hid hq
      clear hn hq
      by_cases hlt : k < n
      · have hlt' : (k : Int) < (n : Int) := by omega
        have k0 : (0 : Int) ≤ (k : Int) := by omega
        have h1 : k < L.length := by rw [HLN.out]; exact hlt
        have h2 : k < M.length := by rw [← HL.out]; exact h1
        obtain ⟨b, o, rfl, hra⟩ := HR.out k h1
        obtain ⟨b', o', rfl, hrb⟩ := HS.out k h2
        have hl1 : ∀ m, Sem.run Try.prog (loadCellsFrom ⟨b, o + k * n20, none⟩ 0 n20 #[]) (wr.drewN m) = .ok (encR L[k]).toArray (wr.drewN m) := fun m => by
          rw [HQ.out]
          exact ((hra.drewN q).drewN m).all.load (k := n20) (encR_n _) Try.prog
        have hl2 : ∀ m, Sem.run Try.prog (loadCellsFrom ⟨b', o' + k * n20, none⟩ 0 n20 #[]) (wr.drewN m) = .ok (encR M[k]).toArray (wr.drewN m) := fun m => by
          rw [HQ.out]
          exact ((hrb.drewN q).drewN m).all.load (k := n20) (encR_n _) Try.prog
        have HT1 := Lib.hid (List.take_append_getElem h1)
        have HT2 := Lib.hid (List.take_append_getElem h2)
        by_cases he : L[k] = M[k]
        · have HE := Lib.hid he
          rw [← he] at hl2
          clear hra hrb he
          generalize L[k] = x at hl1 hl2
          have hd : decide (x = x) = true := by simp
          go_wp2
          go_quiet (fail)
          go_wp2
          go_roundw
          case rel => exact ⟨k + 1, by omega, by go_num, by rw [← HT1.out, ← HT2.out, HN.out, HE.out], _, by rw [HQ.out]; exact drewN2 w _ _⟩
          case measure => simp [intOf]; omega
        · have HE := Lib.hid (show decide (L = M) = false from decide_eq_false (fun e => he (by subst e; rfl)))
          have hd : decide (L[k] = M[k]) = false := decide_eq_false he
          clear hra hrb he
          generalize L[k] = x at hl1 hl2 hd
          generalize M[k] = y at hl2 hd
          go_wp2
          go_quiet (fail)
          go_wp2
          go_ret
          rw [HE.out]
          exact ⟨rfl, by rw [HQ.out]; exact bdN (bdN (Below.refl _ _) _) _⟩
      · obtain rfl : k = n := by omega
        have HE := Lib.hid (show decide (L = M) = true from decide_eq_true (by
          have := HN.out
          rw [List.take_of_length_le (by rw [HLN.out]; exact Nat.le_refl _), List.take_of_length_le (by rw [← HL.out, HLN.out]; exact Nat.le_refl _)] at this
          exact this))
        go_wp2
        go_ret
        rw [HE.out]
        exact ⟨rfl, by rw [HQ.out]; exact bdN (Below.refl _ _) _⟩
  · have HE := Lib.hid (show decide (L = M) = false from decide_eq_false (fun e => hlen (by rw [e])))
    have hne : ¬ ((L.length : Int) = (M.length : Int)) := by omega
    have hne2 : ((L.length : Int) != (M.length : Int)) = true := by simp; omega
    have hne3 : decide (L.length = M.length) = false := decide_eq_false hlen
    have hne4 : (L.length != M.length) = true := by simpa using hlen
    go_enter Try.func20, Try.ntmps20
    go_wp2
    go_ret
    rw [HE.out]
    exact ⟨rfl, Below.refl _ _⟩
end Tab
end Go.Proofs.Ytdcbbjlbfghpbaa

/-
  The document's lists as they are made: append; its Put. Conditions: those that each theorem names.
-/
namespace Go.Proofs.Ytdcbbjlbfghpbaa
open Go Go.RowKit H2
set_option linter.unusedVariables false
set_option linter.unusedSimpArgs false
namespace Tab
/-- what has been gathered -/
structure Gr (wl w : World) (v : Value) (D : List Rt) : Prop where
  own : w.ownsRow wl.heap.size 37 20 v D.length (flat D)
  bel : Below wl.heap.size wl w
theorem Gr.below {wl w w' : World} {v : Value} {D : List Rt} (h : Gr wl w v D) (hb : Below w.heap.size w w') : Gr wl w' v D := ⟨own_below h.own hb, h.bel.trans (hb.mono h.bel.size)⟩
theorem Gr.drewN {wl w : World} {v : Value} {D : List Rt} (h : Gr wl w v D) (n : Nat) : Gr wl (w.drewN n) v D := h.below (bdN (Below.refl _ _) _)
theorem Gr.drew {wl w : World} {v : Value} {D : List Rt} (h : Gr wl w v D) : Gr wl w.drew v D := h.below (Below.refl _ _).drew
theorem gr_nil (wl : World) : Gr wl wl (.slice none 0 0) [] := ⟨World.ownsRow_nil _ _ _ _, Below.refl _ _⟩
theorem gr_zero (wl : World) : Gr wl (wl.alloc (.cells #[] 37 (0, 0))) (.slice (some ⟨wl.heap.size, 0, none⟩) 0 0) [] := ⟨own_zero wl, (Below.refl _ _).alloc (Nat.le_refl _) _⟩
theorem Gr.rv {wl w : World} {v : Value} {D : List Rt} (h : Gr wl w v D) : ∃ A cap, Rv w v A cap D := by
  obtain ⟨A, c, hv, _⟩ := own_rv h.own
  exact ⟨A, c, hv⟩
theorem Gr.rvK {wl w : World} {v : Value} {D : List Rt} (h : Gr wl w v D) : ∃ A cap, Rv w v A cap D ∧ ∀ g o, A = some ⟨g, o, none⟩ → wl.heap.size ≤ g := by
  obtain ⟨A, c, hv, hf⟩ := own_rv h.own
  exact ⟨A, c, hv, fun g o e => (hf g o e).1⟩
theorem gr_grown {wl w w' : World} {v v' : Value} {D D' : List Rt} (h : Gr wl w v D) (h1 : w'.ownsRow wl.heap.size 37 20 v' D'.length (flat D')) (h2 : w.grownBy w' v.ownBlock) : Gr wl w' v' D' := by
  refine ⟨h1, ((Only.refl (fun k => v.ownBlock = some k) wl).of_below h.bel).grown h2 (fun k hk _ => hk) |>.below (Nat.le_refl _) (fun k hk e => ?_)⟩
  rcases h.own.2 with ⟨rfl, _⟩ | ⟨g, cap, cur, rfl, hg, _⟩
  · cases e
  · simp only [Value.ownBlock, Option.some.injEq] at e
    omega
/-- append of what is read -/
theorem wpList_appR {ops : Array Oper} {rest : List Oper} {o : Oper} {a : Act} {wl W : World} {Q : Exit → Act → World → Prop} (hgd : o.guard = none) (s x : Operand) (ho : o.op = .call { callee := .builtin .append, args := #[s, x], argTypes := #[22, 22] }) (v : Value) (D M : List Rt) (A : Option Addr) (n c : Nat) (hn : M.length = n)
    (hs : a.eval s = v) (hx : a.eval x = .slice A n c) (h : Gr wl W v D) (hr : Rd W A M) (hA : A = none → M = []) (hl : D.length + M.length ≤ 100000)
    (hK : ∀ v' w', Gr wl w' v' (D ++ M) → (∃ A n c, v' = .slice A n c) → wpList Try.prog ops Q rest (a.put o.dst v') w') : wpList Try.prog ops Q (o :: rest) a W := by
  subst hn
  obtain ⟨v', w', hrun, h1, h2⟩ := app_run W wl.heap.size v D M o.type h.own A c hr hA (by omega) h.bel.size
  have hg := gr_grown h h1 h2
  obtain ⟨A', c', hv⟩ := hg.rv
  exact wpList_append_run hgd s x 22 ho _ _ hs hx hrun (hK v' w' hg ⟨A', _, c', hv.eq⟩)
/-- append of one -/
theorem wpList_app1 {ops : Array Oper} {rest : List Oper} {o : Oper} {a : Act} {wl W : World} {Q : Exit → Act → World → Prop} (hgd : o.guard = none) (s x : Operand) (ho : o.op = .call { callee := .builtin .append, args := #[s, x], argTypes := #[22, 22] }) (v : Value) (r : Rt) (D : List Rt)
    (hs : a.eval s = v) (hx : a.eval x = .slice (some ⟨W.heap.size, 0, none⟩) 1 1) (h : Gr wl W v D) (hl : D.length ≤ 10000)
    (hK : ∀ v' w', Gr wl w' v' (D ++ [r]) → (∃ A n c, v' = .slice A n c) → wpList Try.prog ops Q rest (a.put o.dst v') w') : wpList Try.prog ops Q (o :: rest) a (W.alloc (.cells (encR r).toArray 37 (0, 0))) :=
  wpList_appR hgd s x ho v D [r] _ 1 1 rfl hs hx (h.below ((Below.refl _ _).alloc (Nat.le_refl _) _)) (Rd.at (L := [r]) (by rw [flat_one]; exact at_new W (encR r) _ _)) (fun e => by cases e) (by simp; omega) hK
/-- what the document's functions answer: a list and a code -/
def Lst (w w' : World) (L : List Rt) (c : Int) (e : Ending) : Prop := ∃ v A cap, e = .returned (.tuple #[v, .int .i64 c]) ∧ Rv w' v A cap L
/-- where a list lies: where it lay, or in a new block -/
def Frm (w : World) (A A' : Option Addr) : Prop := A' = A ∨ ∀ g o, A' = some ⟨g, o, none⟩ → w.heap.size ≤ g
theorem Frm.up {w W : World} {A A' : Option Addr} (h : Frm W A A') (hb : w.heap.size ≤ W.heap.size) : Frm w A A' := h.imp id (fun h g o e => Nat.le_trans hb (h g o e))
def LstK (w w' : World) (A : Option Addr) (L : List Rt) (c : Int) (e : Ending) : Prop := ∃ v A' cap, e = .returned (.tuple #[v, .int .i64 c]) ∧ Rv w' v A' cap L ∧ Frm w A A'
theorem LstK.lst {w w' : World} {A : Option Addr} {L : List Rt} {c : Int} {e : Ending} (h : LstK w w' A L c e) : Lst w w' L c e := by
  obtain ⟨v, A', cap, h1, h2, _⟩ := h
  exact ⟨v, A', cap, h1, h2⟩
end Tab
end Go.Proofs.Ytdcbbjlbfghpbaa
