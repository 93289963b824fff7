/-
  Joined texts: DropA DoP NewP RefP RefA RefB. Conditions: those that each theorem names.
-/
import Derived.Test.YtdcbbjlbfghpbaaGreatDh
import Derived.Test.YtdcbbjlbfghpbaaGreatDd
import Derived.Test.YtdcbbjlbfghpbaaGreatDf
/-
  Table.Drop; incs in memory. Conditions: those that each theorem names.
-/
namespace Go.Proofs.YtdcbbjlbfghpbaaGreat
open Go Go.RowKit H2
set_option linter.unusedVariables false
set_option linter.unusedSimpArgs false
namespace Tab
structure In where
  kind : Int
  rt : Rt
  deriving DecidableEq, Inhabited
def encI (x : In) : List Value := .int .i64 x.kind :: encR x.rt
theorem encI_len (x : In) : (encI x).length = 21 := by simp [encI, encR_len]
def n21 : Nat := 21
theorem sz21 (w : World) : Sem.run Tryz.prog (Go.sizeOf 38) w = .ok n21 w := Tryz.sizeOf38 w
theorem encI_n (x : In) : (encI x).length = n21 := encI_len x
attribute [simp 10000] sz21
theorem n21_ne : (n21 = 0) = False := by unfold n21; simp
attribute [go_sem] encI_n n21_ne
theorem encI_one (r : In) : ∀ v ∈ encI r, v.oneCell' = true := fun v hv => by
  rcases List.mem_cons.1 hv with rfl | h
  · rfl
  · exact encR_one _ v h
structure IAt (w : World) (B o : Nat) (x : In) : Prop where
  all : At w B o (encI x)
theorem IAt.below {w w' : World} {B o : Nat} {x : In} (h : IAt w B o x) (hb : Below w.heap.size w w') : IAt w' B o x := ⟨h.all.below hb⟩
theorem IAt.drew {w : World} {B o : Nat} {x : In} (h : IAt w B o x) : IAt w.drew B o x := ⟨h.all⟩
theorem IAt.drewN {w : World} {B o : Nat} {x : In} (h : IAt w B o x) (n : Nat) : IAt (w.drewN n) B o x := ⟨h.all⟩
theorem IAt.kind {w : World} {B o : Nat} {x : In} (h : IAt w B o x) : w.cell? ⟨B, o, none⟩ = some (.int .i64 x.kind) := h.all.cons.1
theorem IAt.rt {w : World} {B o : Nat} {x : In} (h : IAt w B o x) : RAt w B (o + 1) x.rt := ⟨h.all.cons.2⟩
theorem IAt.lt {w : World} {B o : Nat} {x : In} (h : IAt w B o x) : B < w.heap.size := World.block_lt_of_cell? w ⟨B, o, none⟩ h.kind
theorem iAt_new (w : World) (x : In) (T : TypeId) (fr : Nat × Nat) : IAt (w.alloc (.cells (encI x).toArray T fr)) w.heap.size 0 x := ⟨at_new w _ T fr⟩
/-- what Drop answers -/
def dropC (T : List Rt) (p : Pf) : Int := if has T p then 0 else 8
set_option maxRecDepth 100000 in
set_option maxHeartbeats 8000000 in
theorem drop_anyK {base : Nat} {b : Nat} {v : Value} {T : List Rt} (p : Pf) (w : World) (h : Tb base w b v T) :
    Calls Tryz.prog 34 #[.pointer (some ⟨b, 0, none⟩), .agg (encP p).toArray] w fun e w' => ∃ v', e = .returned (.int .i64 (dropC T p)) ∧ Tb base w' b v' (del T p) ∧ Only (fun k => k = b ∨ v.ownBlock = some k) w w' ∧ Kin w v v' := by
  have HT := Lib.hid h
  have HF := Lib.hid (fun (W : World) (hb : Below w.heap.size w W) => find_any p W (HT.out.below hb))
  have HO0 := Lib.hid (fun (W : World) (hb : Below w.heap.size w W) => (Only.refl (fun k => k = b ∨ v.ownBlock = some k) w).of_below hb)
  have HN := Lib.hid h.tok.len
  have HBW := Lib.hid h.lt
  clear h
  by_cases hh : has T p = true
  · have HH := Lib.hid hh
    have HC := Lib.hid (show dropC T p = 0 by unfold dropC; rw [if_pos hh])
    have HD := Lib.hid (del_has HT.out.tok.srt hh)
    have HTK := Lib.hid (tok_del HT.out.tok p)
    have hxn0 := ((pos_has HT.out.tok.srt p).1 hh).1
    obtain ⟨k, hk⟩ : ∃ k, T.length = k + 1 := ⟨T.length - 1, by omega⟩
    obtain ⟨x, hx⟩ : ∃ x, pos T p = x := ⟨_, rfl⟩
    rw [hx] at HF HD hxn0
    rw [hk] at hxn0
    have hor := HT.out.own
    obtain ⟨g, cap, rfl, hbg, hc, hgl⟩ := own_form hor (by omega)
    rw [hk] at hor
    have HDEL := Lib.hid (fun (W : World) (hb : Below w.heap.size w W) => delete_any W base g k cap T x (own_below hor hb) hk hxn0 (by have := HN.out; omega))
    have HTC := Lib.hid (fun (W : World) (hb : Below w.heap.size w W) => (HT.out.below hb).cell)
    have HBL := Lib.hid HT.out.blk
    have HGB := Lib.hid (show b ≠ g from fun e => own_ne hor HT.out.blk (by subst e; rfl))
    have HLO := Lib.hid HT.out.lo
    rw [hk] at HTC HBL HO0 HN ⊢
    rw [HD.out] at HDEL
    have HNX := Lib.hid (show (x : Int) + 1 ≤ 1000 by have := HN.out; omega)
    clear hh hx hk hor HT hxn0 HD hbg hc hgl
    go_enter Tryz.func34, Tryz.ntmps34
    go_upto_region 1 with fail
    have H := Lib.hid (PAt.mk (at_new w (encP p) 33 (0, 0)))
    have hb := Lib.hid (show Below w.heap.size w (w.alloc (.cells (encP p).toArray 33 (0, 0))) from (Below.refl _ _).alloc (Nat.le_refl _) _)
    generalize w.alloc _ = W at H hb ⊢
    generalize w.heap.size = B at H ⊢
    have c0 := H.out.all.load (k := n18) (encP_n _) Tryz.prog
    go_upto_region 2 with (go_at_call 32; (with_reducible refine (HF.out _ hb.out).mono ?_); rintro e w2 ⟨rfl, hb2⟩; rw [HH.out]; have hb := Lib.hid (hb.out.trans (hb2.mono hb.out.size)); clear hb2 c0)
    have d0 := HTC.out _ hb.out
    have hw2 : IntKind.i64.wrap ((x : Int) + 1) = (x : Int) + 1 := IntWalk.i64_in _ (by have := HNX.out; omega)
    go_upto_region 7 with (go_at_call 66; (with_reducible refine (HDEL.out _ hb.out).mono ?_); rintro e w6 ⟨v', rfl, h1, h2, hk6⟩; obtain ⟨A', cap', hv', _⟩ := own_rv h1; obtain rfl := hv'.eq; have HK6 := Lib.hid (hk6.up hb.out.size); clear hk6; have HO6 := Lib.hid h1; have HB6 := Lib.hid ((h2.block b (Nat.lt_of_lt_of_le HBW.out hb.out.size) HGB.out).trans ((hb.out.block b HBW.out).trans HBL.out)); have e1 := blk_cell HB6.out 0; have e2 := blk_free HB6.out 0; have HOY := Lib.hid ((HO0.out _ hb.out).trans h2 (fun i _ e => .inr (by subst e; rfl))); clear h1 h2 hv' d0)
    clear e1 e2
    go_wp2
    go_ret
    rw [HC.out]
    exact ⟨_, rfl, tb_set HB6.out HO6.out HTK.out HLO.out, Only.setCell HOY.out (p := ⟨b, 0, none⟩) (fun _ => .inl rfl) _, HK6.out⟩
  · have hh' : has T p = false := by simpa using hh
    have HH := Lib.hid hh'
    have HC := Lib.hid (show dropC T p = 8 ∧ del T p = T by unfold dropC; rw [if_neg hh]; exact ⟨rfl, del_not hh'⟩)
    clear hh hh'
    go_enter Tryz.func34, Tryz.ntmps34
    go_upto_region 1 with fail
    have H := Lib.hid (PAt.mk (at_new w (encP p) 33 (0, 0)))
    have hb := Lib.hid (show Below w.heap.size w (w.alloc (.cells (encP p).toArray 33 (0, 0))) from (Below.refl _ _).alloc (Nat.le_refl _) _)
    generalize w.alloc _ = W at H hb ⊢
    generalize w.heap.size = B at H ⊢
    have c0 := H.out.all.load (k := n18) (encP_n _) Tryz.prog
    go_upto_region 2 with (go_at_call 32; (with_reducible refine (HF.out _ hb.out).mono ?_); rintro e w2 ⟨rfl, hb2⟩; rw [HH.out]; have hb := Lib.hid (hb.out.trans (hb2.mono hb.out.size)); clear hb2 c0)
    go_wp2
    go_ret
    rw [HC.out.1, HC.out.2]
    exact ⟨_, rfl, HT.out.below hb.out, HO0.out _ hb.out, Kin.same _ _⟩
theorem drop_any {base : Nat} {b : Nat} {v : Value} {T : List Rt} (p : Pf) (w : World) (h : Tb base w b v T) :
    Calls Tryz.prog 34 #[.pointer (some ⟨b, 0, none⟩), .agg (encP p).toArray] w fun e w' => ∃ v', e = .returned (.int .i64 (dropC T p)) ∧ Tb base w' b v' (del T p) ∧ Only (fun k => k = b ∨ v.ownBlock = some k) w w' :=
  (drop_anyK p w h).mono fun e w' ⟨v', he, h1, h2, _⟩ => ⟨v', he, h1, h2⟩
end Tab
end Go.Proofs.YtdcbbjlbfghpbaaGreat

/-
  What Table.Do answers, in plain Lean. Conditions: those that each theorem names.
-/
namespace Go.Proofs.YtdcbbjlbfghpbaaGreat
set_option linter.unusedVariables false
namespace Tab
def doC (T : List Rt) (x : In) : Int :=
  if x.kind = 3 then (if x.rt.metric = 0 ∧ x.rt.seq = 0 ∧ rightP x.rt.to = true then dropC T x.rt.to else 1)
  else if (x.kind = 1 ∨ x.kind = 2) ∧ right x.rt = true then
    (if x.kind = 1 ∧ has T x.rt.to = true then 9 else if x.kind = 2 ∧ has T x.rt.to = false then 8 else putC T x.rt)
  else 1
def doT (T : List Rt) (x : In) : List Rt :=
  if x.kind = 3 then (if x.rt.metric = 0 ∧ x.rt.seq = 0 ∧ rightP x.rt.to = true then del T x.rt.to else T)
  else if (x.kind = 1 ∨ x.kind = 2) ∧ right x.rt = true then
    (if x.kind = 1 ∧ has T x.rt.to = true then T else if x.kind = 2 ∧ has T x.rt.to = false then T else putT T x.rt)
  else T

theorem doK {T : List Rt} {p : Pf} {m q k : Int} {hv : Bool} (hk : k = 1 ∨ k = 2) (hr : right ⟨p, m, q⟩ = true) (h : has T p = hv) :
    doC T ⟨k, ⟨p, m, q⟩⟩ = (if k = 1 ∧ hv = true then 9 else if k = 2 ∧ hv = false then 8 else putC T ⟨p, m, q⟩) ∧ doT T ⟨k, ⟨p, m, q⟩⟩ = (if k = 1 ∧ hv = true then T else if k = 2 ∧ hv = false then T else putT T ⟨p, m, q⟩) := by
  subst h
  unfold doC doT
  have h3 : ¬ k = 3 := by omega
  have h4 : (k = 1 ∨ k = 2) ∧ right ⟨p, m, q⟩ = true := ⟨hk, hr⟩
  dsimp only
  rw [if_neg h3, if_neg h3, if_pos h4, if_pos h4]
  exact ⟨rfl, rfl⟩
theorem do_bad {T : List Rt} {p : Pf} {m q k : Int} (h3 : ¬ k = 3) (h4 : ¬ ((k = 1 ∨ k = 2) ∧ right ⟨p, m, q⟩ = true)) : doC T ⟨k, ⟨p, m, q⟩⟩ = 1 ∧ doT T ⟨k, ⟨p, m, q⟩⟩ = T := by
  unfold doC doT
  dsimp only
  rw [if_neg h3, if_neg h3, if_neg h4, if_neg h4]
  exact ⟨rfl, rfl⟩
theorem do_put1 {T : List Rt} {p : Pf} {m q : Int} (hr : right ⟨p, m, q⟩ = true) (h : has T p = false) : doC T ⟨1, ⟨p, m, q⟩⟩ = putC T ⟨p, m, q⟩ ∧ doT T ⟨1, ⟨p, m, q⟩⟩ = putT T ⟨p, m, q⟩ := doK (.inl rfl) hr h
theorem do_there {T : List Rt} {p : Pf} {m q : Int} (hr : right ⟨p, m, q⟩ = true) (h : has T p = true) : doC T ⟨1, ⟨p, m, q⟩⟩ = 9 ∧ doT T ⟨1, ⟨p, m, q⟩⟩ = T := doK (.inl rfl) hr h
theorem do_away {T : List Rt} {p : Pf} {m q : Int} (hr : right ⟨p, m, q⟩ = true) (h : has T p = false) : doC T ⟨2, ⟨p, m, q⟩⟩ = 8 ∧ doT T ⟨2, ⟨p, m, q⟩⟩ = T := doK (.inr rfl) hr h
theorem do_put2 {T : List Rt} {p : Pf} {m q : Int} (hr : right ⟨p, m, q⟩ = true) (h : has T p = true) : doC T ⟨2, ⟨p, m, q⟩⟩ = putC T ⟨p, m, q⟩ ∧ doT T ⟨2, ⟨p, m, q⟩⟩ = putT T ⟨p, m, q⟩ := doK (.inr rfl) hr h
end Tab
end Go.Proofs.YtdcbbjlbfghpbaaGreat

/-
  What table.New makes, in plain Lean. Conditions: those that each theorem names.
-/
namespace Go.Proofs.YtdcbbjlbfghpbaaGreat
set_option linter.unusedVariables false
namespace Tab
/-- two to one prefix -/
def dup (L : List Rt) : Bool := !decide (L.map Rt.to).Nodup
/-- one by one -/
def fold (L : List Rt) : List Rt := L.foldl ins []
def newC (L : List Rt) : Int := if L.any (fun r => !right r) = true then 1 else if dup L = true then 9 else if 300 < L.length then 7 else 0
theorem srt_of {L L' : List Rt} (h : SrtOf L L') (hd : dup L = false) : Srt L' := by
  have hn : (L.map Rt.to).Nodup := by unfold dup at hd; simpa using hd
  have hn' : (L'.map Rt.to).Nodup := (h.perm.map Rt.to).nodup_iff.2 hn
  unfold List.Nodup at hn'
  rw [List.pairwise_map] at hn'
  refine (List.Pairwise.and h.ord hn').imp (fun {a b} ⟨h1, h2⟩ => ?_)
  rcases not_lt h1 with e | e
  · exact absurd e.symm h2
  · exact e
theorem mem_fold : ∀ (L T : List Rt), Srt T → (L.map Rt.to).Nodup → (∀ r ∈ L, ∀ x ∈ T, x.to ≠ r.to) → Srt (L.foldl ins T) ∧ (∀ x, x ∈ L.foldl ins T ↔ x ∈ L ∨ x ∈ T) ∧ (L.foldl ins T).length = L.length + T.length
  | [], T, hs, _, _ => ⟨hs, fun x => by simp, by simp⟩
  | r :: L, T, hs, hn, hd => by
    rw [List.map_cons, List.nodup_cons] at hn
    have hT : ∀ q ∈ L, ∀ x ∈ ins T r, x.to ≠ q.to := fun q hq x hx e => by
      rcases (mem_ins hs).1 hx with rfl | ⟨h1, _⟩
      · exact hn.1 (e ▸ List.mem_map_of_mem hq)
      · exact hd q (List.mem_cons_of_mem _ hq) x h1 e
    obtain ⟨h1, h2, h3⟩ := mem_fold L (ins T r) (srt_ins hs r) hn.2 hT
    rw [List.foldl_cons]
    refine ⟨h1, fun x => ?_, ?_⟩
    · rw [h2, mem_ins hs, List.mem_cons]
      constructor
      · rintro (h | h | h)
        · exact .inl (.inr h)
        · exact .inl (.inl h)
        · exact .inr h.1
      · rintro ((h | h) | h)
        · exact .inr (.inl h)
        · exact .inl h
        · exact .inr (.inr ⟨h, hd r (List.mem_cons_self ..) x h⟩)
    · have hh : has T r.to = false := has_false.2 (hd r (List.mem_cons_self ..))
      rw [h3, len_ins hs, hh, List.length_cons]
      simp
      omega
theorem fold_of {L : List Rt} (hd : dup L = false) : Srt (fold L) ∧ (∀ x, x ∈ fold L ↔ x ∈ L) ∧ (fold L).length = L.length := by
  have hn : (L.map Rt.to).Nodup := by unfold dup at hd; simpa using hd
  obtain ⟨h1, h2, h3⟩ := mem_fold L [] srt_nil hn (fun _ _ x hx => by cases hx)
  exact ⟨h1, fun x => by rw [show fold L = L.foldl ins [] from rfl, h2]; simp, by show (L.foldl ins []).length = _; simpa using h3⟩
theorem sort_fold {L L' : List Rt} (h : SrtOf L L') (hd : dup L = false) : L' = fold L :=
  srt_ext (srt_of h hd) (fold_of hd).1 (fun r => by rw [(fold_of hd).2.1, h.perm.mem_iff])
/-- two alike are neighbours -/
theorem no_dup {L L' : List Rt} (h : SrtOf L L') (ha : ∀ i (hi : i + 1 < L'.length), L'[i].to ≠ L'[i + 1].to) : dup L = false := by
  have key : ∀ (M : List Rt), M.Pairwise (fun a b => ¬ Lt b.to a.to) → (∀ i (hi : i + 1 < M.length), M[i].to ≠ M[i + 1].to) → (M.map Rt.to).Nodup := by
    intro M
    induction M with
    | nil => intro _ _; exact List.nodup_nil
    | cons x M ih =>
      intro ho ha
      rw [List.pairwise_cons] at ho
      rw [List.map_cons, List.nodup_cons]
      refine ⟨fun hm => ?_, ih ho.2 (fun i hi => ha (i + 1) (by simpa using hi))⟩
      obtain ⟨y, hy, e⟩ := List.mem_map.1 hm
      cases M with
      | nil => cases hy
      | cons z M =>
        have h0 := ha 0 (by simp)
        simp only [List.getElem_cons_zero, List.getElem_cons_succ] at h0
        have h1 := ho.1 z (List.mem_cons_self ..)
        have h2 : Lt x.to z.to := (not_lt h1).resolve_left (fun e => h0 e.symm)
        rcases List.mem_cons.1 hy with rfl | hy
        · exact h0 e.symm
        · have h3 := (List.pairwise_cons.1 ho.2).1 y hy
          rw [e] at h3
          exact h3 h2
  have := key L' h.ord ha
  unfold dup
  rw [(h.perm.map Rt.to).nodup_iff] at this
  simpa using this
theorem is_dup {L L' : List Rt} (h : SrtOf L L') {i : Nat} (hi : i + 1 < L'.length) (e : L'[i].to = L'[i + 1].to) : dup L = true := by
  unfold dup
  have : ¬ (L.map Rt.to).Nodup := fun hn => by
    have hn' := (h.perm.map Rt.to).nodup_iff.2 hn
    unfold List.Nodup at hn'
    rw [List.pairwise_map] at hn'
    exact (List.pairwise_iff_getElem.1 hn') i (i + 1) (by omega) hi (by omega) e
  simpa using this
end Tab
end Go.Proofs.YtdcbbjlbfghpbaaGreat

/-
  The document's lists, in plain Lean: where a prefix is, what Put and Drop leave. Conditions: those that each theorem names.
-/
namespace Go.Proofs.YtdcbbjlbfghpbaaGreat
set_option linter.unusedVariables false
namespace Tab
/-- the first to a prefix, or -1 -/
def fnd (L : List Rt) (p : Pf) : Int := if has L p = true then (L.findIdx (fun r => decide (r.to = p)) : Nat) else -1
theorem fnd_at {L : List Rt} {p : Pf} {k : Nat} (hk : k < L.length) (h : L[k].to = p) (hm : ∀ j (hj : j < L.length), j < k → L[j].to ≠ p) : fnd L p = k := by
  have hh : has L p = true := has_iff.2 ⟨_, List.getElem_mem hk, h⟩
  unfold fnd
  rw [if_pos hh]
  congr 1
  rw [List.findIdx_eq hk]
  exact ⟨by simpa using h, fun j hj => by simpa using hm j (by omega) hj⟩
theorem fnd_no {L : List Rt} {p : Pf} (h : has L p = false) : fnd L p = -1 := by
  unfold fnd
  rw [h]
  simp
theorem fnd_none {L : List Rt} {p : Pf} (hm : ∀ j (hj : j < L.length), L[j].to ≠ p) : fnd L p = -1 := fnd_no (has_false.2 (fun r hr => by
  obtain ⟨j, hj, rfl⟩ := List.getElem_of_mem hr
  exact hm j hj))
theorem fnd_srt {T : List Rt} (hs : Srt T) {p : Pf} (h : has T p = true) : fnd T p = pos T p := by
  obtain ⟨hi, e⟩ := (pos_has hs p).1 h
  exact fnd_at hi e (fun j hj hjk => lt_ne ((pos_lt hs hj).2 hjk))
theorem fnd_has {L : List Rt} {p : Pf} : (0 ≤ fnd L p) ↔ has L p = true := by
  cases h : has L p with
  | false => rw [fnd_no h]; simp
  | true =>
    unfold fnd
    rw [h, if_pos rfl]
    simp
theorem insIdx : ∀ (L : List Rt) (r : Rt) (i : Nat), i ≤ L.length → L.insertIdx i r = L.take i ++ r :: L.drop i
  | [], r, i, hi => by
    have : i = 0 := by simpa using hi
    subst this; rfl
  | x :: L, r, 0, _ => rfl
  | x :: L, r, i + 1, hi => by rw [List.insertIdx_succ_cons, insIdx L r i (by simpa using hi)]; rfl
/-- ins by a scan: what stands before the first place that is not ahead -/
theorem ins_scan {T : List Rt} (hs : Srt T) {r : Rt} (h : has T r.to = false) : ins T r = T.take (pos T r.to) ++ r :: T.drop (pos T r.to) := by
  rw [← ins_not hs h]
  exact insIdx T r _ (pos_le _ _)
theorem putT_new {T : List Rt} {r : Rt} (hr : right r = true) (hn : T.length < 300) : putT T r = ins T r := by
  unfold putT
  rw [if_pos hr]
  by_cases h : has T r.to = true
  · rw [if_pos h]
  · rw [if_neg h, if_pos hn]
end Tab
end Go.Proofs.YtdcbbjlbfghpbaaGreat

/-
  The document's Right, Find, Same. Conditions: those that each theorem names.
-/
namespace Go.Proofs.YtdcbbjlbfghpbaaGreat
open Go Go.RowKit H2
set_option linter.unusedVariables false
set_option linter.unusedSimpArgs false
namespace Tab
end Tab
end Go.Proofs.YtdcbbjlbfghpbaaGreat

/-
  The document's lists as they are made: append; its Put. Conditions: those that each theorem names.
-/
namespace Go.Proofs.YtdcbbjlbfghpbaaGreat
open Go Go.RowKit H2
set_option linter.unusedVariables false
set_option linter.unusedSimpArgs false
namespace Tab
/-- what has been gathered -/
structure Gr (wl w : World) (v : Value) (D : List Rt) : Prop where
  own : w.ownsRow wl.heap.size 36 20 v D.length (flat D)
  bel : Below wl.heap.size wl w
theorem Gr.below {wl w w' : World} {v : Value} {D : List Rt} (h : Gr wl w v D) (hb : Below w.heap.size w w') : Gr wl w' v D := ⟨own_below h.own hb, h.bel.trans (hb.mono h.bel.size)⟩
theorem Gr.drewN {wl w : World} {v : Value} {D : List Rt} (h : Gr wl w v D) (n : Nat) : Gr wl (w.drewN n) v D := h.below (bdN (Below.refl _ _) _)
theorem Gr.drew {wl w : World} {v : Value} {D : List Rt} (h : Gr wl w v D) : Gr wl w.drew v D := h.below (Below.refl _ _).drew
theorem gr_nil (wl : World) : Gr wl wl (.slice none 0 0) [] := ⟨World.ownsRow_nil _ _ _ _, Below.refl _ _⟩
theorem gr_zero (wl : World) : Gr wl (wl.alloc (.cells #[] 36 (0, 0))) (.slice (some ⟨wl.heap.size, 0, none⟩) 0 0) [] := ⟨own_zero wl, (Below.refl _ _).alloc (Nat.le_refl _) _⟩
theorem Gr.rv {wl w : World} {v : Value} {D : List Rt} (h : Gr wl w v D) : ∃ A cap, Rv w v A cap D := by
  obtain ⟨A, c, hv, _⟩ := own_rv h.own
  exact ⟨A, c, hv⟩
theorem Gr.rvK {wl w : World} {v : Value} {D : List Rt} (h : Gr wl w v D) : ∃ A cap, Rv w v A cap D ∧ ∀ g o, A = some ⟨g, o, none⟩ → wl.heap.size ≤ g := by
  obtain ⟨A, c, hv, hf⟩ := own_rv h.own
  exact ⟨A, c, hv, fun g o e => (hf g o e).1⟩
theorem gr_grown {wl w w' : World} {v v' : Value} {D D' : List Rt} (h : Gr wl w v D) (h1 : w'.ownsRow wl.heap.size 36 20 v' D'.length (flat D')) (h2 : w.grownBy w' v.ownBlock) : Gr wl w' v' D' := by
  refine ⟨h1, ((Only.refl (fun k => v.ownBlock = some k) wl).of_below h.bel).grown h2 (fun k hk _ => hk) |>.below (Nat.le_refl _) (fun k hk e => ?_)⟩
  rcases h.own.2 with ⟨rfl, _⟩ | ⟨g, cap, cur, rfl, hg, _⟩
  · cases e
  · simp only [Value.ownBlock, Option.some.injEq] at e
    omega
/-- append of what is read -/
theorem wpList_appR {ops : Array Oper} {rest : List Oper} {o : Oper} {a : Act} {wl W : World} {Q : Exit → Act → World → Prop} (hgd : o.guard = none) (s x : Operand) (ho : o.op = .call { callee := .builtin .append, args := #[s, x], argTypes := #[22, 22] }) (v : Value) (D M : List Rt) (A : Option Addr) (n c : Nat) (hn : M.length = n)
    (hs : a.eval s = v) (hx : a.eval x = .slice A n c) (h : Gr wl W v D) (hr : Rd W A M) (hA : A = none → M = []) (hl : D.length + M.length ≤ 100000)
    (hK : ∀ v' w', Gr wl w' v' (D ++ M) → (∃ A n c, v' = .slice A n c) → wpList Tryz.prog ops Q rest (a.put o.dst v') w') : wpList Tryz.prog ops Q (o :: rest) a W := by
  subst hn
  obtain ⟨v', w', hrun, h1, h2⟩ := app_run W wl.heap.size v D M o.type h.own A c hr hA (by omega) h.bel.size
  have hg := gr_grown h h1 h2
  obtain ⟨A', c', hv⟩ := hg.rv
  exact wpList_append_run hgd s x 22 ho _ _ hs hx hrun (hK v' w' hg ⟨A', _, c', hv.eq⟩)
/-- append of one -/
theorem wpList_app1 {ops : Array Oper} {rest : List Oper} {o : Oper} {a : Act} {wl W : World} {Q : Exit → Act → World → Prop} (hgd : o.guard = none) (s x : Operand) (ho : o.op = .call { callee := .builtin .append, args := #[s, x], argTypes := #[22, 22] }) (v : Value) (r : Rt) (D : List Rt)
    (hs : a.eval s = v) (hx : a.eval x = .slice (some ⟨W.heap.size, 0, none⟩) 1 1) (h : Gr wl W v D) (hl : D.length ≤ 10000)
    (hK : ∀ v' w', Gr wl w' v' (D ++ [r]) → (∃ A n c, v' = .slice A n c) → wpList Tryz.prog ops Q rest (a.put o.dst v') w') : wpList Tryz.prog ops Q (o :: rest) a (W.alloc (.cells (encR r).toArray 36 (0, 0))) :=
  wpList_appR hgd s x ho v D [r] _ 1 1 rfl hs hx (h.below ((Below.refl _ _).alloc (Nat.le_refl _) _)) (Rd.at (L := [r]) (by rw [flat_one]; exact at_new W (encR r) _ _)) (fun e => by cases e) (by simp; omega) hK
/-- what the document's functions answer: a list and a code -/
def Lst (w w' : World) (L : List Rt) (c : Int) (e : Ending) : Prop := ∃ v A cap, e = .returned (.tuple #[v, .int .i64 c]) ∧ Rv w' v A cap L
/-- where a list lies: where it lay, or in a new block -/
def Frm (w : World) (A A' : Option Addr) : Prop := A' = A ∨ ∀ g o, A' = some ⟨g, o, none⟩ → w.heap.size ≤ g
theorem Frm.up {w W : World} {A A' : Option Addr} (h : Frm W A A') (hb : w.heap.size ≤ W.heap.size) : Frm w A A' := h.imp id (fun h g o e => Nat.le_trans hb (h g o e))
def LstK (w w' : World) (A : Option Addr) (L : List Rt) (c : Int) (e : Ending) : Prop := ∃ v A' cap, e = .returned (.tuple #[v, .int .i64 c]) ∧ Rv w' v A' cap L ∧ Frm w A A'
theorem LstK.lst {w w' : World} {A : Option Addr} {L : List Rt} {c : Int} {e : Ending} (h : LstK w w' A L c e) : Lst w w' L c e := by
  obtain ⟨v, A', cap, h1, h2, _⟩ := h
  exact ⟨v, A', cap, h1, h2⟩
end Tab
end Go.Proofs.YtdcbbjlbfghpbaaGreat
