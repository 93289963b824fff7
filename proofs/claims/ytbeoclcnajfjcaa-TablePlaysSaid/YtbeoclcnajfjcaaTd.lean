/-
  Joined texts: PutA DropA DoP IncA ChgP NewP. Conditions: those that each theorem names.
-/
import Derived.Test.YtbeoclcnajfjcaaDelA
import Derived.Test.YtbeoclcnajfjcaaTabF
import Derived.Test.YtbeoclcnajfjcaaColC
/-
  Table.Put: laws. Conditions: those that each theorem names.
-/
namespace Go.Proofs.Ytbeoclcnajfjcaa
open Go Go.RowKit H2
set_option linter.unusedVariables false
set_option linter.unusedSimpArgs false
namespace Tab
theorem splice_set (cur : Array Value) (L : List Rt) (r : Rt) (i : Nat) (hi : i < L.length) (hs : L.length * 20 ≤ cur.size) (ht : cur.toList.take (L.length * 20) = flat L) :
    (splice cur (i * 20) (encR r)).toList.take (L.length * 20) = flat (L.set i r) := by
  have h2 : cur.toList.take (i * 20) = flat (L.take i) := by
    rw [← flat_take, ← ht, List.take_take, show min (i * 20) (L.length * 20) = i * 20 by omega]
  have h3 : (cur.toList.drop (i * 20 + 20)).take (L.length * 20 - (i * 20 + 20)) = flat (L.drop (i + 1)) := by
    rw [← flat_drop, ← ht, List.drop_take, show (i + 1) * 20 = i * 20 + 20 by omega]
  have h4 : (flat (L.take i) ++ encR r).length = i * 20 + 20 := by rw [List.length_append, flat_len, encR_len, List.length_take]; omega
  rw [splice_list, h2, encR_len, List.take_append, h4, h3, List.take_of_length_le (by rw [h4]; omega), List.set_eq_take_append_cons_drop, if_pos hi, flat_app, List.append_assoc]
  rfl
theorem cell_blk {w w' : World} {B o : Nat} (h : w'.heap[B]? = w.heap[B]?) : w'.cell? ⟨B, o, none⟩ = w.cell? ⟨B, o, none⟩ := by
  unfold World.cell?
  rw [h]
theorem At.blk {w w' : World} {B o : Nat} {cs : List Value} (h : At w B o cs) (e : w'.heap[B]? = w.heap[B]?) : At w' B o cs := fun j u hj => (cell_blk e).trans (h j u hj)
theorem RAt.blk {w w' : World} {B o : Nat} {r : Rt} (h : RAt w B o r) (e : w'.heap[B]? = w.heap[B]?) : RAt w' B o r := ⟨h.all.blk e⟩
theorem own_typ {w : World} {base n : Nat} {v : Value} {xs : List Value} (h : w.ownsRow base 34 20 v n xs) {k : Nat} (hk : v.ownBlock = some k) : ∃ cur, w.heap[k]? = some (.cells cur 34 (0, 0)) := by
  rcases h.2 with ⟨rfl, _⟩ | ⟨g, cap, cur, rfl, _, hh, _⟩
  · cases hk
  · simp only [Value.ownBlock, Option.some.injEq] at hk
    subst hk
    exact ⟨cur, hh⟩
theorem own_lt {w : World} {base n : Nat} {v : Value} {xs : List Value} (h : w.ownsRow base 34 20 v n xs) {k : Nat} (hk : v.ownBlock = some k) : k < w.heap.size := by
  obtain ⟨cur, h⟩ := own_typ h hk
  exact blk_lt h
theorem own_ne {w : World} {base n b : Nat} {v u : Value} {xs : List Value} (h : w.ownsRow base 34 20 v n xs) (hb : w.heap[b]? = some (.cells #[u] 78 (0, 0))) : v.ownBlock ≠ some b := fun e => by
  obtain ⟨cur, h⟩ := own_typ h e
  rw [h] at hb
  simp at hb
/-- a new slice in a table -/
theorem tb_set {base : Nat} {w : World} {b : Nat} {v v' : Value} {T' : List Rt} (hb : w.heap[b]? = some (.cells #[v] 78 (0, 0))) (h : w.ownsRow base 34 20 v' T'.length (flat T')) (ht : TOk T') (hl : base ≤ b) : Tb base (w.setCell ⟨b, 0, none⟩ v') b v' T' :=
  ⟨blk_set hb 0 v', (Only.setCell (Only.refl (fun k => k = b) w) (p := ⟨b, 0, none⟩) (fun _ => rfl) v').own h (fun k hk e => own_ne h hb (by subst e; exact hk)), hl, ht⟩
theorem tok_ins {T : List Rt} (h : TOk T) {r : Rt} (hr : right r = true) (hl : has T r.to = true ∨ T.length < 300) : TOk (ins T r) :=
  ⟨srt_ins h.srt r, fun x hx => by rcases (mem_ins h.srt).1 hx with rfl | ⟨h1, _⟩
                                   · exact hr
                                   · exact h.ok x h1, by
    rw [len_ins h.srt]
    have := h.len
    rcases hl with hl | hl
    · rw [hl]; simpa using this
    · split <;> omega⟩
theorem tok_del {T : List Rt} (h : TOk T) (p : Pf) : TOk (del T p) :=
  ⟨srt_del h.srt p, fun x hx => h.ok x (mem_del.1 hx).1, Nat.le_trans (List.length_filter_le ..) h.len⟩
/-- what Put answers, and what is then there -/
def putC (T : List Rt) (r : Rt) : Int := if right r then (if has T r.to then 0 else if T.length < 300 then 0 else 7) else 1
def putT (T : List Rt) (r : Rt) : List Rt := if right r then (if has T r.to then ins T r else if T.length < 300 then ins T r else T) else T
theorem putT_ok {T : List Rt} (h : TOk T) (r : Rt) : TOk (putT T r) := by
  unfold putT
  by_cases h1 : right r = true
  · rw [if_pos h1]
    by_cases h2 : has T r.to = true
    · rw [if_pos h2]; exact tok_ins h h1 (.inl h2)
    · rw [if_neg h2]
      by_cases h3 : T.length < 300
      · rw [if_pos h3]; exact tok_ins h h1 (.inr h3)
      · rw [if_neg h3]; exact h
  · rw [if_neg h1]; exact h
/-- two may come up, in either order -/
theorem held_two {P : Program} {ops : Array Oper} {Q : Exit → Act → World → Prop} {S : World → Prop} (i j : Nat) {oi oj : Oper} {fuel : Nat} {listed : Array Bool} {T : Array Value} {D : List Deferred} {w : World} (hi : ops[i]? = some oi) (hj : ops[j]? = some oj)
    (hr : Region.ready .any ops listed = [i, j]) (hwi : Region.wanted oi (yielded ops T) = true) (hwj : Region.wanted oj (yielded ops T) = true)
    (h : ∀ K' : Act → World → Prop, Shut (∀ T D w, S w → wpAnyH P .any ops Q S fuel (listed.setIfInBounds i true) ⟨T, D⟩ w → K' ⟨T, D⟩ w) → Oper.wp P oi ⟨T, D⟩ w K' Q)
    (h2 : ∀ K' : Act → World → Prop, Shut (∀ T D w, S w → wpAnyH P .any ops Q S fuel (listed.setIfInBounds j true) ⟨T, D⟩ w → K' ⟨T, D⟩ w) → Oper.wp P oj ⟨T, D⟩ w K' Q) : wpAnyH P .any ops Q S (fuel + 1) listed ⟨T, D⟩ w := by
  refine wpAnyH_ready hr (by simp) (AllReadyH.cons hi (fun K hK => ?_) (AllReadyH.cons hj (fun K hK => ?_) AllReadyH.nil))
  · rw [if_pos hwi]
    exact h K (fun T D w hS h => hK.out _ _ hS (fun _ => h))
  · rw [if_pos hwj]
    exact h2 K (fun T D w hS h => hK.out _ _ hS (fun _ => h))
end Tab
end Go.Proofs.Ytbeoclcnajfjcaa

/-
  Table.Drop; incs in memory. Conditions: those that each theorem names.
-/
namespace Go.Proofs.Ytbeoclcnajfjcaa
open Go Go.RowKit H2
set_option linter.unusedVariables false
set_option linter.unusedSimpArgs false
namespace Tab
structure In where
  kind : Int
  rt : Rt
  deriving DecidableEq, Inhabited
def encI (x : In) : List Value := .int .i64 x.kind :: encR x.rt
theorem encI_len (x : In) : (encI x).length = 21 := by simp [encI, encR_len]
def n21 : Nat := 21
theorem sz21 (w : World) : Sem.run Try.prog (Go.sizeOf 43) w = .ok n21 w := Try.sizeOf43 w
theorem encI_n (x : In) : (encI x).length = n21 := encI_len x
attribute [simp 10000] sz21
theorem n21_ne : (n21 = 0) = False := by unfold n21; simp
attribute [go_sem] encI_n n21_ne
theorem encI_one (r : In) : ∀ v ∈ encI r, v.oneCell' = true := fun v hv => by
  rcases List.mem_cons.1 hv with rfl | h
  · rfl
  · exact encR_one _ v h
structure IAt (w : World) (B o : Nat) (x : In) : Prop where
  all : At w B o (encI x)
theorem IAt.below {w w' : World} {B o : Nat} {x : In} (h : IAt w B o x) (hb : Below w.heap.size w w') : IAt w' B o x := ⟨h.all.below hb⟩
theorem IAt.drew {w : World} {B o : Nat} {x : In} (h : IAt w B o x) : IAt w.drew B o x := ⟨h.all⟩
theorem IAt.drewN {w : World} {B o : Nat} {x : In} (h : IAt w B o x) (n : Nat) : IAt (w.drewN n) B o x := ⟨h.all⟩
theorem IAt.kind {w : World} {B o : Nat} {x : In} (h : IAt w B o x) : w.cell? ⟨B, o, none⟩ = some (.int .i64 x.kind) := h.all.cons.1
theorem IAt.rt {w : World} {B o : Nat} {x : In} (h : IAt w B o x) : RAt w B (o + 1) x.rt := ⟨h.all.cons.2⟩
theorem IAt.lt {w : World} {B o : Nat} {x : In} (h : IAt w B o x) : B < w.heap.size := World.block_lt_of_cell? w ⟨B, o, none⟩ h.kind
theorem iAt_new (w : World) (x : In) (T : TypeId) (fr : Nat × Nat) : IAt (w.alloc (.cells (encI x).toArray T fr)) w.heap.size 0 x := ⟨at_new w _ T fr⟩
/-- what Drop answers -/
def dropC (T : List Rt) (p : Pf) : Int := if has T p then 0 else 8
set_option maxRecDepth 100000 in
set_option maxHeartbeats 8000000 in
theorem drop_anyK {base : Nat} {b : Nat} {v : Value} {T : List Rt} (p : Pf) (w : World) (h : Tb base w b v T) :
    Calls Try.prog 14 #[.pointer (some ⟨b, 0, none⟩), .agg (encP p).toArray] w fun e w' => ∃ v', e = .returned (.int .i64 (dropC T p)) ∧ Tb base w' b v' (del T p) ∧ Only (fun k => k = b ∨ v.ownBlock = some k) w w' ∧ Kin w v v' := by
  have HT := Lib.hid h
  have HF := Lib.hid (fun (W : World) (hb : Below w.heap.size w W) => find_any p W (HT.out.below hb))
  have HO0 := Lib.hid (fun (W : World) (hb : Below w.heap.size w W) => (Only.refl (fun k => k = b ∨ v.ownBlock = some k) w).of_below hb)
  have HN := Lib.hid h.tok.len
  have HBW := Lib.hid h.lt
  clear h
  by_cases hh : has T p = true
  · have HH := Lib.hid hh
    have HC := Lib.hid (show dropC T p = 0 by unfold dropC; rw [if_pos hh])
    have HD := Lib.hid (del_has HT.out.tok.srt hh)
    have HTK := Lib.hid (tok_del HT.out.tok p)
    have hxn0 := ((pos_has HT.out.tok.srt p).1 hh).1
    obtain ⟨k, hk⟩ : ∃ k, T.length = k + 1 := ⟨T.length - 1, by omega⟩
    obtain ⟨x, hx⟩ : ∃ x, pos T p = x := ⟨_, rfl⟩
    rw [hx] at HF HD hxn0
    rw [hk] at hxn0
    have hor := HT.out.own
    obtain ⟨g, cap, rfl, hbg, hc, hgl⟩ := own_form hor (by omega)
    rw [hk] at hor
    have HDEL := Lib.hid (fun (W : World) (hb : Below w.heap.size w W) => delete_any W base g k cap T x (own_below hor hb) hk hxn0 (by have := HN.out; omega))
    have HTC := Lib.hid (fun (W : World) (hb : Below w.heap.size w W) => (HT.out.below hb).cell)
    have HBL := Lib.hid HT.out.blk
    have HGB := Lib.hid (show b ≠ g from fun e => own_ne hor HT.out.blk (by subst e; rfl))
    have HLO := Lib.hid HT.out.lo
    rw [hk] at HTC HBL HO0 HN ⊢
    rw [HD.out] at HDEL
    have HNX := Lib.hid (show (x : Int) + 1 ≤ 1000 by have := HN.out; omega)
    clear hh hx hk hor HT hxn0 HD hbg hc hgl
    go_enter Try.func14, Try.ntmps14
    go_upto_region 1 with fail
    have H := Lib.hid (PAt.mk (at_new w (encP p) 25 (0, 0)))
    have hb := Lib.hid (show Below w.heap.size w (w.alloc (.cells (encP p).toArray 25 (0, 0))) from (Below.refl _ _).alloc (Nat.le_refl _) _)
    generalize w.alloc _ = W at H hb ⊢
    generalize w.heap.size = B at H ⊢
    have c0 := H.out.all.load (k := n18) (encP_n _) Try.prog
    go_upto_region 2 with (go_at_call 41; (with_reducible refine (HF.out _ hb.out).mono ?_); rintro e w2 ⟨rfl, hb2⟩; rw [HH.out]; have hb := Lib.hid (hb.out.trans (hb2.mono hb.out.size)); clear hb2 c0)
    have d0 := HTC.out _ hb.out
    have hw2 : IntKind.i64.wrap ((x : Int) + 1) = (x : Int) + 1 := IntWalk.i64_in _ (by have := HNX.out; omega)
    go_upto_region 7 with (go_at_call 43; (with_reducible refine (HDEL.out _ hb.out).mono ?_); rintro e w6 ⟨v', rfl, h1, h2, hk6⟩; obtain ⟨A', cap', hv', _⟩ := own_rv h1; obtain rfl := hv'.eq; have HK6 := Lib.hid (hk6.up hb.out.size); clear hk6; have HO6 := Lib.hid h1; have HB6 := Lib.hid ((h2.block b (Nat.lt_of_lt_of_le HBW.out hb.out.size) HGB.out).trans ((hb.out.block b HBW.out).trans HBL.out)); have e1 := blk_cell HB6.out 0; have e2 := blk_free HB6.out 0; have HOY := Lib.hid ((HO0.out _ hb.out).trans h2 (fun i _ e => .inr (by subst e; rfl))); clear h1 h2 hv' d0)
    clear e1 e2
    go_wp2
    go_ret
    rw [HC.out]
    exact ⟨_, rfl, tb_set HB6.out HO6.out HTK.out HLO.out, Only.setCell HOY.out (p := ⟨b, 0, none⟩) (fun _ => .inl rfl) _, HK6.out⟩
  · have hh' : has T p = false := by simpa using hh
    have HH := Lib.hid hh'
    have HC := Lib.hid (show dropC T p = 8 ∧ del T p = T by unfold dropC; rw [if_neg hh]; exact ⟨rfl, del_not hh'⟩)
    clear hh hh'
    go_enter Try.func14, Try.ntmps14
    go_upto_region 1 with fail
    have H := Lib.hid (PAt.mk (at_new w (encP p) 25 (0, 0)))
    have hb := Lib.hid (show Below w.heap.size w (w.alloc (.cells (encP p).toArray 25 (0, 0))) from (Below.refl _ _).alloc (Nat.le_refl _) _)
    generalize w.alloc _ = W at H hb ⊢
    generalize w.heap.size = B at H ⊢
    have c0 := H.out.all.load (k := n18) (encP_n _) Try.prog
    go_upto_region 2 with (go_at_call 41; (with_reducible refine (HF.out _ hb.out).mono ?_); rintro e w2 ⟨rfl, hb2⟩; rw [HH.out]; have hb := Lib.hid (hb.out.trans (hb2.mono hb.out.size)); clear hb2 c0)
    go_wp2
    go_ret
    rw [HC.out.1, HC.out.2]
    exact ⟨_, rfl, HT.out.below hb.out, HO0.out _ hb.out, Kin.same _ _⟩
theorem drop_any {base : Nat} {b : Nat} {v : Value} {T : List Rt} (p : Pf) (w : World) (h : Tb base w b v T) :
    Calls Try.prog 14 #[.pointer (some ⟨b, 0, none⟩), .agg (encP p).toArray] w fun e w' => ∃ v', e = .returned (.int .i64 (dropC T p)) ∧ Tb base w' b v' (del T p) ∧ Only (fun k => k = b ∨ v.ownBlock = some k) w w' :=
  (drop_anyK p w h).mono fun e w' ⟨v', he, h1, h2, _⟩ => ⟨v', he, h1, h2⟩
end Tab
end Go.Proofs.Ytbeoclcnajfjcaa

/-
  What Table.Do answers, in plain Lean. Conditions: those that each theorem names.
-/
namespace Go.Proofs.Ytbeoclcnajfjcaa
set_option linter.unusedVariables false
namespace Tab
def doC (T : List Rt) (x : In) : Int :=
  if x.kind = 3 then (if x.rt.metric = 0 ∧ x.rt.seq = 0 ∧ rightP x.rt.to = true then dropC T x.rt.to else 1)
  else if (x.kind = 1 ∨ x.kind = 2) ∧ right x.rt = true then
    (if x.kind = 1 ∧ has T x.rt.to = true then 9 else if x.kind = 2 ∧ has T x.rt.to = false then 8 else putC T x.rt)
  else 1
def doT (T : List Rt) (x : In) : List Rt :=
  if x.kind = 3 then (if x.rt.metric = 0 ∧ x.rt.seq = 0 ∧ rightP x.rt.to = true then del T x.rt.to else T)
  else if (x.kind = 1 ∨ x.kind = 2) ∧ right x.rt = true then
    (if x.kind = 1 ∧ has T x.rt.to = true then T else if x.kind = 2 ∧ has T x.rt.to = false then T else putT T x.rt)
  else T

theorem doK {T : List Rt} {p : Pf} {m q k : Int} {hv : Bool} (hk : k = 1 ∨ k = 2) (hr : right ⟨p, m, q⟩ = true) (h : has T p = hv) :
    doC T ⟨k, ⟨p, m, q⟩⟩ = (if k = 1 ∧ hv = true then 9 else if k = 2 ∧ hv = false then 8 else putC T ⟨p, m, q⟩) ∧ doT T ⟨k, ⟨p, m, q⟩⟩ = (if k = 1 ∧ hv = true then T else if k = 2 ∧ hv = false then T else putT T ⟨p, m, q⟩) := by
  subst h
  unfold doC doT
  have h3 : ¬ k = 3 := by omega
  have h4 : (k = 1 ∨ k = 2) ∧ right ⟨p, m, q⟩ = true := ⟨hk, hr⟩
  dsimp only
  rw [if_neg h3, if_neg h3, if_pos h4, if_pos h4]
  exact ⟨rfl, rfl⟩
theorem do_bad {T : List Rt} {p : Pf} {m q k : Int} (h3 : ¬ k = 3) (h4 : ¬ ((k = 1 ∨ k = 2) ∧ right ⟨p, m, q⟩ = true)) : doC T ⟨k, ⟨p, m, q⟩⟩ = 1 ∧ doT T ⟨k, ⟨p, m, q⟩⟩ = T := by
  unfold doC doT
  dsimp only
  rw [if_neg h3, if_neg h3, if_neg h4, if_neg h4]
  exact ⟨rfl, rfl⟩
theorem do_put1 {T : List Rt} {p : Pf} {m q : Int} (hr : right ⟨p, m, q⟩ = true) (h : has T p = false) : doC T ⟨1, ⟨p, m, q⟩⟩ = putC T ⟨p, m, q⟩ ∧ doT T ⟨1, ⟨p, m, q⟩⟩ = putT T ⟨p, m, q⟩ := doK (.inl rfl) hr h
theorem do_there {T : List Rt} {p : Pf} {m q : Int} (hr : right ⟨p, m, q⟩ = true) (h : has T p = true) : doC T ⟨1, ⟨p, m, q⟩⟩ = 9 ∧ doT T ⟨1, ⟨p, m, q⟩⟩ = T := doK (.inl rfl) hr h
theorem do_away {T : List Rt} {p : Pf} {m q : Int} (hr : right ⟨p, m, q⟩ = true) (h : has T p = false) : doC T ⟨2, ⟨p, m, q⟩⟩ = 8 ∧ doT T ⟨2, ⟨p, m, q⟩⟩ = T := doK (.inr rfl) hr h
theorem do_put2 {T : List Rt} {p : Pf} {m q : Int} (hr : right ⟨p, m, q⟩ = true) (h : has T p = true) : doC T ⟨2, ⟨p, m, q⟩⟩ = putC T ⟨p, m, q⟩ ∧ doT T ⟨2, ⟨p, m, q⟩⟩ = putT T ⟨p, m, q⟩ := doK (.inr rfl) hr h
end Tab
end Go.Proofs.Ytbeoclcnajfjcaa

/-
  Incs: values built, rows of them, append, '=='. Conditions: those that each theorem names.
-/
namespace Go.Proofs.Ytbeoclcnajfjcaa
open Go Go.RowKit H2
set_option linter.unusedVariables false
set_option linter.unusedSimpArgs false
namespace Tab
def zI : In := ⟨0, zR⟩
theorem build_I (k : Int) (r : Rt) (w : World) : (Instr.build 43 #[(0, .int .i64 k), (1, .agg (encR r).toArray)]).run Try.prog w = .ok (.agg (encI ⟨k, r⟩).toArray) w := by
  obtain ⟨⟨s, a, n⟩, m, q⟩ := r
  obtain ⟨a0, a1, a2, a3, a4, a5, a6, a7, a8, a9, a10, a11, a12, a13, a14, a15, rfl⟩ := vec16 a
  kernel_rfl
theorem row_I1 (x : In) (w : World) : (Instr.buildSlice 58 1 #[(0, .agg (encI x).toArray)]).run Try.prog w = .ok (.slice (some ⟨w.heap.size, 0, none⟩) 1 1) (w.alloc (.cells (encI x).toArray 43 (0, 0))) := by
  obtain ⟨k, ⟨⟨s, a, n⟩, m, q⟩⟩ := x
  obtain ⟨a0, a1, a2, a3, a4, a5, a6, a7, a8, a9, a10, a11, a12, a13, a14, a15, rfl⟩ := vec16 a
  kernel_rfl
theorem infoI : (Try.prog.info? 43).map (fun i => (i.zero, i.size, i.bytes)) = some (some (.agg (encI zI).toArray), 21, 56) := by kernel_rfl
theorem infoI' : ∃ i0 : TypeInfo, Try.prog.info? 43 = some i0 ∧ i0.zero = some (.agg (encI zI).toArray) ∧ i0.size = 21 ∧ i0.bytes = 56 := by
  obtain ⟨i0, h1, h2, h3, h4⟩ := info_parts infoI
  exact ⟨i0, h1, h2, h3, h4⟩
def flatI (L : List In) : List Value := L.flatMap encI
theorem flatI_cons (r : In) (L : List In) : flatI (r :: L) = encI r ++ flatI L := rfl
theorem flatI_app (A B : List In) : flatI (A ++ B) = flatI A ++ flatI B := by simp [flatI]
theorem flatI_one (r : In) : flatI [r] = encI r := by simp [flatI]
theorem flatI_len : ∀ L : List In, (flatI L).length = L.length * 21
  | [] => rfl
  | r :: L => by rw [flatI_cons, List.length_append, encI_len, flatI_len L, List.length_cons]; omega
theorem flatI_get : ∀ (L : List In) (i j : Nat) (hi : i < L.length), j < 21 → (flatI L)[i * 21 + j]? = (encI L[i])[j]?
  | [], i, j, hi, _ => by simp at hi
  | r :: L, 0, j, _, hj => by rw [flatI_cons, Nat.zero_mul, Nat.zero_add, List.getElem?_append_left (by rw [encI_len]; exact hj)]; rfl
  | r :: L, i + 1, j, hi, hj => by
    rw [flatI_cons, List.getElem?_append_right (by rw [encI_len]; omega), encI_len, show (i + 1) * 21 + j - 21 = i * 21 + j by omega, flatI_get L i j (by simpa using hi) hj]
    rfl
theorem flatI_one' (L : List In) : ∀ v ∈ flatI L, v.oneCell' = true := fun v hv => by
  obtain ⟨r, _, h⟩ := List.mem_flatMap.1 hv
  exact encI_one r v h
/-- incs that are read -/
def RdI (W : World) (A : Option Addr) (L : List In) : Prop := ∀ i (h : i < L.length), ∃ b o, A = some ⟨b, o, none⟩ ∧ IAt W b (o + i * 21) L[i]
structure RvI (W : World) (v : Value) (A : Option Addr) (cap : Nat) (L : List In) : Prop where
  eq : v = .slice A L.length cap
  len : L.length ≤ cap
  capm : cap ≤ maxLen
  rd : RdI W A L
  nil : A = none → cap = 0
theorem RdI.below {w w' : World} {A : Option Addr} {L : List In} (h : RdI w A L) (hb : Below w.heap.size w w') : RdI w' A L := fun i hi => by
  obtain ⟨b, o, e, hr⟩ := h i hi
  exact ⟨b, o, e, hr.below hb⟩
theorem RdI.drewN {w : World} {A : Option Addr} {L : List In} (h : RdI w A L) (n : Nat) : RdI (w.drewN n) A L := fun i hi => by
  obtain ⟨b, o, e, hr⟩ := h i hi
  exact ⟨b, o, e, hr.drewN n⟩
theorem RvI.below {w w' : World} {v : Value} {A : Option Addr} {cap : Nat} {L : List In} (h : RvI w v A cap L) (hb : Below w.heap.size w w') : RvI w' v A cap L := ⟨h.eq, h.len, h.capm, h.rd.below hb, h.nil⟩
theorem ownI_rv {w : World} {base : Nat} {v : Value} {L : List In} (h : w.ownsRow base 43 21 v L.length (flatI L)) : ∃ A cap, RvI w v A cap L := by
  have h' := h
  rcases h.2 with ⟨rfl, h0⟩ | ⟨g, cap, cur, rfl, hb, hh, hn, hm, _⟩
  · exact ⟨none, 0, by rw [h0], by omega, by decide, fun i hi => by omega, fun _ => rfl⟩
  · exact ⟨some ⟨g, 0, none⟩, cap, rfl, hn, hm, fun i hi => ⟨g, 0, rfl, ⟨fun j u hj => by
      have hj20 : j < 21 := by
        have := (List.getElem?_eq_some_iff.1 hj).1
        rwa [encI_len] at this
      have := own_at h' (i * 21 + j) u (by rw [flatI_get L i j hi hj20]; exact hj)
      rwa [← Nat.add_assoc] at this⟩⟩, fun e => by cases e⟩
/-- append of one -/
theorem appI_run (w : World) (base : Nat) (v : Value) (L : List In) (x : In) (ty : TypeId) (ho : w.ownsRow base 43 21 v L.length (flatI L)) (bv c : Nat) (hx : w.heap[bv]? = some (.cells (encI x).toArray 43 (0, 0)))
    (hl : L.length ≤ 100000) (hb : base ≤ w.heap.size) :
    ∃ v' w', (Builtin.append_ #[58, 58] ty #[v, .slice (some ⟨bv, 0, none⟩) 1 c]).run Try.prog w = .ok v' w' ∧ w'.ownsRow base 43 21 v' (L ++ [x]).length (flatI (L ++ [x])) ∧ w.grownBy w' v.ownBlock := by
  obtain ⟨i0, hi, hz0, hz1, hz2⟩ := infoI'
  have hnews : ∀ j u, (flatI [x])[j]? = some u → w.cell? ((⟨bv, 0, none⟩ : Addr).add j) = some u := fun j u hj => by
    rw [flatI_one] at hj
    rw [Addr.add_lit]
    exact at_row hx j u hj
  obtain ⟨v', w', hrun, h2, h3, _⟩ := run_append_own (P := Try.prog) w base 58 ty 43 i0 _ 21 56 Try.underlying58 hi hz0 hz1 hz2 (by simp [Value.cells, encI_len]) (by omega) v L.length (flatI L) ho ⟨bv, 0, none⟩ 1 c (flatI [x]) (flatI_len [x]) hnews (flatI_one' [x]) (by unfold maxLen; omega) (by omega) hb
  exact ⟨v', w', hrun, by rw [flatI_app, List.length_append]; exact h2, h3⟩
theorem encI_get (x : In) : (encI x)[0]? = some (.int .i64 x.kind) := rfl
theorem run_eq_inc (d : Nat) (w : World) (p q : In) : (Op.equalIn (d + 5) 43 (.agg (encI p).toArray) (.agg (encI q).toArray)).run Try.prog w = .ok (decide (p = q)) w := by
  have hS : Try.prog.underlying 43 = some (.struct (Try.prog.fieldsOf 43)) := by kernel_rfl
  have hp : Try.prog.stoodInHeld 43 = false := by kernel_rfl
  have hf : ∃ f0 f1 : Field, (Try.prog.fieldsOf 43).toList = [f0, f1] ∧ (f0.name ≠ "_" ∧ f0.type = 3 ∧ f0.offset = 0) ∧ (f1.name ≠ "_" ∧ f1.type = 34 ∧ f1.offset = 1) := by
    simp only [Program.fieldsOf, Try.underlying43]
    exact ⟨_, _, rfl, ⟨by decide, rfl, rfl⟩, ⟨by decide, rfl, rfl⟩⟩
  obtain ⟨f0, f1, hl, ⟨n0, t0, o0⟩, ⟨n1, t1, o1⟩⟩ := hf
  rw [run_equalIn_agg w (d + 4) _ _ _ hS hp, hl]
  have b1 : ∀ w, (isAgg 3).run Try.prog w = .ok false w := fun w => Try.isAgg3 w
  have b0 : ∀ w, (isAgg 34).run Try.prog w = .ok true w := fun w => Try.isAgg34 w
  have z0 : ∀ w, (Go.sizeOf 34).run Try.prog w = .ok 20 w := fun w => Try.sizeOf34 w
  have g0 : ∀ p : In, (part 34 (encI p).toArray 1).run Try.prog w = .ok (.agg (encR p.rt).toArray) w := fun p => by
    have := part_agg (t := 34) (a := [.int .i64 p.kind]) (b := encR p.rt) (c := []) (encR_len _) rfl b0 z0 w
    rwa [List.append_nil] at this
  rw [eqFields_cons (r := decide (p.kind = q.kind)) n0 (by rw [t0, o0]; exact part_one (encI_get p) b1 w) (by rw [t0, o0]; exact part_one (encI_get q) b1 w) (by rw [t0, run_equalIn_int w (d + 3) _ .i64 .i64 _ _ Try.underlying3]; congr 1)]
  rw [eqFields_cons (r := decide (p.rt = q.rt)) n1 (by rw [t1, o1]; exact g0 p) (by rw [t1, o1]; exact g0 q) (by rw [t1]; exact run_eq_route d w _ _)]
  obtain ⟨s1, a1⟩ := p
  obtain ⟨s2, a2⟩ := q
  by_cases h0 : s1 = s2 <;> by_cases h1 : a1 = a2 <;> simp [h0, h1, Op.eqFields]
theorem neqI (p q : In) (w : World) : (binOp .neq 43 (.agg (encI p).toArray) (.agg (encI q).toArray)).run Try.prog w = .ok (.bool (!decide (p = q))) w := by rw [run_neq_struct, run_eq_inc]; rfl
attribute [go_sem 10000] neqI
end Tab
end Go.Proofs.Ytbeoclcnajfjcaa

/-
  The changes from one table to another: plain list, and the laws its walk needs. Conditions: those that each theorem names.
-/
namespace Go.Proofs.Ytbeoclcnajfjcaa
open Go Go.RowKit H2
set_option linter.unusedVariables false
set_option linter.unusedSimpArgs false
namespace Tab
def gone (x : Rt) : In := ⟨3, ⟨x.to, 0, 0⟩⟩
/-- what turns the one into the other -/
def chg : List Rt → List Rt → List In
  | [], [] => []
  | [], y :: B => ⟨1, y⟩ :: chg [] B
  | x :: A, [] => gone x :: chg A []
  | x :: A, y :: B => if cmpP x.to y.to < 0 then gone x :: chg A (y :: B) else if 0 < cmpP x.to y.to then ⟨1, y⟩ :: chg (x :: A) B else if x = y then chg A B else ⟨2, y⟩ :: chg A B
termination_by A B => A.length + B.length
theorem chg_nn : chg [] [] = [] := by rw [chg]
theorem chg_n (y : Rt) (B : List Rt) : chg [] (y :: B) = ⟨1, y⟩ :: chg [] B := by rw [chg]
theorem chg_c (x : Rt) (A : List Rt) : chg (x :: A) [] = gone x :: chg A [] := by rw [chg]
theorem chg_cc (x y : Rt) (A B : List Rt) : chg (x :: A) (y :: B) = if cmpP x.to y.to < 0 then gone x :: chg A (y :: B) else if 0 < cmpP x.to y.to then ⟨1, y⟩ :: chg (x :: A) B else if x = y then chg A B else ⟨2, y⟩ :: chg A B := by rw [chg]
theorem chg_len : ∀ (n : Nat) (A B : List Rt), A.length + B.length ≤ n → (chg A B).length ≤ n
  | 0, [], [], _ => by rw [chg_nn]; exact Nat.le_refl _
  | 0, _ :: _, _, h => by simp at h
  | 0, [], _ :: _, h => by simp at h
  | n + 1, [], [], _ => by rw [chg_nn]; simp
  | n + 1, [], y :: B, h => by
    rw [chg_n, List.length_cons]
    exact Nat.succ_le_succ (chg_len n [] B (by simp at h ⊢; omega))
  | n + 1, x :: A, [], h => by
    rw [chg_c, List.length_cons]
    exact Nat.succ_le_succ (chg_len n A [] (by simp at h ⊢; omega))
  | n + 1, x :: A, y :: B, h => by
    rw [chg_cc]
    simp only [List.length_cons] at h
    split
    · rw [List.length_cons]; exact Nat.succ_le_succ (chg_len n A (y :: B) (by simp; omega))
    · split
      · rw [List.length_cons]; exact Nat.succ_le_succ (chg_len n (x :: A) B (by simp; omega))
      · split
        · exact Nat.le_succ_of_le (chg_len n A B (by omega))
        · rw [List.length_cons]; exact Nat.succ_le_succ (chg_len n A B (by omega))
/-- what has been gathered -/
structure Gat (wl w : World) (v : Value) (D : List In) : Prop where
  own : w.ownsRow wl.heap.size 43 21 v D.length (flatI D)
  bel : Below wl.heap.size wl w
theorem Gat.below {wl w w' : World} {v : Value} {D : List In} (h : Gat wl w v D) (hb : Below w.heap.size w w') : Gat wl w' v D := ⟨own_below h.own hb, h.bel.trans (hb.mono h.bel.size)⟩
theorem Gat.drewN {wl w : World} {v : Value} {D : List In} (h : Gat wl w v D) (n : Nat) : Gat wl (w.drewN n) v D := h.below (bdN (Below.refl _ _) _)
theorem gat_nil (wl : World) : Gat wl wl (.slice none 0 0) [] := ⟨World.ownsRow_nil _ _ _ _, Below.refl _ _⟩
theorem wpList_appI {ops : Array Oper} {rest : List Oper} {o : Oper} {a : Act} {wl W : World} {Q : Exit → Act → World → Prop} (hgd : o.guard = none) (s x : Operand) (ho : o.op = .call { callee := .builtin .append, args := #[s, x], argTypes := #[58, 58] }) (v : Value) (i : In) (D : List In)
    (hs : a.eval s = v) (hx : a.eval x = .slice (some ⟨W.heap.size, 0, none⟩) 1 1) (h : Gat wl W v D) (hl : D.length ≤ 100000)
    (hK : ∀ v' w', Gat wl w' v' (D ++ [i]) → (∃ A n c, v' = .slice A n c) → wpList Try.prog ops Q rest (a.put o.dst v') w') : wpList Try.prog ops Q (o :: rest) a (W.alloc (.cells (encI i).toArray 43 (0, 0))) := by
  obtain ⟨v', w', hr, h1, h2⟩ := appI_run (W.alloc (.cells (encI i).toArray 43 (0, 0))) wl.heap.size v D i o.type (h.own.alloc _) W.heap.size 1 (heap_alloc_new W _) hl (Nat.le_trans h.bel.size (by simp))
  refine wpList_append_run hgd s x 58 ho _ _ hs hx hr (hK v' w' ⟨h1, ?_⟩ ?_)
  · refine ((Only.refl (fun k => v.ownBlock = some k) wl).of_below (h.bel.alloc h.bel.size _)).grown h2 (fun k hk _ => hk) |>.below (Nat.le_refl _) (fun k hk e => ?_)
    rcases h.own.2 with ⟨rfl, _⟩ | ⟨g, cap, cur, rfl, hg, _⟩
    · cases e
    · simp only [Value.ownBlock, Option.some.injEq] at e
      omega
  · obtain ⟨A, c, hv⟩ := ownI_rv h1
    exact ⟨A, _, c, hv.eq⟩
theorem wpList_slice_run {P : Program} {ops : Array Oper} {rest : List Oper} {o : Oper} {a : Act} {w w' : World} {Q : Exit → Act → World → Prop} (hgd : o.guard = none) (t : TypeId) (x : Operand) (lo hi mx : Option Operand) (ho : o.op = .slice t x lo hi mx) (u : Value) (l h m : Option Value) (hx : a.eval x = u) (hl : lo.map a.eval = l) (hh : hi.map a.eval = h) (hm : mx.map a.eval = m) {v' : Value}
    (hr : (Instr.sliceAt t u l h m).run P w = .ok v' w') (hK : wpList P ops Q rest (a.put o.dst v') w') : wpList P ops Q (o :: rest) a w := by
  refine wpList_plain hgd fun K hK' => ?_
  unfold Oper.wp execOp
  simp only [ho, hx, hl, hh, hm, hr, Sem.run_bind, Result.andThen_ok, Sem.run_pure]
  exact hK' _ _ hK
theorem tail_run (b o n c : Nat) (hc : n + 1 ≤ c) : ∃ A', (∀ w, (Instr.sliceAt 31 (.slice (some ⟨b, o, none⟩) (n + 1) c) (some (.int .i64 1)) none none).run Try.prog w = .ok (.slice A' n (c - 1)) w) ∧ (0 < n → A' = some ⟨b, o + n20, none⟩) := by
  have h1 : (1 : Int) ≤ (n : Int) + 1 := by omega
  have h2 : (n : Int) + 1 ≤ (c : Int) := by omega
  by_cases hc1 : c = 1
  · obtain rfl : n = 0 := by omega
    subst hc1
    exact ⟨some ⟨b, o, none⟩, fun w => by simp [Instr.sliceAt, go_sem], fun h => by omega⟩
  · exact ⟨some ⟨b, o + n20, none⟩, fun w => by simp [Instr.sliceAt, go_sem, hc1, h1, h2], fun _ => rfl⟩
end Tab
end Go.Proofs.Ytbeoclcnajfjcaa

/-
  What table.New makes, in plain Lean. Conditions: those that each theorem names.
-/
namespace Go.Proofs.Ytbeoclcnajfjcaa
set_option linter.unusedVariables false
namespace Tab
/-- two to one prefix -/
def dup (L : List Rt) : Bool := !decide (L.map Rt.to).Nodup
/-- one by one -/
def fold (L : List Rt) : List Rt := L.foldl ins []
def newC (L : List Rt) : Int := if L.any (fun r => !right r) = true then 1 else if dup L = true then 9 else if 300 < L.length then 7 else 0
theorem srt_of {L L' : List Rt} (h : SrtOf L L') (hd : dup L = false) : Srt L' := by
  have hn : (L.map Rt.to).Nodup := by unfold dup at hd; simpa using hd
  have hn' : (L'.map Rt.to).Nodup := (h.perm.map Rt.to).nodup_iff.2 hn
  unfold List.Nodup at hn'
  rw [List.pairwise_map] at hn'
  refine (List.Pairwise.and h.ord hn').imp (fun {a b} ⟨h1, h2⟩ => ?_)
  rcases not_lt h1 with e | e
  · exact absurd e.symm h2
  · exact e
theorem mem_fold : ∀ (L T : List Rt), Srt T → (L.map Rt.to).Nodup → (∀ r ∈ L, ∀ x ∈ T, x.to ≠ r.to) → Srt (L.foldl ins T) ∧ (∀ x, x ∈ L.foldl ins T ↔ x ∈ L ∨ x ∈ T) ∧ (L.foldl ins T).length = L.length + T.length
  | [], T, hs, _, _ => ⟨hs, fun x => by simp, by simp⟩
  | r :: L, T, hs, hn, hd => by
    rw [List.map_cons, List.nodup_cons] at hn
    have hT : ∀ q ∈ L, ∀ x ∈ ins T r, x.to ≠ q.to := fun q hq x hx e => by
      rcases (mem_ins hs).1 hx with rfl | ⟨h1, _⟩
      · exact hn.1 (e ▸ List.mem_map_of_mem hq)
      · exact hd q (List.mem_cons_of_mem _ hq) x h1 e
    obtain ⟨h1, h2, h3⟩ := mem_fold L (ins T r) (srt_ins hs r) hn.2 hT
    rw [List.foldl_cons]
    refine ⟨h1, fun x => ?_, ?_⟩
    · rw [h2, mem_ins hs, List.mem_cons]
      constructor
      · rintro (h | h | h)
        · exact .inl (.inr h)
        · exact .inl (.inl h)
        · exact .inr h.1
      · rintro ((h | h) | h)
        · exact .inr (.inl h)
        · exact .inl h
        · exact .inr (.inr ⟨h, hd r (List.mem_cons_self ..) x h⟩)
    · have hh : has T r.to = false := has_false.2 (hd r (List.mem_cons_self ..))
      rw [h3, len_ins hs, hh, List.length_cons]
      simp
      omega
theorem fold_of {L : List Rt} (hd : dup L = false) : Srt (fold L) ∧ (∀ x, x ∈ fold L ↔ x ∈ L) ∧ (fold L).length = L.length := by
  have hn : (L.map Rt.to).Nodup := by unfold dup at hd; simpa using hd
  obtain ⟨h1, h2, h3⟩ := mem_fold L [] srt_nil hn (fun _ _ x hx => by cases hx)
  exact ⟨h1, fun x => by rw [show fold L = L.foldl ins [] from rfl, h2]; simp, by show (L.foldl ins []).length = _; simpa using h3⟩
theorem sort_fold {L L' : List Rt} (h : SrtOf L L') (hd : dup L = false) : L' = fold L :=
  srt_ext (srt_of h hd) (fold_of hd).1 (fun r => by rw [(fold_of hd).2.1, h.perm.mem_iff])
/-- two alike are neighbours -/
theorem no_dup {L L' : List Rt} (h : SrtOf L L') (ha : ∀ i (hi : i + 1 < L'.length), L'[i].to ≠ L'[i + 1].to) : dup L = false := by
  have key : ∀ (M : List Rt), M.Pairwise (fun a b => ¬ Lt b.to a.to) → (∀ i (hi : i + 1 < M.length), M[i].to ≠ M[i + 1].to) → (M.map Rt.to).Nodup := by
    intro M
    induction M with
    | nil => intro _ _; exact List.nodup_nil
    | cons x M ih =>
      intro ho ha
      rw [List.pairwise_cons] at ho
      rw [List.map_cons, List.nodup_cons]
      refine ⟨fun hm => ?_, ih ho.2 (fun i hi => ha (i + 1) (by simpa using hi))⟩
      obtain ⟨y, hy, e⟩ := List.mem_map.1 hm
      cases M with
      | nil => cases hy
      | cons z M =>
        have h0 := ha 0 (by simp)
        simp only [List.getElem_cons_zero, List.getElem_cons_succ] at h0
        have h1 := ho.1 z (List.mem_cons_self ..)
        have h2 : Lt x.to z.to := (not_lt h1).resolve_left (fun e => h0 e.symm)
        rcases List.mem_cons.1 hy with rfl | hy
        · exact h0 e.symm
        · have h3 := (List.pairwise_cons.1 ho.2).1 y hy
          rw [e] at h3
          exact h3 h2
  have := key L' h.ord ha
  unfold dup
  rw [(h.perm.map Rt.to).nodup_iff] at this
  simpa using this
theorem is_dup {L L' : List Rt} (h : SrtOf L L') {i : Nat} (hi : i + 1 < L'.length) (e : L'[i].to = L'[i + 1].to) : dup L = true := by
  unfold dup
  have : ¬ (L.map Rt.to).Nodup := fun hn => by
    have hn' := (h.perm.map Rt.to).nodup_iff.2 hn
    unfold List.Nodup at hn'
    rw [List.pairwise_map] at hn'
    exact (List.pairwise_iff_getElem.1 hn') i (i + 1) (by omega) hi (by omega) e
  simpa using this
end Tab
end Go.Proofs.Ytbeoclcnajfjcaa
