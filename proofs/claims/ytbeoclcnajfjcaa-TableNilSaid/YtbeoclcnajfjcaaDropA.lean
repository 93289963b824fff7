/-
  Table.Drop; incs in memory. Conditions: those that each theorem names.
-/
import Derived.Test.YtbeoclcnajfjcaaPutA
namespace Go.Proofs.Ytbeoclcnajfjcaa
open Go Go.RowKit H2
set_option linter.unusedVariables false
set_option linter.unusedSimpArgs false
namespace Tab
structure In where
  kind : Int
  rt : Rt
  deriving DecidableEq, Inhabited
def encI (x : In) : List Value := .int .i64 x.kind :: encR x.rt
theorem encI_len (x : In) : (encI x).length = 21 := by simp [encI, encR_len]
def n21 : Nat := 21
theorem sz21 (w : World) : Sem.run Try.prog (Go.sizeOf 43) w = .ok n21 w := Try.sizeOf43 w
theorem encI_n (x : In) : (encI x).length = n21 := encI_len x
attribute [simp 10000] sz21
theorem n21_ne : (n21 = 0) = False := by unfold n21; simp
attribute [go_sem] encI_n n21_ne
theorem encI_one (r : In) : ∀ v ∈ encI r, v.oneCell' = true := fun v hv => by
  rcases List.mem_cons.1 hv with rfl | h
  · rfl
  · exact encR_one _ v h
structure IAt (w : World) (B o : Nat) (x : In) : Prop where
  all : At w B o (encI x)
theorem IAt.below {w w' : World} {B o : Nat} {x : In} (h : IAt w B o x) (hb : Below w.heap.size w w') : IAt w' B o x := ⟨h.all.below hb⟩
theorem IAt.drew {w : World} {B o : Nat} {x : In} (h : IAt w B o x) : IAt w.drew B o x := ⟨h.all⟩
theorem IAt.drewN {w : World} {B o : Nat} {x : In} (h : IAt w B o x) (n : Nat) : IAt (w.drewN n) B o x := ⟨h.all⟩
theorem IAt.kind {w : World} {B o : Nat} {x : In} (h : IAt w B o x) : w.cell? ⟨B, o, none⟩ = some (.int .i64 x.kind) := h.all.cons.1
theorem IAt.rt {w : World} {B o : Nat} {x : In} (h : IAt w B o x) : RAt w B (o + 1) x.rt := ⟨h.all.cons.2⟩
theorem IAt.lt {w : World} {B o : Nat} {x : In} (h : IAt w B o x) : B < w.heap.size := World.block_lt_of_cell? w ⟨B, o, none⟩ h.kind
theorem iAt_new (w : World) (x : In) (T : TypeId) (fr : Nat × Nat) : IAt (w.alloc (.cells (encI x).toArray T fr)) w.heap.size 0 x := ⟨at_new w _ T fr⟩
/-- what Drop answers -/
def dropC (T : List Rt) (p : Pf) : Int := if has T p then 0 else 8
set_option maxRecDepth 100000 in
set_option maxHeartbeats 8000000 in
theorem drop_any {base : Nat} {b : Nat} {v : Value} {T : List Rt} (p : Pf) (w : World) (h : Tb base w b v T) :
    Calls Try.prog 14 #[.pointer (some ⟨b, 0, none⟩), .agg (encP p).toArray] w fun e w' => ∃ v', e = .returned (.int .i64 (dropC T p)) ∧ Tb base w' b v' (del T p) ∧ Only (fun k => k = b ∨ v.ownBlock = some k) w w' := by
  have HT := Lib.hid h
  have HF := Lib.hid (fun (W : World) (hb : Below w.heap.size w W) => find_any p W (HT.out.below hb))
  have HO0 := Lib.hid (fun (W : World) (hb : Below w.heap.size w W) => (Only.refl (fun k => k = b ∨ v.ownBlock = some k) w).of_below hb)
  have HN := Lib.hid h.tok.len
  have HBW := Lib.hid h.lt
  clear h
  by_cases hh : has T p = true
  · have HH := Lib.hid hh
    have HC := Lib.hid (show dropC T p = 0 by unfold dropC; rw [if_pos hh])
    have HD := Lib.hid (del_has HT.out.tok.srt hh)
    have HTK := Lib.hid (tok_del HT.out.tok p)
    have hxn0 := ((pos_has HT.out.tok.srt p).1 hh).1
    obtain ⟨k, hk⟩ : ∃ k, T.length = k + 1 := ⟨T.length - 1, by omega⟩
    obtain ⟨x, hx⟩ : ∃ x, pos T p = x := ⟨_, rfl⟩
    rw [hx] at HF HD hxn0
    rw [hk] at hxn0
    have hor := HT.out.own
    obtain ⟨g, cap, rfl, hbg, hc, hgl⟩ := own_form hor (by omega)
    rw [hk] at hor
    have HDEL := Lib.hid (fun (W : World) (hb : Below w.heap.size w W) => delete_any W base g k cap T x (own_below hor hb) hk hxn0 (by have := HN.out; omega))
    have HTC := Lib.hid (fun (W : World) (hb : Below w.heap.size w W) => (HT.out.below hb).cell)
    have HBL := Lib.hid HT.out.blk
    have HGB := Lib.hid (show b ≠ g from fun e => own_ne hor HT.out.blk (by subst e; rfl))
    have HLO := Lib.hid HT.out.lo
    rw [hk] at HTC HBL HO0 HN ⊢
    rw [HD.out] at HDEL
    have HNX := Lib.hid (show (x : Int) + 1 ≤ 1000 by have := HN.out; omega)
    clear hh hx hk hor HT hxn0 HD hbg hc hgl
    go_enter Try.func14, Try.ntmps14
    go_upto_region 1 with fail
    have H := Lib.hid (PAt.mk (at_new w (encP p) 25 (0, 0)))
    have hb := Lib.hid (show Below w.heap.size w (w.alloc (.cells (encP p).toArray 25 (0, 0))) from (Below.refl _ _).alloc (Nat.le_refl _) _)
    generalize w.alloc _ = W at H hb ⊢
    generalize w.heap.size = B at H ⊢
    have c0 := H.out.all.load (k := n18) (encP_n _) Try.prog
    go_upto_region 2 with (go_at_call 41; (with_reducible refine (HF.out _ hb.out).mono ?_); rintro e w2 ⟨rfl, hb2⟩; rw [HH.out]; have hb := Lib.hid (hb.out.trans (hb2.mono hb.out.size)); clear hb2 c0)
    have d0 := HTC.out _ hb.out
    have hw2 : IntKind.i64.wrap ((x : Int) + 1) = (x : Int) + 1 := IntWalk.i64_in _ (by have := HNX.out; omega)
    go_upto_region 7 with (go_at_call 43; (with_reducible refine (HDEL.out _ hb.out).mono ?_); rintro e w6 ⟨v', rfl, h1, h2⟩; obtain ⟨A', cap', hv', _⟩ := own_rv h1; obtain rfl := hv'.eq; have HO6 := Lib.hid h1; have HB6 := Lib.hid ((h2.block b (Nat.lt_of_lt_of_le HBW.out hb.out.size) HGB.out).trans ((hb.out.block b HBW.out).trans HBL.out)); have e1 := blk_cell HB6.out 0; have e2 := blk_free HB6.out 0; have HOY := Lib.hid ((HO0.out _ hb.out).trans h2 (fun i _ e => .inr (by subst e; rfl))); clear h1 h2 hv' d0)
    clear e1 e2
    go_wp2
    go_ret
    rw [HC.out]
    exact ⟨_, rfl, tb_set HB6.out HO6.out HTK.out HLO.out, Only.setCell HOY.out (p := ⟨b, 0, none⟩) (fun _ => .inl rfl) _⟩
  · have hh' : has T p = false := by simpa using hh
    have HH := Lib.hid hh'
    have HC := Lib.hid (show dropC T p = 8 ∧ del T p = T by unfold dropC; rw [if_neg hh]; exact ⟨rfl, del_not hh'⟩)
    clear hh hh'
    go_enter Try.func14, Try.ntmps14
    go_upto_region 1 with fail
    have H := Lib.hid (PAt.mk (at_new w (encP p) 25 (0, 0)))
    have hb := Lib.hid (show Below w.heap.size w (w.alloc (.cells (encP p).toArray 25 (0, 0))) from (Below.refl _ _).alloc (Nat.le_refl _) _)
    generalize w.alloc _ = W at H hb ⊢
    generalize w.heap.size = B at H ⊢
    have c0 := H.out.all.load (k := n18) (encP_n _) Try.prog
    go_upto_region 2 with (go_at_call 41; (with_reducible refine (HF.out _ hb.out).mono ?_); rintro e w2 ⟨rfl, hb2⟩; rw [HH.out]; have hb := Lib.hid (hb.out.trans (hb2.mono hb.out.size)); clear hb2 c0)
    go_wp2
    go_ret
    rw [HC.out.1, HC.out.2]
    exact ⟨_, rfl, HT.out.below hb.out, HO0.out _ hb.out⟩
end Tab
end Go.Proofs.Ytbeoclcnajfjcaa
