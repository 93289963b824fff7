/-
  A table in memory: find, Len, All, Get, Between, Copy, Same. Conditions: those that each theorem names.
-/
import Derived.Test.YtbeoclcnajfjcaaTabC
namespace Go.Proofs.Ytbeoclcnajfjcaa
open Go Go.RowKit H2
set_option linter.unusedVariables false
set_option linter.unusedSimpArgs false
namespace Tab
/-- routes that may be a table -/
structure TOk (T : List Rt) : Prop where
  srt : Srt T
  ok : ∀ r ∈ T, right r = true
  len : T.length ≤ 300
/-- a table: block b, its slice, its routes -/
structure Tb (base : Nat) (w : World) (b : Nat) (v : Value) (T : List Rt) : Prop where
  blk : w.heap[b]? = some (.cells #[v] 78 (0, 0))
  own : w.ownsRow base 34 20 v T.length (flat T)
  lo : base ≤ b
  tok : TOk T
theorem Tb.lt {base : Nat} {w : World} {b : Nat} {v : Value} {T : List Rt} (h : Tb base w b v T) : b < w.heap.size := blk_lt h.blk
theorem own_below {w w' : World} {base size n : Nat} {e : TypeId} {v : Value} {xs : List Value} (h : w.ownsRow base e size v n xs) (hb : Below w.heap.size w w') : w'.ownsRow base e size v n xs :=
  ((Only.refl (fun _ => False) w).of_below hb).own h (fun _ _ h => h)
theorem Tb.below {base : Nat} {w w' : World} {b : Nat} {v : Value} {T : List Rt} (h : Tb base w b v T) (hb : Below w.heap.size w w') : Tb base w' b v T :=
  ⟨(hb.block b h.lt).trans h.blk, own_below h.own hb, h.lo, h.tok⟩
theorem Tb.cell {base : Nat} {w : World} {b : Nat} {v : Value} {T : List Rt} (h : Tb base w b v T) : w.cell? ⟨b, 0, none⟩ = some v := blk_cell h.blk 0
set_option maxHeartbeats 4000000 in
theorem find_any {base : Nat} {b : Nat} {v : Value} {T : List Rt} (p : Pf) (w : World) (h : Tb base w b v T) :
    Calls Try.prog 41 #[.pointer (some ⟨b, 0, none⟩), .agg (encP p).toArray] w fun e w' => e = .returned (.tuple #[.int .i64 (pos T p), .bool (has T p)]) ∧ Below w.heap.size w w' := by
  obtain ⟨A, cap, hv, _⟩ := own_rv h.own
  obtain rfl := hv.eq
  have HT := Lib.hid h
  have HV := Lib.hid hv.rd
  clear hv h
  have hc := fun (W : World) (hb : Below w.heap.size w W) => bsearch_any A cap T (Nat.le_trans HT.out.tok.len (by decide)) HT.out.tok.srt p W (HV.out.below hb)
  have HC := Lib.hid hc
  clear hc
  obtain ⟨n, hn⟩ : ∃ n, T.length = n := ⟨_, rfl⟩
  have HTC := Lib.hid (fun (W : World) (hb : Below w.heap.size w W) => (HT.out.below hb).cell)
  rw [hn] at HC HTC
  go_enter Try.func41, Try.ntmps41
  go_upto_region 3 with fail
  have H := Lib.hid (PAt.mk (at_new w (encP p) 25 (0, 0))).drew
  have hb := Lib.hid (show Below w.heap.size w (w.alloc (.cells (encP p).toArray 25 (0, 0))).drew from ((Below.refl _ _).alloc (Nat.le_refl _) _).drew)
  generalize w.alloc _ = W at H hb ⊢
  generalize w.heap.size = B at H ⊢
  have d0 := Lib.hid (HTC.out _ hb.out)
  refine wp_region_held_drew (S := (fun w' => PAt w' B 0 p ∧ w'.cell? ⟨b, 0, none⟩ = some (.slice A n cap))) (by kernel_rfl) ⟨H.out, d0.out⟩ (fun _ => ?_)
  refine held_take 0 8 (v := ?_) rfl rfl (by kernel_rfl) (by kernel_rfl) (by kernel_rfl) (fun _ _ _ h => h) (by rfl) ?_ ⟨H.out, d0.out⟩ ?_
  rotate_left
  · (intro w hSw; (try dsimp only at hSw); have c0 := hSw.1.all.load (k := n18) (encP_n _) Try.prog; have e0 := hSw.2; clear hSw;try simp only [List.getElem_toArray, List.getElem_cons_zero, List.getElem_cons_succ]; go_simp; try (with_reducible rfl))
  try simp only [List.setIfInBounds_toArray, List.set_cons_zero, List.set_cons_succ]
  refine held_take 1 9 (v := ?_) rfl rfl (by kernel_rfl) (by kernel_rfl) (by kernel_rfl) (fun _ _ _ h => h) (by rfl) ?_ ⟨H.out, d0.out⟩ ?_
  rotate_left
  · (intro w hSw; (try dsimp only at hSw); have c0 := hSw.1.all.load (k := n18) (encP_n _) Try.prog; have e0 := hSw.2; clear hSw;try simp only [List.getElem_toArray, List.getElem_cons_zero, List.getElem_cons_succ]; go_simp; try (with_reducible rfl))
  try simp only [List.setIfInBounds_toArray, List.set_cons_zero, List.set_cons_succ]
  refine held_take 2 10 (v := ?_) rfl rfl (by kernel_rfl) (by kernel_rfl) (by kernel_rfl) (fun _ _ _ h => h) (by rfl) ?_ ⟨H.out, d0.out⟩ ?_
  rotate_left
  · (intro w hSw; (try dsimp only at hSw); have c0 := hSw.1.all.load (k := n18) (encP_n _) Try.prog; have e0 := hSw.2; clear hSw;try simp only [List.getElem_toArray, List.getElem_cons_zero, List.getElem_cons_succ]; go_simp; try (with_reducible rfl))
  try simp only [List.setIfInBounds_toArray, List.set_cons_zero, List.set_cons_succ]
  refine held_take 3 11 (v := ?_) rfl rfl (by kernel_rfl) (by kernel_rfl) (by kernel_rfl) (fun _ _ _ h => h) (by rfl) ?_ ⟨H.out, d0.out⟩ ?_
  rotate_left
  · (intro w hSw; (try dsimp only at hSw); have c0 := hSw.1.all.load (k := n18) (encP_n _) Try.prog; have e0 := hSw.2; clear hSw;try simp only [List.getElem_toArray, List.getElem_cons_zero, List.getElem_cons_succ]; go_simp; try (with_reducible rfl))
  try simp only [List.setIfInBounds_toArray, List.set_cons_zero, List.set_cons_succ]
  refine held_take 4 12 (v := ?_) rfl rfl (by kernel_rfl) (by kernel_rfl) (by kernel_rfl) (fun _ _ _ h => h) (by rfl) ?_ ⟨H.out, d0.out⟩ ?_
  rotate_left
  · (intro w hSw; (try dsimp only at hSw); have c0 := hSw.1.all.load (k := n18) (encP_n _) Try.prog; have e0 := hSw.2; clear hSw;try simp only [List.getElem_toArray, List.getElem_cons_zero, List.getElem_cons_succ]; go_simp; try (with_reducible rfl))
  try simp only [List.setIfInBounds_toArray, List.set_cons_zero, List.set_cons_succ]
  refine held_call 5 13 rfl rfl (by kernel_rfl) (by rfl) (fun K hK => ?_)
  try simp only [List.getElem_toArray, List.getElem_cons_zero, List.getElem_cons_succ]
  go_simp
  (go_at_call 57; (with_reducible refine (HC.out _ hb.out).mono ?_); rintro e w2 ⟨rfl, hb2⟩; have H := Lib.hid (H.out.below hb2); have d0 := Lib.hid (later hb2 d0.out); have hb := Lib.hid (hb.out.trans (hb2.mono hb.out.size)); clear hb2)
  try go_wp2_with fail
  try simp only [Act.put, List.setIfInBounds_toArray, List.set_cons_zero, List.set_cons_succ]
  refine hK.out _ _ _ ⟨H.out, d0.out⟩ ?_
  clear hK K
  refine held_take 6 14 (v := ?_) rfl rfl (by kernel_rfl) (by kernel_rfl) (by kernel_rfl) (fun _ _ _ h => h) (by rfl) ?_ ⟨H.out, d0.out⟩ ?_
  rotate_left
  · (intro w hSw; (try dsimp only at hSw); have c0 := hSw.1.all.load (k := n18) (encP_n _) Try.prog; have e0 := hSw.2; clear hSw;try simp only [List.getElem_toArray, List.getElem_cons_zero, List.getElem_cons_succ]; go_simp; try (with_reducible rfl))
  try simp only [List.setIfInBounds_toArray, List.set_cons_zero, List.set_cons_succ]
  refine held_take 7 15 (v := ?_) rfl rfl (by kernel_rfl) (by kernel_rfl) (by kernel_rfl) (fun _ _ _ h => h) (by rfl) ?_ ⟨H.out, d0.out⟩ ?_
  rotate_left
  · (intro w hSw; (try dsimp only at hSw); have c0 := hSw.1.all.load (k := n18) (encP_n _) Try.prog; have e0 := hSw.2; clear hSw;try simp only [List.getElem_toArray, List.getElem_cons_zero, List.getElem_cons_succ]; go_simp; try (with_reducible rfl))
  try simp only [List.setIfInBounds_toArray, List.set_cons_zero, List.set_cons_succ]
  refine held_take 8 4 (v := ?_) rfl rfl (by kernel_rfl) (by kernel_rfl) (by kernel_rfl) (fun _ _ _ h => h) (by rfl) ?_ ⟨H.out, d0.out⟩ ?_
  rotate_left
  · (intro w hSw; (try dsimp only at hSw); have c0 := hSw.1.all.load (k := n18) (encP_n _) Try.prog; have e0 := hSw.2; clear hSw;try simp only [List.getElem_toArray, List.getElem_cons_zero, List.getElem_cons_succ]; go_simp; try (with_reducible rfl))
  try simp only [List.setIfInBounds_toArray, List.set_cons_zero, List.set_cons_succ]
  refine held_take 9 5 (v := ?_) rfl rfl (by kernel_rfl) (by kernel_rfl) (by kernel_rfl) (fun _ _ _ h => h) (by rfl) ?_ ⟨H.out, d0.out⟩ ?_
  rotate_left
  · (intro w hSw; (try dsimp only at hSw); have c0 := hSw.1.all.load (k := n18) (encP_n _) Try.prog; have e0 := hSw.2; clear hSw;try simp only [List.getElem_toArray, List.getElem_cons_zero, List.getElem_cons_succ]; go_simp; try (with_reducible rfl))
  try simp only [List.setIfInBounds_toArray, List.set_cons_zero, List.set_cons_succ]
  refine wpAnyH_done (by kernel_rfl) ?_ _
  go_wp2
  go_ret2
  exact ⟨rfl, hb.out⟩
end Tab
end Go.Proofs.Ytbeoclcnajfjcaa
