/-
  Package prefix: Compare. Conditions: those that each theorem names.
-/
import Derived.Test.YtdcbbjlbfghpbaaGreatPfxC
import Derived.Lib.Bytealg
import Derived.Laws.Externs
namespace Go.Proofs.YtdcbbjlbfghpbaaGreat
open Go Go.RowKit H2
set_option linter.unusedVariables false
set_option linter.unusedSimpArgs false
namespace Tab
/-! ### plain -/
def cmpI (a b : Int) : Int := if a < b then -1 else if b < a then 1 else 0
def or3 (x y z : Int) : Int := if x ≠ 0 then x else if y ≠ 0 then y else z
theorem cmpL_app : ∀ (a b : List Int) (x y : Int), a.length = b.length → cmpL (a ++ [x]) (b ++ [y]) = if cmpL a b ≠ 0 then cmpL a b else cmpI x y
  | [], [], x, y, _ => by
    rw [List.nil_append, List.nil_append]
    show (if x < y then (-1 : Int) else if y < x then 1 else 0) = if (0 : Int) ≠ 0 then 0 else cmpI x y
    rw [if_neg (c := (0 : Int) ≠ 0) (by simp)]
    rfl
  | [], _ :: _, _, _, h => by simp at h
  | _ :: _, [], _, _, h => by simp at h
  | a :: l, b :: m, x, y, h => by
    rw [List.cons_append, List.cons_append, cmpL, cmpL, cmpL_app l m x y (by simpa using h)]
    by_cases h1 : a < b
    · rw [if_pos h1, if_pos h1]; rfl
    · by_cases h2 : b < a
      · rw [if_neg h1, if_pos h2, if_neg h1, if_pos h2]; rfl
      · rw [if_neg h1, if_neg h2, if_neg h1, if_neg h2]
theorem cmpP_or (a b : Pf) : cmpP a b = or3 (cmpI (kindOf a.six) (kindOf b.six)) (cmpL a.nums b.nums) (cmpI a.len b.len) := by
  unfold cmpP Pf.key or3
  rw [cmpL, cmpL_app _ _ _ _ (by rw [nums_len, nums_len])]
  unfold cmpI
  by_cases h1 : kindOf a.six < kindOf b.six
  · rw [if_pos h1, if_pos h1]; rfl
  · by_cases h2 : kindOf b.six < kindOf a.six
    · rw [if_neg h1, if_pos h2, if_neg h1, if_pos h2]; rfl
    · rw [if_neg h1, if_neg h2, if_neg h1, if_neg h2]; rfl
theorem cmpB_eq : ∀ (a b : List UInt8), a.length = b.length → Lib.compareBytes a b = cmpL (a.map fun b => (b.toNat : Int)) (b.map fun b => (b.toNat : Int))
  | [], [], _ => rfl
  | [], _ :: _, h => by simp at h
  | _ :: _, [], h => by simp at h
  | a :: l, b :: m, h => by
    rw [Lib.compareBytes, List.map_cons, List.map_cons, cmpL, cmpB_eq l m (by simpa using h)]
    have e1 : (a < b) = ((a.toNat : Int) < (b.toNat : Int)) := by rw [UInt8.lt_iff_toNat_lt]; exact propext ⟨fun h => by omega, fun h => by omega⟩
    have e2 : (b < a) = ((b.toNat : Int) < (a.toNat : Int)) := by rw [UInt8.lt_iff_toNat_lt]; exact propext ⟨fun h => by omega, fun h => by omega⟩
    simp only [e1, e2]
/-! ### the walks -/
theorem load_bytes (P : Program) : ∀ (l : List UInt8) (w : World) (B o : Nat) (acc : ByteArray), At w B o (l.map fun b => .int .u8 (b.toNat : Int)) → (Extern.Bytes.loadBytes ⟨B, o, none⟩ l.length acc).run P w = .ok ⟨acc.data ++ l.toArray⟩ w
  | [], w, B, o, acc, _ => by
    rw [List.length_nil, Extern.Bytes.loadBytes]
    simp
  | b :: l, w, B, o, acc, h => by
    have hc : w.cell? ⟨B, o, none⟩ = some (.int .u8 (b.toNat : Int)) := h.cons.1
    have hl : (load ⟨B, o, none⟩).run P w = .ok (.int .u8 (b.toNat : Int)) w := by rw [run_load P w, hc]
    rw [List.length_cons, Extern.Bytes.loadBytes]
    simp only [Sem.run_bind, hl, Result.andThen_ok]
    have ih := load_bytes P l w B (o + 1) (acc.push (b.toNat : Int).toNat.toUInt8) h.cons.2
    rw [show (⟨B, o, none⟩ : Addr).add 1 = ⟨B, o + 1, none⟩ from Addr.add_lit _ _ _, ih]
    congr 2
    simp
theorem compare_run (a b : Pf) (w : World) (A B o o' c c' : Nat) (ha : At w A o (encA a.addr)) (hb : At w B o' (encA b.addr)) : (Extern.BytealgCompare.compare #[.slice (some ⟨A, o, none⟩) 16 c, .slice (some ⟨B, o', none⟩) 16 c']).run Tryz.prog w = .ok (.int .i64 (cmpL a.nums b.nums)) w := by
  have l1 := load_bytes Tryz.prog a.addr.toList w A o .empty ha
  have l2 := load_bytes Tryz.prog b.addr.toList w B o' .empty hb
  rw [Vector.length_toList] at l1 l2
  change Sem.run Tryz.prog (do pure (goInt (Extern.BytealgCompare.cmp (← Extern.Bytes.loadBytes ⟨A, o, none⟩ 16 .empty) (← Extern.Bytes.loadBytes ⟨B, o', none⟩ 16 .empty)))) w = _
  simp only [Sem.run_bind, l1, l2, Result.andThen_ok, Sem.run_pure]
  rw [Lib.cmp_eq, cmpB_eq _ _ (by simp)]
  simp [goInt, Pf.nums]
theorem cmpI_any (a b : Int) (w : World) : Calls Tryz.prog 59 #[.int .i64 a, .int .i64 b] w fun e w' => e = .returned (.int .i64 (cmpI a b)) ∧ w = w' := by
  by_cases h1 : a < b
  · have HV := Lib.hid (show cmpI a b = -1 by unfold cmpI; rw [if_pos h1])
    go_enter Tryz.func59, Tryz.ntmps59
    go_wp2
    go_ret
    exact ⟨by rw [HV.out]; rfl, rfl⟩
  · by_cases h2 : b < a
    · have HV := Lib.hid (show cmpI a b = 1 by unfold cmpI; rw [if_neg h1, if_pos h2])
      go_enter Tryz.func59, Tryz.ntmps59
      go_wp2
      go_ret
      exact ⟨by rw [HV.out]; rfl, rfl⟩
    · have HV := Lib.hid (show cmpI a b = 0 by unfold cmpI; rw [if_neg h1, if_neg h2])
      go_enter Tryz.func59, Tryz.ntmps59
      go_wp2
      go_ret
      exact ⟨by rw [HV.out]; rfl, rfl⟩
set_option maxHeartbeats 4000000 in
theorem or_any (x y z : Int) (B : Nat) (w : World) (h0 : w.cell? ⟨B, 0, none⟩ = some (.int .i64 x)) (h1 : w.cell? ⟨B, 1, none⟩ = some (.int .i64 y)) (h2 : w.cell? ⟨B, 2, none⟩ = some (.int .i64 z)) : Calls Tryz.prog 58 #[.slice (some ⟨B, 0, none⟩) 3 3] w fun e w' => e = .returned (.int .i64 (or3 x y z)) ∧ w = w' := by
  by_cases hx : x = 0
  · subst hx
    by_cases hy : y = 0
    · subst hy
      by_cases hz : z = 0
      · subst hz
        have HV := Lib.hid (show or3 0 0 0 = 0 from rfl)
        go_enter Tryz.func58, Tryz.ntmps58
        go_wp2
        refine wp_loop_rounds 5 ?_
        rw [rounds_succ]
        go_wp2
        rw [rounds_succ]
        go_wp2
        rw [rounds_succ]
        go_wp2
        rw [rounds_succ]
        go_wp2
        go_ret
        exact ⟨by rw [HV.out]; rfl, rfl⟩
      · have HV := Lib.hid (show or3 0 0 z = z from rfl)
        have hz' : (z != 0) = true := by simpa using hz
        go_enter Tryz.func58, Tryz.ntmps58
        go_wp2
        refine wp_loop_rounds 4 ?_
        rw [rounds_succ]
        go_wp2
        rw [rounds_succ]
        go_wp2
        rw [rounds_succ]
        go_wp2
        go_ret
        exact ⟨by rw [HV.out]; rfl, rfl⟩
    · have HV := Lib.hid (show or3 0 y z = y by unfold or3; rw [if_neg (by simp), if_pos hy])
      have hy' : (y != 0) = true := by simpa using hy
      go_enter Tryz.func58, Tryz.ntmps58
      go_wp2
      refine wp_loop_rounds 3 ?_
      rw [rounds_succ]
      go_wp2
      rw [rounds_succ]
      go_wp2
      go_ret
      exact ⟨by rw [HV.out]; rfl, rfl⟩
  · have HV := Lib.hid (show or3 x y z = x by unfold or3; rw [if_pos hx])
    have hx' : (x != 0) = true := by simpa using hx
    go_enter Tryz.func58, Tryz.ntmps58
    go_wp2
    refine wp_loop_rounds 2 ?_
    rw [rounds_succ]
    go_wp2
    go_ret
    exact ⟨by rw [HV.out]; rfl, rfl⟩
set_option maxHeartbeats 4000000 in
theorem bcmp_any (a b : Pf) (w : World) (A B o o' c c' : Nat) (ha : At w A o (encA a.addr)) (hb : At w B o' (encA b.addr)) : Calls Tryz.prog 61 #[.slice (some ⟨A, o, none⟩) 16 c, .slice (some ⟨B, o', none⟩) 16 c'] w fun e w' => e = .returned (.int .i64 (cmpL a.nums b.nums)) ∧ w = w' := by
  have hrun : (callFunc 82 #[.slice (some ⟨A, o, none⟩) 16 c, .slice (some ⟨B, o', none⟩) 16 c']).run Tryz.prog w = .ok (.value (.int .i64 (cmpL a.nums b.nums))) w := by
    rw [run_callFunc_extern Tryz.func82 (by kernel_rfl) (by kernel_rfl) (by kernel_rfl) (e := Extern.BytealgCompare.compare) (by kernel_rfl), compare_run a b w A B o o' c c' ha hb]
    rfl
  clear ha hb
  generalize cmpL a.nums b.nums = r at hrun ⊢
  go_enter Tryz.func61, Tryz.ntmps61
  go_wp2
  go_ret
  exact ⟨rfl, rfl⟩
set_option maxRecDepth 100000 in
set_option maxHeartbeats 4000000 in
theorem compare_grew (a b : Pf) (w : World) : Calls Tryz.prog 30 #[.agg (encP a).toArray, .agg (encP b).toArray] w fun e w' => e = .returned (.int .i64 (cmpP a b)) ∧ Grew w w' := by
  have HC := Lib.hid (cmpP_or a b)
  go_enter Tryz.func30, Tryz.ntmps30
  go_upto_region 1 with fail
  have H1 := Lib.hid ((PAt.mk (at_new w (encP a) 33 (0, 0))).below ((Below.refl _ _).alloc (Nat.le_refl _) (.cells (encP b).toArray 33 (0, 0)))).drew
  have H2 := Lib.hid (PAt.mk (at_new (w.alloc (.cells (encP a).toArray 33 (0, 0))) (encP b) 33 (0, 0))).drew
  rw [show (w.alloc (.cells (encP a).toArray 33 (0, 0))).heap.size = w.heap.size + 1 by simp] at H2
  have hb := Lib.hid (show Grew w ((w.alloc (.cells (encP a).toArray 33 (0, 0))).alloc (.cells (encP b).toArray 33 (0, 0))).drew from (((Grew.refl _).alloc _).alloc _).drew)
  generalize (w.alloc _).alloc _ = W at H1 H2 hb ⊢
  obtain ⟨B2, hB2⟩ : ∃ b, w.heap.size + 1 = b := ⟨_, rfl⟩
  rw [hB2] at H2 ⊢
  obtain ⟨B, hB⟩ : ∃ b, w.heap.size = b := ⟨_, rfl⟩
  rw [hB] at H1 ⊢
  clear hB hB2
  refine wp_region_held_drew (S := (fun w' => PAt w' B 0 a ∧ PAt w' B2 0 b)) (by kernel_rfl) ⟨H1.out, H2.out⟩ (fun _ => ?_)
  refine held_take 0 5 (v := ?_) rfl rfl (by kernel_rfl) (by kernel_rfl) (by kernel_rfl) (fun _ _ _ h => h) (by rfl) ?_ ⟨H1.out, H2.out⟩ ?_
  rotate_left
  · (intro w hSw; (try dsimp only at hSw); have c0 := hSw.1.six; have c1 := hSw.1.all.load (encP_n _) Tryz.prog; have c2 := hSw.1.len; have d1 := hSw.2.all.load (encP_n _) Tryz.prog; have d2 := hSw.2.len; clear hSw;try simp only [List.getElem_toArray, List.getElem_cons_zero, List.getElem_cons_succ]; go_simp; try (with_reducible rfl))
  try simp only [List.setIfInBounds_toArray, List.set_cons_zero, List.set_cons_succ]
  refine held_take 2 7 (v := ?_) rfl rfl (by kernel_rfl) (by kernel_rfl) (by kernel_rfl) (fun _ _ _ h => h) (by rfl) ?_ ⟨H1.out, H2.out⟩ ?_
  rotate_left
  · (intro w hSw; (try dsimp only at hSw); have c0 := hSw.1.six; have c1 := hSw.1.all.load (encP_n _) Tryz.prog; have c2 := hSw.1.len; have d1 := hSw.2.all.load (encP_n _) Tryz.prog; have d2 := hSw.2.len; clear hSw;try simp only [List.getElem_toArray, List.getElem_cons_zero, List.getElem_cons_succ]; go_simp; try (with_reducible rfl))
  try simp only [List.setIfInBounds_toArray, List.set_cons_zero, List.set_cons_succ]
  refine held_take 5 10 (v := ?_) rfl rfl (by kernel_rfl) (by kernel_rfl) (by kernel_rfl) (fun _ _ _ h => h) (by rfl) ?_ ⟨H1.out, H2.out⟩ ?_
  rotate_left
  · (intro w hSw; (try dsimp only at hSw); have c0 := hSw.1.six; have c1 := hSw.1.all.load (encP_n _) Tryz.prog; have c2 := hSw.1.len; have d1 := hSw.2.all.load (encP_n _) Tryz.prog; have d2 := hSw.2.len; clear hSw;try simp only [List.getElem_toArray, List.getElem_cons_zero, List.getElem_cons_succ]; go_simp; try (with_reducible rfl))
  try simp only [List.setIfInBounds_toArray, List.set_cons_zero, List.set_cons_succ]
  refine held_take 6 11 (v := ?_) rfl rfl (by kernel_rfl) (by kernel_rfl) (by kernel_rfl) (fun _ _ _ h => h) (by rfl) ?_ ⟨H1.out, H2.out⟩ ?_
  rotate_left
  · (intro w hSw; (try dsimp only at hSw); have c0 := hSw.1.six; have c1 := hSw.1.all.load (encP_n _) Tryz.prog; have c2 := hSw.1.len; have d1 := hSw.2.all.load (encP_n _) Tryz.prog; have d2 := hSw.2.len; clear hSw;try simp only [List.getElem_toArray, List.getElem_cons_zero, List.getElem_cons_succ]; go_simp; try (with_reducible rfl))
  try simp only [List.setIfInBounds_toArray, List.set_cons_zero, List.set_cons_succ]
  refine held_take 7 12 (v := ?_) rfl rfl (by kernel_rfl) (by kernel_rfl) (by kernel_rfl) (fun _ _ _ h => h) (by rfl) ?_ ⟨H1.out, H2.out⟩ ?_
  rotate_left
  · (intro w hSw; (try dsimp only at hSw); have c0 := hSw.1.six; have c1 := hSw.1.all.load (encP_n _) Tryz.prog; have c2 := hSw.1.len; have d1 := hSw.2.all.load (encP_n _) Tryz.prog; have d2 := hSw.2.len; clear hSw;try simp only [List.getElem_toArray, List.getElem_cons_zero, List.getElem_cons_succ]; go_simp; try (with_reducible rfl))
  try simp only [List.setIfInBounds_toArray, List.set_cons_zero, List.set_cons_succ]
  refine held_take 8 13 (v := ?_) rfl rfl (by kernel_rfl) (by kernel_rfl) (by kernel_rfl) (fun _ _ _ h => h) (by rfl) ?_ ⟨H1.out, H2.out⟩ ?_
  rotate_left
  · (intro w hSw; (try dsimp only at hSw); have c0 := hSw.1.six; have c1 := hSw.1.all.load (encP_n _) Tryz.prog; have c2 := hSw.1.len; have d1 := hSw.2.all.load (encP_n _) Tryz.prog; have d2 := hSw.2.len; clear hSw;try simp only [List.getElem_toArray, List.getElem_cons_zero, List.getElem_cons_succ]; go_simp; try (with_reducible rfl))
  try simp only [List.setIfInBounds_toArray, List.set_cons_zero, List.set_cons_succ]
  refine held_take 10 15 (v := ?_) rfl rfl (by kernel_rfl) (by kernel_rfl) (by kernel_rfl) (fun _ _ _ h => h) (by rfl) ?_ ⟨H1.out, H2.out⟩ ?_
  rotate_left
  · (intro w hSw; (try dsimp only at hSw); have c0 := hSw.1.six; have c1 := hSw.1.all.load (encP_n _) Tryz.prog; have c2 := hSw.1.len; have d1 := hSw.2.all.load (encP_n _) Tryz.prog; have d2 := hSw.2.len; clear hSw;try simp only [List.getElem_toArray, List.getElem_cons_zero, List.getElem_cons_succ]; go_simp; try (with_reducible rfl))
  try simp only [List.setIfInBounds_toArray, List.set_cons_zero, List.set_cons_succ]
  refine held_take 11 16 (v := ?_) rfl rfl (by kernel_rfl) (by kernel_rfl) (by kernel_rfl) (fun _ _ _ h => h) (by rfl) ?_ ⟨H1.out, H2.out⟩ ?_
  rotate_left
  · (intro w hSw; (try dsimp only at hSw); have c0 := hSw.1.six; have c1 := hSw.1.all.load (encP_n _) Tryz.prog; have c2 := hSw.1.len; have d1 := hSw.2.all.load (encP_n _) Tryz.prog; have d2 := hSw.2.len; clear hSw;try simp only [List.getElem_toArray, List.getElem_cons_zero, List.getElem_cons_succ]; go_simp; try (with_reducible rfl))
  try simp only [List.setIfInBounds_toArray, List.set_cons_zero, List.set_cons_succ]
  refine held_take 12 17 (v := ?_) rfl rfl (by kernel_rfl) (by kernel_rfl) (by kernel_rfl) (fun _ _ _ h => h) (by rfl) ?_ ⟨H1.out, H2.out⟩ ?_
  rotate_left
  · (intro w hSw; (try dsimp only at hSw); have c0 := hSw.1.six; have c1 := hSw.1.all.load (encP_n _) Tryz.prog; have c2 := hSw.1.len; have d1 := hSw.2.all.load (encP_n _) Tryz.prog; have d2 := hSw.2.len; clear hSw;try simp only [List.getElem_toArray, List.getElem_cons_zero, List.getElem_cons_succ]; go_simp; try (with_reducible rfl))
  try simp only [List.setIfInBounds_toArray, List.set_cons_zero, List.set_cons_succ]
  refine held_take 13 18 (v := ?_) rfl rfl (by kernel_rfl) (by kernel_rfl) (by kernel_rfl) (fun _ _ _ h => h) (by rfl) ?_ ⟨H1.out, H2.out⟩ ?_
  rotate_left
  · (intro w hSw; (try dsimp only at hSw); have c0 := hSw.1.six; have c1 := hSw.1.all.load (encP_n _) Tryz.prog; have c2 := hSw.1.len; have d1 := hSw.2.all.load (encP_n _) Tryz.prog; have d2 := hSw.2.len; clear hSw;try simp only [List.getElem_toArray, List.getElem_cons_zero, List.getElem_cons_succ]; go_simp; try (with_reducible rfl))
  try simp only [List.setIfInBounds_toArray, List.set_cons_zero, List.set_cons_succ]
  refine held_call 1 6 rfl rfl (by kernel_rfl) (by rfl) (fun K hK => ?_)
  try simp only [List.getElem_toArray, List.getElem_cons_zero, List.getElem_cons_succ]
  go_simp
  (go_at_call 60; (with_reducible refine (kind_any _ _).mono ?_); rintro e w2 ⟨rfl, hb2⟩; have H1 := Lib.hid (H1.out.below hb2.bel); have H2 := Lib.hid (H2.out.below hb2.bel); have hb := Lib.hid (hb.out.trans hb2); clear hb2)
  try go_wp2_with fail
  try simp only [Act.put, List.setIfInBounds_toArray, List.set_cons_zero, List.set_cons_succ]
  refine hK.out _ _ _ ⟨H1.out, H2.out⟩ ?_
  clear hK K
  refine held_call 3 8 rfl rfl (by kernel_rfl) (by rfl) (fun K hK => ?_)
  try simp only [List.getElem_toArray, List.getElem_cons_zero, List.getElem_cons_succ]
  go_simp
  (go_at_call 60; (with_reducible refine (kind_any _ _).mono ?_); rintro e w3 ⟨rfl, hb2⟩; have H1 := Lib.hid (H1.out.below hb2.bel); have H2 := Lib.hid (H2.out.below hb2.bel); have hb := Lib.hid (hb.out.trans hb2); clear hb2)
  try go_wp2_with fail
  try simp only [Act.put, List.setIfInBounds_toArray, List.set_cons_zero, List.set_cons_succ]
  refine hK.out _ _ _ ⟨H1.out, H2.out⟩ ?_
  clear hK K
  refine held_call 4 9 rfl rfl (by kernel_rfl) (by rfl) (fun K hK => ?_)
  try simp only [List.getElem_toArray, List.getElem_cons_zero, List.getElem_cons_succ]
  go_simp
  (go_at_call 59; (with_reducible refine (cmpI_any _ _ _).mono ?_); rintro e w4 ⟨rfl, rfl⟩)
  try go_wp2_with fail
  try simp only [Act.put, List.setIfInBounds_toArray, List.set_cons_zero, List.set_cons_succ]
  refine hK.out _ _ _ ⟨H1.out, H2.out⟩ ?_
  clear hK K
  refine held_call 9 14 rfl rfl (by kernel_rfl) (by rfl) (fun K hK => ?_)
  try simp only [List.getElem_toArray, List.getElem_cons_zero, List.getElem_cons_succ]
  go_simp
  (go_at_call 61; (with_reducible refine (bcmp_any a b _ B B2 1 1 _ _ H1.out.addr H2.out.addr).mono ?_); rintro e w4 ⟨rfl, rfl⟩)
  try go_wp2_with fail
  try simp only [Act.put, List.setIfInBounds_toArray, List.set_cons_zero, List.set_cons_succ]
  refine hK.out _ _ _ ⟨H1.out, H2.out⟩ ?_
  clear hK K
  refine held_call 14 19 rfl rfl (by kernel_rfl) (by rfl) (fun K hK => ?_)
  try simp only [List.getElem_toArray, List.getElem_cons_zero, List.getElem_cons_succ]
  go_simp
  (go_at_call 59; (with_reducible refine (cmpI_any _ _ _).mono ?_); rintro e w4 ⟨rfl, rfl⟩)
  try go_wp2_with fail
  try simp only [Act.put, List.setIfInBounds_toArray, List.set_cons_zero, List.set_cons_succ]
  refine hK.out _ _ _ ⟨H1.out, H2.out⟩ ?_
  clear hK K
  refine held_call 15 20 rfl rfl (by kernel_rfl) (by rfl) (fun K hK => ?_)
  try simp only [List.getElem_toArray, List.getElem_cons_zero, List.getElem_cons_succ]
  (go_simp; have hal := (Below.refl w3.heap.size w3).alloc (Nat.le_refl _) (.cells #[.int .i64 (cmpI (kindOf a.six) (kindOf b.six)), .int .i64 (cmpL a.nums b.nums), .int .i64 (cmpI a.len b.len)] 3 (0, 0)); have H1 := Lib.hid (H1.out.below hal); have H2 := Lib.hid (H2.out.below hal); have hb := Lib.hid (hb.out.alloc (.cells #[.int .i64 (cmpI (kindOf a.six) (kindOf b.six)), .int .i64 (cmpL a.nums b.nums), .int .i64 (cmpI a.len b.len)] 3 (0, 0))); have HO := Lib.hid (heap_alloc_new w3 (.cells #[.int .i64 (cmpI (kindOf a.six) (kindOf b.six)), .int .i64 (cmpL a.nums b.nums), .int .i64 (cmpI a.len b.len)] 3 (0, 0))); clear hal; generalize w3.alloc _ = W3 at H1 H2 hb HO ⊢; have ho0 := blk_cell HO.out 0; have ho1 := blk_cell HO.out 1; have ho2 := blk_cell HO.out 2)
  try simp only [Act.put, List.setIfInBounds_toArray, List.set_cons_zero, List.set_cons_succ]
  refine hK.out _ _ _ ⟨H1.out, H2.out⟩ ?_
  clear hK K
  refine held_call 16 21 rfl rfl (by kernel_rfl) (by rfl) (fun K hK => ?_)
  try simp only [List.getElem_toArray, List.getElem_cons_zero, List.getElem_cons_succ]
  go_simp
  (go_at_call 58; (with_reducible refine (or_any _ _ _ _ _ ho0 ho1 ho2).mono ?_); rintro e w4 ⟨rfl, rfl⟩)
  try go_wp2_with fail
  try simp only [Act.put, List.setIfInBounds_toArray, List.set_cons_zero, List.set_cons_succ]
  refine hK.out _ _ _ ⟨H1.out, H2.out⟩ ?_
  clear hK K
  refine held_take 17 4 (v := ?_) rfl rfl (by kernel_rfl) (by kernel_rfl) (by kernel_rfl) (fun _ _ _ h => h) (by rfl) ?_ ⟨H1.out, H2.out⟩ ?_
  rotate_left
  · (intro w hSw; (try dsimp only at hSw); have c0 := hSw.1.six; have c1 := hSw.1.all.load (encP_n _) Tryz.prog; have c2 := hSw.1.len; have d1 := hSw.2.all.load (encP_n _) Tryz.prog; have d2 := hSw.2.len; clear hSw;try simp only [List.getElem_toArray, List.getElem_cons_zero, List.getElem_cons_succ]; go_simp; try (with_reducible rfl))
  try simp only [List.setIfInBounds_toArray, List.set_cons_zero, List.set_cons_succ]
  refine wpAnyH_done (by kernel_rfl) ?_ _
  go_wp2
  go_ret
  rw [HC.out]
  exact ⟨rfl, hb.out⟩
theorem compare_any (a b : Pf) (w : World) : Calls Tryz.prog 30 #[.agg (encP a).toArray, .agg (encP b).toArray] w fun e w' => e = .returned (.int .i64 (cmpP a b)) ∧ Below w.heap.size w w' :=
  (compare_grew a b w).mono fun _ _ ⟨he, hb⟩ => ⟨he, hb.bel⟩
end Tab
end Go.Proofs.YtdcbbjlbfghpbaaGreat
