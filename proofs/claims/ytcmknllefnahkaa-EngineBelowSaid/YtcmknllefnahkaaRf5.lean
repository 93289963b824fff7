/-
  The document's node: Route. Conditions: those that each theorem names.
-/
import Derived.Test.YtcmknllefnahkaaRf4
import Derived.Test.YtcmknllefnahkaaRefC2
namespace Go.Proofs.Ytcmknllefnahkaa
open Go.RowKit FR FP H2 OW
set_option linter.unusedVariables false
set_option linter.unusedSimpArgs false
namespace RefN
open Eng Ref18
theorem add_below (m s c : Int) (w : World) (h0 : 0 ≤ m) (h1 : m ≤ 65535) : Calls Try.prog 47 #[rv m s, .int .i64 c] w fun e w' => e = .returned (rv (addm m c) s) ∧ Below w.heap.size w w' := RefCh.add_below m s c w h0 h1
theorem prs_row {w : World} {g n : Nat} {f : Nat → Int × Int} (h : Prow w g n f) : RefCh.Prs w (some ⟨g, 0, none⟩) n (fun i => (f i).1) (fun i => (f i).2) := fun i hi => ⟨g, 0, rfl, h.lt, by rw [Nat.zero_add]; exact h.c0 hi, by rw [Nat.zero_add]; exact h.c1 hi⟩
theorem ints_cost {w : World} {base b : Nat} {s : St} {L : RLay} (h : RN w base b s L) : RefCh.Ints w (some ⟨L.c, 0, none⟩) s.n (fun i => (s.cost i).1) := fun i hi => ⟨L.c, 0, rfl, h.rb.cl, by rw [Nat.zero_add]; exact h.rb.cost_at hi⟩
theorem choose_at {base b : Nat} {s : St} {L : RLay} (w : World) (h : RN w base b s L) (hw : Wf s) {d : Nat} (hd : d < s.n) (c1 c2 : Nat) : Calls Try.prog 46 #[.slice (some ⟨L.r d, 0, none⟩) s.n c1, .slice (some ⟨L.c, 0, none⟩) s.n c2, rv (s.told d).1 (s.told d).2] w fun e w' => e = .returned (.int .i64 (s.pick d)) ∧ Below w.heap.size w w' :=
  RefCh.refch_any _ _ _ _ _ _ _ _ _ _ _ w (by have := h.rb.n6; omega) (by have := h.rb.n6; omega) (prs_row (h.rows d hd)) (ints_cost h) (fun i _ => (hw.inn d i).1)
theorem cell_res {w : World} {r : Nat} {a : Addr} {v : Value} (h : w.cell? a = some v) (x y : Int) (hne : a.block ≠ r) : ((w.setCell ⟨r, 0, none⟩ (.int .i64 x)).setCell ⟨r, 1, none⟩ (.int .i64 y)).cell? a = some v :=
  cell_other (cell_other h (fun e => hne e.symm)) (fun e => hne e.symm)
set_option maxRecDepth 100000 in
set_option maxHeartbeats 16000000 in
theorem route_any {base b : Nat} {s : St} {L : RLay} (d : Int) (w : World) (h : RN w base b s L) (hw : Wf s) : Calls Try.prog 27 #[.pointer (some ⟨b, 0, none⟩), .int .i64 d] w fun e w' => e = .returned (.tuple #[.int .i64 (s.route d).1, rv (s.route d).2.1.1 (s.route d).2.1.2, .bool (s.route d).2.2]) ∧ Below w.heap.size w w' := by
  have HA0 : Below w.heap.size w (w.alloc (.cells #[.int .i64 0, .int .i64 0] 59 (0, 0))) := (Below.refl _ _).alloc (Nat.le_refl _) _
  have HB0 := Lib.hid HA0
  have H0 := Lib.hid (h.below HA0)
  have HW := Lib.hid hw
  have r0 : (w.alloc (.cells #[.int .i64 0, .int .i64 0] 59 (0, 0))).heap[w.heap.size]? = some (.cells #[.int .i64 0, .int .i64 0] 59 (0, 0)) := heap_alloc_new _ _
  have HR0 := Lib.hid r0
  have hblt := h.rb.lt
  have HLT := Lib.hid (show L.c ≠ w.heap.size ∧ L.i ≠ w.heap.size ∧ ∀ d, d < s.n → L.r d ≠ w.heap.size from ⟨Nat.ne_of_lt h.rb.cl, Nat.ne_of_lt (blk_lt h.outer.choose_spec.1), fun d hd => Nat.ne_of_lt (h.rows d hd).lt⟩)
  clear HA0 h hw r0
  by_cases h1 : d < 0
  · have hr : s.route d = (-1, (65535, 0), false) := by unfold St.route; rw [if_pos (.inl h1)]
    rw [hr]
    clear hr
    go_enter Try.func27, Try.ntmps27
    go_upto_region 1 with fail
    generalize hW : w.alloc (.cells #[.int .i64 0, .int .i64 0] 59 (0, 0)) = W at HB0 H0 HR0 ⊢
    clear hW
    go_wp2_with (go_at_call 28; (with_reducible refine (none_any W).mono ?_); rintro e w5 ⟨rfl, hb5⟩; have hx5 := (hb5.block _ (blk_lt HR0.out)).trans HR0.out; have a0 := blk_cell hx5 0; have a1 := blk_cell hx5 1; have z0 := blk_free hx5 0; have z1 := blk_free hx5 1; have HB5 := Lib.hid (HB0.out.trans (hb5.mono HB0.out.size)); clear hb5)
    have hz := blk_set (blk_set hx5 0 (.int .i64 65535)) 1 (.int .i64 0)
    have e0 := blk_cell hz 0
    have e1 := blk_cell hz 1
    simp at e0 e1
    exact bodyPost_ret (v := .tuple #[.int .i64 (-1), rv 65535 0, .bool false]) (by simp [results, Try.results27, go_sem, e0, e1]) rfl ⟨rfl, ((HB5.out).setCell (Nat.le_refl _) _).setCell (Nat.le_refl _) _⟩
  · by_cases h2 : (s.n : Int) ≤ d
    · have hr : s.route d = (-1, (65535, 0), false) := by unfold St.route; rw [if_pos (.inr h2)]
      rw [hr]
      clear hr
      go_enter Try.func27, Try.ntmps27
      go_upto_region 1 with fail
      generalize hW : w.alloc (.cells #[.int .i64 0, .int .i64 0] 59 (0, 0)) = W at HB0 H0 HR0 ⊢
      clear hW
      have c1 := H0.out.at.2.1
      go_wp2_with (go_at_call 28; (with_reducible refine (none_any W).mono ?_); rintro e w5 ⟨rfl, hb5⟩; have hx5 := (hb5.block _ (blk_lt HR0.out)).trans HR0.out; have a0 := blk_cell hx5 0; have a1 := blk_cell hx5 1; have z0 := blk_free hx5 0; have z1 := blk_free hx5 1; have HB5 := Lib.hid (HB0.out.trans (hb5.mono HB0.out.size)); clear hb5)
      have hz := blk_set (blk_set hx5 0 (.int .i64 65535)) 1 (.int .i64 0)
      have e0 := blk_cell hz 0
      have e1 := blk_cell hz 1
      simp at e0 e1
      exact bodyPost_ret (v := .tuple #[.int .i64 (-1), rv 65535 0, .bool false]) (by simp [results, Try.results27, go_sem, e0, e1]) rfl ⟨rfl, ((HB5.out).setCell (Nat.le_refl _) _).setCell (Nat.le_refl _) _⟩
    · obtain ⟨D, rfl⟩ : ∃ D : Nat, d = D := ⟨d.toNat, by omega⟩
      have hDn : D < s.n := by omega
      have d0 : (0 : Int) ≤ (D : Int) := by omega
      have d1 : (D : Int) < (s.n : Int) := by omega
      by_cases h3 : D = s.id
      · have hr : s.route (D : Int) = (-1, (0, s.seq), true) := by unfold St.route; rw [if_neg (by omega), if_pos (by omega)]
        rw [hr]
        have hb3 : ((D : Int) == (s.id : Int)) = true := by simp [h3]
        clear hr h3
        have hs1 := HW.out.seq.1
        have hs2 := HW.out.seq.2
        go_enter Try.func27, Try.ntmps27
        go_upto_region 1 with fail
        generalize hW : w.alloc (.cells #[.int .i64 0, .int .i64 0] 59 (0, 0)) = W at HB0 H0 HR0 ⊢
        clear hW
        have c0 := H0.out.at.1
        have c1 := H0.out.at.2.1
        have c5 := H0.out.at.2.2.2.2.2
        have hbn : b ≠ w.heap.size := Nat.ne_of_lt hblt
        obtain ⟨q, hqq⟩ : ∃ q, s.seq = q := ⟨_, rfl⟩
        rw [hqq] at c5 hs1 hs2
        have HQQ := Lib.hid hqq
        clear hqq
        have hwq : IntKind.i64.wrap q = q := IntWalk.i64_in _ (by omega)
        go_upto_region 4 with fail
        have c5 : W.drew.cell? ⟨b, 5, none⟩ = some (.int .u32 q) := c5
        have hx : W.drew.heap[w.heap.size]? = some (.cells #[.int .i64 0, .int .i64 0] 59 (0, 0)) := HR0.out
        have a0 := blk_cell hx 0
        have a1 := blk_cell hx 1
        have z0 := blk_free hx 0
        have z1 := blk_free hx 1
        refine wp_region_held_drew (S := (fun w' => w'.cell? ⟨b, 5, none⟩ = some (.int .u32 q))) (by kernel_rfl) c5 (fun _ => ?_)
        refine held_take 0 25 (v := ?_) rfl rfl (by kernel_rfl) (by kernel_rfl) (by kernel_rfl) (fun _ _ _ h => h) (by rfl) ?_ c5 ?_
        rotate_left
        · (intro w hSw; (try dsimp only at hSw); try simp only [List.getElem_toArray, List.getElem_cons_zero, List.getElem_cons_succ]; go_simp; try (with_reducible rfl))
        try simp only [List.setIfInBounds_toArray, List.set_cons_zero, List.set_cons_succ]
        refine held_take 1 26 (v := ?_) rfl rfl (by kernel_rfl) (by kernel_rfl) (by kernel_rfl) (fun _ _ _ h => h) (by rfl) ?_ c5 ?_
        rotate_left
        · (intro w hSw; (try dsimp only at hSw); try simp only [List.getElem_toArray, List.getElem_cons_zero, List.getElem_cons_succ]; go_simp; try (with_reducible rfl))
        try simp only [List.setIfInBounds_toArray, List.set_cons_zero, List.set_cons_succ]
        refine held_take 2 27 (v := ?_) rfl rfl (by kernel_rfl) (by kernel_rfl) (by kernel_rfl) (fun _ _ _ h => h) (by rfl) ?_ c5 ?_
        rotate_left
        · (intro w hSw; (try dsimp only at hSw); try simp only [List.getElem_toArray, List.getElem_cons_zero, List.getElem_cons_succ]; go_simp; try (with_reducible rfl))
        try simp only [List.setIfInBounds_toArray, List.set_cons_zero, List.set_cons_succ]
        refine held_take 3 28 (v := ?_) rfl rfl (by kernel_rfl) (by kernel_rfl) (by kernel_rfl) (fun _ _ _ h => h) (by rfl) ?_ c5 ?_
        rotate_left
        · (intro w hSw; (try dsimp only at hSw); try simp only [List.getElem_toArray, List.getElem_cons_zero, List.getElem_cons_succ]; go_simp; try (with_reducible rfl))
        try simp only [List.setIfInBounds_toArray, List.set_cons_zero, List.set_cons_succ]
        refine held_take 4 29 (v := ?_) rfl rfl (by kernel_rfl) (by kernel_rfl) (by kernel_rfl) (fun _ _ _ h => h) (by rfl) ?_ c5 ?_
        rotate_left
        · (intro w hSw; (try dsimp only at hSw); try simp only [List.getElem_toArray, List.getElem_cons_zero, List.getElem_cons_succ]; go_simp; try (with_reducible rfl))
        try simp only [List.setIfInBounds_toArray, List.set_cons_zero, List.set_cons_succ]
        refine held_take 5 30 (v := ?_) rfl rfl (by kernel_rfl) (by kernel_rfl) (by kernel_rfl) (fun _ _ _ h => h) (by rfl) ?_ c5 ?_
        rotate_left
        · (intro w hSw; (try dsimp only at hSw); try simp only [List.getElem_toArray, List.getElem_cons_zero, List.getElem_cons_succ]; go_simp; try (with_reducible rfl))
        try simp only [List.setIfInBounds_toArray, List.set_cons_zero, List.set_cons_succ]
        refine held_take 6 4 (v := ?_) rfl rfl (by kernel_rfl) (by kernel_rfl) (by kernel_rfl) (fun _ _ _ h => h) (by rfl) ?_ c5 ?_
        rotate_left
        · (intro w hSw; (try dsimp only at hSw); try simp only [List.getElem_toArray, List.getElem_cons_zero, List.getElem_cons_succ]; go_simp; try (with_reducible rfl))
        try simp only [List.setIfInBounds_toArray, List.set_cons_zero, List.set_cons_succ]
        have HB5 := Lib.hid (below_drew HB0.out)
        generalize W.drew = W2 at HB5 c5 hx a0 a1 z0 z1 ⊢
        refine held_do 7 rfl (by kernel_rfl) (by rfl) (fun K hK => ?_)
        try simp only [List.getElem_toArray, List.getElem_cons_zero, List.getElem_cons_succ]
        (go_simp; have c5 := cell_other (q := ⟨w.heap.size, 1, none⟩) (u := .int .i64 q) (cell_other (q := ⟨w.heap.size, 0, none⟩) (u := .int .i64 0) c5 (fun e => hbn e.symm)) (fun e => hbn e.symm))
        try simp only [Act.put, List.setIfInBounds_toArray, List.set_cons_zero, List.set_cons_succ]
        refine hK.out _ _ _ c5 ?_
        clear hK K
        refine held_take 8 6 (v := ?_) rfl rfl (by kernel_rfl) (by kernel_rfl) (by kernel_rfl) (fun _ _ _ h => h) (by rfl) ?_ c5 ?_
        rotate_left
        · (intro w hSw; (try dsimp only at hSw); try simp only [List.getElem_toArray, List.getElem_cons_zero, List.getElem_cons_succ]; go_simp; try (with_reducible rfl))
        try simp only [List.setIfInBounds_toArray, List.set_cons_zero, List.set_cons_succ]
        refine wpAnyH_done (by kernel_rfl) ?_ _
        go_wp2
        have hz := blk_set (blk_set hx 0 (.int .i64 0)) 1 (.int .i64 q)
        have e0 := blk_cell hz 0
        have e1 := blk_cell hz 1
        simp at e0 e1
        exact bodyPost_ret (v := .tuple #[.int .i64 (-1), rv 0 q, .bool true]) (by simp [results, Try.results27, go_sem, e0, e1]) rfl ⟨(by rw [HQQ.out]), ((HB5.out).setCell (Nat.le_refl _) _).setCell (Nat.le_refl _) _⟩
      · have hr : s.route (D : Int) = if s.pick D < 0 then (-1, (65535, 0), false) else (s.pick D, (addm (s.inn D (s.pick D).toNat).1 (s.cost (s.pick D).toNat).1, (s.inn D (s.pick D).toNat).2), true) := by
          unfold St.route
          rw [if_neg (by omega), if_neg (by omega)]
          rfl
        have hb3 : ((D : Int) == (s.id : Int)) = false := by simp; omega
        have hpr := pick_range s HW.out D
        have HRX := Lib.hid hr
        have HCH := Lib.hid (fun (W : World) (h : RN W base b s L) => choose_at W h HW.out hDn (L.rc D) s.n)
        generalize s.pick D = p at hpr HRX HCH
        clear hr h3
        go_enter Try.func27, Try.ntmps27
        go_upto_region 1 with fail
        generalize hW : w.alloc (.cells #[.int .i64 0, .int .i64 0] 59 (0, 0)) = W at HB0 H0 HR0 ⊢
        clear hW
        have c0 := H0.out.at.1
        have c1 := H0.out.at.2.1
        go_upto_region 5 with fail
        clear c0 c1
        have c2 : W.drew.cell? ⟨b, 2, none⟩ = some (.slice (some ⟨L.c, 0, none⟩) s.n s.n) := H0.out.at.2.2.1
        have c3 : W.drew.cell? ⟨b, 3, none⟩ = some (.slice (some ⟨L.i, 0, none⟩) s.n L.ic) := H0.out.at.2.2.2.1
        have c4 : W.drew.cell? ⟨b, 4, none⟩ = some (.slice (some ⟨L.f, 0, none⟩) s.n L.fc) := H0.out.at.2.2.2.2.1
        have y3 : W.drew.cell? ⟨L.i, D, none⟩ = some (.slice (some ⟨L.r D, 0, none⟩) s.n (L.rc D)) := H0.out.outer_at hDn
        have y4 : W.drew.cell? ⟨L.f, D * 2, none⟩ = some (.int .i64 (s.told D).1) := H0.out.rb.fd.c0 hDn
        have y5 : W.drew.cell? ⟨L.f, D * 2 + 1, none⟩ = some (.int .i64 (s.told D).2) := H0.out.rb.fd.c1 hDn
        refine wp_region_held_drew (S := (fun w' => w'.cell? ⟨b, 2, none⟩ = some (.slice (some ⟨L.c, 0, none⟩) s.n s.n) ∧ w'.cell? ⟨b, 3, none⟩ = some (.slice (some ⟨L.i, 0, none⟩) s.n L.ic) ∧ w'.cell? ⟨b, 4, none⟩ = some (.slice (some ⟨L.f, 0, none⟩) s.n L.fc) ∧ w'.cell? ⟨L.i, D, none⟩ = some (.slice (some ⟨L.r D, 0, none⟩) s.n (L.rc D)) ∧ w'.cell? ⟨L.f, D * 2, none⟩ = some (.int .i64 (s.told D).1) ∧ w'.cell? ⟨L.f, D * 2 + 1, none⟩ = some (.int .i64 (s.told D).2))) (by kernel_rfl) ⟨c2, c3, c4, y3, y4, y5⟩ (fun _ => ?_)
        refine held_take 0 31 (v := ?_) rfl rfl (by kernel_rfl) (by kernel_rfl) (by kernel_rfl) (fun _ _ _ h => h) (by rfl) ?_ ⟨c2, c3, c4, y3, y4, y5⟩ ?_
        rotate_left
        · (intro w hSw; (try dsimp only at hSw); try simp only [List.getElem_toArray, List.getElem_cons_zero, List.getElem_cons_succ]; go_simp; try (with_reducible rfl))
        try simp only [List.setIfInBounds_toArray, List.set_cons_zero, List.set_cons_succ]
        refine held_take 1 32 (v := ?_) rfl rfl (by kernel_rfl) (by kernel_rfl) (by kernel_rfl) (fun _ _ _ h => h) (by rfl) ?_ ⟨c2, c3, c4, y3, y4, y5⟩ ?_
        rotate_left
        · (intro w hSw; (try dsimp only at hSw); try simp only [List.getElem_toArray, List.getElem_cons_zero, List.getElem_cons_succ]; go_simp; try (with_reducible rfl))
        try simp only [List.setIfInBounds_toArray, List.set_cons_zero, List.set_cons_succ]
        refine held_take 2 33 (v := ?_) rfl rfl (by kernel_rfl) (by kernel_rfl) (by kernel_rfl) (fun _ _ _ h => h) (by rfl) ?_ ⟨c2, c3, c4, y3, y4, y5⟩ ?_
        rotate_left
        · (intro w hSw; (try dsimp only at hSw); try simp only [List.getElem_toArray, List.getElem_cons_zero, List.getElem_cons_succ]; go_simp; try (with_reducible rfl))
        try simp only [List.setIfInBounds_toArray, List.set_cons_zero, List.set_cons_succ]
        refine held_take 3 34 (v := ?_) rfl rfl (by kernel_rfl) (by kernel_rfl) (by kernel_rfl) (fun _ _ _ h => h) (by rfl) ?_ ⟨c2, c3, c4, y3, y4, y5⟩ ?_
        rotate_left
        · (intro w hSw; (try dsimp only at hSw); try simp only [List.getElem_toArray, List.getElem_cons_zero, List.getElem_cons_succ]; go_simp; try (with_reducible rfl))
        try simp only [List.setIfInBounds_toArray, List.set_cons_zero, List.set_cons_succ]
        refine held_take 4 35 (v := ?_) rfl rfl (by kernel_rfl) (by kernel_rfl) (by kernel_rfl) (fun _ _ _ h => h) (by rfl) ?_ ⟨c2, c3, c4, y3, y4, y5⟩ ?_
        rotate_left
        · (intro w hSw; (try dsimp only at hSw); try simp only [List.getElem_toArray, List.getElem_cons_zero, List.getElem_cons_succ]; go_simp; try (with_reducible rfl))
        try simp only [List.setIfInBounds_toArray, List.set_cons_zero, List.set_cons_succ]
        refine held_take 5 36 (v := ?_) rfl rfl (by kernel_rfl) (by kernel_rfl) (by kernel_rfl) (fun _ _ _ h => h) (by rfl) ?_ ⟨c2, c3, c4, y3, y4, y5⟩ ?_
        rotate_left
        · (intro w hSw; (try dsimp only at hSw); try simp only [List.getElem_toArray, List.getElem_cons_zero, List.getElem_cons_succ]; go_simp; try (with_reducible rfl))
        try simp only [List.setIfInBounds_toArray, List.set_cons_zero, List.set_cons_succ]
        refine held_take 6 37 (v := ?_) rfl rfl (by kernel_rfl) (by kernel_rfl) (by kernel_rfl) (fun _ _ _ h => h) (by rfl) ?_ ⟨c2, c3, c4, y3, y4, y5⟩ ?_
        rotate_left
        · (intro w hSw; (try dsimp only at hSw); try simp only [List.getElem_toArray, List.getElem_cons_zero, List.getElem_cons_succ]; go_simp; try (with_reducible rfl))
        try simp only [List.setIfInBounds_toArray, List.set_cons_zero, List.set_cons_succ]
        refine held_take 7 38 (v := ?_) rfl rfl (by kernel_rfl) (by kernel_rfl) (by kernel_rfl) (fun _ _ _ h => h) (by rfl) ?_ ⟨c2, c3, c4, y3, y4, y5⟩ ?_
        rotate_left
        · (intro w hSw; (try dsimp only at hSw); try simp only [List.getElem_toArray, List.getElem_cons_zero, List.getElem_cons_succ]; go_simp; try (with_reducible rfl))
        try simp only [List.setIfInBounds_toArray, List.set_cons_zero, List.set_cons_succ]
        refine held_take 8 39 (v := ?_) rfl rfl (by kernel_rfl) (by kernel_rfl) (by kernel_rfl) (fun _ _ _ h => h) (by rfl) ?_ ⟨c2, c3, c4, y3, y4, y5⟩ ?_
        rotate_left
        · (intro w hSw; (try dsimp only at hSw); try simp only [List.getElem_toArray, List.getElem_cons_zero, List.getElem_cons_succ]; go_simp; try (with_reducible rfl))
        try simp only [List.setIfInBounds_toArray, List.set_cons_zero, List.set_cons_succ]
        refine held_take 9 40 (v := ?_) rfl rfl (by kernel_rfl) (by kernel_rfl) (by kernel_rfl) (fun _ _ _ h => h) (by rfl) ?_ ⟨c2, c3, c4, y3, y4, y5⟩ ?_
        rotate_left
        · (intro w hSw; (try dsimp only at hSw); try simp only [List.getElem_toArray, List.getElem_cons_zero, List.getElem_cons_succ]; go_simp; try (with_reducible rfl))
        try simp only [List.setIfInBounds_toArray, List.set_cons_zero, List.set_cons_succ]
        refine held_take 10 41 (v := ?_) rfl rfl (by kernel_rfl) (by kernel_rfl) (by kernel_rfl) (fun _ _ _ h => h) (by rfl) ?_ ⟨c2, c3, c4, y3, y4, y5⟩ ?_
        rotate_left
        · (intro w hSw; (try dsimp only at hSw); try simp only [List.getElem_toArray, List.getElem_cons_zero, List.getElem_cons_succ]; go_simp; try (with_reducible rfl))
        try simp only [List.setIfInBounds_toArray, List.set_cons_zero, List.set_cons_succ]
        refine held_take 11 42 (v := ?_) rfl rfl (by kernel_rfl) (by kernel_rfl) (by kernel_rfl) (fun _ _ _ h => h) (by rfl) ?_ ⟨c2, c3, c4, y3, y4, y5⟩ ?_
        rotate_left
        · (intro w hSw; (try dsimp only at hSw); try simp only [List.getElem_toArray, List.getElem_cons_zero, List.getElem_cons_succ]; go_simp; try (with_reducible rfl))
        try simp only [List.setIfInBounds_toArray, List.set_cons_zero, List.set_cons_succ]
        refine held_take 12 43 (v := ?_) rfl rfl (by kernel_rfl) (by kernel_rfl) (by kernel_rfl) (fun _ _ _ h => h) (by rfl) ?_ ⟨c2, c3, c4, y3, y4, y5⟩ ?_
        rotate_left
        · (intro w hSw; (try dsimp only at hSw); try simp only [List.getElem_toArray, List.getElem_cons_zero, List.getElem_cons_succ]; go_simp; try (with_reducible rfl))
        try simp only [List.setIfInBounds_toArray, List.set_cons_zero, List.set_cons_succ]
        refine held_take 13 44 (v := ?_) rfl rfl (by kernel_rfl) (by kernel_rfl) (by kernel_rfl) (fun _ _ _ h => h) (by rfl) ?_ ⟨c2, c3, c4, y3, y4, y5⟩ ?_
        rotate_left
        · (intro w hSw; (try dsimp only at hSw); try simp only [List.getElem_toArray, List.getElem_cons_zero, List.getElem_cons_succ]; go_simp; try (with_reducible rfl))
        try simp only [List.setIfInBounds_toArray, List.set_cons_zero, List.set_cons_succ]
        refine held_take 14 45 (v := ?_) rfl rfl (by kernel_rfl) (by kernel_rfl) (by kernel_rfl) (fun _ _ _ h => h) (by rfl) ?_ ⟨c2, c3, c4, y3, y4, y5⟩ ?_
        rotate_left
        · (intro w hSw; (try dsimp only at hSw); try simp only [List.getElem_toArray, List.getElem_cons_zero, List.getElem_cons_succ]; go_simp; try (with_reducible rfl))
        try simp only [List.setIfInBounds_toArray, List.set_cons_zero, List.set_cons_succ]
        refine held_take 15 46 (v := ?_) rfl rfl (by kernel_rfl) (by kernel_rfl) (by kernel_rfl) (fun _ _ _ h => h) (by rfl) ?_ ⟨c2, c3, c4, y3, y4, y5⟩ ?_
        rotate_left
        · (intro w hSw; (try dsimp only at hSw); try simp only [List.getElem_toArray, List.getElem_cons_zero, List.getElem_cons_succ]; go_simp; try (with_reducible rfl))
        try simp only [List.setIfInBounds_toArray, List.set_cons_zero, List.set_cons_succ]
        refine held_take 16 47 (v := ?_) rfl rfl (by kernel_rfl) (by kernel_rfl) (by kernel_rfl) (fun _ _ _ h => h) (by rfl) ?_ ⟨c2, c3, c4, y3, y4, y5⟩ ?_
        rotate_left
        · (intro w hSw; (try dsimp only at hSw); try simp only [List.getElem_toArray, List.getElem_cons_zero, List.getElem_cons_succ]; go_simp; try (with_reducible rfl))
        try simp only [List.setIfInBounds_toArray, List.set_cons_zero, List.set_cons_succ]
        refine held_take 17 48 (v := ?_) rfl rfl (by kernel_rfl) (by kernel_rfl) (by kernel_rfl) (fun _ _ _ h => h) (by rfl) ?_ ⟨c2, c3, c4, y3, y4, y5⟩ ?_
        rotate_left
        · (intro w hSw; (try dsimp only at hSw); try simp only [List.getElem_toArray, List.getElem_cons_zero, List.getElem_cons_succ]; go_simp; try (with_reducible rfl))
        try simp only [List.setIfInBounds_toArray, List.set_cons_zero, List.set_cons_succ]
        refine held_call 18 49 rfl rfl (by kernel_rfl) (by rfl) (fun K hK => ?_)
        try simp only [List.getElem_toArray, List.getElem_cons_zero, List.getElem_cons_succ]
        go_simp
        (go_at_call 46; (refine (HCH.out _ H0.out.drew).mono ?_); rintro e w4 ⟨rfl, hb4⟩; have H4 := Lib.hid (H0.out.drew.below hb4); have HR4 := Lib.hid (show w4.heap[w.heap.size]? = _ from (hb4.block _ (blk_lt (w := W.drew) HR0.out)).trans HR0.out); have HB4 := Lib.hid ((below_drew HB0.out).trans (hb4.mono HB0.out.size)); have c2 := later hb4 c2; have c3 := later hb4 c3; have c4 := later hb4 c4; have y3 := later hb4 y3; have y4 := later hb4 y4; have y5 := later hb4 y5; clear hb4)
        try go_wp2_with fail
        try simp only [Act.put, List.setIfInBounds_toArray, List.set_cons_zero, List.set_cons_succ]
        refine hK.out _ _ _ ⟨c2, c3, c4, y3, y4, y5⟩ ?_
        clear hK K
        refine held_take 19 7 (v := ?_) rfl rfl (by kernel_rfl) (by kernel_rfl) (by kernel_rfl) (fun _ _ _ h => h) (by rfl) ?_ ⟨c2, c3, c4, y3, y4, y5⟩ ?_
        rotate_left
        · (intro w hSw; (try dsimp only at hSw); try simp only [List.getElem_toArray, List.getElem_cons_zero, List.getElem_cons_succ]; go_simp; try (with_reducible rfl))
        try simp only [List.setIfInBounds_toArray, List.set_cons_zero, List.set_cons_succ]
        refine wpAnyH_done (by kernel_rfl) ?_ _
        clear c2 c3 c4 y3 y4 y5
        by_cases hneg : p < 0
        · have hr2 := HRX.out
          rw [if_pos hneg] at hr2
          have HR2 := Lib.hid hr2
          clear hr2
          go_wp2_with (go_at_call 28; (with_reducible refine (none_any w4).mono ?_); rintro e w5 ⟨rfl, hb5⟩; have hx5 := (hb5.block _ (blk_lt HR4.out)).trans HR4.out; have a0 := blk_cell hx5 0; have a1 := blk_cell hx5 1; have z0 := blk_free hx5 0; have z1 := blk_free hx5 1; have HB5 := Lib.hid (HB4.out.trans (hb5.mono HB4.out.size)); clear hb5)
          have hz := blk_set (blk_set hx5 0 (.int .i64 65535)) 1 (.int .i64 0)
          have e0 := blk_cell hz 0
          have e1 := blk_cell hz 1
          simp at e0 e1
          exact bodyPost_ret (v := .tuple #[.int .i64 (-1), rv 65535 0, .bool false]) (by simp [results, Try.results27, go_sem, e0, e1]) rfl ⟨(by rw [HR2.out]), ((HB5.out).setCell (Nat.le_refl _) _).setCell (Nat.le_refl _) _⟩
        · have hr2 := HRX.out
          rw [if_neg hneg] at hr2
          obtain ⟨P, rfl⟩ : ∃ P : Nat, p = P := ⟨p.toNat, by omega⟩
          rw [Int.toNat_natCast] at hr2
          have hP : P < s.n := by omega
          have p0 : (0 : Int) ≤ (P : Int) := by omega
          have p1 : (P : Int) < (s.n : Int) := by omega
          have hwi := HW.out.inn D P
          have hi0 := hwi.1.1
          have hi1 := hwi.1.2
          clear hpr hneg hwi
          go_upto_region 8 with fail
          have c2 : w4.drew.cell? ⟨b, 2, none⟩ = some (.slice (some ⟨L.c, 0, none⟩) s.n s.n) := H4.out.at.2.2.1
          have c3 : w4.drew.cell? ⟨b, 3, none⟩ = some (.slice (some ⟨L.i, 0, none⟩) s.n L.ic) := H4.out.at.2.2.2.1
          have y3 : w4.drew.cell? ⟨L.i, D, none⟩ = some (.slice (some ⟨L.r D, 0, none⟩) s.n (L.rc D)) := H4.out.outer_at hDn
          have y4 : w4.drew.cell? ⟨L.r D, P * 2, none⟩ = some (.int .i64 (s.inn D P).1) := (H4.out.rows D hDn).c0 hP
          have y5 : w4.drew.cell? ⟨L.r D, P * 2 + 1, none⟩ = some (.int .i64 (s.inn D P).2) := (H4.out.rows D hDn).c1 hP
          have y6 : w4.drew.cell? ⟨L.c, P, none⟩ = some (.int .i64 (s.cost P).1) := H4.out.rb.cost_at hP
          generalize (s.inn D P).1 = im at y4 hi0 hi1 hr2
          generalize (s.inn D P).2 = iq at y5 hr2
          generalize (s.cost P).1 = cc at y6 hr2
          have HR2 := Lib.hid hr2
          clear hr2
          have hnb : b ≠ w.heap.size := Nat.ne_of_lt hblt
          have l1 := HLT.out.1
          have l2 := HLT.out.2.1
          have l3 := HLT.out.2.2 D hDn
          refine wp_region_held_drew (S := (fun w' => w'.cell? ⟨b, 2, none⟩ = some (.slice (some ⟨L.c, 0, none⟩) s.n s.n) ∧ w'.cell? ⟨b, 3, none⟩ = some (.slice (some ⟨L.i, 0, none⟩) s.n L.ic) ∧ w'.cell? ⟨L.i, D, none⟩ = some (.slice (some ⟨L.r D, 0, none⟩) s.n (L.rc D)) ∧ w'.cell? ⟨L.r D, P * 2, none⟩ = some (.int .i64 im) ∧ w'.cell? ⟨L.r D, P * 2 + 1, none⟩ = some (.int .i64 iq) ∧ w'.cell? ⟨L.c, P, none⟩ = some (.int .i64 cc))) (by kernel_rfl) ⟨c2, c3, y3, y4, y5, y6⟩ (fun _ => ?_)
          refine held_take 0 53 (v := ?_) rfl rfl (by kernel_rfl) (by kernel_rfl) (by kernel_rfl) (fun _ _ _ h => h) (by rfl) ?_ ⟨c2, c3, y3, y4, y5, y6⟩ ?_
          rotate_left
          · (intro w hSw; (try dsimp only at hSw); try simp only [List.getElem_toArray, List.getElem_cons_zero, List.getElem_cons_succ]; go_simp; try (with_reducible rfl))
          try simp only [List.setIfInBounds_toArray, List.set_cons_zero, List.set_cons_succ]
          refine held_take 1 54 (v := ?_) rfl rfl (by kernel_rfl) (by kernel_rfl) (by kernel_rfl) (fun _ _ _ h => h) (by rfl) ?_ ⟨c2, c3, y3, y4, y5, y6⟩ ?_
          rotate_left
          · (intro w hSw; (try dsimp only at hSw); try simp only [List.getElem_toArray, List.getElem_cons_zero, List.getElem_cons_succ]; go_simp; try (with_reducible rfl))
          try simp only [List.setIfInBounds_toArray, List.set_cons_zero, List.set_cons_succ]
          refine held_take 2 55 (v := ?_) rfl rfl (by kernel_rfl) (by kernel_rfl) (by kernel_rfl) (fun _ _ _ h => h) (by rfl) ?_ ⟨c2, c3, y3, y4, y5, y6⟩ ?_
          rotate_left
          · (intro w hSw; (try dsimp only at hSw); try simp only [List.getElem_toArray, List.getElem_cons_zero, List.getElem_cons_succ]; go_simp; try (with_reducible rfl))
          try simp only [List.setIfInBounds_toArray, List.set_cons_zero, List.set_cons_succ]
          refine held_take 3 56 (v := ?_) rfl rfl (by kernel_rfl) (by kernel_rfl) (by kernel_rfl) (fun _ _ _ h => h) (by rfl) ?_ ⟨c2, c3, y3, y4, y5, y6⟩ ?_
          rotate_left
          · (intro w hSw; (try dsimp only at hSw); try simp only [List.getElem_toArray, List.getElem_cons_zero, List.getElem_cons_succ]; go_simp; try (with_reducible rfl))
          try simp only [List.setIfInBounds_toArray, List.set_cons_zero, List.set_cons_succ]
          refine held_take 4 57 (v := ?_) rfl rfl (by kernel_rfl) (by kernel_rfl) (by kernel_rfl) (fun _ _ _ h => h) (by rfl) ?_ ⟨c2, c3, y3, y4, y5, y6⟩ ?_
          rotate_left
          · (intro w hSw; (try dsimp only at hSw); try simp only [List.getElem_toArray, List.getElem_cons_zero, List.getElem_cons_succ]; go_simp; try (with_reducible rfl))
          try simp only [List.setIfInBounds_toArray, List.set_cons_zero, List.set_cons_succ]
          refine held_take 5 58 (v := ?_) rfl rfl (by kernel_rfl) (by kernel_rfl) (by kernel_rfl) (fun _ _ _ h => h) (by rfl) ?_ ⟨c2, c3, y3, y4, y5, y6⟩ ?_
          rotate_left
          · (intro w hSw; (try dsimp only at hSw); try simp only [List.getElem_toArray, List.getElem_cons_zero, List.getElem_cons_succ]; go_simp; try (with_reducible rfl))
          try simp only [List.setIfInBounds_toArray, List.set_cons_zero, List.set_cons_succ]
          refine held_take 6 59 (v := ?_) rfl rfl (by kernel_rfl) (by kernel_rfl) (by kernel_rfl) (fun _ _ _ h => h) (by rfl) ?_ ⟨c2, c3, y3, y4, y5, y6⟩ ?_
          rotate_left
          · (intro w hSw; (try dsimp only at hSw); try simp only [List.getElem_toArray, List.getElem_cons_zero, List.getElem_cons_succ]; go_simp; try (with_reducible rfl))
          try simp only [List.setIfInBounds_toArray, List.set_cons_zero, List.set_cons_succ]
          refine held_take 7 60 (v := ?_) rfl rfl (by kernel_rfl) (by kernel_rfl) (by kernel_rfl) (fun _ _ _ h => h) (by rfl) ?_ ⟨c2, c3, y3, y4, y5, y6⟩ ?_
          rotate_left
          · (intro w hSw; (try dsimp only at hSw); try simp only [List.getElem_toArray, List.getElem_cons_zero, List.getElem_cons_succ]; go_simp; try (with_reducible rfl))
          try simp only [List.setIfInBounds_toArray, List.set_cons_zero, List.set_cons_succ]
          refine held_take 8 61 (v := ?_) rfl rfl (by kernel_rfl) (by kernel_rfl) (by kernel_rfl) (fun _ _ _ h => h) (by rfl) ?_ ⟨c2, c3, y3, y4, y5, y6⟩ ?_
          rotate_left
          · (intro w hSw; (try dsimp only at hSw); try simp only [List.getElem_toArray, List.getElem_cons_zero, List.getElem_cons_succ]; go_simp; try (with_reducible rfl))
          try simp only [List.setIfInBounds_toArray, List.set_cons_zero, List.set_cons_succ]
          refine held_take 9 62 (v := ?_) rfl rfl (by kernel_rfl) (by kernel_rfl) (by kernel_rfl) (fun _ _ _ h => h) (by rfl) ?_ ⟨c2, c3, y3, y4, y5, y6⟩ ?_
          rotate_left
          · (intro w hSw; (try dsimp only at hSw); try simp only [List.getElem_toArray, List.getElem_cons_zero, List.getElem_cons_succ]; go_simp; try (with_reducible rfl))
          try simp only [List.setIfInBounds_toArray, List.set_cons_zero, List.set_cons_succ]
          refine held_take 10 63 (v := ?_) rfl rfl (by kernel_rfl) (by kernel_rfl) (by kernel_rfl) (fun _ _ _ h => h) (by rfl) ?_ ⟨c2, c3, y3, y4, y5, y6⟩ ?_
          rotate_left
          · (intro w hSw; (try dsimp only at hSw); try simp only [List.getElem_toArray, List.getElem_cons_zero, List.getElem_cons_succ]; go_simp; try (with_reducible rfl))
          try simp only [List.setIfInBounds_toArray, List.set_cons_zero, List.set_cons_succ]
          refine held_take 11 64 (v := ?_) rfl rfl (by kernel_rfl) (by kernel_rfl) (by kernel_rfl) (fun _ _ _ h => h) (by rfl) ?_ ⟨c2, c3, y3, y4, y5, y6⟩ ?_
          rotate_left
          · (intro w hSw; (try dsimp only at hSw); try simp only [List.getElem_toArray, List.getElem_cons_zero, List.getElem_cons_succ]; go_simp; try (with_reducible rfl))
          try simp only [List.setIfInBounds_toArray, List.set_cons_zero, List.set_cons_succ]
          refine held_take 12 65 (v := ?_) rfl rfl (by kernel_rfl) (by kernel_rfl) (by kernel_rfl) (fun _ _ _ h => h) (by rfl) ?_ ⟨c2, c3, y3, y4, y5, y6⟩ ?_
          rotate_left
          · (intro w hSw; (try dsimp only at hSw); try simp only [List.getElem_toArray, List.getElem_cons_zero, List.getElem_cons_succ]; go_simp; try (with_reducible rfl))
          try simp only [List.setIfInBounds_toArray, List.set_cons_zero, List.set_cons_succ]
          refine held_take 13 66 (v := ?_) rfl rfl (by kernel_rfl) (by kernel_rfl) (by kernel_rfl) (fun _ _ _ h => h) (by rfl) ?_ ⟨c2, c3, y3, y4, y5, y6⟩ ?_
          rotate_left
          · (intro w hSw; (try dsimp only at hSw); try simp only [List.getElem_toArray, List.getElem_cons_zero, List.getElem_cons_succ]; go_simp; try (with_reducible rfl))
          try simp only [List.setIfInBounds_toArray, List.set_cons_zero, List.set_cons_succ]
          refine held_take 14 67 (v := ?_) rfl rfl (by kernel_rfl) (by kernel_rfl) (by kernel_rfl) (fun _ _ _ h => h) (by rfl) ?_ ⟨c2, c3, y3, y4, y5, y6⟩ ?_
          rotate_left
          · (intro w hSw; (try dsimp only at hSw); try simp only [List.getElem_toArray, List.getElem_cons_zero, List.getElem_cons_succ]; go_simp; try (with_reducible rfl))
          try simp only [List.setIfInBounds_toArray, List.set_cons_zero, List.set_cons_succ]
          refine held_take 15 68 (v := ?_) rfl rfl (by kernel_rfl) (by kernel_rfl) (by kernel_rfl) (fun _ _ _ h => h) (by rfl) ?_ ⟨c2, c3, y3, y4, y5, y6⟩ ?_
          rotate_left
          · (intro w hSw; (try dsimp only at hSw); try simp only [List.getElem_toArray, List.getElem_cons_zero, List.getElem_cons_succ]; go_simp; try (with_reducible rfl))
          try simp only [List.setIfInBounds_toArray, List.set_cons_zero, List.set_cons_succ]
          refine held_take 16 69 (v := ?_) rfl rfl (by kernel_rfl) (by kernel_rfl) (by kernel_rfl) (fun _ _ _ h => h) (by rfl) ?_ ⟨c2, c3, y3, y4, y5, y6⟩ ?_
          rotate_left
          · (intro w hSw; (try dsimp only at hSw); try simp only [List.getElem_toArray, List.getElem_cons_zero, List.getElem_cons_succ]; go_simp; try (with_reducible rfl))
          try simp only [List.setIfInBounds_toArray, List.set_cons_zero, List.set_cons_succ]
          refine held_take 17 70 (v := ?_) rfl rfl (by kernel_rfl) (by kernel_rfl) (by kernel_rfl) (fun _ _ _ h => h) (by rfl) ?_ ⟨c2, c3, y3, y4, y5, y6⟩ ?_
          rotate_left
          · (intro w hSw; (try dsimp only at hSw); try simp only [List.getElem_toArray, List.getElem_cons_zero, List.getElem_cons_succ]; go_simp; try (with_reducible rfl))
          try simp only [List.setIfInBounds_toArray, List.set_cons_zero, List.set_cons_succ]
          refine held_call 18 71 rfl rfl (by kernel_rfl) (by rfl) (fun K hK => ?_)
          try simp only [List.getElem_toArray, List.getElem_cons_zero, List.getElem_cons_succ]
          go_simp
          (go_at_call 47; (refine (add_below im iq cc _ hi0 hi1).mono ?_); rintro e w5 ⟨rfl, hb5⟩; have hx5 : w5.heap[w.heap.size]? = some (.cells #[.int .i64 0, .int .i64 0] 59 (0, 0)) := (hb5.block _ (blk_lt (w := w4.drew) HR4.out)).trans HR4.out; have HB5 := Lib.hid ((below_drew HB4.out).trans (hb5.mono HB4.out.size)); have c2 := later hb5 c2; have c3 := later hb5 c3; have y3 := later hb5 y3; have y4 := later hb5 y4; have y5 := later hb5 y5; have y6 := later hb5 y6; clear hb5)
          try go_wp2_with fail
          try simp only [Act.put, List.setIfInBounds_toArray, List.set_cons_zero, List.set_cons_succ]
          refine hK.out _ _ _ ⟨c2, c3, y3, y4, y5, y6⟩ ?_
          clear hK K
          refine held_take 19 4 (v := ?_) rfl rfl (by kernel_rfl) (by kernel_rfl) (by kernel_rfl) (fun _ _ _ h => h) (by rfl) ?_ ⟨c2, c3, y3, y4, y5, y6⟩ ?_
          rotate_left
          · (intro w hSw; (try dsimp only at hSw); try simp only [List.getElem_toArray, List.getElem_cons_zero, List.getElem_cons_succ]; go_simp; try (with_reducible rfl))
          try simp only [List.setIfInBounds_toArray, List.set_cons_zero, List.set_cons_succ]
          refine held_do 20 rfl (by kernel_rfl) (by rfl) (fun K hK => ?_)
          try simp only [List.getElem_toArray, List.getElem_cons_zero, List.getElem_cons_succ]
          (have a0 := blk_cell hx5 0; have a1 := blk_cell hx5 1; have z0 := blk_free hx5 0; have z1 := blk_free hx5 1; go_simp; have c2 := cell_res c2 (addm im cc) iq hnb; have c3 := cell_res c3 (addm im cc) iq hnb; have y3 := cell_res y3 (addm im cc) iq l2; have y4 := cell_res y4 (addm im cc) iq l3; have y5 := cell_res y5 (addm im cc) iq l3; have y6 := cell_res y6 (addm im cc) iq l1)
          try simp only [Act.put, List.setIfInBounds_toArray, List.set_cons_zero, List.set_cons_succ]
          refine hK.out _ _ _ ⟨c2, c3, y3, y4, y5, y6⟩ ?_
          clear hK K
          refine held_take 21 6 (v := ?_) rfl rfl (by kernel_rfl) (by kernel_rfl) (by kernel_rfl) (fun _ _ _ h => h) (by rfl) ?_ ⟨c2, c3, y3, y4, y5, y6⟩ ?_
          rotate_left
          · (intro w hSw; (try dsimp only at hSw); try simp only [List.getElem_toArray, List.getElem_cons_zero, List.getElem_cons_succ]; go_simp; try (with_reducible rfl))
          try simp only [List.setIfInBounds_toArray, List.set_cons_zero, List.set_cons_succ]
          refine wpAnyH_done (by kernel_rfl) ?_ _
          clear c2 c3 y3 y4 y5 y6
          go_wp2
          have hz := blk_set (blk_set hx5 0 (.int .i64 (addm im cc))) 1 (.int .i64 iq)
          have e0 := blk_cell hz 0
          have e1 := blk_cell hz 1
          simp at e0 e1
          exact bodyPost_ret (v := .tuple #[.int .i64 P, rv (addm im cc) iq, .bool true]) (by simp [results, Try.results27, go_sem, e0, e1]) rfl ⟨(by rw [HR2.out]), ((HB5.out).setCell (Nat.le_refl _) _).setCell (Nat.le_refl _) _⟩
end RefN
end Go.Proofs.Ytcmknllefnahkaa
