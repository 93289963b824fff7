/-
  The document's node: New, other, Fresh, Link. Conditions: those that each theorem names.
-/
import Derived.Test.YtcmknllefnahkaaRf1
namespace Go.Proofs.Ytcmknllefnahkaa
open Go.RowKit FR FP H2 OW
set_option linter.unusedVariables false
set_option linter.unusedSimpArgs false
namespace RefN
open Eng Ref18
theorem infoI : (Try.prog.info? 3).map (fun i => (i.zero, i.size, i.bytes)) = some (some (.int .i64 0), 1, 8) := by kernel_rfl
theorem wp_make_full {P : Program} (w : World) {o : Oper} {a : Act} {K : Act → World → Prop} {Q : Exit → Act → World → Prop}
    (l c : Operand) (t : TypeId) (hop : o.op = Op.makeSlice t l c)
    (base : Nat) (e : TypeId) (i : TypeInfo) (z : Value) (size : Nat) (h1 : P.underlying t = some (.slice e)) (h2 : P.info? e = some i) (h3 : i.zero = some z) (h4 : i.size = size)
    (kl kc : IntKind) (L C : Int) (n : Nat) (hl : a.eval l = .int kl L) (hc : a.eval c = .int kc C) (hL : L = (n : Int)) (hC : C = (n : Int)) (b2 : i.bytes * n ≤ 281474976710656) (b3 : n ≤ maxLen) (b4 : base ≤ w.heap.size)
    (hK : ∀ w', w'.ownsRow base e size (.slice (some ⟨w.heap.size, 0, none⟩) n n) n (madeCells z.cells (n * size)).toList → w.grownBy w' none → K (a.put o.dst (.slice (some ⟨w.heap.size, 0, none⟩) n n)) w') :
    o.wp P a w K Q := by
  obtain ⟨w', hrun, r1, r2⟩ := run_make_full (P := P) w base t e i z size h1 h2 h3 h4 kl kc n b2 b3 b4
  subst hL
  subst hC
  unfold Oper.wp
  simp [execOp, hop, hl, hc, hrun, Result.andThen]
  exact hK _ r1 r2
/-- so many zeros -/
theorem zero_row {w : World} {base n g : Nat} (h : w.ownsRow base 3 1 (.slice (some ⟨g, 0, none⟩) n n) n (madeCells (Value.int .i64 0).cells (n * 1)).toList) (h6 : n ≤ 6) : ∃ cur : Array Value, w.heap[g]? = some (.cells cur 3 (0, 0)) ∧ ∀ i, i < n → cur[i]? = some (.int .i64 0) := by
  rcases h.2 with ⟨h1, _⟩ | ⟨g', cap, cur, hv, hb, hh, hc, hm, hs, ht⟩
  · cases h1
  · simp only [Value.slice.injEq, Option.some.injEq, Addr.mk.injEq, and_true, true_and] at hv
    obtain ⟨rfl, rfl⟩ := hv
    refine ⟨cur, hh, fun i hi => ?_⟩
    have e : (madeCells (Value.int .i64 0).cells (n * 1)).toList[i]? = some (.int .i64 0) := by
      have e1 : (Value.int .i64 0).cells = #[.int .i64 0] := by simp [Value.cells]
      rw [e1, Nat.mul_one, toList_madeCells_one]
      simp [hi]
    rw [← ht, List.getElem?_take] at e
    split at e
    · rw [Array.getElem?_toList] at e; exact e
    · cases e
theorem own_grown {w w1 : World} {base size n : Nat} {e : TypeId} {v : Value} {xs : List Value} (h : w.ownsRow base e size v n xs) (hg : w.grownBy w1 none) : w1.ownsRow base e size v n xs :=
  ((Only.refl (fun _ => False) w).grown hg (fun k hk => by cases hk)).own h (fun _ _ h => h)
theorem below_grown {w w1 : World} (hg : w.grownBy w1 none) : Below w.heap.size w w1 := ((Only.refl (fun _ => False) w).grown hg (fun k hk => by cases hk)).below (Nat.le_refl _) (fun _ _ h => h)
theorem rb_new {W : World} {base gc gF cF id n : Nat} (hc : ∃ cur : Array Value, W.heap[gc]? = some (.cells cur 3 (0, 0)) ∧ ∀ i, i < n → cur[i]? = some (.int .i64 0)) (hF : Prow W gF n (fun _ => (65535, 0))) (h1 : base ≤ gc) (h2 : base ≤ gF) (hs : base ≤ W.heap.size) (hi : id < n) (h6 : n ≤ 6) :
    RB (W.alloc (.cells #[.int .i64 id, .int .i64 n, .slice (some ⟨gc, 0, none⟩) n n, .slice none 0 0, .slice (some ⟨gF, 0, none⟩) n cF, .int .u32 1] 53 (0, 0))) base W.heap.size (made id n) ⟨gc, 0, 0, gF, cF, fun _ => 0, fun _ => 0⟩ (.slice none 0 0) := by
  have hb : Below W.heap.size W (W.alloc (.cells #[.int .i64 id, .int .i64 n, .slice (some ⟨gc, 0, none⟩) n n, .slice none 0 0, .slice (some ⟨gF, 0, none⟩) n cF, .int .u32 1] 53 (0, 0))) := (Below.refl _ _).alloc (Nat.le_refl _) _
  obtain ⟨cur, hc1, hc2⟩ := hc
  exact ⟨heap_alloc_new _ _, ⟨cur, (hb.block gc (blk_lt hc1)).trans hc1, hc2⟩, hF.below hb, ⟨hs, h1, h2, Nat.le_trans hs hb.size⟩, hi, h6⟩
set_option maxRecDepth 100000 in
set_option maxHeartbeats 8000000 in
theorem new_any (id n : Nat) (w : World) (h1 : id < n) (h6 : n ≤ 6) : Calls Try.prog 12 #[.int .i64 id, .int .i64 n] w fun e w' => ∃ b L, e = .returned (.pointer (some ⟨b, 0, none⟩)) ∧ RN w' w.heap.size b (Eng.new id n) L ∧ Below w.heap.size w w' := by
  obtain ⟨i0, hi, hz0, hz1, hz2⟩ := info_parts infoI
  have HI := Lib.hid hi
  have hn0 : 0 < n := by omega
  clear hi
  go_enter Try.func12, Try.ntmps12
  go_upto_region 1 with fail
  refine wp_region_held_drew (S := (fun _ => True)) (by kernel_rfl) trivial (fun _ => ?_)
  refine held_take 0 6 (v := ?_) rfl rfl (by kernel_rfl) (by kernel_rfl) (by kernel_rfl) (fun _ _ _ h => h) (by rfl) ?_ trivial ?_
  rotate_left
  · (intro w hSw; (try dsimp only at hSw); try simp only [List.getElem_toArray, List.getElem_cons_zero, List.getElem_cons_succ]; go_simp; try (with_reducible rfl))
  try simp only [List.setIfInBounds_toArray, List.set_cons_zero, List.set_cons_succ]
  refine held_take 1 7 (v := ?_) rfl rfl (by kernel_rfl) (by kernel_rfl) (by kernel_rfl) (fun _ _ _ h => h) (by rfl) ?_ trivial ?_
  rotate_left
  · (intro w hSw; (try dsimp only at hSw); try simp only [List.getElem_toArray, List.getElem_cons_zero, List.getElem_cons_succ]; go_simp; try (with_reducible rfl))
  try simp only [List.setIfInBounds_toArray, List.set_cons_zero, List.set_cons_succ]
  refine held_take 2 8 (v := ?_) rfl rfl (by kernel_rfl) (by kernel_rfl) (by kernel_rfl) (fun _ _ _ h => h) (by rfl) ?_ trivial ?_
  rotate_left
  · (intro w hSw; (try dsimp only at hSw); try simp only [List.getElem_toArray, List.getElem_cons_zero, List.getElem_cons_succ]; go_simp; try (with_reducible rfl))
  try simp only [List.setIfInBounds_toArray, List.set_cons_zero, List.set_cons_succ]
  refine held_take 4 10 (v := ?_) rfl rfl (by kernel_rfl) (by kernel_rfl) (by kernel_rfl) (fun _ _ _ h => h) (by rfl) ?_ trivial ?_
  rotate_left
  · (intro w hSw; (try dsimp only at hSw); try simp only [List.getElem_toArray, List.getElem_cons_zero, List.getElem_cons_succ]; go_simp; try (with_reducible rfl))
  try simp only [List.setIfInBounds_toArray, List.set_cons_zero, List.set_cons_succ]
  refine held_two 3 5 rfl rfl (by kernel_rfl) (by rfl) (by rfl) (fun K hK => ?_) (fun K hK => ?_)
  · try simp only [List.getElem_toArray, List.getElem_cons_zero, List.getElem_cons_succ]
    (refine wp_make_full _ _ _ 49 rfl w.heap.size 3 i0 _ 1 Try.underlying49 HI.out hz0 hz1 _ _ _ _ n rfl rfl rfl rfl (by rw [hz2]; omega) (by unfold maxLen; omega) (Nat.le_refl _) ?_; intro w2 hown2 hgrow2)
    try simp only [Act.put, List.setIfInBounds_toArray, List.set_cons_zero, List.set_cons_succ]
    refine hK.out _ _ _ trivial ?_
    clear hK K
    have HC2 := Lib.hid hown2
    have HB2 := Lib.hid (show Below w.heap.size w w2 from (((Only.refl (fun _ => False) w).drew).below (Nat.le_refl _) (fun _ _ h => h)).trans (below_grown hgrow2))
    generalize hgc : w.drew.heap.size = gc at HC2 ⊢
    have HGC := Lib.hid (show w.heap.size ≤ gc from Nat.le_of_eq hgc)
    clear hown2 hgrow2 hgc
    refine held_call 5 11 rfl rfl (by kernel_rfl) (by rfl) (fun K hK => ?_)
    try simp only [List.getElem_toArray, List.getElem_cons_zero, List.getElem_cons_succ]
    go_simp
    (go_at_call 39; (refine (row_any n _ h6).mono ?_); rintro e w5 ⟨⟨v5, rfl, hv5⟩, hb5⟩; obtain ⟨g5, c5, rfl, hg5, hp5⟩ := prow_of_own hv5 hn0; have HP := Lib.hid hp5; have HGF := Lib.hid (Nat.le_trans HB2.out.size hg5); have HC := Lib.hid (OW.own_keep HC2.out hb5); have HB := Lib.hid (HB2.out.trans (hb5.mono HB2.out.size)); clear hv5 hb5 hp5 hg5)
    try go_wp2_with fail
    try simp only [Act.put, List.setIfInBounds_toArray, List.set_cons_zero, List.set_cons_succ]
    refine hK.out _ _ _ trivial ?_
    clear hK K
    refine held_take 6 12 (v := ?_) rfl rfl (by kernel_rfl) (by kernel_rfl) (by kernel_rfl) (fun _ _ _ h => h) (by rfl) ?_ trivial ?_
    rotate_left
    · (intro w hSw; (try dsimp only at hSw); try simp only [List.getElem_toArray, List.getElem_cons_zero, List.getElem_cons_succ]; go_simp; try (with_reducible rfl))
    try simp only [List.setIfInBounds_toArray, List.set_cons_zero, List.set_cons_succ]
    refine held_call 7 13 rfl rfl (by kernel_rfl) (by rfl) (fun K hK => ?_)
    try simp only [List.getElem_toArray, List.getElem_cons_zero, List.getElem_cons_succ]
    go_simp
    try simp only [Act.put, List.setIfInBounds_toArray, List.set_cons_zero, List.set_cons_succ]
    refine hK.out _ _ _ trivial ?_
    clear hK K
    refine held_take 8 5 (v := ?_) rfl rfl (by kernel_rfl) (by kernel_rfl) (by kernel_rfl) (fun _ _ _ h => h) (by rfl) ?_ trivial ?_
    rotate_left
    · (intro w hSw; (try dsimp only at hSw); try simp only [List.getElem_toArray, List.getElem_cons_zero, List.getElem_cons_succ]; go_simp; try (with_reducible rfl))
    try simp only [List.setIfInBounds_toArray, List.set_cons_zero, List.set_cons_succ]
    refine wpAnyH_done (by kernel_rfl) ?_ _
    have HRB := Lib.hid (rb_new (base := w.heap.size) (cF := c5) (zero_row HC.out h6) HP.out HGC.out HGF.out HB.out.size h1 h6)
    have HBB := Lib.hid (HB.out.trans (((Below.refl _ _).alloc (Nat.le_refl _) (.cells #[.int .i64 id, .int .i64 n, .slice (some ⟨gc, 0, none⟩) n n, .slice none 0 0, .slice (some ⟨g5, 0, none⟩) n c5, .int .u32 1] 53 (0, 0))).mono HB.out.size))
    go_wp2_with (go_at_call 24; (with_reducible refine (restart_any _ HRB.out).mono ?_); rintro e w9 ⟨rfl, ⟨L9, hn9⟩, ha9⟩; have HN9 := Lib.hid hn9; have HA9 := Lib.hid (HBB.out.trans ha9.bel); clear hn9 ha9)
    go_ret
    exact ⟨_, _, rfl, HN9.out, HA9.out⟩
  · try simp only [List.getElem_toArray, List.getElem_cons_zero, List.getElem_cons_succ]
    go_simp
    (go_at_call 39; (refine (row_any n _ h6).mono ?_); rintro e w5 ⟨⟨v5, rfl, hv5⟩, hb5⟩; obtain ⟨g5, c5, rfl, hg5, hp5⟩ := prow_of_own hv5 hn0; have HP5 := Lib.hid hp5; have HGF := Lib.hid (show w.heap.size ≤ g5 from hg5); have HB5 := Lib.hid (show Below w.heap.size w w5 from (((Only.refl (fun _ => False) w).drew).below (Nat.le_refl _) (fun _ _ h => h)).trans hb5); clear hv5 hb5 hp5 hg5)
    try go_wp2_with fail
    try simp only [Act.put, List.setIfInBounds_toArray, List.set_cons_zero, List.set_cons_succ]
    refine hK.out _ _ _ trivial ?_
    clear hK K
    refine held_call 3 9 rfl rfl (by kernel_rfl) (by rfl) (fun K hK => ?_)
    try simp only [List.getElem_toArray, List.getElem_cons_zero, List.getElem_cons_succ]
    (refine wp_make_full _ _ _ 49 rfl w.heap.size 3 i0 _ 1 Try.underlying49 HI.out hz0 hz1 _ _ _ _ n rfl rfl rfl rfl (by rw [hz2]; omega) (by unfold maxLen; omega) HB5.out.size ?_; intro w2 hown2 hgrow2)
    try simp only [Act.put, List.setIfInBounds_toArray, List.set_cons_zero, List.set_cons_succ]
    refine hK.out _ _ _ trivial ?_
    clear hK K
    have HC := Lib.hid hown2
    have HP := Lib.hid (HP5.out.below (below_grown hgrow2))
    have HB := Lib.hid (HB5.out.trans ((below_grown hgrow2).mono HB5.out.size))
    generalize hgc : w5.heap.size = gc at HC ⊢
    have HGC := Lib.hid (show w.heap.size ≤ gc from hgc ▸ HB5.out.size)
    clear hown2 hgrow2 hgc
    refine held_take 6 12 (v := ?_) rfl rfl (by kernel_rfl) (by kernel_rfl) (by kernel_rfl) (fun _ _ _ h => h) (by rfl) ?_ trivial ?_
    rotate_left
    · (intro w hSw; (try dsimp only at hSw); try simp only [List.getElem_toArray, List.getElem_cons_zero, List.getElem_cons_succ]; go_simp; try (with_reducible rfl))
    try simp only [List.setIfInBounds_toArray, List.set_cons_zero, List.set_cons_succ]
    refine held_call 7 13 rfl rfl (by kernel_rfl) (by rfl) (fun K hK => ?_)
    try simp only [List.getElem_toArray, List.getElem_cons_zero, List.getElem_cons_succ]
    go_simp
    try simp only [Act.put, List.setIfInBounds_toArray, List.set_cons_zero, List.set_cons_succ]
    refine hK.out _ _ _ trivial ?_
    clear hK K
    refine held_take 8 5 (v := ?_) rfl rfl (by kernel_rfl) (by kernel_rfl) (by kernel_rfl) (fun _ _ _ h => h) (by rfl) ?_ trivial ?_
    rotate_left
    · (intro w hSw; (try dsimp only at hSw); try simp only [List.getElem_toArray, List.getElem_cons_zero, List.getElem_cons_succ]; go_simp; try (with_reducible rfl))
    try simp only [List.setIfInBounds_toArray, List.set_cons_zero, List.set_cons_succ]
    refine wpAnyH_done (by kernel_rfl) ?_ _
    have HRB := Lib.hid (rb_new (base := w.heap.size) (cF := c5) (zero_row HC.out h6) HP.out HGC.out HGF.out HB.out.size h1 h6)
    have HBB := Lib.hid (HB.out.trans (((Below.refl _ _).alloc (Nat.le_refl _) (.cells #[.int .i64 id, .int .i64 n, .slice (some ⟨gc, 0, none⟩) n n, .slice none 0 0, .slice (some ⟨g5, 0, none⟩) n c5, .int .u32 1] 53 (0, 0))).mono HB.out.size))
    go_wp2_with (go_at_call 24; (with_reducible refine (restart_any _ HRB.out).mono ?_); rintro e w9 ⟨rfl, ⟨L9, hn9⟩, ha9⟩; have HN9 := Lib.hid hn9; have HA9 := Lib.hid (HBB.out.trans ha9.bel); clear hn9 ha9)
    go_ret
    exact ⟨_, _, rfl, HN9.out, HA9.out⟩
theorem RN.at {w : World} {base b : Nat} {s : St} {L : RLay} (h : RN w base b s L) : w.cell? ⟨b, 0, none⟩ = some (.int .i64 s.id) ∧ w.cell? ⟨b, 1, none⟩ = some (.int .i64 s.n) ∧ w.cell? ⟨b, 2, none⟩ = some (.slice (some ⟨L.c, 0, none⟩) s.n s.n) ∧ w.cell? ⟨b, 3, none⟩ = some (.slice (some ⟨L.i, 0, none⟩) s.n L.ic) ∧ w.cell? ⟨b, 4, none⟩ = some (.slice (some ⟨L.f, 0, none⟩) s.n L.fc) ∧ w.cell? ⟨b, 5, none⟩ = some (.int .u32 s.seq) := h.rb.at
theorem RN.outer_at {w : World} {base b : Nat} {s : St} {L : RLay} (h : RN w base b s L) {d : Nat} (hd : d < s.n) : w.cell? ⟨L.i, d, none⟩ = some (.slice (some ⟨L.r d, 0, none⟩) s.n (L.rc d)) := by
  obtain ⟨cur, hc, hcc⟩ := h.outer
  rw [blk_cell hc]; exact hcc d hd
theorem RN.only {S : Nat → Prop} {w w' : World} {base b : Nat} {s : St} {L : RLay} (h : RN w base b s L) (ho : Only S w w') (h1 : ¬ S b) (h2 : ¬ S L.c) (h3 : ¬ S L.f) (h4 : ¬ S L.i) (h5 : ∀ d, d < s.n → ¬ S (L.r d)) : RN w' base b s L := by
  obtain ⟨cur, hc, hcc⟩ := h.outer
  exact ⟨h.rb.only ho h1 h2 h3, ⟨cur, ho.obj hc h4, hcc⟩, fun d hd => (h.rows d hd).only ho (h5 d hd), h.inj, h.fne, h.lo⟩
theorem RN.below {w w' : World} {base b : Nat} {s : St} {L : RLay} (h : RN w base b s L) (hb : Below w.heap.size w w') : RN w' base b s L :=
  h.only (Only.of_below (Only.refl (fun _ => False) w) hb) (fun h => h) (fun h => h) (fun h => h) (fun h => h) (fun _ _ h => h)
theorem RN.drew {w : World} {base b : Nat} {s : St} {L : RLay} (h : RN w base b s L) : RN w.drew base b s L := h.below (((Only.refl (fun _ => False) w).drew).below (Nat.le_refl _) (fun _ _ h => h))
/-- what turns no block of the node's kinds -/
theorem RN.typ {T : TypeId → Prop} {w w' : World} {base b : Nat} {s : St} {L : RLay} (h : RN w base b s L) (ho : OnlyT T w w') (h1 : ¬ T 53) (h2 : ¬ T 3) (h3 : ¬ T 51) (h4 : ¬ T 59) : RN w' base b s L := by
  have hx : ∀ {g : Nat} {cs : Array Value} {t : TypeId} {fr : Nat × Nat}, w.heap[g]? = some (.cells cs t fr) → ¬ T t → ¬ TypeAt w g T := fun hg ht hh => by
    obtain ⟨cs', t', fr', e1, e2⟩ := hh
    rw [hg] at e1
    cases e1
    exact ht e2
  obtain ⟨cur, hc, _⟩ := h.rb.cost
  obtain ⟨cu2, hc2, _⟩ := h.outer
  obtain ⟨cu3, hc3, _⟩ := h.rb.fd
  exact h.only ho (hx h.rb.blk h1) (hx hc h2) (hx hc3 h4) (hx hc2 h3) (fun d hd => by
    obtain ⟨cu4, hc4, _⟩ := h.rows d hd
    exact hx hc4 h4)
set_option maxRecDepth 100000 in
set_option maxHeartbeats 4000000 in
theorem other_any {base b : Nat} {s : St} {L : RLay} (i : Int) (w : World) (h : RN w base b s L) : Calls Try.prog 41 #[.pointer (some ⟨b, 0, none⟩), .int .i64 i] w fun e w' => e = .returned (.bool (oth s i)) ∧ w = w' := by
  have c0 := h.at.1
  have c1 := h.at.2.1
  clear h
  by_cases h0 : 0 ≤ i
  · by_cases h1 : i < (s.n : Int)
    · by_cases h2 : i = (s.id : Int)
      · have e : oth s i = false := by simp [oth, h2]
        have h2' : (i != (s.id : Int)) = false := by simp [h2]
        rw [e]
        clear h2
        go_enter Try.func41, Try.ntmps41
        go_wp2
        go_ret
        exact ⟨rfl, rfl⟩
      · have h2' : (i != (s.id : Int)) = true := by simp [h2]
        have e : oth s i = true := by simp [oth, h2]; omega
        rw [e]
        clear h2
        go_enter Try.func41, Try.ntmps41
        go_wp2
        go_ret
        exact ⟨rfl, rfl⟩
    · have e : oth s i = false := by simp [oth]; omega
      rw [e]
      go_enter Try.func41, Try.ntmps41
      go_wp2
      go_ret
      exact ⟨rfl, rfl⟩
  · have e : oth s i = false := by simp [oth]; omega
    rw [e]
    go_enter Try.func41, Try.ntmps41
    go_wp2
    go_ret
    exact ⟨rfl, rfl⟩
theorem RN.neb {w : World} {base b : Nat} {s : St} {L : RLay} (h : RN w base b s L) : L.c ≠ b ∧ L.f ≠ b ∧ L.i ≠ b ∧ ∀ d, d < s.n → L.r d ≠ b := by
  obtain ⟨cur, hc, _⟩ := h.rb.cost
  obtain ⟨cu2, hc2, _⟩ := h.outer
  obtain ⟨cu3, hc3, _⟩ := h.rb.fd
  exact ⟨blk_ne hc h.rb.blk (by decide), blk_ne hc3 h.rb.blk (by decide), blk_ne hc2 h.rb.blk (by decide), fun d hd => by
    obtain ⟨cu4, hc4, _⟩ := h.rows d hd
    exact blk_ne hc4 h.rb.blk (by decide)⟩
theorem RN.seq {w : World} {base b : Nat} {s : St} {L : RLay} (h : RN w base b s L) (q : Int) : RN (w.setCell ⟨b, 5, none⟩ (.int .u32 q)) base b { s with seq := q } L := by
  have hne := h.neb
  have ho : Only (fun k => k = b) w (w.setCell ⟨b, 5, none⟩ (.int .u32 q)) := (Only.refl (fun k => k = b) w).setCell (p := ⟨b, 5, none⟩) (fun _ => rfl) _
  obtain ⟨cur, hc, hcc⟩ := h.rb.cost
  obtain ⟨cu2, hc2, hcc2⟩ := h.outer
  refine ⟨⟨blk_set h.rb.blk 5 (.int .u32 q), ⟨cur, ho.obj hc hne.1, hcc⟩, h.rb.fd.only ho hne.2.1, ⟨h.rb.lo.1, h.rb.lo.2.1, h.rb.lo.2.2.1, Nat.le_trans h.rb.lo.2.2.2 ho.size⟩, h.rb.id, h.rb.n6⟩, ⟨cu2, ho.obj hc2 hne.2.2.1, hcc2⟩, fun d hd => (h.rows d hd).only ho (hne.2.2.2 d hd), h.inj, h.fne, h.lo⟩
set_option maxRecDepth 100000 in
set_option maxHeartbeats 4000000 in
theorem fresh_top {base b : Nat} {s : St} {L : RLay} (w : World) (h : RN w base b s L) (ht : s.seq = 4294967295) : Calls Try.prog 22 #[.pointer (some ⟨b, 0, none⟩)] w fun e w' => e = .returned (.int .i64 7) ∧ w = w' := by
  have c := h.at.2.2.2.2.2
  rw [ht] at c
  clear h ht
  go_enter Try.func22, Try.ntmps22
  go_wp2
  go_ret
  exact ⟨rfl, rfl⟩
set_option maxRecDepth 100000 in
set_option maxHeartbeats 4000000 in
theorem fresh_any {base b : Nat} {s : St} {L : RLay} (w : World) (h : RN w base b s L) (hs : Sm s.seq) (ht : s.seq ≠ 4294967295) : Calls Try.prog 22 #[.pointer (some ⟨b, 0, none⟩)] w fun e w' => e = .returned (.int .i64 0) ∧ RN w' base b { s with seq := s.seq + 1 } L ∧ AfterR base w w' := by
  have c := h.at.2.2.2.2.2
  have z := h.rb.free 5
  have HF := Lib.hid (h.seq (s.seq + 1))
  have HA := Lib.hid ((AfterR.refl base w).set (p := ⟨b, 5, none⟩) h.rb.blk (.inl rfl) h.rb.lo.1 h.rb.lo.2.2.2 (.int .u32 (s.seq + 1)))
  have hs1 := hs.1
  have hs2 := hs.2
  obtain ⟨q, hq⟩ : ∃ q, s.seq = q := ⟨_, rfl⟩
  rw [hq] at c hs1 hs2 ht
  have e1 : (q == 4294967295) = false := by simp [ht]
  have e2 : IntKind.u32.wrap (q + 1) = q + 1 := by simp [IntKind.wrap, IntKind.bits, IntKind.signed]; omega
  have HQ := Lib.hid hq
  clear h hq
  go_enter Try.func22, Try.ntmps22
  go_wp2
  go_ret
  have h1 := HF.out
  have h2 := HA.out
  rw [HQ.out] at h1 h2 ⊢
  exact ⟨rfl, h1, h2⟩
end RefN
end Go.Proofs.Ytcmknllefnahkaa
