/-
  slices.Insert whole, slices.Delete at routes. Conditions: those that each theorem names.
-/
import Derived.Test.YtbeoclcnajfjcaaInsC
namespace Go.Proofs.Ytbeoclcnajfjcaa
open Go Go.RowKit H2
set_option linter.unusedVariables false
set_option linter.unusedSimpArgs false
namespace Tab
theorem insertIdx_eq (L : List Rt) (r : Rt) : ∀ i, i ≤ L.length → L.insertIdx i r = L.take i ++ r :: L.drop i := by
  induction L with
  | nil => intro i hi; have : i = 0 := by simpa using hi
           subst this; rfl
  | cons x L ih =>
    intro i hi
    cases i with
    | zero => rfl
    | succ i => rw [List.insertIdx_succ_cons, ih i (by simpa using hi)]; rfl
theorem eraseIdx_eq (L : List Rt) : ∀ i, L.eraseIdx i = L.take i ++ L.drop (i + 1) := by
  induction L with
  | nil => intro i; simp
  | cons x L ih =>
    intro i
    cases i with
    | zero => rfl
    | succ i => rw [List.eraseIdx_cons_succ, ih i]; rfl
theorem insert_any (w : World) (base : Nat) (v : Value) (L : List Rt) (r : Rt) (bv i : Nat) (h : w.ownsRow base 34 20 v L.length (flat L)) (hi : i ≤ L.length) (hl : L.length ≤ 1000) (hbv : w.heap[bv]? = some (.cells (encR r).toArray 34 (0, 0))) (hne : v.ownBlock ≠ some bv) (hb : base ≤ w.heap.size) :
    Calls Try.prog 42 #[v, .int .i64 i, .slice (some ⟨bv, 0, none⟩) 1 1] w fun e w' => ∃ v', e = .returned v' ∧ w'.ownsRow base 34 20 v' (L.insertIdx i r).length (flat (L.insertIdx i r)) ∧ Only (fun k => v.ownBlock = some k) w w' ∧ Kin w v v' := by
  rw [insertIdx_eq L r i hi]
  rcases Nat.eq_or_lt_of_le hi with rfl | hlt
  · rw [List.take_length, List.drop_length]
    exact insert_end w base v L r bv h hl hbv hb
  · obtain ⟨g, cap, rfl, _, hc, _⟩ := own_form h (by omega)
    have hO : (fun k => (Value.slice (some ⟨g, 0, none⟩) L.length cap).ownBlock = some k) = (fun k => k = g) := funext fun k => propext ⟨fun e => by simpa [Value.ownBlock] using e.symm, fun e => by subst e; rfl⟩
    rw [hO]
    rcases Nat.eq_or_lt_of_le hc with hc | hc
    · exact insert_grow w base g L.length cap L r bv i h rfl hlt hc hbv hl hb
    · exact insert_room w base g L.length cap L r bv i h rfl hlt hc hbv (fun e => hne (by subst e; rfl)) hl
section
variable {P : Program}
theorem wpList_clear_run {ops : Array Oper} {rest : List Oper} {o : Oper} {a : Act} {w w' : World} {Q : Exit → Act → World → Prop} (hgd : o.guard = none) (x : Operand) (t : TypeId)
    (ho : o.op = .call { callee := .builtin .clear, args := #[x], argTypes := #[t] }) (u : Value) (hx : a.eval x = u) {v' : Value} (hr : (Builtin.clear_ #[t] o.type #[u]).run P w = .ok v' w')
    (h : wpList P ops Q rest (a.put o.dst v') w') : wpList P ops Q (o :: rest) a w := by
  refine wpList_plain hgd fun K hK => ?_
  unfold Oper.wp execOp
  simp only [ho, resolve, invoke, builtin, Sem.run_bind, Sem.run_pure, Result.andThen_ok, List.map_toArray, List.map_cons, List.map_nil, hx, hr]
  exact hK _ _ h
end
set_option maxRecDepth 100000 in
set_option maxHeartbeats 8000000 in
theorem delete_any (w : World) (base g k cap : Nat) (L : List Rt) (i : Nat) (h : w.ownsRow base 34 20 (.slice (some ⟨g, 0, none⟩) (k + 1) cap) (k + 1) (flat L)) (hn : L.length = k + 1) (hi : i < k + 1) (hl : k + 1 ≤ 1000) :
    Calls Try.prog 43 #[.slice (some ⟨g, 0, none⟩) (k + 1) cap, .int .i64 i, .int .i64 (i + 1)] w fun e w' => ∃ v', e = .returned v' ∧ w'.ownsRow base 34 20 v' (L.eraseIdx i).length (flat (L.eraseIdx i)) ∧ Only (fun k => k = g) w w' ∧ Kin w (.slice (some ⟨g, 0, none⟩) (k + 1) cap) v' := by
  rcases h.2 with ⟨h0, _⟩ | ⟨g', cap', cur, hv, hb, hh, hc, hm, hsz, ht⟩
  · cases h0
  simp only [Value.slice.injEq, Option.some.injEq, Addr.mk.injEq, and_true, true_and] at hv
  obtain ⟨rfl, rfl⟩ := hv
  obtain ⟨i0, hi0, hz0, hz1, hz2⟩ := infoR'
  have hA := own_at h
  have hcap20 : (k + 1) * 20 ≤ cap * 20 := Nat.mul_le_mul_right 20 hc
  have hdl : (flat (L.drop (i + 1))).length = (k - i) * 20 := by rw [flat_len, List.length_drop, hn]; omega
  have hap : ∀ (W : World) (ad : Addr) (ty : TypeId) (c : Nat), W.heap[g]? = some (.cells cur 34 (0, 0)) → (∀ j u, (flat (L.drop (i + 1)))[j]? = some u → W.cell? (ad.add j) = some u) →
      (Builtin.append_ #[31, 31] ty #[.slice (some ⟨g, 0, none⟩) i cap, .slice (some ad) (k - i) c]).run Try.prog W = .ok (.slice (some ⟨g, 0, none⟩) k cap) (W.setRow g (splice cur (i * 20) (flat (L.drop (i + 1))))) := fun W ad ty c hW hnews => by
    have := run_append_room (P := Try.prog) W 31 ty 34 i0 Try.underlying31 hi0 g i cap cur hW ad (k - i) c (flat (L.drop (i + 1))) (by rw [hdl, hz1]) hnews (flat_one' _) (by omega) (by rw [hdl, hz1, hsz]; omega)
    rw [hz1, show i + (k - i) = k by omega] at this
    exact this
  have hsrc : ∀ j u, (flat (L.drop (i + 1)))[j]? = some u → w.drew.cell? ((⟨g, (i + 1) * n20, none⟩ : Addr).add j) = some u := fun j v hj => by
    rw [Addr.add_lit]
    rw [← flat_drop, List.getElem?_drop] at hj
    have := hA ((i + 1) * 20 + j) v hj
    rw [Nat.zero_add] at this
    exact this
  have HAP1 := Lib.hid (fun ty c => hap w.drew ⟨g, (i + 1) * n20, none⟩ ty c hh hsrc)
  have HAP2 := Lib.hid (fun (e : i = k) ty c => hap w.drew ⟨g, 0, none⟩ ty c hh (fun j u hj => by rw [List.drop_of_length_le (by omega)] at hj; simp [flat] at hj))
  have hcs : (splice cur (i * 20) (flat (L.drop (i + 1)))).size = cur.size := splice_size (by rw [hdl, hsz]; omega)
  have HH1 := Lib.hid (setRow_heap w.drew g cur (splice cur (i * 20) (flat (L.drop (i + 1)))) 34 (0, 0) hh)
  have HCL := Lib.hid (fun ty c => clear_run (w.drew.setRow g (splice cur (i * 20) (flat (L.drop (i + 1))))) ty g (k * n20) c (splice cur (i * 20) (flat (L.drop (i + 1)))) HH1.out (by show k * 20 + 20 ≤ _; rw [hcs, hsz]; omega))
  have hcs2 : (splice (splice cur (i * 20) (flat (L.drop (i + 1)))) (k * 20) (encR zR)).size = cap * 20 := by rw [splice_size (by rw [encR_len, hcs, hsz]; omega), hcs, hsz]
  have hfin := splice_del cur L i (by omega) (by rw [hn, hsz]; exact hcap20) (by rw [hn]; exact ht) (encR zR)
  rw [hn, Nat.add_sub_cancel, ← eraseIdx_eq] at hfin
  have HFIN := Lib.hid hfin
  have HLEN := Lib.hid (show (L.eraseIdx i).length = k by rw [List.length_eraseIdx, if_pos (by omega), hn]; omega)
  have HCS := Lib.hid hcs2
  have HM := Lib.hid hm
  have HB := Lib.hid hb
  generalize L.eraseIdx i = M at HFIN HLEN ⊢
  unfold maxLen at hm
  clear h hn hb hh hsz ht hsrc hcs hcs2 hcap20 hap hfin hdl hA hi0 hz0 hz1 hz2
  have i0' : (0 : Int) ≤ (i : Int) := by omega
  have k0 : (0 : Int) ≤ (k : Int) := by omega
  have hw2 : IntKind.i64.wrap ((i : Int) + 1) = (i : Int) + 1 := IntWalk.i64_in _ (by omega)
  have t2 : ((i : Int) + 1).toNat = i + 1 := by omega
  have t3 : ((k : Int) + 1).toNat = k + 1 := by omega
  have b1 : ¬ (cap = i) := by omega
  have b2 : ¬ (cap = k) := by omega
  have b4 : (0 : Int) ≤ (i : Int) + 1 := by omega
  have b5 : (0 : Int) ≤ (k : Int) + 1 := by omega
  have b6 : (i : Int) ≤ (cap : Int) := by omega
  have b7 : (i : Int) ≤ (k : Int) := by omega
  have b8 : (k : Int) + 1 ≤ (cap : Int) := by omega
  have b9 : ¬ ((i : Int) = (i : Int) + 1) := by omega
  have b10 : k + 1 ≤ cap := by omega
  have b11 : i ≤ k := by omega
  have b12 : ¬ (k + 1 = i) := by omega
  by_cases hci : cap = i + 1
  · have hik : i = k := by omega
    subst hik
    have HAP3 := Lib.hid (fun ty c => by have := HAP2.out rfl ty c; rw [Nat.sub_self] at this; exact this)
    subst hci
    clear b8 b10
    have b8 : (i : Int) ≤ (i : Int) + 1 := by omega
    have b10 : (i : Int) + 1 ≤ (((i + 1 : Nat)) : Int) := by omega
    have b13 : i ≤ i + 1 := by omega
    go_enter Try.func43, Try.ntmps43
    go_upto_region 5 with fail
    refine wp_region_held_drew (S := (fun _ => True)) (by kernel_rfl) trivial (fun _ => ?_)
    refine held_take 0 20 (v := ?_) rfl rfl (by kernel_rfl) (by kernel_rfl) (by kernel_rfl) (fun _ _ _ h => h) (by rfl) ?_ trivial ?_
    rotate_left
    · (intro w hSw; (try dsimp only at hSw); try simp only [List.getElem_toArray, List.getElem_cons_zero, List.getElem_cons_succ]; go_simp; try (with_reducible rfl))
    try simp only [List.setIfInBounds_toArray, List.set_cons_zero, List.set_cons_succ]
    refine held_take 1 21 (v := ?_) rfl rfl (by kernel_rfl) (by kernel_rfl) (by kernel_rfl) (fun _ _ _ h => h) (by rfl) ?_ trivial ?_
    rotate_left
    · (intro w hSw; (try dsimp only at hSw); try simp only [List.getElem_toArray, List.getElem_cons_zero, List.getElem_cons_succ]; go_simp; try (with_reducible rfl))
    try simp only [List.setIfInBounds_toArray, List.set_cons_zero, List.set_cons_succ]
    refine held_take 2 22 (v := ?_) rfl rfl (by kernel_rfl) (by kernel_rfl) (by kernel_rfl) (fun _ _ _ h => h) (by rfl) ?_ trivial ?_
    rotate_left
    · (intro w hSw; (try dsimp only at hSw); try simp only [List.getElem_toArray, List.getElem_cons_zero, List.getElem_cons_succ]; go_simp; try (with_reducible rfl))
    try simp only [List.setIfInBounds_toArray, List.set_cons_zero, List.set_cons_succ]
    refine held_take 3 23 (v := ?_) rfl rfl (by kernel_rfl) (by kernel_rfl) (by kernel_rfl) (fun _ _ _ h => h) (by rfl) ?_ trivial ?_
    rotate_left
    · (intro w hSw; (try dsimp only at hSw); try simp only [List.getElem_toArray, List.getElem_cons_zero, List.getElem_cons_succ]; go_simp; try (with_reducible rfl))
    try simp only [List.setIfInBounds_toArray, List.set_cons_zero, List.set_cons_succ]
    refine held_take 4 24 (v := ?_) rfl rfl (by kernel_rfl) (by kernel_rfl) (by kernel_rfl) (fun _ _ _ h => h) (by rfl) ?_ trivial ?_
    rotate_left
    · (intro w hSw; (try dsimp only at hSw); try simp only [List.getElem_toArray, List.getElem_cons_zero, List.getElem_cons_succ]; go_simp; try (with_reducible rfl))
    try simp only [List.setIfInBounds_toArray, List.set_cons_zero, List.set_cons_succ]
    refine held_take 5 25 (v := ?_) rfl rfl (by kernel_rfl) (by kernel_rfl) (by kernel_rfl) (fun _ _ _ h => h) (by rfl) ?_ trivial ?_
    rotate_left
    · (intro w hSw; (try dsimp only at hSw); try simp only [List.getElem_toArray, List.getElem_cons_zero, List.getElem_cons_succ]; go_simp; try (with_reducible rfl))
    try simp only [List.setIfInBounds_toArray, List.set_cons_zero, List.set_cons_succ]
    refine held_call 6 26 rfl rfl (by kernel_rfl) (by rfl) (fun K hK => ?_)
    try simp only [List.getElem_toArray, List.getElem_cons_zero, List.getElem_cons_succ]
    (refine Lib.wp_append_run _ _ _ 31 31 rfl _ _ rfl rfl _ _ (HAP3.out _ _) ?_)
    try simp only [Act.put, List.setIfInBounds_toArray, List.set_cons_zero, List.set_cons_succ]
    refine hK.out _ _ _ trivial ?_
    clear hK K
    refine held_take 7 0 (v := ?_) rfl rfl (by kernel_rfl) (by kernel_rfl) (by kernel_rfl) (fun _ _ _ h => h) (by rfl) ?_ trivial ?_
    rotate_left
    · (intro w hSw; (try dsimp only at hSw); try simp only [List.getElem_toArray, List.getElem_cons_zero, List.getElem_cons_succ]; go_simp; try (with_reducible rfl))
    try simp only [List.setIfInBounds_toArray, List.set_cons_zero, List.set_cons_succ]
    refine wpAnyH_done (by kernel_rfl) ?_ _
    go_wp2_with (refine wpList_clear_run (o := ⟨none, .call { callee := .builtin .clear, args := #[.tmp 31], argTypes := #[31] }, _, _, _, _⟩) rfl _ 31 rfl _ rfl (HCL.out _ _) ?_)
    go_ret
    have HH2 := setRow_heap _ g _ (splice (splice cur (i * 20) (flat (L.drop (i + 1)))) (i * n20) (encR zR)) 34 (0, 0) HH1.out
    rw [HLEN.out]
    exact ⟨_, rfl, row_own HH2 HB.out HLEN.out (by omega) HM.out HCS.out HFIN.out, Tab.Only.setRow (Tab.Only.setRow (Only.refl (fun k => k = g) w).drew (fun _ => rfl) _) (fun _ => rfl) _, fun k e => .inl e⟩
  · have hci2 : ¬ i + 1 = cap := fun e => hci e.symm
    go_enter Try.func43, Try.ntmps43
    go_upto_region 5 with fail
    refine wp_region_held_drew (S := (fun _ => True)) (by kernel_rfl) trivial (fun _ => ?_)
    refine held_take 0 20 (v := ?_) rfl rfl (by kernel_rfl) (by kernel_rfl) (by kernel_rfl) (fun _ _ _ h => h) (by rfl) ?_ trivial ?_
    rotate_left
    · (intro w hSw; (try dsimp only at hSw); try simp only [List.getElem_toArray, List.getElem_cons_zero, List.getElem_cons_succ]; go_simp; try (with_reducible rfl))
    try simp only [List.setIfInBounds_toArray, List.set_cons_zero, List.set_cons_succ]
    refine held_take 1 21 (v := ?_) rfl rfl (by kernel_rfl) (by kernel_rfl) (by kernel_rfl) (fun _ _ _ h => h) (by rfl) ?_ trivial ?_
    rotate_left
    · (intro w hSw; (try dsimp only at hSw); try simp only [List.getElem_toArray, List.getElem_cons_zero, List.getElem_cons_succ]; go_simp; try (with_reducible rfl))
    try simp only [List.setIfInBounds_toArray, List.set_cons_zero, List.set_cons_succ]
    refine held_take 2 22 (v := ?_) rfl rfl (by kernel_rfl) (by kernel_rfl) (by kernel_rfl) (fun _ _ _ h => h) (by rfl) ?_ trivial ?_
    rotate_left
    · (intro w hSw; (try dsimp only at hSw); try simp only [List.getElem_toArray, List.getElem_cons_zero, List.getElem_cons_succ]; go_simp; try (with_reducible rfl))
    try simp only [List.setIfInBounds_toArray, List.set_cons_zero, List.set_cons_succ]
    refine held_take 3 23 (v := ?_) rfl rfl (by kernel_rfl) (by kernel_rfl) (by kernel_rfl) (fun _ _ _ h => h) (by rfl) ?_ trivial ?_
    rotate_left
    · (intro w hSw; (try dsimp only at hSw); try simp only [List.getElem_toArray, List.getElem_cons_zero, List.getElem_cons_succ]; go_simp; try (with_reducible rfl))
    try simp only [List.setIfInBounds_toArray, List.set_cons_zero, List.set_cons_succ]
    refine held_take 4 24 (v := ?_) rfl rfl (by kernel_rfl) (by kernel_rfl) (by kernel_rfl) (fun _ _ _ h => h) (by rfl) ?_ trivial ?_
    rotate_left
    · (intro w hSw; (try dsimp only at hSw); try simp only [List.getElem_toArray, List.getElem_cons_zero, List.getElem_cons_succ]; go_simp; try (with_reducible rfl))
    try simp only [List.setIfInBounds_toArray, List.set_cons_zero, List.set_cons_succ]
    refine held_take 5 25 (v := ?_) rfl rfl (by kernel_rfl) (by kernel_rfl) (by kernel_rfl) (fun _ _ _ h => h) (by rfl) ?_ trivial ?_
    rotate_left
    · (intro w hSw; (try dsimp only at hSw); try simp only [List.getElem_toArray, List.getElem_cons_zero, List.getElem_cons_succ]; go_simp; try (with_reducible rfl))
    try simp only [List.setIfInBounds_toArray, List.set_cons_zero, List.set_cons_succ]
    refine held_call 6 26 rfl rfl (by kernel_rfl) (by rfl) (fun K hK => ?_)
    try simp only [List.getElem_toArray, List.getElem_cons_zero, List.getElem_cons_succ]
    (refine Lib.wp_append_run _ _ _ 31 31 rfl _ _ rfl rfl _ _ (HAP1.out _ _) ?_)
    try simp only [Act.put, List.setIfInBounds_toArray, List.set_cons_zero, List.set_cons_succ]
    refine hK.out _ _ _ trivial ?_
    clear hK K
    refine held_take 7 0 (v := ?_) rfl rfl (by kernel_rfl) (by kernel_rfl) (by kernel_rfl) (fun _ _ _ h => h) (by rfl) ?_ trivial ?_
    rotate_left
    · (intro w hSw; (try dsimp only at hSw); try simp only [List.getElem_toArray, List.getElem_cons_zero, List.getElem_cons_succ]; go_simp; try (with_reducible rfl))
    try simp only [List.setIfInBounds_toArray, List.set_cons_zero, List.set_cons_succ]
    refine wpAnyH_done (by kernel_rfl) ?_ _
    go_wp2_with (refine wpList_clear_run (o := ⟨none, .call { callee := .builtin .clear, args := #[.tmp 31], argTypes := #[31] }, _, _, _, _⟩) rfl _ 31 rfl _ rfl (HCL.out _ _) ?_)
    go_ret
    have HH2 := setRow_heap _ g _ (splice (splice cur (i * 20) (flat (L.drop (i + 1)))) (k * n20) (encR zR)) 34 (0, 0) HH1.out
    rw [HLEN.out]
    exact ⟨_, rfl, row_own HH2 HB.out HLEN.out (by omega) HM.out HCS.out HFIN.out, Tab.Only.setRow (Tab.Only.setRow (Only.refl (fun k => k = g) w).drew (fun _ => rfl) _) (fun _ => rfl) _, fun k e => .inl e⟩
end Tab
end Go.Proofs.Ytbeoclcnajfjcaa
