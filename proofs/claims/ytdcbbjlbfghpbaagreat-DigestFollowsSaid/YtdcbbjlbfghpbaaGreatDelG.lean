/-
  slices.DeleteFunc at routes, walked. Conditions: those that each theorem names.
-/
import Derived.Test.YtdcbbjlbfghpbaaGreatDh
namespace Go.Proofs.YtdcbbjlbfghpbaaGreat
open Go Go.RowKit H2
set_option linter.unusedVariables false
set_option linter.unusedSimpArgs false
namespace Tab
def zrs (m : Nat) : List Value := (Builtin.zeroCells (encR zR).toArray m).toList
theorem zrs_len (m : Nat) : (zrs m).length = m * 20 := by simp [zrs, Builtin.zeroCells, encR_len]
theorem zrs_one (m : Nat) : ∀ v ∈ zrs m, v.oneCell' = true := fun v hv => by
  unfold zrs Builtin.zeroCells at hv
  rw [Array.toList_map, List.mem_map] at hv
  obtain ⟨i, _, rfl⟩ := hv
  have hlt : i % (encR zR).toArray.size < (encR zR).toArray.size := Nat.mod_lt _ (by simp [encR_len])
  rw [getElem!_pos (encR zR).toArray (i % (encR zR).toArray.size) hlt]
  exact encR_one zR _ (by simp)
theorem clear_run_n (w : World) (ty : TypeId) (g o m cap : Nat) (cur : Array Value) (hg : w.heap[g]? = some (.cells cur 36 (0, 0))) (hfit : o + m * 20 ≤ cur.size) (hm0 : 0 < m) :
    (Builtin.clear_ #[22] ty #[.slice (some ⟨g, o, none⟩) m cap]).run Tryz.prog w = .ok (.tuple #[]) (w.setRow g (splice cur o (zrs m))) := by
  have hst := store_row (o := o) (vs := zrs m) hg (by rw [zrs_len]; exact hfit) (zrs_one m) Tryz.prog
  have hu : Tryz.prog.underlying 22 = some (.slice 36) := Tryz.underlying22
  obtain ⟨k, rfl⟩ : ∃ k, m = k + 1 := ⟨m - 1, by omega⟩
  unfold zrs at hst
  unfold zrs
  rw [Builtin.clear_]
  simp [run_underlying hu, Value.cells, hst]
theorem fst_at {p : Rt → Bool} {L : List Rt} (h : L.any p = true) : ∃ i : Nat, ∃ hi : i < L.length, p L[i] = true ∧ ∀ j (h : j < L.length), j < i → p L[j] = false := by
  have hx : ∃ x ∈ L, p x = true := List.any_eq_true.1 h
  have hlt : L.findIdx p < L.length := List.findIdx_lt_length.2 hx
  exact ⟨L.findIdx p, hlt, List.findIdx_getElem, fun j hj hji => by
    have := List.not_of_lt_findIdx hji
    simpa using this⟩
set_option maxRecDepth 100000 in
set_option maxHeartbeats 16000000 in
theorem deleteF_any (p : Rt → Bool) (fg : Nat) (lb : Array Value) (eg : ∀ args w, (callFunc fg args).run Tryz.prog w = .ok (.enter fg args) w) (w : World) (base g n cap : Nat) (L : List Rt) (hn : L.length = n) (hl : n ≤ 1000) (hown : w.ownsRow base 36 20 (.slice (some ⟨g, 0, none⟩) n cap) n (flat L))
    (hp : ∀ (W : World) (x : Rt), Only (fun k => k = g) w W → Calls Tryz.prog fg (#[.agg (encR x).toArray] ++ lb) W fun e w' => e = .returned (.bool (p x)) ∧ Below W.heap.size W w') :
    Calls Tryz.prog 43 #[.slice (some ⟨g, 0, none⟩) n cap, .func (.func fg) #[] lb] w fun e w' => ∃ v', e = .returned v' ∧ w'.ownsRow base 36 20 v' (L.filter fun r => !p r).length (flat (L.filter fun r => !p r)) ∧ Only (fun k => k = g) w w' := by
  have HP := Lib.hid hp
  have HN := Lib.hid hn
  have hrd : Rd w (some ⟨g, 0, none⟩) L := Rd.at (own_at hown)
  have hfi := first_any p fg lb eg (some ⟨g, 0, none⟩) cap L (by omega) w hrd (fun W x hb => hp W x ((Only.refl _ w).of_below hb))
  have HO := Lib.hid hown
  obtain ⟨hnc, hcm⟩ : n ≤ cap ∧ cap ≤ maxLen := by
    rcases hown.2 with ⟨h0, _⟩ | ⟨g', cap', cur, hv, hb, hh, hc, hm, hsz, ht⟩
    · cases h0
    simp only [Value.slice.injEq] at hv
    obtain ⟨_, _, rfl⟩ := hv
    exact ⟨hc, hm⟩
  unfold maxLen at hcm
  rw [hn] at hfi
  clear hp hown hrd
  by_cases hany : L.any p = true
  · obtain ⟨i0, hi0, hpi, hbe⟩ := fst_at hany
    have HFI := Lib.hid (hfi.mono (fun (e : Ending) w' ⟨hf, hb⟩ => show e = Ending.returned (.int .i64 (i0 : Int)) ∧ Below w.heap.size w w' from ⟨(by
      rcases hf with ⟨_, h2⟩ | ⟨i, h2, h3, h4, h5⟩
      · rw [h2 i0 hi0] at hpi; cases hpi
      · have : i = i0 := by
          rcases Nat.lt_trichotomy i i0 with h | h | h
          · rw [hbe i h2 h] at h4; cases h4
          · exact h
          · rw [h5 i0 hi0 h] at hpi; cases hpi
        rw [h3, this]), hb⟩))
    have HK0 := Lib.hid (kp_start hi0 hpi hbe)
    have hi0n : i0 < n := by omega
    have hw0 : IntKind.i64.wrap ((i0 : Int) + 1) = (i0 : Int) + 1 := IntWalk.i64_in _ (by omega)
    have hne : ¬ (i0 : Int) = -1 := by omega
    have hne2 : ((i0 : Int) == -1) = false := by simp
    have hne3 : decide ((i0 : Int) = -1) = false := decide_eq_false hne
    clear hfi hpi hbe hany hn
    go_enter Tryz.func43, Tryz.ntmps43
    go_wp2_with (go_at_call 54; (with_reducible refine (HFI.out).mono ?_); rintro e w2 ⟨rfl, h1⟩; have HB := Lib.hid h1; clear h1)
    have HO2 := Lib.hid (own_below HO.out HB.out)
    have HY2 := Lib.hid ((Only.refl (fun k => k = g) w).of_below HB.out)
    go_loopw [5, 6] (fun s5 s6 wr => ∃ (i j : Nat) (X : List Rt), s5 = .int .i64 i ∧ s6 = .int .i64 j ∧ Kp p L X i j ∧ wr.ownsRow base 36 20 (.slice (some ⟨g, 0, none⟩) n cap) n (flat X) ∧ Only (fun k => k = g) w wr) (fun s5 s6 _ => n - (intOf s6).toNat)
    case atStart => exact ⟨i0, i0 + 1, L, rfl, by go_num, HK0.out, HO2.out, HY2.out⟩
    case round =>
      clear HO2 HY2 HB HFI hw0 hne hne2 hne3 HO HK0
      obtain ⟨i, j, X, rfl, rfl, hkp, hown, hoy⟩ := hrel
      have HK := Lib.hid hkp
      have HO := Lib.hid hown
      have HY := Lib.hid hoy
      have hij := hkp.lt
      have hjn := hkp.le
      rw [HN.out] at hjn
      have HXL := Lib.hid (hkp.len.trans HN.out)
      clear hkp hown hoy
      have i1 : (0 : Int) ≤ (i : Int) := by omega
      have j1 : (0 : Int) ≤ (j : Int) := by omega
      by_cases hlt : j < n
      · have hlt' : (j : Int) < (n : Int) := by omega
        have hjl : j < L.length := by rw [HN.out]; exact hlt
        have hjx : j < X.length := by rw [HXL.out]; exact hlt
        have HX := Lib.hid (show RAt wr g (j * 20) L[j] by
          have h1 := (own_at HO.out).row hjx
          rw [HK.out.rest j hjx hjl (Nat.le_refl _), Nat.zero_add] at h1
          exact h1)
        have HKD := Lib.hid (fun h => kp_drop HK.out hjl h)
        have HKK := Lib.hid (fun h => kp_keep HK.out hjl h)
        generalize L[j] = x at HX HKD HKK
        have hl1 : Sem.run Tryz.prog (loadCellsFrom ⟨g, j * n20, none⟩ 0 n20 #[]) wr = .ok (encR x).toArray wr := HX.out.all.load (k := n20) (encR_n _) Tryz.prog
        have hst := store_row (o := 0) (vs := encR x) (heap_alloc_new wr (.cells (encR zR).toArray 36 (0, 0))) (by simp [encR_len]) (encR_one _) Tryz.prog
        rw [splice_whole (by simp [encR_len])] at hst
        go_upto_region 8 with fail
        have HBX := Lib.hid (setRow_heap (wr.alloc (.cells (encR zR).toArray 36 (0, 0))) wr.heap.size _ (encR x).toArray 36 (0, 0) (heap_alloc_new wr _))
        have hbx := Lib.hid (below_setRow ((Below.refl wr.heap.size wr).alloc (Nat.le_refl _) (.cells (encR zR).toArray 36 (0, 0))) (Nat.le_refl _) (encR x).toArray)
        clear hst hl1
        generalize (wr.alloc _).setRow _ _ = W5 at HBX hbx ⊢
        have HX5 := Lib.hid (show RAt W5 wr.heap.size 0 x from ⟨at_row HBX.out⟩)
        have HO5 := Lib.hid (own_below HO.out hbx.out)
        have HY5 := Lib.hid (HY.out.of_below hbx.out)
        generalize wr.heap.size = B5 at HX5 ⊢
        clear HBX hbx HX
        have hcall := HP.out W5 x HY5.out
        have c0 := HX5.out.all.load (k := n20) (encR_n _) Tryz.prog
        cases hq : p x
        · rw [hq] at hcall
          have HKK := Lib.hid (HKK.out hq)
          clear hq HKD
          go_upto_region 9 with (go_at_fn fg; refine hcall.mono ?_; rintro e w6 ⟨rfl, hb'⟩; have HX6 := Lib.hid (HX5.out.below hb'); have HO6 := Lib.hid (own_below HO5.out hb'); have HY6 := Lib.hid (HY5.out.of_below hb'); clear hb' c0)
          rcases HO6.out.2 with ⟨h0, _⟩ | ⟨g', cap', cur, hv, hbg, hh, hc, hm, hsz, ht⟩
          · cases h0
          simp only [Value.slice.injEq, Option.some.injEq, Addr.mk.injEq, and_true, true_and] at hv
          obtain ⟨rfl, rfl⟩ := hv
          have hcap20 : n * 20 ≤ cap * 20 := Nat.mul_le_mul_right 20 hc
          have c0 := HX6.out.all.load (k := n20) (encR_n _) Tryz.prog
          have hst := store_row (o := i * n20) hh (vs := encR x) (by rw [encR_len, hsz]; show i * 20 + 20 ≤ _; omega) (encR_one x) Tryz.prog
          have hsp := splice_set cur X x i (by rw [HXL.out]; omega) (by rw [HXL.out, hsz]; exact hcap20) (by rw [HXL.out]; exact ht)
          have HG4 := Lib.hid (setRow_heap _ g cur (splice cur (i * n20) (encR x)) 36 (0, 0) hh)
          have HOW := Lib.hid (row_own (base := base) HG4.out hbg (show (X.set i x).length = n by rw [List.length_set, HXL.out]) hc hm (by show (splice cur (i * 20) (encR x)).size = _; rw [splice_size (by rw [encR_len, hsz]; omega), hsz]) (by rw [← HXL.out]; exact hsp))
          have HYW := Lib.hid (Tab.Only.setRow HY6.out (g := g) (fun _ => rfl) (splice cur (i * n20) (encR x)))
          have hin : (i : Int) < (n : Int) := by omega
          have hin2 : i < n := by omega
          have hw1 : IntKind.i64.wrap ((i : Int) + 1) = (i : Int) + 1 := IntWalk.i64_in _ (by omega)
          clear ht hsp hsz hm hc hbg hcap20 hh
          go_wp2
          go_roundw
          case rel => exact ⟨i + 1, j + 1, X.set i x, by go_num, by go_num, HKK.out, HOW.out, HYW.out⟩
          case measure => simp [intOf]; omega
        · rw [hq] at hcall
          have HKD := Lib.hid (HKD.out hq)
          clear hq HKK
          go_wp2_with (go_at_fn fg; refine hcall.mono ?_; rintro e w6 ⟨rfl, hb'⟩; have HO6 := Lib.hid (own_below HO5.out hb'); have HY6 := Lib.hid (HY5.out.of_below hb'); clear hb' c0)
          go_roundw
          case rel => exact ⟨i, j + 1, X, rfl, by go_num, HKD.out, HO6.out, HY6.out⟩
          case measure => simp [intOf]; omega
      · obtain rfl : j = n := by omega
        have hjj : ¬ (j : Int) < (j : Int) := by omega
        obtain ⟨hE, hEl⟩ := kp_end (show Kp p L X i L.length by rw [HN.out]; exact HK.out)
        have HE := Lib.hid hE
        have HEL := Lib.hid hEl
        rcases HO.out.2 with ⟨h0, _⟩ | ⟨g', cap', cur, hv, hbg, hh, hc, hm, hsz, ht⟩
        · cases h0
        simp only [Value.slice.injEq, Option.some.injEq, Addr.mk.injEq, and_true, true_and] at hv
        obtain ⟨rfl, rfl⟩ := hv
        have hcap20 : j * 20 ≤ cap * 20 := Nat.mul_le_mul_right 20 hc
        have hfit : i * 20 + (j - i) * 20 ≤ cur.size := by rw [hsz, Nat.sub_mul]; omega
        have HCL := Lib.hid (fun ty c => clear_run_n wr ty g (i * n20) (j - i) c cur hh hfit (by omega))
        have HG4 := Lib.hid (setRow_heap wr g cur (splice cur (i * n20) (zrs (j - i))) 36 (0, 0) hh)
        have HOW := Lib.hid (row_own (base := base) (n := i) (M := L.filter fun r => !p r) HG4.out hbg HEL.out (show i ≤ cap by omega) hm (by show (splice cur (i * 20) (zrs (j - i))).size = _; rw [splice_size (by rw [zrs_len]; exact hfit), hsz]) (by
          show (splice cur (i * 20) (zrs (j - i))).toList.take (i * 20) = _
          rw [splice_list, List.append_assoc, List.take_left' (by rw [List.length_take]; simp; omega), ← HE.out, ← flat_take, ← ht, List.take_take, Nat.min_eq_left (by omega)]))
        have HYW := Lib.hid (Tab.Only.setRow HY.out (g := g) (fun _ => rfl) (splice cur (i * n20) (zrs (j - i))))
        have b1 : ¬ (cap = i) := by omega
        have b2 : ¬ (i = cap) := by omega
        have b3 : (i : Int) ≤ (j : Int) := by omega
        have b4 : (j : Int) ≤ (cap : Int) := by omega
        have b5 : (i : Int) ≤ (cap : Int) := by omega
        have b6 : ¬ (cap - i = 0) := by omega
        clear ht hsz hm hh hfit hcap20 hE hEl
        go_wp2_with (refine wpList_clear_run (o := ⟨none, .call { callee := .builtin .clear, args := #[.tmp 38], argTypes := #[22] }, _, _, _, _⟩) rfl _ 22 rfl _ rfl (HCL.out _ _) ?_)
        go_ret
        rw [HEL.out]
        exact ⟨_, rfl, HOW.out, HYW.out⟩
  · have hall : ∀ j (h : j < L.length), p L[j] = false := fun j h => by
      cases e : p L[j] with
      | false => rfl
      | true => exact absurd (List.any_eq_true.2 ⟨_, List.getElem_mem h, e⟩) hany
    have HFL := Lib.hid (show (L.filter fun r => !p r) = L from List.filter_eq_self.2 (fun r hr => by
      obtain ⟨j, hj, rfl⟩ := List.getElem_of_mem hr
      rw [hall j hj]; rfl))
    have HFI := Lib.hid (hfi.mono (fun (e : Ending) w' ⟨hf, hb⟩ => show e = Ending.returned (.int .i64 (-1)) ∧ Below w.heap.size w w' from ⟨(by
      rcases hf with ⟨h1, _⟩ | ⟨i, h2, h3, h4, h5⟩
      · exact h1
      · rw [hall i h2] at h4; cases h4), hb⟩))
    clear hfi hall hany hn
    go_enter Tryz.func43, Tryz.ntmps43
    go_wp2_with (go_at_call 54; (with_reducible refine (HFI.out).mono ?_); rintro e w2 ⟨rfl, h1⟩; have HB := Lib.hid h1; clear h1)
    go_ret
    rw [HFL.out, HN.out]
    exact ⟨_, rfl, own_below HO.out HB.out, (Only.refl (fun k => k = g) w).of_below HB.out⟩
end Tab
end Go.Proofs.YtdcbbjlbfghpbaaGreat
