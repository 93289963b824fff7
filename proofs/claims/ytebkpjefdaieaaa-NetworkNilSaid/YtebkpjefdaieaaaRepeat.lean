/-
  slices.Repeat of one number. Conditions: those that each theorem names.
-/
import Derived.Test.YtebkpjefdaieaaaRep
import Derived.Laws.CopyOwn
import Derived.OwnWalk
namespace Go.Proofs.Ytebkpjefdaieaaa
open Go Go.RowKit
set_option linter.unusedVariables false
set_option linter.unusedSimpArgs false
namespace GG
theorem wp_copy {P : Program} {o : Oper} {a : Act} {w : World} {K : Act → World → Prop} {Q : Exit → Act → World → Prop} (hgd : o.guard = none) (d s : Operand) (dT sT : TypeId)
    (ho : o.op = .call { callee := .builtin .copy, args := #[d, s], argTypes := #[dT, sT] }) (elem : TypeId) (hu : P.underlying dT = some (.slice elem)) (hsz : (P.info? elem).map (·.size) = some 1)
    (dp sp : Option Addr) (dLen dCap sLen sCap : Nat) (hd : a.eval d = .slice dp dLen dCap) (hs : a.eval s = .slice sp sLen sCap)
    (g off : Nat) (cur : List Value) (t : TypeId) (hg : w.heap[g]? = some (.cells cur.toArray t (0, 0))) (cs : List Value) (hn : cs.length = Nat.min sLen dLen)
    (hpos : 0 < cs.length → dp = some ⟨g, off, none⟩ ∧ ∃ ad, sp = some ad ∧ ∀ j v, cs[j]? = some v → w.cell? (ad.add j) = some v)
    (hfit : off + cs.length ≤ cur.length) (h1 : ∀ v ∈ cs, v.oneCell' = true) (B : Nat) (w0 : World) (hb : RowKit.Below B w0 w) (hBg : B ≤ g)
    (h : ∀ w', RowKit.Hid (w'.heap[g]? = some (.cells (splice cur off cs).toArray t (0, 0))) → RowKit.Below B w0 w' → K (a.put o.dst (goInt cs.length)) w') : Oper.wp P o a w K Q := by
  have hw : Region.wanted o (yielded #[] a.tmps) = true := by simp [Region.wanted, hgd]
  have := step_copy_splice (ops := #[]) (E := False) (Q := Q) hgd d s dT sT ho elem hu hsz dp sp dLen dCap sLen sCap hd hs g off cur t hg cs hn hpos hfit h1 B w0 hb hBg h
  rwa [if_pos hw] at this
/-- the first m ones are x -/
def Full (L : List Int) (m : Nat) (x : Int) : Prop := ∀ j, j < m → L[j]? = some x
theorem full_first (n : Nat) (x : Int) (hn : 1 ≤ n) : Full (splice (List.replicate n 0) 0 [x]) 1 x := by
  intro j hj
  obtain rfl : j = 0 := by omega
  simp [splice]
theorem full_more {L : List Int} {m d : Nat} {x : Int} (h : Full L m x) (hm : m + d ≤ L.length) : Full (splice L m (List.replicate d x)) (m + d) x := by
  intro j hj
  unfold splice
  by_cases hjm : j < m
  · rw [List.getElem?_append_left (by simp; omega), List.getElem?_take, if_pos hjm]; exact h j hjm
  · rw [List.getElem?_append_right (by simp; omega), List.getElem?_append_left (by simp; omega), List.getElem?_replicate, if_pos (by simp; omega)]
theorem full_all {L : List Int} {n : Nat} {x : Int} (h : Full L n x) (hl : L.length = n) : L = List.replicate n x := by
  apply List.ext_getElem?
  intro j
  by_cases hj : j < n
  · rw [h j hj, List.getElem?_replicate, if_pos hj]
  · rw [List.getElem?_eq_none (by omega), List.getElem?_eq_none (by simp; omega)]
theorem nums_splice (L : List Int) (off : Nat) (M : List Int) : splice (nums L) off (nums M) = nums (splice L off M) := by simp [splice, nums, List.map_take, List.map_drop]
theorem made_zero (n : Nat) (h1 : 1 ≤ n) (h6 : n ≤ 6) : (madeCells (Value.int .i64 0).cells (n * 1)).toList = nums (List.replicate n 0) := by
  have e : (Value.int .i64 0).cells = #[.int .i64 0] := by simp [Value.cells]
  rw [e, Nat.mul_one, toList_madeCells_one]
  simp [nums]
theorem below_none {w w1 : World} (h : w.grownBy w1 none) : Below w.heap.size w w1 := ((Only.refl (fun _ => False) w).grown h (fun _ hk _ => by cases hk)).below (Nat.le_refl _) (fun _ _ h => h)
set_option maxRecDepth 100000 in
set_option maxHeartbeats 4000000 in
theorem repeat_any (b o n cap : Nat) (x : Int) (w : World) (h1 : 1 ≤ n) (h6 : n ≤ 6) (hc : w.cell? ⟨b, o, none⟩ = some (.int .i64 x)) :
    Calls Try.prog 55 #[.slice (some ⟨b, o, none⟩) 1 cap, .int .i64 n] w fun e w' => e = .returned (.slice (some ⟨w.heap.size, 0, none⟩) n n) ∧ Row w' w.heap.size (List.replicate n x) ∧ Below w.heap.size w w' := by
  obtain ⟨i0, hi0, hz0, hz1, hz2⟩ := info_parts intinfo
  have HI := Lib.hid hi0
  clear hi0
  have n0 : (0 : Int) ≤ (n : Int) := by omega
  have n00 : ¬ (n : Int) < 0 := by omega
  have n1 : IntKind.u64.wrap (n : Int) = (n : Int) := by simp [IntKind.wrap, IntKind.bits, IntKind.signed]; omega
  have n2 : IntKind.i64.wrap (n : Int) = (n : Int) := IntWalk.i64_in _ (by omega)
  have n3 : ¬ (9223372036854775807 : Int) < (n : Int) := by omega
  go_enter Try.func55, Try.ntmps55
  go_upto_region 7 with (first
    | (go_at_call 68; refine (mul_any n w h1 h6).mono ?_; rintro e w' ⟨rfl, rfl⟩)
    | (at_make; refine wpList_make_full _ rfl _ _ 35 rfl w.heap.size 3 i0 _ 1 Try.underlying35 HI.out hz0 hz1 _ _ _ _ n rfl rfl rfl rfl (by rw [hz2]; omega) (by unfold maxLen; omega) (Nat.le_refl _) ?_; intro w1 hown1 hgrow1; have HO1 := Lib.hid hown1; have HG1 := Lib.hid hgrow1; clear hown1 hgrow1))
  have hown := HO1.out
  rw [made_zero n h1 h6] at hown
  have HR0 := Lib.hid (Row.of_own hown)
  have HB0 := Lib.hid (below_none HG1.out)
  clear hown
  have hcw := later HB0.out hc
  have HPOS : Hid (0 < (nums [x]).length → some (⟨w.heap.size, 0, none⟩ : Addr) = some ⟨w.heap.size, 0, none⟩ ∧ ∃ ad, some (⟨b, o, none⟩ : Addr) = some ad ∧ ∀ j v, (nums [x])[j]? = some v → w1.cell? (ad.add j) = some v) :=
    Lib.hid (fun _ => ⟨rfl, _, rfl, fun j v hj => by
      cases j with
      | zero => simp [nums] at hj; subst hj; rw [Addr.add_lit]; exact hcw
      | succ j => simp [nums] at hj⟩)
  obtain ⟨g, hg⟩ : ∃ g, w.heap.size = g := ⟨_, rfl⟩
  have hgw : w.heap.size ≤ g := by omega
  rw [hg] at HR0 HPOS ⊢
  have HCW := Lib.hid hcw
  have HGE := Lib.hid hg
  have hng : Nat.min 1 n = 1 := Nat.min_eq_left h1
  clear hcw hg
  go_upto_region 8 with ((with_reducible show wpList _ _ _ _ _ _); refine wpList_copy_splice rfl (.tmp 31) (.tmp 32) 35 35 rfl 3 Try.underlying35 (by kernel_rfl) (some ⟨g, 0, none⟩) (some ⟨b, o, none⟩) n n 1 cap rfl rfl g 0 (nums (List.replicate n 0)) 3 HR0.out (nums [x]) (by rw [hng]; rfl) HPOS.out (by simp [nums]; omega) (ints_oneCell _ _) w.heap.size w HB0.out hgw ?_; intro w5 hw5 hb5)
  have hrow5 : Row w5 g (splice (List.replicate n 0) 0 [x]) := by
    have := hw5.out
    rw [nums_splice] at this
    exact this
  have HR5 := Lib.hid hrow5
  have HB5 := Lib.hid hb5
  clear hrow5 hb5 hw5 HPOS HR0 HB0
  have hlen5 : (splice (List.replicate n (0 : Int)) 0 [x]).length = n := by rw [length_splice _ _ _ (by simp; omega)]; simp
  go_loopw [8] (fun s8 wr => ∃ (m : Nat) (L : List Int), 1 ≤ m ∧ m ≤ n ∧ s8 = .int .i64 m ∧ L.length = n ∧ Full L m x ∧ Row wr g L ∧ Below w.heap.size w wr) (fun s8 _ => n - (intOf s8).toNat)
  case atStart => exact ⟨1, _, by omega, h1, rfl, hlen5, full_first n x h1, HR5.out, HB5.out⟩
  case round =>
    obtain ⟨m, L, hm1, hmn, rfl, hL, hfull, hrow, hb⟩ := hrel
    have HF := Lib.hid hfull
    have HB := Lib.hid hb
    clear hfull hb hlen5
    by_cases hlt : m < n
    · have hlt' : (m : Int) < (n : Int) := by omega
      have m0 : (0 : Int) ≤ (m : Int) := by omega
      have mle : (m : Int) ≤ (n : Int) := by omega
      have hnm : ¬ n = m := by omega
      have hnm2 : ¬ n - m = 0 := by omega
      obtain ⟨d, hd⟩ : ∃ d, Nat.min m (n - m) = d := ⟨_, rfl⟩
      have hdm : d ≤ m := by rw [← hd]; exact Nat.min_le_left _ _
      have hdn : d ≤ n - m := by rw [← hd]; exact Nat.min_le_right _ _
      have hd1 : 1 ≤ d := by rw [← hd]; exact Nat.le_min.2 ⟨hm1, by omega⟩
      have HPOS : Hid (0 < (nums (List.replicate d x)).length → some (⟨g, m, none⟩ : Addr) = some ⟨g, m, none⟩ ∧ ∃ ad, some (⟨g, 0, none⟩ : Addr) = some ad ∧ ∀ j v, (nums (List.replicate d x))[j]? = some v → wr.drew.cell? (ad.add j) = some v) :=
        Lib.hid (fun _ => ⟨rfl, _, rfl, fun j v hj => by
          have hjd : j < d := by have := (List.getElem?_eq_some_iff.1 hj).1; simpa [nums] using this
          have hv : v = .int .i64 x := by
            have : (nums (List.replicate d x))[j]? = some (.int .i64 x) := by simp [nums, hjd]
            rw [this] at hj; exact (Option.some.inj hj).symm
          rw [Addr.add_lit, Nat.zero_add, hv]
          have h2 := hrow.cell j (by omega)
          rw [List.getD_eq_getElem?_getD, HF.out j (by omega)] at h2
          exact h2⟩)
      have HR := Lib.hid (show Row wr.drew g L from hrow)
      obtain ⟨q, hq⟩ : ∃ q, m + d = q := ⟨_, rfl⟩
      have hsum : IntKind.i64.wrap ((m : Int) + (d : Int)) = (q : Int) := by rw [IntWalk.i64_in _ (by omega)]; omega
      have hsum2 : (m : Int) + (d : Int) = (q : Int) := by omega
      have hsum3 : IntKind.i64.wrap (q : Int) = (q : Int) := IntWalk.i64_in _ (by omega)
      have HQ := Lib.hid hq
      clear hq
      have hnl : (nums (List.replicate d x)).length = d := by simp [nums]
      have HD := Lib.hid hd
      clear hd hrow
      go_upto_region 9 with fail
      refine wp_region_held_drew (S := (fun _ => True)) (by kernel_rfl) trivial (fun _ => ?_)
      refine held_take 0 38 (v := ?_) rfl rfl (by kernel_rfl) (by kernel_rfl) (by kernel_rfl) (fun _ _ _ h => h) (by rfl) ?_ trivial ?_
      rotate_left
      · (intro w hSw; (try dsimp only at hSw); try simp only [List.getElem_toArray, List.getElem_cons_zero, List.getElem_cons_succ]; go_simp; try (with_reducible rfl))
      try simp only [List.setIfInBounds_toArray, List.set_cons_zero, List.set_cons_succ]
      refine held_take 1 39 (v := ?_) rfl rfl (by kernel_rfl) (by kernel_rfl) (by kernel_rfl) (fun _ _ _ h => h) (by rfl) ?_ trivial ?_
      rotate_left
      · (intro w hSw; (try dsimp only at hSw); try simp only [List.getElem_toArray, List.getElem_cons_zero, List.getElem_cons_succ]; go_simp; try (with_reducible rfl))
      try simp only [List.setIfInBounds_toArray, List.set_cons_zero, List.set_cons_succ]
      refine held_take 2 40 (v := ?_) rfl rfl (by kernel_rfl) (by kernel_rfl) (by kernel_rfl) (fun _ _ _ h => h) (by rfl) ?_ trivial ?_
      rotate_left
      · (intro w hSw; (try dsimp only at hSw); try simp only [List.getElem_toArray, List.getElem_cons_zero, List.getElem_cons_succ]; go_simp; try (with_reducible rfl))
      try simp only [List.setIfInBounds_toArray, List.set_cons_zero, List.set_cons_succ]
      refine held_take 3 41 (v := ?_) rfl rfl (by kernel_rfl) (by kernel_rfl) (by kernel_rfl) (fun _ _ _ h => h) (by rfl) ?_ trivial ?_
      rotate_left
      · (intro w hSw; (try dsimp only at hSw); try simp only [List.getElem_toArray, List.getElem_cons_zero, List.getElem_cons_succ]; go_simp; try (with_reducible rfl))
      try simp only [List.setIfInBounds_toArray, List.set_cons_zero, List.set_cons_succ]
      refine held_take 4 42 (v := ?_) rfl rfl (by kernel_rfl) (by kernel_rfl) (by kernel_rfl) (fun _ _ _ h => h) (by rfl) ?_ trivial ?_
      rotate_left
      · (intro w hSw; (try dsimp only at hSw); try simp only [List.getElem_toArray, List.getElem_cons_zero, List.getElem_cons_succ]; go_simp; try (with_reducible rfl))
      try simp only [List.setIfInBounds_toArray, List.set_cons_zero, List.set_cons_succ]
      refine held_take 5 43 (v := ?_) rfl rfl (by kernel_rfl) (by kernel_rfl) (by kernel_rfl) (fun _ _ _ h => h) (by rfl) ?_ trivial ?_
      rotate_left
      · (intro w hSw; (try dsimp only at hSw); try simp only [List.getElem_toArray, List.getElem_cons_zero, List.getElem_cons_succ]; go_simp; try (with_reducible rfl))
      try simp only [List.setIfInBounds_toArray, List.set_cons_zero, List.set_cons_succ]
      refine held_take 6 44 (v := ?_) rfl rfl (by kernel_rfl) (by kernel_rfl) (by kernel_rfl) (fun _ _ _ h => h) (by rfl) ?_ trivial ?_
      rotate_left
      · (intro w hSw; (try dsimp only at hSw); try simp only [List.getElem_toArray, List.getElem_cons_zero, List.getElem_cons_succ]; go_simp; try (with_reducible rfl))
      try simp only [List.setIfInBounds_toArray, List.set_cons_zero, List.set_cons_succ]
      refine held_call 7 45 rfl rfl (by kernel_rfl) (by rfl) (fun K hK => ?_)
      try simp only [List.getElem_toArray, List.getElem_cons_zero, List.getElem_cons_succ]
      (refine wp_copy rfl (.tmp 41) (.tmp 44) 35 35 rfl 3 Try.underlying35 (by kernel_rfl) (some ⟨g, m, none⟩) (some ⟨g, 0, none⟩) (n - m) (n - m) m n rfl rfl g m (nums L) 3 HR.out (nums (List.replicate d x)) (by rw [hnl]; exact HD.out.symm) HPOS.out (by rw [hnl]; simp [nums]; omega) (ints_oneCell _ _) w.heap.size w (below_drew HB.out) hgw ?_; intro w6 hw6 hb6; rw [hnl]; simp only [goInt])
      try simp only [Act.put, List.setIfInBounds_toArray, List.set_cons_zero, List.set_cons_succ]
      refine hK.out _ _ _ trivial ?_
      clear hK K
      refine held_take 8 46 (v := ?_) rfl rfl (by kernel_rfl) (by kernel_rfl) (by kernel_rfl) (fun _ _ _ h => h) (by rfl) ?_ trivial ?_
      rotate_left
      · (intro w hSw; (try dsimp only at hSw); try simp only [List.getElem_toArray, List.getElem_cons_zero, List.getElem_cons_succ]; go_simp; try (with_reducible rfl))
      try simp only [List.setIfInBounds_toArray, List.set_cons_zero, List.set_cons_succ]
      refine held_take 9 8 (v := ?_) rfl rfl (by kernel_rfl) (by kernel_rfl) (by kernel_rfl) (fun _ _ _ h => h) (by rfl) ?_ trivial ?_
      rotate_left
      · (intro w hSw; (try dsimp only at hSw); try simp only [List.getElem_toArray, List.getElem_cons_zero, List.getElem_cons_succ]; go_simp; try (with_reducible rfl))
      try simp only [List.setIfInBounds_toArray, List.set_cons_zero, List.set_cons_succ]
      refine wpAnyH_done (by kernel_rfl) ?_ _
      have hrow6 : Row w6 g (splice L m (List.replicate d x)) := by
        have := hw6.out
        rw [nums_splice] at this
        exact this
      have HR6 := Lib.hid hrow6
      have HB6 := Lib.hid hb6
      clear hrow6 hb6 hw6
      go_wp2
      go_roundw
      case rel => exact ⟨q, splice L m (List.replicate d x), by have := HQ.out; omega, by have := HQ.out; omega, rfl, by rw [length_splice _ _ _ (by simp; omega)]; exact hL, by rw [← HQ.out]; exact full_more HF.out (by omega), HR6.out, HB6.out⟩
      case measure => have := HQ.out; simp [intOf]; omega
    · obtain rfl : m = n := by omega
      have hg0 := HGE.out
      go_wp2
      go_ret
      subst hg0
      exact ⟨rfl, by rw [← full_all HF.out hL]; exact hrow, HB.out⟩
end GG
end Go.Proofs.Ytebkpjefdaieaaa
