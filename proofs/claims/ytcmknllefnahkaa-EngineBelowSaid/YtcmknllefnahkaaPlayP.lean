/-
  The law EnginePlays: long, like, two distances compared, offers copied, how the two nodes leave each other alone. Conditions: those that each theorem names.
-/
import Derived.Test.YtcmknllefnahkaaRf6
namespace Go.Proofs.Ytcmknllefnahkaa
open Go.RowKit FR FP H2 OW
set_option linter.unusedVariables false
set_option linter.unusedSimpArgs false
namespace RefN
open Eng Ref18 Feas
/-- is one of the first n calls too long? -/
def lng (f : Nat → OpV) (n : Nat) : Bool := (List.range n).any fun i => decide (50 < (f i).n)
theorem lng_succ (f : Nat → OpV) (n : Nat) : lng f (n + 1) = (lng f n || decide (50 < (f n).n)) := by simp [lng, List.range_succ]
theorem lng_lt {f : Nat → OpV} {n i : Nat} (h : lng f n = false) (hi : i < n) : (f i).n ≤ 50 := by
  unfold lng at h
  rw [List.any_eq_false] at h
  have := h i (List.mem_range.2 hi)
  simp at this
  exact this
theorem lng_at {f : Nat → OpV} {n i : Nat} (hi : i < n) (h : 50 < (f i).n) : lng f n = true := by
  unfold lng
  rw [List.any_eq_true]
  exact ⟨i, List.mem_range.2 hi, decide_eq_true h⟩
set_option maxRecDepth 100000 in
set_option maxHeartbeats 4000000 in
theorem long_is (A : Option Addr) (n cap : Nat) (f : Nat → OpV) (w : World) (hn : n ≤ maxLen) (h : RdOp w A n f) : Calls Try.prog 10 #[.slice A n cap] w fun e w' => e = .returned (.bool (lng f n || decide (150 < n))) ∧ Below w.heap.size w w' := by
  have H := Lib.hid h
  unfold maxLen at hn
  clear h
  go_enter Try.func10, Try.ntmps10
  go_upto_region 2 with fail
  go_loopw [7] (fun s7 wr => ∃ i : Nat, i ≤ n ∧ s7 = .int .i64 i ∧ lng f i = false ∧ Below w.heap.size w wr) (fun s7 _ => n - (intOf s7).toNat)
  case atStart => exact ⟨0, by omega, rfl, rfl, Below.refl _ _⟩
  case round =>
    obtain ⟨i, hi, rfl, hl, hb⟩ := hrel
    have HB := Lib.hid hb
    have HL := Lib.hid hl
    clear hb hl
    by_cases hlt : i < n
    · have hlt' : (i : Int) < (n : Int) := by omega
      have i0 : (0 : Int) ≤ (i : Int) := by omega
      obtain ⟨g, o, rfl, hg, x0, x1, x2, x3, _⟩ := (H.out.below HB.out) i hlt
      by_cases h50 : 50 < (f i).n
      · have HT := Lib.hid (lng_at hlt h50)
        go_wp2
        go_ret
        rw [HT.out]
        exact ⟨rfl, HB.out.alloc HB.out.size _⟩
      · have HT := Lib.hid (show lng f (i + 1) = false by rw [lng_succ, HL.out, decide_eq_false h50]; rfl)
        go_wp2
        go_roundw
        case rel => exact ⟨i + 1, by omega, by go_num, HT.out, HB.out.alloc HB.out.size _⟩
        case measure => simp [intOf]; omega
    · obtain rfl : n = i := by omega
      by_cases h150 : (150 : Int) < (n : Int)
      · have HD := Lib.hid (show decide (150 < n) = true from decide_eq_true (by omega))
        go_wp2
        go_ret
        rw [HL.out, HD.out]
        exact ⟨rfl, HB.out⟩
      · have HD := Lib.hid (show decide (150 < n) = false from decide_eq_false (by omega))
        go_wp2
        go_ret
        rw [HL.out, HD.out]
        exact ⟨rfl, HB.out⟩
theorem like_any (m q : Int) (hm : Sm m) (hq : Sm q) (w : World) : Calls Try.prog 29 #[dv m q] w fun e w' => e = .returned (rv m q) ∧ Below w.heap.size w w' := by
  have hq1 := hq.1
  have hq2 := hq.2
  have hw : IntKind.i64.wrap q = q := IntWalk.i64_in _ (by omega)
  have hbl : Below w.heap.size w (w.alloc (.cells #[.int .i64 0, .int .i64 0] 59 (0, 0))) := (Below.refl _ _).alloc (Nat.le_refl _) _
  have HB := Lib.hid hbl
  clear hbl
  go_enter Try.func29, Try.ntmps29
  go_wp2_with (first
    | (go_at_call 36; (with_reducible refine (metric_any m q hm _).mono ?_); rintro e w' ⟨rfl, rfl⟩)
    | (go_at_call 37; (with_reducible refine (Feas.seq_any m q hq _).mono ?_); rintro e w' ⟨rfl, rfl⟩))
  exact bodyPost_ret (v := rv m q) (by simp [results, Try.results29, go_sem]) rfl ⟨rfl, (Below.refl _ _).alloc (Nat.le_refl _) _⟩
theorem neqD (a b c d : Int) (w : World) : (binOp .neq 59 (rv a b) (rv c d)).run Try.prog w = .ok (.bool (!(a == c && b == d))) w := by
  have u3 := Try.underlying3
  have a3 := Try.isAgg3
  have z3 := Try.sizeOf3
  have hS : Try.prog.underlying 59 = some (.struct (Try.prog.fieldsOf 59)) := by kernel_rfl
  have hp : Try.prog.stoodInHeld 59 = false := by kernel_rfl
  rw [run_neq_struct, show (10000 : Nat) = 9999 + 1 from rfl, run_equalIn_agg w 9999 _ _ _ hS hp]
  simp only [Program.fieldsOf, Try.underlying59]
  go_simp
  by_cases h1 : a = c <;> by_cases h2 : b = d <;> simp [h1, h2]
theorem guardD : Try.prog.eqGuardType Try.prog.depth 59 = false := by kernel_rfl
theorem sameD (a b : Int) (w : World) : (binOp .neq 59 (rv a b) (rv a b)).run Try.prog w = .ok (.bool false) w := by rw [neqD]; simp
/-- what a node of the program's does leaves the document's alone -/
theorem RN.nd {w w' : World} {base br b : Nat} {s s0 : St} {L : RLay} (h : RN w base br s L) (hi : IsN w b s0) (ho : Only (fun i => i = b) w w') : RN w' base br s L := by
  obtain ⟨cs, hb, _⟩ := hi.blk
  have ht : OnlyT (fun t => t = 83) w w' := ho.mono (fun i _ e => by subst e; exact ⟨_, _, _, hb, rfl⟩)
  exact h.typ ht (by decide) (by decide) (by decide) (by decide)
theorem isN_typ {w w' : World} {T : TypeId → Prop} {b : Nat} {s : St} (h : IsN w b s) (ho : OnlyT T w w') (hT : ¬ T 83) : IsN w' b s := by
  obtain ⟨⟨cs, h1, h2⟩, h3, h4⟩ := h
  exact ⟨⟨cs, ho.obj h1 hT, h2⟩, h3, h4⟩
theorem nd_ref {w0 w w' : World} {base b : Nat} {s : St} (h : Nd w0 w b s) (ho : AfterR base w w') (hb : w0.heap.size ≤ base) : Nd w0 w' b s :=
  ⟨isN_typ h.isn ho.typ (by unfold refT; decide), h.wf, h.bel.trans (ho.bel.mono hb), h.new⟩
theorem nd_typ {w0 w w' : World} {T : TypeId → Prop} {b : Nat} {s : St} (h : Nd w0 w b s) (ho : OnlyT T w w') (hT : ¬ T 83) (hb : Below w0.heap.size w w') : Nd w0 w' b s :=
  ⟨isN_typ h.isn ho hT, h.wf, h.bel.trans hb, h.new⟩
theorem infoP : (Try.prog.info? 71).map (fun i => (i.zero, i.size, i.bytes)) = some (some (.agg #[.int .i64 0, .int .i64 0, .int .u32 0]), 3, 24) := by kernel_rfl
theorem cellsO_len (f : Nat → Int × Int × Int) : ∀ m, (cellsO f m).length = m * 3
  | 0 => rfl
  | m + 1 => by rw [cellsO_succ, List.length_append, cellsO_len f m]; simp; omega
theorem run_app_none {P : Program} (w : World) {base size n : Nat} {t ty e : TypeId} {i : TypeInfo} (ht : P.underlying t = some (.slice e)) (hi : P.info? e = some i) {v : Value} {xs : List Value} (ho : w.ownsRow base e size v n xs) (c : Nat) : (Builtin.append_ #[t, t] ty #[v, .slice none 0 c]).run P w = .ok v w := by
  rcases ho.2 with ⟨rfl, rfl⟩ | ⟨g, cap, cur, rfl, _, _, hc, _⟩
  · simp [Builtin.append_, run_underlying ht, sizeOf, typeInfo, hi, Builtin.lenOf, Builtin.firstCells]
  · simp [Builtin.append_, run_underlying ht, sizeOf, typeInfo, hi, Builtin.lenOf, Builtin.firstCells, hc, storeCells]
/-- offers that came in, behind a row that has none -/
theorem wp_app_offers (w : World) {o : Oper} {a : Act} {K : Act → World → Prop} {Q : Exit → Act → World → Prop} (s x : Operand)
    (ho : o.op = .call { callee := .builtin .append, args := #[s, x], argTypes := #[31, 31] }) (base : Nat) (v : Value) (hs : a.eval s = v) (hown : w.ownsRow base 71 3 v 0 [])
    (A : Option Addr) (n c : Nat) (f : Nat → Int × Int × Int) (hx : a.eval x = .slice A n c) (hf : RdO w A n f) (hn : n ≤ 50) (hc : A = none → n = 0) (hbase : base ≤ w.heap.size)
    (h : ∀ v' w', w'.ownsRow base 71 3 v' n (cellsO f n) → w.grownBy w' v.ownBlock → K (a.put o.dst v') w') : o.wp Try.prog a w K Q := by
  obtain ⟨i0, hi, hz0, hz1, hz2⟩ := info_parts infoP
  have key : ∃ v' w', (Builtin.append_ #[31, 31] o.type #[v, .slice A n c]).run Try.prog w = .ok v' w' ∧ w'.ownsRow base 71 3 v' n (cellsO f n) ∧ w.grownBy w' v.ownBlock := by
    rcases A with _ | ad
    · obtain rfl := hc rfl
      exact ⟨v, w, run_app_none w Try.underlying31 hi hown c, hown, World.grownBy.refl w _⟩
    · have hnews : ∀ j u, (cellsO f n)[j]? = some u → w.cell? (ad.add j) = some u := fun j u hu => by
        have hj : j < n * 3 := by
          have := (List.getElem?_eq_some_iff.1 hu).1
          rw [cellsO_len] at this
          exact this
        obtain ⟨g, o', e, _, h0, h1, h2⟩ := hf (j / 3) (by omega)
        cases e
        have hadd : (⟨g, o', none⟩ : Addr).add j = ⟨g, o' + j, none⟩ := by
          unfold Addr.add
          split
          · rename_i h; simp [h]
          · rfl
        have hfg := flat_get f n (j / 3) (j % 3) (by omega) (by omega)
        rw [show j / 3 * 3 + j % 3 = j by omega, hu] at hfg
        rw [hadd]
        rcases (show j % 3 = 0 ∨ j % 3 = 1 ∨ j % 3 = 2 by omega) with h3 | h3 | h3
        · rw [h3] at hfg; simp at hfg; rw [hfg, show o' + j = o' + j / 3 * 3 by omega]; exact h0
        · rw [h3] at hfg; simp at hfg; rw [hfg, show o' + j = o' + j / 3 * 3 + 1 by omega]; exact h1
        · rw [h3] at hfg; simp at hfg; rw [hfg, show o' + j = o' + j / 3 * 3 + 2 by omega]; exact h2
      have hone : ∀ u ∈ cellsO f n, u.oneCell' = true := fun u hu => by
        unfold cellsO at hu
        obtain ⟨i, _, hu⟩ := List.mem_flatMap.1 hu
        simp at hu
        rcases hu with rfl | rfl | rfl <;> rfl
      obtain ⟨v', w', hrun, h2, h3, _⟩ := run_append_own (P := Try.prog) w base 31 o.type 71 i0 _ 3 24 Try.underlying31 hi hz0 hz1 hz2 rfl (by omega) v 0 [] hown ad n c (cellsO f n) (cellsO_len f n) hnews hone (by unfold maxLen; omega) (by omega) hbase
      rw [Nat.zero_add, List.nil_append] at h2
      exact ⟨v', w', hrun, h2, h3⟩
  obtain ⟨v', w', hrun, h2, h3⟩ := key
  unfold Oper.wp execOp
  simp only [ho, resolve, invoke, builtin, Sem.run_bind, Sem.run_pure, Result.andThen_ok, List.map_toArray, List.map_cons, List.map_nil, hs, hx, hrun]
  exact h v' w' h2 h3
end RefN
end Go.Proofs.Ytcmknllefnahkaa
