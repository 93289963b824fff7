/-
  TableMakes: the walk. Conditions: none.
-/
import Derived.Test.YtbeoclcnajfjcaaLawP
import Derived.Test.YtbeoclcnajfjcaaOpenL
import Derived.Test.YtbeoclcnajfjcaaRefG
namespace Go.Proofs.Ytbeoclcnajfjcaa.TableMakes
open Go Go.RowKit H2 Tab
set_option linter.unusedVariables false
set_option linter.unusedSimpArgs false
set_option maxHeartbeats 4000000 in
theorem refNew_zero (A : Option Addr) (cap : Nat) (w : World) :
    Calls Try.prog 25 #[.slice A 0 cap] w fun e w' => Lst w w' [] 0 e ∧ Below w.heap.size w w' := by
  go_enter Try.func25, Try.ntmps25
  go_wp2
  go_loopw [4] (fun s4 wr => s4 = .int .i64 0 ∧ Below w.heap.size w wr) (fun s4 _ => 0)
  case atStart => exact ⟨rfl, Below.refl _ _⟩
  case round =>
    obtain ⟨rfl, hb⟩ := hrel
    go_wp2
    go_loopw [5] (fun s5 wr => s5 = .int .i64 0 ∧ Below w.heap.size w wr) (fun s5 _ => 0)
    case atStart => exact ⟨rfl, hb⟩
    case round =>
      obtain ⟨rfl, hb2⟩ := hrel
      go_wp2
      go_loopw [6, 7] (fun s6 s7 wr => s6 = .slice none 0 0 ∧ s7 = .int .i64 0 ∧ Below w.heap.size w wr) (fun s6 s7 _ => 0)
      case atStart => exact ⟨rfl, rfl, hb2⟩
      case round =>
        obtain ⟨rfl, rfl, hb3⟩ := hrel
        go_wp2
        go_ret2
        exact ⟨⟨_, none, 0, rfl, rv_none _⟩, hb3⟩
theorem refNew_in (A : Option Addr) (n cap : Nat) (L : List Rt) (hn : L.length = n) (hl : L.length ≤ 400) (hc : L.length ≤ cap) (hcm : cap ≤ maxLen) (w : World) (hr : Rd w A L) {c : Int} {T : List Rt} (e1 : newC L = c) (e2 : newT L = T) :
    Calls Try.prog 25 #[.slice A n cap] w fun e w' => Lst w w' T c e ∧ Below w.heap.size w w' := by
  subst e1 e2 hn
  cases L with
  | nil =>
    rw [show newC [] = 0 by decide, newT_zero (show newC [] = 0 by decide)]
    exact refNew_zero A cap w
  | cons x M =>
    refine refNew_any A cap (x :: M) (by omega) w ⟨rfl, hc, hcm, hr, fun e => ?_, fun a e => ?_⟩
    · obtain ⟨b, o, h, _⟩ := hr 0 (by simp)
      rw [e] at h
      cases h
    · obtain ⟨b, o, h, h2⟩ := hr 0 (by simp)
      rw [h] at e
      cases e
      exact ⟨b, o, rfl, h2.lt⟩
set_option maxRecDepth 100000 in
set_option maxHeartbeats 40000000 in
theorem walk (v0 : Value) (W : World) (w0 : Tab.IsRs W v0) : Calls Try.prog 4 #[v0] W fun e w' => e = .returned (.bool true) ∧ Below W.heap.size W w' := by
  obtain ⟨A, cap, L, rfl, hl, hr⟩ := w0
  have HR := Lib.hid hr
  obtain ⟨n, hn⟩ : ∃ n, L.length = n := ⟨_, rfl⟩
  have HN := Lib.hid hn
  have HCP := Lib.hid hl
  rw [hn] at hl ⊢
  unfold maxLen at hl
  have hl := Nat.le_trans hl.1 hl.2
  clear hr hn
  have n0 : (0 : Int) ≤ (n : Int) := by omega
  have hb := Lib.hid (Below.refl W.heap.size W)
  by_cases hbig : (400 : Int) < (n : Int)
  · have hbd : decide ((400 : Int) < (n : Int)) = true := decide_eq_true hbig
    go_enter Try.func4, Try.ntmps4
    go_wp2_with (first
      | (go_at_call 10; (with_reducible refine (awake_any _).mono ?_); rintro e w1 ⟨rfl, h1⟩; have hb := Lib.hid (hb.out.trans (h1.mono hb.out.size)); clear h1))
    go_ret
    exact ⟨rfl, hb.out⟩
  · have hbd : decide ((400 : Int) < (n : Int)) = false := decide_eq_false hbig
    have hn4 : n ≤ 400 := by omega
    have HNI := Lib.hid (show A = none → L = [] from fun e => by
      have h := HR.out
      rw [e] at h
      cases hL : L with
      | nil => rfl
      | cons x M =>
        obtain ⟨_, _, h0, _⟩ := h 0 (by rw [hL]; simp)
        cases h0)
    obtain ⟨c, hc⟩ : ∃ c, newC L = c := ⟨_, rfl⟩
    have HC := Lib.hid hc
    clear hc
    obtain ⟨T, hT⟩ : ∃ T, newT L = T := ⟨_, rfl⟩
    have HT := Lib.hid hT
    clear hT
    have HRF := Lib.hid (fun (V : World) (hb : Below W.heap.size W V) => refNew_in A n cap L HN.out (by have := HN.out; omega) HCP.out.1 HCP.out.2 V (HR.out.below hb) HC.out HT.out)
    by_cases hc0 : c = 0
    · subst hc0
      have HTF := Lib.hid (show fold L = T by rw [← newT_zero HC.out]; exact HT.out)
      go_enter Try.func4, Try.ntmps4
      go_wp2_with (first
        | (go_at_call 10; (with_reducible refine (awake_any _).mono ?_); rintro e w1 ⟨rfl, h1⟩; have hb := Lib.hid (hb.out.trans (h1.mono hb.out.size)); clear h1)
        | (refine wpList_row_run (o := ⟨some 18, .buildSlice 31 0 #[], _, _, _, _⟩) rfl 31 0 #[] rfl #[] (by simp) (row_R0 _) ?_)
        | (refine wpList_appR rfl (.tmp 18) (.tmp 19) rfl _ [] L A n cap HN.out rfl rfl (gr_zero w1) ((HR.out.below hb.out).below ((Below.refl _ _).alloc (Nat.le_refl _) _)) HNI.out (by have := HN.out; simp; omega) ?_; rintro v7 w7 h7 _; rw [List.nil_append] at h7; have hb := Lib.hid (hb.out.trans (h7.bel.mono hb.out.size)); obtain ⟨A7, c7, hv7⟩ := h7.rv; obtain rfl := hv7.eq; have HNW := Lib.hid (new_any A7 c7 L (by have := HN.out; omega) w7 hv7); clear h7 hv7)
        | (go_at_call 11; (with_reducible refine (HNW.out).mono ?_); rintro e w8 ⟨h8, h9⟩; obtain ⟨b8, v8, h10, h11⟩ := made_ok h8 HC.out HTF.out; subst h10; have HT8 := Lib.hid h11; have hb := Lib.hid (hb.out.trans (h9.mono hb.out.size)); clear h8 h9 h11)
        | (go_at_call 25; (with_reducible refine (HRF.out _ hb.out).mono ?_); rintro e w9 ⟨⟨v9, A9, c9, rfl, h1⟩, h2⟩; obtain rfl := h1.eq; have HV9 := Lib.hid h1.rd; have hb := Lib.hid (hb.out.trans (h2.mono hb.out.size)); have HT8 := Lib.hid (HT8.out.below h2); clear h1 h2)
        | (go_at_call 22; (with_reducible refine (all_any _ HT8.out).mono ?_); rintro e w10 ⟨v10, rfl, h1, h2⟩; obtain ⟨A10, c10, hv10, _⟩ := own_rv h1; obtain rfl := hv10.eq; have HSM := Lib.hid (refSame_any A10 A9 c10 c9 T T (Nat.le_trans HT8.out.tok.len (by decide)) (Nat.le_trans HT8.out.tok.len (by decide)) w10 hv10.rd (HV9.out.below h2)); rw [decide_eq_true rfl] at HSM; have hb := Lib.hid (hb.out.trans (h2.mono hb.out.size)); clear h1 h2 hv10) | (go_at_call 21; (with_reducible refine (HSM.out).mono ?_); rintro e w11 ⟨rfl, h2⟩; have hb := Lib.hid (hb.out.trans (h2.mono hb.out.size)); clear h2))
      go_loopw [50] (fun s50 wr => ∃ k : Nat, k ≤ n ∧ s50 = .int .i64 k ∧ Below W.heap.size W wr) (fun s50 _ => n - (intOf s50).toNat)
      case atStart => exact ⟨0, by omega, rfl, hb.out⟩
      case round =>
        obtain ⟨k, hk, rfl, hbb⟩ := hrel
        have HB := Lib.hid hbb
        clear hbb
        by_cases hlt : k < n
        · have hlt' : (k : Int) < (n : Int) := by omega
          have k0 : (0 : Int) ≤ (k : Int) := by omega
          have hkl : k < L.length := by rw [HN.out]; exact hlt
          obtain ⟨g, o, rfl, hx⟩ := HR.out k hkl
          have HX := Lib.hid (hx.below HB.out)
          clear hx
          generalize L[k] = x at HX
          have hl1 : Sem.run Try.prog (loadCellsFrom ⟨g, o + k * n20, none⟩ 0 n20 #[]) wr = .ok (encR x).toArray wr := HX.out.all.load (k := n20) (encR_n _) Try.prog
          have hst := store_row (o := 0) (vs := encR x) (heap_alloc_new wr (.cells (encR zR).toArray 34 (0, 0))) (by simp [encR_len]) (encR_one _) Try.prog
          rw [splice_whole (by simp [encR_len])] at hst
          go_upto_region 12 with fail
          have HBX := Lib.hid (setRow_heap (wr.alloc (.cells (encR zR).toArray 34 (0, 0))) wr.heap.size _ (encR x).toArray 34 (0, 0) (heap_alloc_new wr _))
          have hbx := Lib.hid (below_setRow ((Below.refl wr.heap.size wr).alloc (Nat.le_refl _) (.cells (encR zR).toArray 34 (0, 0))) (Nat.le_refl _) (encR x).toArray)
          clear hst hl1
          have HB5 := Lib.hid (HB.out.trans (hbx.out.mono HB.out.size).drew)
          have HX5 := Lib.hid (show RAt ((wr.alloc (.cells (encR zR).toArray 34 (0, 0))).setRow wr.heap.size (encR x).toArray).drew wr.heap.size 0 x from (show RAt _ wr.heap.size 0 x from ⟨at_row HBX.out⟩).drew)
          generalize (wr.alloc _).setRow _ _ = W5 at HB5 HX5 ⊢
          generalize wr.heap.size = B5 at HX5 ⊢
          clear HBX hbx
          obtain ⟨y, hy⟩ : ∃ y, right x = y := ⟨_, rfl⟩
          have HY := Lib.hid hy
          clear hy
          refine wp_region_held_drew (S := (fun w' => RAt w' B5 0 x)) (by kernel_rfl) HX5.out (fun _ => ?_)
          refine held_take 0 54 (v := ?_) rfl rfl (by kernel_rfl) (by kernel_rfl) (by kernel_rfl) (fun _ _ _ h => h) (by rfl) ?_ HX5.out ?_
          rotate_left
          · (intro w hSw; (try dsimp only at hSw); have c0 := hSw.all.load (k := n20) (encR_n _) Try.prog; clear hSw;try simp only [List.getElem_toArray, List.getElem_cons_zero, List.getElem_cons_succ]; go_simp; try (with_reducible rfl))
          try simp only [List.setIfInBounds_toArray, List.set_cons_zero, List.set_cons_succ]
          refine held_take 2 56 (v := ?_) rfl rfl (by kernel_rfl) (by kernel_rfl) (by kernel_rfl) (fun _ _ _ h => h) (by rfl) ?_ HX5.out ?_
          rotate_left
          · (intro w hSw; (try dsimp only at hSw); have c0 := hSw.all.load (k := n20) (encR_n _) Try.prog; clear hSw;try simp only [List.getElem_toArray, List.getElem_cons_zero, List.getElem_cons_succ]; go_simp; try (with_reducible rfl))
          try simp only [List.setIfInBounds_toArray, List.set_cons_zero, List.set_cons_succ]
          refine held_call 1 55 rfl rfl (by kernel_rfl) (by rfl) (fun K hK => ?_)
          try simp only [List.getElem_toArray, List.getElem_cons_zero, List.getElem_cons_succ]
          go_simp
          (go_at_call 26; (with_reducible refine (right_any _ _).mono ?_); rintro e w6 ⟨rfl, hb3⟩; rw [HY.out]; have HX5 := Lib.hid (HX5.out.below hb3); have HB5 := Lib.hid (HB5.out.trans (hb3.mono HB5.out.size)); clear hb3)
          try go_wp2_with fail
          try simp only [Act.put, List.setIfInBounds_toArray, List.set_cons_zero, List.set_cons_succ]
          refine hK.out _ _ _ HX5.out ?_
          clear hK K
          refine held_call 3 57 rfl rfl (by kernel_rfl) (by rfl) (fun K hK => ?_)
          try simp only [List.getElem_toArray, List.getElem_cons_zero, List.getElem_cons_succ]
          go_simp
          (go_at_call 27; (with_reducible refine (refR_any _ _).mono ?_); rintro e w6 ⟨rfl, hb3⟩; rw [HY.out]; have HX5 := Lib.hid (HX5.out.below hb3); have HB5 := Lib.hid (HB5.out.trans (hb3.mono HB5.out.size)); clear hb3)
          try go_wp2_with fail
          try simp only [Act.put, List.setIfInBounds_toArray, List.set_cons_zero, List.set_cons_succ]
          refine hK.out _ _ _ HX5.out ?_
          clear hK K
          refine held_take 4 58 (v := ?_) rfl rfl (by kernel_rfl) (by kernel_rfl) (by kernel_rfl) (fun _ _ _ h => h) (by rfl) ?_ HX5.out ?_
          rotate_left
          · (intro w hSw; (try dsimp only at hSw); have c0 := hSw.all.load (k := n20) (encR_n _) Try.prog; clear hSw;try simp only [List.getElem_toArray, List.getElem_cons_zero, List.getElem_cons_succ]; go_simp; try (with_reducible rfl))
          try simp only [List.setIfInBounds_toArray, List.set_cons_zero, List.set_cons_succ]
          refine wpAnyH_done (by kernel_rfl) ?_ _
          cases y
          all_goals
            go_wp2
            go_roundw
            case rel => exact ⟨k + 1, by omega, by go_num, HB5.out⟩
            case measure => simp [intOf]; omega
        · obtain rfl : k = n := by omega
          have hkk : ¬ (k : Int) < (k : Int) := by omega
          go_wp2
          go_ret
          exact ⟨rfl, HB.out⟩
    · have hc1 : (c == 0) = false := by simpa using hc0
      have hc2 : decide (c = 0) = false := decide_eq_false hc0
      go_enter Try.func4, Try.ntmps4
      go_wp2_with (first
        | (go_at_call 10; (with_reducible refine (awake_any _).mono ?_); rintro e w1 ⟨rfl, h1⟩; have hb := Lib.hid (hb.out.trans (h1.mono hb.out.size)); clear h1)
        | (refine wpList_row_run (o := ⟨some 18, .buildSlice 31 0 #[], _, _, _, _⟩) rfl 31 0 #[] rfl #[] (by simp) (row_R0 _) ?_)
        | (refine wpList_appR rfl (.tmp 18) (.tmp 19) rfl _ [] L A n cap HN.out rfl rfl (gr_zero w1) ((HR.out.below hb.out).below ((Below.refl _ _).alloc (Nat.le_refl _) _)) HNI.out (by have := HN.out; simp; omega) ?_; rintro v7 w7 h7 _; rw [List.nil_append] at h7; have hb := Lib.hid (hb.out.trans (h7.bel.mono hb.out.size)); obtain ⟨A7, c7, hv7⟩ := h7.rv; obtain rfl := hv7.eq; have HNW := Lib.hid (new_any A7 c7 L (by have := HN.out; omega) w7 hv7); clear h7 hv7)
        | (go_at_call 11; (with_reducible refine (HNW.out).mono ?_); rintro e w8 ⟨h8, h9⟩; have e8 := made_no h8 HC.out hc0; subst e8; have hb := Lib.hid (hb.out.trans (h9.mono hb.out.size)); clear h8 h9)
        | (go_at_call 25; (with_reducible refine (HRF.out _ hb.out).mono ?_); rintro e w9 ⟨⟨v9, A9, c9, rfl, h1⟩, h2⟩; obtain rfl := h1.eq; have HV9 := Lib.hid h1.rd; have hb := Lib.hid (hb.out.trans (h2.mono hb.out.size));  clear h1 h2)
        )
      go_loopw [50] (fun s50 wr => ∃ k : Nat, k ≤ n ∧ s50 = .int .i64 k ∧ Below W.heap.size W wr) (fun s50 _ => n - (intOf s50).toNat)
      case atStart => exact ⟨0, by omega, rfl, hb.out⟩
      case round =>
        obtain ⟨k, hk, rfl, hbb⟩ := hrel
        have HB := Lib.hid hbb
        clear hbb
        by_cases hlt : k < n
        · have hlt' : (k : Int) < (n : Int) := by omega
          have k0 : (0 : Int) ≤ (k : Int) := by omega
          have hkl : k < L.length := by rw [HN.out]; exact hlt
          obtain ⟨g, o, rfl, hx⟩ := HR.out k hkl
          have HX := Lib.hid (hx.below HB.out)
          clear hx
          generalize L[k] = x at HX
          have hl1 : Sem.run Try.prog (loadCellsFrom ⟨g, o + k * n20, none⟩ 0 n20 #[]) wr = .ok (encR x).toArray wr := HX.out.all.load (k := n20) (encR_n _) Try.prog
          have hst := store_row (o := 0) (vs := encR x) (heap_alloc_new wr (.cells (encR zR).toArray 34 (0, 0))) (by simp [encR_len]) (encR_one _) Try.prog
          rw [splice_whole (by simp [encR_len])] at hst
          go_upto_region 12 with fail
          have HBX := Lib.hid (setRow_heap (wr.alloc (.cells (encR zR).toArray 34 (0, 0))) wr.heap.size _ (encR x).toArray 34 (0, 0) (heap_alloc_new wr _))
          have hbx := Lib.hid (below_setRow ((Below.refl wr.heap.size wr).alloc (Nat.le_refl _) (.cells (encR zR).toArray 34 (0, 0))) (Nat.le_refl _) (encR x).toArray)
          clear hst hl1
          have HB5 := Lib.hid (HB.out.trans (hbx.out.mono HB.out.size).drew)
          have HX5 := Lib.hid (show RAt ((wr.alloc (.cells (encR zR).toArray 34 (0, 0))).setRow wr.heap.size (encR x).toArray).drew wr.heap.size 0 x from (show RAt _ wr.heap.size 0 x from ⟨at_row HBX.out⟩).drew)
          generalize (wr.alloc _).setRow _ _ = W5 at HB5 HX5 ⊢
          generalize wr.heap.size = B5 at HX5 ⊢
          clear HBX hbx
          obtain ⟨y, hy⟩ : ∃ y, right x = y := ⟨_, rfl⟩
          have HY := Lib.hid hy
          clear hy
          refine wp_region_held_drew (S := (fun w' => RAt w' B5 0 x)) (by kernel_rfl) HX5.out (fun _ => ?_)
          refine held_take 0 54 (v := ?_) rfl rfl (by kernel_rfl) (by kernel_rfl) (by kernel_rfl) (fun _ _ _ h => h) (by rfl) ?_ HX5.out ?_
          rotate_left
          · (intro w hSw; (try dsimp only at hSw); have c0 := hSw.all.load (k := n20) (encR_n _) Try.prog; clear hSw;try simp only [List.getElem_toArray, List.getElem_cons_zero, List.getElem_cons_succ]; go_simp; try (with_reducible rfl))
          try simp only [List.setIfInBounds_toArray, List.set_cons_zero, List.set_cons_succ]
          refine held_take 2 56 (v := ?_) rfl rfl (by kernel_rfl) (by kernel_rfl) (by kernel_rfl) (fun _ _ _ h => h) (by rfl) ?_ HX5.out ?_
          rotate_left
          · (intro w hSw; (try dsimp only at hSw); have c0 := hSw.all.load (k := n20) (encR_n _) Try.prog; clear hSw;try simp only [List.getElem_toArray, List.getElem_cons_zero, List.getElem_cons_succ]; go_simp; try (with_reducible rfl))
          try simp only [List.setIfInBounds_toArray, List.set_cons_zero, List.set_cons_succ]
          refine held_call 1 55 rfl rfl (by kernel_rfl) (by rfl) (fun K hK => ?_)
          try simp only [List.getElem_toArray, List.getElem_cons_zero, List.getElem_cons_succ]
          go_simp
          (go_at_call 26; (with_reducible refine (right_any _ _).mono ?_); rintro e w6 ⟨rfl, hb3⟩; rw [HY.out]; have HX5 := Lib.hid (HX5.out.below hb3); have HB5 := Lib.hid (HB5.out.trans (hb3.mono HB5.out.size)); clear hb3)
          try go_wp2_with fail
          try simp only [Act.put, List.setIfInBounds_toArray, List.set_cons_zero, List.set_cons_succ]
          refine hK.out _ _ _ HX5.out ?_
          clear hK K
          refine held_call 3 57 rfl rfl (by kernel_rfl) (by rfl) (fun K hK => ?_)
          try simp only [List.getElem_toArray, List.getElem_cons_zero, List.getElem_cons_succ]
          go_simp
          (go_at_call 27; (with_reducible refine (refR_any _ _).mono ?_); rintro e w6 ⟨rfl, hb3⟩; rw [HY.out]; have HX5 := Lib.hid (HX5.out.below hb3); have HB5 := Lib.hid (HB5.out.trans (hb3.mono HB5.out.size)); clear hb3)
          try go_wp2_with fail
          try simp only [Act.put, List.setIfInBounds_toArray, List.set_cons_zero, List.set_cons_succ]
          refine hK.out _ _ _ HX5.out ?_
          clear hK K
          refine held_take 4 58 (v := ?_) rfl rfl (by kernel_rfl) (by kernel_rfl) (by kernel_rfl) (fun _ _ _ h => h) (by rfl) ?_ HX5.out ?_
          rotate_left
          · (intro w hSw; (try dsimp only at hSw); have c0 := hSw.all.load (k := n20) (encR_n _) Try.prog; clear hSw;try simp only [List.getElem_toArray, List.getElem_cons_zero, List.getElem_cons_succ]; go_simp; try (with_reducible rfl))
          try simp only [List.setIfInBounds_toArray, List.set_cons_zero, List.set_cons_succ]
          refine wpAnyH_done (by kernel_rfl) ?_ _
          cases y
          all_goals
            go_wp2
            go_roundw
            case rel => exact ⟨k + 1, by omega, by go_num, HB5.out⟩
            case measure => simp [intOf]; omega
        · obtain rfl : k = n := by omega
          have hkk : ¬ (k : Int) < (k : Int) := by omega
          go_wp2
          go_ret
          exact ⟨rfl, HB.out⟩
end Go.Proofs.Ytbeoclcnajfjcaa.TableMakes
