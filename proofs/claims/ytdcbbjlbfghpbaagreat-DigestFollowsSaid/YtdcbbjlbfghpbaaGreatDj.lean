/-
  Joined texts: RefF DigR DigP RefD NewA DigS. Conditions: those that each theorem names.
-/
import Derived.Test.YtdcbbjlbfghpbaaGreatRefC
import Derived.Test.YtdcbbjlbfghpbaaGreatDd
import Derived.Test.YtdcbbjlbfghpbaaGreatDelG
import Derived.Test.YtdcbbjlbfghpbaaGreatDf
import Derived.Test.YtdcbbjlbfghpbaaGreatDi
/-
  The document's Between. Conditions: those that each theorem names.
-/
namespace Go.Proofs.YtdcbbjlbfghpbaaGreat
open Go Go.RowKit H2
set_option linter.unusedVariables false
set_option linter.unusedSimpArgs false
namespace Tab
def inB (a b : Pf) (r : Rt) : Bool := decide (¬ cmpP r.to a < 0) && decide (cmpP r.to b < 0)
theorem btw_inB {T : List Rt} (hs : Srt T) (a b : Pf) : T.filter (inB a b) = btw T a b := by
  have hs2 : Srt (btw T a b) := List.Pairwise.sublist ((List.drop_sublist _ _).trans (List.take_sublist _ _)) hs
  refine srt_ext (List.Pairwise.filter _ hs) hs2 (fun r => ?_)
  rw [List.mem_filter]
  unfold btw
  constructor
  · rintro ⟨hr, hp⟩
    obtain ⟨i, hi, rfl⟩ := List.getElem_of_mem hr
    unfold inB at hp
    rw [Bool.and_eq_true, decide_eq_true_iff, decide_eq_true_iff] at hp
    have h1 : ¬ i < pos T a := fun e => hp.1 ((pos_lt hs hi).2 e)
    have h2 : i < pos T b := (pos_lt hs hi).1 hp.2
    refine List.mem_of_getElem (i := i - pos T a) (h := by rw [List.length_drop, List.length_take]; omega) ?_
    rw [List.getElem_drop, List.getElem_take]
    congr 1
    omega
  · intro hr
    obtain ⟨i, hi, rfl⟩ := List.getElem_of_mem hr
    rw [List.length_drop, List.length_take] at hi
    rw [List.getElem_drop, List.getElem_take]
    have hlt : pos T a + i < T.length := by omega
    refine ⟨List.getElem_mem _, ?_⟩
    unfold inB
    rw [Bool.and_eq_true, decide_eq_true_iff, decide_eq_true_iff]
    exact ⟨fun e => absurd ((pos_lt hs hlt).1 e) (by omega), (pos_lt hs hlt).2 (by omega)⟩
theorem filter_step {T : List Rt} {k : Nat} (hk : k < T.length) (f : Rt → Bool) : (T.take (k + 1)).filter f = (T.take k).filter f ++ (if f T[k] = true then [T[k]] else []) := by
  rw [← part_step hk, List.filter_append, List.filter_cons, List.filter_nil]
/-- what is answered: a list -/
def LstV (w w' : World) (L : List Rt) (e : Ending) : Prop := ∃ v A cap, e = .returned v ∧ Rv w' v A cap L
end Tab
end Go.Proofs.YtdcbbjlbfghpbaaGreat

/-
  Digest: the document's Part. Conditions: those that each theorem names.
-/
namespace Go.Proofs.YtdcbbjlbfghpbaaGreat
open Go Go.RowKit H2
set_option linter.unusedVariables false
set_option linter.unusedSimpArgs false
namespace Dig
open Tab Byt
/-- whether a route is of a range -/
def inK (c : Int) (r : Rt) : Bool := decide ((bk r.to : Int) = c)
set_option maxRecDepth 100000 in
set_option maxHeartbeats 8000000 in
theorem refPart_any (A : Option Addr) (cap : Nat) (T : List Rt) (hl : T.length ≤ 1000) (c : Int) (w : World) (hr : Rd w A T) :
    Calls Tryz.prog 37 #[.slice A T.length cap, .int .i64 c] w fun e w' => LstV w w' (T.filter (inK c)) e ∧ Below w.heap.size w w' := by
  have HR := Lib.hid hr
  clear hr
  obtain ⟨n, hn⟩ : ∃ n, T.length = n := ⟨_, rfl⟩
  have HN := Lib.hid hn
  rw [hn] at hl ⊢
  clear hn
  go_enter Tryz.func37, Tryz.ntmps37
  go_wp2
  go_loopw [5, 6] (fun s5 s6 wr => ∃ k : Nat, k ≤ n ∧ s6 = .int .i64 k ∧ Gr w wr s5 ((T.take k).filter (inK c)) ∧ (∃ x y z, s5 = .slice x y z)) (fun s5 s6 _ => n - (intOf s6).toNat)
  case atStart => exact ⟨0, by omega, rfl, by rw [List.take_zero]; exact gr_nil w, _, _, _, rfl⟩
  case round =>
    obtain ⟨k, hk, rfl, hg, x5, y5, z5, rfl⟩ := hrel
    have HG := Lib.hid hg
    clear hg
    by_cases hlt : k < n
    · have hlt' : (k : Int) < (n : Int) := by omega
      have k0 : (0 : Int) ≤ (k : Int) := by omega
      have hkl : k < T.length := by rw [HN.out]; exact hlt
      obtain ⟨b, o, rfl, hra⟩ := HR.out k hkl
      have HX := Lib.hid (hra.below HG.out.bel)
      have HFS := Lib.hid (filter_step hkl (inK c))
      have HLE := Lib.hid (show ((T.take k).filter (inK c)).length ≤ 10000 from Nat.le_trans (List.length_filter_le _ _) (by rw [List.length_take]; omega))
      clear hra
      generalize T[k] = t at HX HFS
      have c0 : Sem.run Tryz.prog (loadCellsFrom ⟨b, o + k * n20, none⟩ 0 n18 #[]) wr = .ok (encP t.to).toArray wr := HX.out.to.all.load (k := n18) (encP_n _) Tryz.prog
      obtain ⟨q, hq⟩ : ∃ q, bk t.to = q := ⟨_, rfl⟩
      have HQ := Lib.hid hq
      have HIN := Lib.hid (show inK c t = decide ((q : Int) = c) by unfold inK; rw [hq])
      clear hq
      by_cases hc : (q : Int) = c
      · have hcd : decide ((q : Int) = c) = true := decide_eq_true hc
        have HFE := Lib.hid (show (T.take (k + 1)).filter (inK c) = (T.take k).filter (inK c) ++ [t] by rw [HFS.out, HIN.out, hcd]; rfl)
        subst hc
        go_upto_region 6 with (go_at_call 68; (with_reducible refine (refBucket_any _ _).mono ?_); rintro e w6 ⟨rfl, h1⟩; rw [HQ.out]; have HX := Lib.hid (HX.out.below h1); have HG := Lib.hid (HG.out.below h1); clear h1 c0)
        have a1 : Sem.run Tryz.prog (loadCellsFrom ⟨b, o + k * n20, none⟩ 0 n20 #[]) w6 = .ok (encR t).toArray w6 := HX.out.all.load (k := n20) (encR_n _) Tryz.prog
        go_wp2_with (first
          | (refine wpList_row_run (o := ⟨some 26, .buildSlice 22 1 #[(0, .tmp 25)], _, _, _, _⟩) rfl 22 1 #[(0, .tmp 25)] rfl #[(0, .agg (encR t).toArray)] (by simp [Act.eval, Act.put]) (row_R1 _ _) ?_)
          | (refine wpList_app1 rfl (.tmp 21) (.tmp 26) rfl _ t _ rfl rfl HG.out HLE.out ?_; rintro v7 w7 h7 ⟨x7, y7, z7, rfl⟩; have H7 := Lib.hid h7; clear h7))
        go_roundw
        case rel => exact ⟨k + 1, by omega, by go_num, by rw [HFE.out]; exact H7.out, _, _, _, rfl⟩
        case measure => simp [intOf]; omega
      · have hcd : decide ((q : Int) = c) = false := decide_eq_false hc
        have hce : ((q : Int) == c) = false := by simpa using hc
        have HFE := Lib.hid (show (T.take (k + 1)).filter (inK c) = (T.take k).filter (inK c) by rw [HFS.out, HIN.out, hcd, if_neg (by simp), List.append_nil])
        go_wp2_with (go_at_call 68; (with_reducible refine (refBucket_any _ _).mono ?_); rintro e w6 ⟨rfl, h1⟩; rw [HQ.out]; have HG := Lib.hid (HG.out.below h1); clear h1 c0)
        go_roundw
        case rel => exact ⟨k + 1, by omega, by go_num, by rw [HFE.out]; exact HG.out, _, _, _, rfl⟩
        case measure => simp [intOf]; omega
    · obtain rfl : k = n := by omega
      have hkk : ¬ (k : Int) < (k : Int) := by omega
      have HE := Lib.hid (show Gr w wr (.slice x5 y5 z5) (T.filter (inK c)) by have := HG.out; rwa [List.take_of_length_le (by rw [HN.out]; exact Nat.le_refl _)] at this)
      go_wp2
      go_ret
      obtain ⟨A2, c2, hv2⟩ := HE.out.rv
      exact ⟨⟨_, A2, c2, rfl, hv2⟩, HE.out.bel⟩
end Dig
end Go.Proofs.YtdcbbjlbfghpbaaGreat

/-
  Digest: Part. Conditions: those that each theorem names.
-/
namespace Go.Proofs.YtdcbbjlbfghpbaaGreat
open Go Go.RowKit H2
set_option linter.unusedVariables false
set_option linter.unusedSimpArgs false
namespace Dig
open Tab Byt
set_option maxRecDepth 100000 in
set_option maxHeartbeats 4000000 in
theorem deleteF_nil (fg : Nat) (lb : Array Value) (p : Rt → Bool) (eg : ∀ args w, (callFunc fg args).run Tryz.prog w = .ok (.enter fg args) w) (w : World)
    (hp : ∀ (W : World) (x : Rt), Below w.heap.size w W → Calls Tryz.prog fg (#[.agg (encR x).toArray] ++ lb) W fun e w' => e = .returned (.bool (p x)) ∧ Below W.heap.size W w') :
    Calls Tryz.prog 43 #[.slice none 0 0, .func (.func fg) #[] lb] w fun e w' => e = .returned (.slice none 0 0) ∧ Below w.heap.size w w' := by
  have hfi := first_any p fg lb eg none 0 [] (by simp) w (fun i hi => absurd hi (by simp)) hp
  have HFI := Lib.hid (hfi.mono (fun (e : Ending) w' ⟨hf, hb⟩ => show e = Ending.returned (.int .i64 (-1)) ∧ Below w.heap.size w w' from ⟨(by
    rcases hf with ⟨h1, _⟩ | ⟨i, h2, _⟩
    · exact h1
    · simp at h2), hb⟩))
  rw [List.length_nil] at HFI
  clear hfi hp
  go_enter Tryz.func43, Tryz.ntmps43
  go_wp2_with (go_at_call 54; (with_reducible refine (HFI.out).mono ?_); rintro e w2 ⟨rfl, h1⟩; have HB := Lib.hid h1; clear h1)
  go_ret
  exact ⟨rfl, HB.out⟩
set_option maxRecDepth 100000 in
set_option maxHeartbeats 4000000 in
theorem partF_any (x : Rt) (c : Int) (B : Nat) (w : World) (hc : w.cell? ⟨B, 0, none⟩ = some (.int .i64 c)) : Calls Tryz.prog 44 (#[.agg (encR x).toArray] ++ #[.pointer (some ⟨B, 0, none⟩)]) w fun e w' => e = .returned (.bool (!inK c x)) ∧ Below w.heap.size w w' := by
  show Calls Tryz.prog 44 #[.agg (encR x).toArray, .pointer (some ⟨B, 0, none⟩)] w _
  have HC := Lib.hid hc
  obtain ⟨q, hq⟩ : ∃ q, bk x.to = q := ⟨_, rfl⟩
  have HQ := Lib.hid hq
  have HIN := Lib.hid (show inK c x = decide ((q : Int) = c) by unfold inK; rw [hq])
  clear hc hq
  go_enter Tryz.func44, Tryz.ntmps44
  go_upto_region 1 with fail
  have H := Lib.hid (rAt_new w x 36 (0, 0)).drew
  have hb := Lib.hid (show Below w.heap.size w (w.alloc (.cells (encR x).toArray 36 (0, 0))).drew from ((Below.refl _ _).alloc (Nat.le_refl _) _).drew)
  have HC := Lib.hid (later hb.out HC.out)
  generalize w.alloc _ = W at H hb HC ⊢
  generalize w.heap.size = B5 at H ⊢
  refine wp_region_held_drew (S := (fun w' => RAt w' B5 0 x ∧ w'.cell? ⟨B, 0, none⟩ = some (.int .i64 c))) (by kernel_rfl) ⟨H.out, HC.out⟩ (fun _ => ?_)
  refine held_take 0 4 (v := ?_) rfl rfl (by kernel_rfl) (by kernel_rfl) (by kernel_rfl) (fun _ _ _ h => h) (by rfl) ?_ ⟨H.out, HC.out⟩ ?_
  rotate_left
  · (intro w hSw; (try dsimp only at hSw); have a0 := hSw.1.to.all.load (k := n18) (encP_n _) Tryz.prog; have a1 := hSw.2; clear hSw;try simp only [List.getElem_toArray, List.getElem_cons_zero, List.getElem_cons_succ]; go_simp; try (with_reducible rfl))
  try simp only [List.setIfInBounds_toArray, List.set_cons_zero, List.set_cons_succ]
  refine held_take 1 5 (v := ?_) rfl rfl (by kernel_rfl) (by kernel_rfl) (by kernel_rfl) (fun _ _ _ h => h) (by rfl) ?_ ⟨H.out, HC.out⟩ ?_
  rotate_left
  · (intro w hSw; (try dsimp only at hSw); have a0 := hSw.1.to.all.load (k := n18) (encP_n _) Tryz.prog; have a1 := hSw.2; clear hSw;try simp only [List.getElem_toArray, List.getElem_cons_zero, List.getElem_cons_succ]; go_simp; try (with_reducible rfl))
  try simp only [List.setIfInBounds_toArray, List.set_cons_zero, List.set_cons_succ]
  refine held_take 3 7 (v := ?_) rfl rfl (by kernel_rfl) (by kernel_rfl) (by kernel_rfl) (fun _ _ _ h => h) (by rfl) ?_ ⟨H.out, HC.out⟩ ?_
  rotate_left
  · (intro w hSw; (try dsimp only at hSw); have a0 := hSw.1.to.all.load (k := n18) (encP_n _) Tryz.prog; have a1 := hSw.2; clear hSw;try simp only [List.getElem_toArray, List.getElem_cons_zero, List.getElem_cons_succ]; go_simp; try (with_reducible rfl))
  try simp only [List.setIfInBounds_toArray, List.set_cons_zero, List.set_cons_succ]
  refine held_call 2 6 rfl rfl (by kernel_rfl) (by rfl) (fun K hK => ?_)
  try simp only [List.getElem_toArray, List.getElem_cons_zero, List.getElem_cons_succ]
  go_simp
  (go_at_call 31; (with_reducible refine (bucket_any _ _).mono ?_); rintro e w6 ⟨rfl, h1⟩; rw [HQ.out]; have H := Lib.hid (H.out.below h1); have HC := Lib.hid (later h1 HC.out); have hb := Lib.hid (hb.out.trans (h1.mono hb.out.size)); clear h1)
  try go_wp2_with fail
  try simp only [Act.put, List.setIfInBounds_toArray, List.set_cons_zero, List.set_cons_succ]
  refine hK.out _ _ _ ⟨H.out, HC.out⟩ ?_
  clear hK K
  refine held_take 4 8 (v := ?_) rfl rfl (by kernel_rfl) (by kernel_rfl) (by kernel_rfl) (fun _ _ _ h => h) (by rfl) ?_ ⟨H.out, HC.out⟩ ?_
  rotate_left
  · (intro w hSw; (try dsimp only at hSw); have a0 := hSw.1.to.all.load (k := n18) (encP_n _) Tryz.prog; have a1 := hSw.2; clear hSw;try simp only [List.getElem_toArray, List.getElem_cons_zero, List.getElem_cons_succ]; go_simp; try (with_reducible rfl))
  try simp only [List.setIfInBounds_toArray, List.set_cons_zero, List.set_cons_succ]
  refine held_take 5 3 (v := ?_) rfl rfl (by kernel_rfl) (by kernel_rfl) (by kernel_rfl) (fun _ _ _ h => h) (by rfl) ?_ ⟨H.out, HC.out⟩ ?_
  rotate_left
  · (intro w hSw; (try dsimp only at hSw); have a0 := hSw.1.to.all.load (k := n18) (encP_n _) Tryz.prog; have a1 := hSw.2; clear hSw;try simp only [List.getElem_toArray, List.getElem_cons_zero, List.getElem_cons_succ]; go_simp; try (with_reducible rfl))
  try simp only [List.setIfInBounds_toArray, List.set_cons_zero, List.set_cons_succ]
  refine wpAnyH_done (by kernel_rfl) ?_ _
  go_wp2
  go_ret
  rw [HIN.out]
  exact ⟨by by_cases e : (q : Int) = c <;> simp [e, bne], hb.out⟩
theorem deleteF_own (p : Rt → Bool) (fg : Nat) (lb : Array Value) (eg : ∀ args w, (callFunc fg args).run Tryz.prog w = .ok (.enter fg args) w) (w : World) (base : Nat) (v : Value) (L : List Rt) (hl : L.length ≤ 1000) (hown : w.ownsRow base 36 20 v L.length (flat L))
    (hp : ∀ (W : World) (x : Rt), Only (fun k => v.ownBlock = some k) w W → Calls Tryz.prog fg (#[.agg (encR x).toArray] ++ lb) W fun e w' => e = .returned (.bool (p x)) ∧ Below W.heap.size W w') :
    Calls Tryz.prog 43 #[v, .func (.func fg) #[] lb] w fun e w' => ∃ v', e = .returned v' ∧ w'.ownsRow base 36 20 v' (L.filter fun r => !p r).length (flat (L.filter fun r => !p r)) ∧ Only (fun k => v.ownBlock = some k) w w' := by
  rcases hown.2 with ⟨rfl, h0⟩ | ⟨g, cap, cur, rfl, _⟩
  · have hL : L = [] := List.length_eq_zero_iff.1 h0
    subst hL
    exact (deleteF_nil fg lb p eg w (fun W x hb => hp W x ((Only.refl _ w).of_below hb))).mono fun e w' ⟨he, hb⟩ => ⟨_, he, World.ownsRow_nil _ _ _ _, (Only.refl _ w).of_below hb⟩
  · have hO : (fun k => (Value.slice (some ⟨g, 0, none⟩) L.length cap).ownBlock = some k) = (fun k => k = g) := funext fun k => propext ⟨fun e => by simpa [Value.ownBlock] using e.symm, fun e => by subst e; rfl⟩
    rw [hO] at hp ⊢
    exact deleteF_any p fg lb eg w base g L.length cap L rfl hl hown hp
set_option maxRecDepth 100000 in
set_option maxHeartbeats 8000000 in
theorem digPart_any {base : Nat} {b : Nat} {v : Value} {T : List Rt} (c : Int) (w : World) (h : Tb base w b v T) : Calls Tryz.prog 16 #[.pointer (some ⟨b, 0, none⟩), .int .i64 c] w fun e w' => ∃ v', e = .returned v' ∧ w'.ownsRow w.heap.size 36 20 v' (T.filter (inK c)).length (flat (T.filter (inK c))) ∧ Below w.heap.size w w' := by
  have HT := Lib.hid h
  have HFF := Lib.hid (show (T.filter fun r => !(fun r => !inK c r) r) = T.filter (inK c) by congr 1; funext r; simp)
  clear h
  go_enter Tryz.func16, Tryz.ntmps16
  go_upto_region 1 with fail
  have HC := Lib.hid (show (w.alloc (.cells #[.int .i64 c] 3 (0, 0))).cell? ⟨w.heap.size, 0, none⟩ = some (.int .i64 c) from (blk_cell (heap_alloc_new w _) 0).trans rfl)
  have hb := Lib.hid (show Below w.heap.size w (w.alloc (.cells #[.int .i64 c] 3 (0, 0))) from (Below.refl _ _).alloc (Nat.le_refl _) _)
  have HBL := Lib.hid (show w.heap.size < (w.alloc (.cells #[.int .i64 c] 3 (0, 0))).heap.size by simp)
  generalize w.alloc _ = W at HC hb HBL ⊢
  obtain ⟨B, hB⟩ : ∃ B, w.heap.size = B := ⟨_, rfl⟩
  rw [hB] at HC HBL ⊢
  have HWB := Lib.hid hB
  clear hB
  have HAL := Lib.hid (all_any W (HT.out.below (by have := hb.out; rw [HWB.out] at this ⊢; exact this)))
  have hn3 := HT.out.tok.len
  go_wp2_with (first
    | (go_at_call 12; (with_reducible refine (HAL.out).mono ?_); rintro e w2 ⟨v2, rfl, h1, h2⟩; have HC2 := Lib.hid (later h2 HC.out); have hb2 := Lib.hid (hb.out.trans (h2.mono hb.out.size)); have HNB := Lib.hid (show ∀ k, v2.ownBlock = some k → B < k from fun k e => by rcases h1.2 with ⟨h0, _⟩ | ⟨g, cap, cur, h0, hg, _⟩ <;> rw [h0] at e <;> simp [Value.ownBlock] at e; have := HBL.out; omega); have HDF := Lib.hid (deleteF_own (fun r => !inK c r) 44 #[.pointer (some ⟨B, 0, none⟩)] (enters_of Tryz.func44 (by kernel_rfl) rfl) w2 W.heap.size v2 T (by omega) h1 (fun V x ho => partF_any x c B V (ho.cell HC2.out (fun e => by have := HNB.out B e; omega)))); clear h1 h2)
    | (go_at_call 43; (with_reducible refine (HDF.out).mono ?_); rintro e w3 ⟨v3, rfl, h3, h4⟩; rw [HFF.out] at h3; have HO3 := Lib.hid h3; have HY3 := Lib.hid h4; clear h3 h4))
  go_ret
  exact ⟨_, rfl, own_le HO3.out (by have := hb.out.size; omega), hb2.out.trans (HY3.out.below hb2.out.size (fun i h1 h2 => by have := HNB.out i h2; have := HWB.out; omega))⟩
end Dig
end Go.Proofs.YtdcbbjlbfghpbaaGreat

/-
  The document's Drop. Conditions: those that each theorem names.
-/
namespace Go.Proofs.YtdcbbjlbfghpbaaGreat
open Go Go.RowKit H2
set_option linter.unusedVariables false
set_option linter.unusedSimpArgs false
namespace Tab
theorem wp_appR {o : Oper} {a : Act} {wl W : World} {K : Act → World → Prop} {Q : Exit → Act → World → Prop} (s x : Operand) (ho : o.op = .call { callee := .builtin .append, args := #[s, x], argTypes := #[22, 22] }) (v : Value) (D M : List Rt) (A : Option Addr) (n c : Nat) (hn : M.length = n)
    (hs : a.eval s = v) (hx : a.eval x = .slice A n c) (h : Gr wl W v D) (hr : Rd W A M) (hA : A = none → M = []) (hl : D.length + M.length ≤ 100000)
    (hK : ∀ v' w', Gr wl w' v' (D ++ M) → (∃ A n c, v' = .slice A n c) → K (a.put o.dst v') w') : Oper.wp Tryz.prog o a W K Q := by
  subst hn
  obtain ⟨v', w', hrun, h1, h2⟩ := app_run W wl.heap.size v D M o.type h.own A c hr hA (by omega) h.bel.size
  have hg := gr_grown h h1 h2
  obtain ⟨A', c', hv⟩ := hg.rv
  exact Lib.wp_append_run W s x _ _ ho _ _ hs hx _ _ hrun (hK v' w' hg ⟨A', _, c', hv.eq⟩)
theorem Rd.take {w : World} {A : Option Addr} {L : List Rt} (h : Rd w A L) (k : Nat) : Rd w A (L.take k) := fun i hi => by
  have hi' : i < L.length := by rw [List.length_take] at hi; omega
  obtain ⟨b, o, e, hr⟩ := h i hi'
  exact ⟨b, o, e, by rw [List.getElem_take]; exact hr⟩
theorem eraseI : ∀ (L : List Rt) (i : Nat), L.eraseIdx i = L.take i ++ L.drop (i + 1)
  | [], i => by simp
  | x :: L, 0 => rfl
  | x :: L, i + 1 => by rw [List.eraseIdx_cons_succ, eraseI L i]; rfl
end Tab
end Go.Proofs.YtdcbbjlbfghpbaaGreat

/-
  table.New. Conditions: those that each theorem names.
-/
namespace Go.Proofs.YtdcbbjlbfghpbaaGreat
open Go Go.RowKit H2
set_option linter.unusedVariables false
set_option linter.unusedSimpArgs false
namespace Tab
/-- what New answers: no table and a code, or a table -/
def Made (w w' : World) (L : List Rt) (e : Ending) : Prop :=
  (newC L ≠ 0 ∧ e = .returned (.tuple #[.pointer none, .int .i64 (newC L)])) ∨
  (newC L = 0 ∧ ∃ b v, e = .returned (.tuple #[.pointer (some ⟨b, 0, none⟩), .int .i64 0]) ∧ Tb w.heap.size w' b v (fold L))
set_option maxRecDepth 100000 in
set_option maxHeartbeats 8000000 in
theorem new_any (A : Option Addr) (cap : Nat) (L : List Rt) (hL : L.length ≤ 1000000) (w : World) (hv : Rv w (.slice A L.length cap) A cap L) :
    Calls Tryz.prog 5 #[.slice A L.length cap] w fun e w' => Made w w' L e ∧ Below w.heap.size w w' := by
  have HV := Lib.hid hv
  have HCO := Lib.hid (contains_any (fun r => !right r) 25 #[] (enters_of Tryz.func25 (by kernel_rfl) rfl) A cap L hL w hv.rd (fun W x _ => new1_any x W))
  clear hv
  obtain ⟨n, hn⟩ : ∃ n, L.length = n := ⟨_, rfl⟩
  have HN := Lib.hid hn
  rw [hn] at HCO hL ⊢
  clear hn
  by_cases ha : L.any (fun r => !right r) = true
  · have HA := Lib.hid ha
    have HC := Lib.hid (show newC L = 1 by unfold newC; rw [if_pos ha])
    clear ha
    go_enter Tryz.func5, Tryz.ntmps5
    go_wp2_with (go_at_call 24; (with_reducible refine (HCO.out).mono ?_); rintro e w2 ⟨rfl, hb2⟩; rw [HA.out]; have hb := Lib.hid hb2; clear hb2)
    go_ret2
    exact ⟨.inl ⟨by rw [HC.out]; decide, by rw [HC.out]; rfl⟩, hb.out⟩
  · have ha' : L.any (fun r => !right r) = false := by simpa using ha
    have HA := Lib.hid ha'
    have HOK := Lib.hid (show ∀ r ∈ L, right r = true by simpa using ha')
    have HC := Lib.hid (show newC L = if dup L = true then 9 else if 300 < L.length then 7 else 0 by unfold newC; rw [if_neg ha])
    clear ha ha'
    have HSO := Lib.hid (fun (W : World) (hb : Below w.heap.size w W) => sortedFunc_any W.heap.size (.slice A n cap) L (by rw [HN.out]; exact hL) (W.alloc (.cells #[.slice A n cap] 22)) (by simp) (blk_cell (heap_alloc_new W _) 0) (by
      have h := (HV.out.below (hb.alloc hb.size (.cells #[.slice A n cap] 22))).rds
      rw [HN.out] at h
      exact h))
    go_enter Tryz.func5, Tryz.ntmps5
    go_upto_region 4 with (first
      | (go_at_call 24; (with_reducible refine (HCO.out).mono ?_); rintro e w2 ⟨rfl, hb2⟩; rw [HA.out]; have hb := Lib.hid hb2; clear hb2)
      | (go_at_call 28; (with_reducible refine (values_any _ _ _ _).mono ?_); rintro e w3 ⟨rfl, hw3⟩)
      | (go_at_call 27; (with_reducible refine (hw3 ▸ HSO.out _ hb.out).mono ?_); rintro e w4 ⟨v, L', rfl, hs, ho, hb4⟩; have HS := Lib.hid hs; have HO := Lib.hid ho; have HB := Lib.hid hb4; clear hs ho hb4))
    have HLEN := Lib.hid (show L'.length = n by rw [HS.out.perm.length_eq, HN.out])
    have HOL := Lib.hid (show w4.ownsRow w.heap.size 36 20 v L'.length (flat L') by
      have := HO.out
      rw [HN.out, ← HLEN.out] at this
      exact own_le this (by subst hw3; exact Nat.le_trans hb.out.size (by simp)))
    have HBB := Lib.hid (show Below w.heap.size w w4 by subst hw3; exact (hb.out.alloc hb.out.size _).trans (HB.out.mono (Nat.le_trans hb.out.size (by simp))))
    clear hw3 hb HO HB HSO HCO
    obtain ⟨A', cap', hv', _⟩ := own_rv HOL.out
    obtain rfl := hv'.eq
    have HR' := Lib.hid hv'.rd
    rw [HLEN.out]
    clear hv'
    go_wp2
    go_loopw [4] (fun s4 wr => ∃ i : Nat, (i ≤ n ∨ i = 0) ∧ s4 = .int .i64 (i + 1 : Nat) ∧ (∀ j (h : j + 1 < L'.length), j < i → L'[j].to ≠ L'[j + 1].to) ∧ ∃ q, wr = w4.drewN q) (fun s4 _ => n - (intOf s4).toNat)
    case atStart => exact ⟨0, .inr rfl, rfl, fun j _ h => absurd h (by omega), 0, rfl⟩
    case round =>
      obtain ⟨k, hk, rfl, hne, q, hq⟩ := hrel
      have HNE := Lib.hid hne
      have HQ := Lib.hid hq
      clear hne hq
      by_cases hlt : k + 1 < n
      · have hlt' : (k : Int) + 1 < (n : Int) := by omega
        have hlt2 : (k : Int) < (n : Int) := by omega
        have k0 : (0 : Int) ≤ (k : Int) := by omega
        have k1 : (0 : Int) ≤ (k : Int) + 1 := by omega
        have kt : ((k : Int) + 1).toNat = k + 1 := by omega
        have kw : IntKind.i64.wrap (k : Int) = (k : Int) := IntWalk.i64_in _ (by omega)
        have h1 : k < L'.length := by rw [HLEN.out]; omega
        have h2 : k + 1 < L'.length := by rw [HLEN.out]; omega
        obtain ⟨b, o, rfl, hra⟩ := HR'.out k h1
        obtain ⟨b', o', e', hrb⟩ := HR'.out (k + 1) h2
        cases e'
        have hl1 : ∀ m, Sem.run Tryz.prog (loadCellsFrom ⟨b, o + k * n20, none⟩ 0 n18 #[]) (wr.drewN m) = .ok (encP L'[k].to).toArray (wr.drewN m) := fun m => by
          rw [HQ.out]
          exact ((hra.drewN q).drewN m).to.all.load (k := n18) (encP_n _) Tryz.prog
        have hl2 : ∀ m, Sem.run Tryz.prog (loadCellsFrom ⟨b, o + (k + 1) * n20, none⟩ 0 n18 #[]) (wr.drewN m) = .ok (encP L'[k + 1].to).toArray (wr.drewN m) := fun m => by
          rw [HQ.out]
          exact ((hrb.drewN q).drewN m).to.all.load (k := n18) (encP_n _) Tryz.prog
        clear hra hrb
        by_cases he : L'[k].to = L'[k + 1].to
        · have HC' := Lib.hid (show newC L = 9 by rw [HC.out, if_pos (is_dup HS.out h2 he)])
          rw [← he] at hl2
          clear he
          generalize L'[k].to = x at hl1 hl2
          go_wp2
          go_quiet (fail)
          go_wp2
          go_ret2
          exact ⟨.inl ⟨by rw [HC'.out]; decide, by rw [HC'.out]; rfl⟩, by rw [HQ.out]; exact bdN (bdN HBB.out _) _⟩
        · have hd : decide (L'[k].to = L'[k + 1].to) = false := decide_eq_false he
          have HE := Lib.hid he
          clear he
          obtain ⟨x, hx⟩ : ∃ x, L'[k].to = x := ⟨_, rfl⟩
          obtain ⟨y, hy⟩ : ∃ y, L'[k + 1].to = y := ⟨_, rfl⟩
          rw [hx] at hl1 hd
          rw [hy] at hl2 hd
          clear hx hy
          go_wp2
          go_quiet (fail)
          go_wp2
          go_roundw
          case rel => exact ⟨k + 1, .inl (by omega), by go_num, fun j hj h => by
            rcases Nat.lt_succ_iff_lt_or_eq.1 h with h | rfl
            · exact HNE.out j hj h
            · exact HE.out, _, by rw [HQ.out]; exact drewN2 w4 _ _⟩
          case measure => simp [intOf]; omega
      · have HD := Lib.hid (no_dup HS.out (fun i hi => HNE.out i hi (by have := HLEN.out; omega)))
        have hlt' : ¬ (k : Int) + 1 < (n : Int) := by omega
        clear hk hlt
        by_cases h3 : 300 < n
        · have h3' : (300 : Int) < (n : Int) := by omega
          have HC' := Lib.hid (show newC L = 7 by rw [HC.out, HD.out, HN.out, if_neg (by simp), if_pos h3])
          go_wp2
          go_ret2
          exact ⟨.inl ⟨by rw [HC'.out]; decide, by rw [HC'.out]; rfl⟩, by rw [HQ.out]; exact bdN HBB.out _⟩
        · have h3' : ¬ (300 : Int) < (n : Int) := by omega
          have HC' := Lib.hid (show newC L = 0 by rw [HC.out, HD.out, HN.out, if_neg (by simp), if_neg h3])
          have HF := Lib.hid (sort_fold HS.out HD.out)
          go_wp2
          go_ret2
          have hfb : Below w.heap.size w wr := by rw [HQ.out]; exact bdN HBB.out _
          have ho : wr.ownsRow w.heap.size 36 20 (.slice A' n cap') (fold L).length (flat (fold L)) := by
            have := own_below HOL.out (bdN (Below.refl w4.heap.size w4) q)
            rw [HLEN.out, ← HQ.out] at this
            rw [← HF.out, HLEN.out]
            exact this
          exact ⟨.inr ⟨HC'.out, _, _, rfl, tb_new ho ⟨(fold_of HD.out).1, fun r hr => HOK.out r ((fold_of HD.out).2.1 r |>.1 hr), by rw [(fold_of HD.out).2.2, HN.out]; omega⟩ hfb.size⟩, hfb.alloc hfb.size _⟩
end Tab
end Go.Proofs.YtdcbbjlbfghpbaaGreat

/-
  Digest: Replace's tests. Conditions: those that each theorem names.
-/
namespace Go.Proofs.YtdcbbjlbfghpbaaGreat
open Go Go.RowKit H2
set_option linter.unusedVariables false
set_option linter.unusedSimpArgs false
namespace Dig
open Tab Byt
set_option maxRecDepth 100000 in
set_option maxHeartbeats 4000000 in
theorem rep1_any (x : Rt) (c : Int) (B : Nat) (w : World) (hc : w.cell? ⟨B, 0, none⟩ = some (.int .i64 c)) : Calls Tryz.prog 41 (#[.agg (encR x).toArray] ++ #[.pointer (some ⟨B, 0, none⟩)]) w fun e w' => e = .returned (.bool (inK c x)) ∧ Below w.heap.size w w' := by
  show Calls Tryz.prog 41 #[.agg (encR x).toArray, .pointer (some ⟨B, 0, none⟩)] w _
  have HC := Lib.hid hc
  obtain ⟨q, hq⟩ : ∃ q, bk x.to = q := ⟨_, rfl⟩
  have HQ := Lib.hid hq
  have HIN := Lib.hid (show inK c x = decide ((q : Int) = c) by unfold inK; rw [hq])
  clear hc hq
  go_enter Tryz.func41, Tryz.ntmps41
  go_upto_region 1 with fail
  have H := Lib.hid (rAt_new w x 36 (0, 0)).drew
  have hb := Lib.hid (show Below w.heap.size w (w.alloc (.cells (encR x).toArray 36 (0, 0))).drew from ((Below.refl _ _).alloc (Nat.le_refl _) _).drew)
  have HC := Lib.hid (later hb.out HC.out)
  generalize w.alloc _ = W at H hb HC ⊢
  generalize w.heap.size = B5 at H ⊢
  refine wp_region_held_drew (S := (fun w' => RAt w' B5 0 x ∧ w'.cell? ⟨B, 0, none⟩ = some (.int .i64 c))) (by kernel_rfl) ⟨H.out, HC.out⟩ (fun _ => ?_)
  refine held_take 0 4 (v := ?_) rfl rfl (by kernel_rfl) (by kernel_rfl) (by kernel_rfl) (fun _ _ _ h => h) (by rfl) ?_ ⟨H.out, HC.out⟩ ?_
  rotate_left
  · (intro w hSw; (try dsimp only at hSw); have a0 := hSw.1.to.all.load (k := n18) (encP_n _) Tryz.prog; have a1 := hSw.2; clear hSw;try simp only [List.getElem_toArray, List.getElem_cons_zero, List.getElem_cons_succ]; go_simp; try (with_reducible rfl))
  try simp only [List.setIfInBounds_toArray, List.set_cons_zero, List.set_cons_succ]
  refine held_take 1 5 (v := ?_) rfl rfl (by kernel_rfl) (by kernel_rfl) (by kernel_rfl) (fun _ _ _ h => h) (by rfl) ?_ ⟨H.out, HC.out⟩ ?_
  rotate_left
  · (intro w hSw; (try dsimp only at hSw); have a0 := hSw.1.to.all.load (k := n18) (encP_n _) Tryz.prog; have a1 := hSw.2; clear hSw;try simp only [List.getElem_toArray, List.getElem_cons_zero, List.getElem_cons_succ]; go_simp; try (with_reducible rfl))
  try simp only [List.setIfInBounds_toArray, List.set_cons_zero, List.set_cons_succ]
  refine held_take 3 7 (v := ?_) rfl rfl (by kernel_rfl) (by kernel_rfl) (by kernel_rfl) (fun _ _ _ h => h) (by rfl) ?_ ⟨H.out, HC.out⟩ ?_
  rotate_left
  · (intro w hSw; (try dsimp only at hSw); have a0 := hSw.1.to.all.load (k := n18) (encP_n _) Tryz.prog; have a1 := hSw.2; clear hSw;try simp only [List.getElem_toArray, List.getElem_cons_zero, List.getElem_cons_succ]; go_simp; try (with_reducible rfl))
  try simp only [List.setIfInBounds_toArray, List.set_cons_zero, List.set_cons_succ]
  refine held_call 2 6 rfl rfl (by kernel_rfl) (by rfl) (fun K hK => ?_)
  try simp only [List.getElem_toArray, List.getElem_cons_zero, List.getElem_cons_succ]
  go_simp
  (go_at_call 31; (with_reducible refine (bucket_any _ _).mono ?_); rintro e w6 ⟨rfl, h1⟩; rw [HQ.out]; have H := Lib.hid (H.out.below h1); have HC := Lib.hid (later h1 HC.out); have hb := Lib.hid (hb.out.trans (h1.mono hb.out.size)); clear h1)
  try go_wp2_with fail
  try simp only [Act.put, List.setIfInBounds_toArray, List.set_cons_zero, List.set_cons_succ]
  refine hK.out _ _ _ ⟨H.out, HC.out⟩ ?_
  clear hK K
  refine held_take 4 8 (v := ?_) rfl rfl (by kernel_rfl) (by kernel_rfl) (by kernel_rfl) (fun _ _ _ h => h) (by rfl) ?_ ⟨H.out, HC.out⟩ ?_
  rotate_left
  · (intro w hSw; (try dsimp only at hSw); have a0 := hSw.1.to.all.load (k := n18) (encP_n _) Tryz.prog; have a1 := hSw.2; clear hSw;try simp only [List.getElem_toArray, List.getElem_cons_zero, List.getElem_cons_succ]; go_simp; try (with_reducible rfl))
  try simp only [List.setIfInBounds_toArray, List.set_cons_zero, List.set_cons_succ]
  refine held_take 5 3 (v := ?_) rfl rfl (by kernel_rfl) (by kernel_rfl) (by kernel_rfl) (fun _ _ _ h => h) (by rfl) ?_ ⟨H.out, HC.out⟩ ?_
  rotate_left
  · (intro w hSw; (try dsimp only at hSw); have a0 := hSw.1.to.all.load (k := n18) (encP_n _) Tryz.prog; have a1 := hSw.2; clear hSw;try simp only [List.getElem_toArray, List.getElem_cons_zero, List.getElem_cons_succ]; go_simp; try (with_reducible rfl))
  try simp only [List.setIfInBounds_toArray, List.set_cons_zero, List.set_cons_succ]
  refine wpAnyH_done (by kernel_rfl) ?_ _
  go_wp2
  go_ret
  rw [HIN.out]
  exact ⟨by by_cases e : (q : Int) = c <;> simp [e], hb.out⟩
set_option maxRecDepth 100000 in
set_option maxHeartbeats 4000000 in
theorem rep2_any (x : Rt) (c : Int) (B B8 : Nat) (w : World) (hc : w.cell? ⟨B, 0, none⟩ = some (.int .i64 c)) (hf : w.cell? ⟨B8, 0, none⟩ = some (.func (.func 41) #[] #[.pointer (some ⟨B, 0, none⟩)])) :
    Calls Tryz.prog 42 (#[.agg (encR x).toArray] ++ #[.pointer (some ⟨B8, 0, none⟩)]) w fun e w' => e = .returned (.bool (!inK c x)) ∧ Below w.heap.size w w' := by
  show Calls Tryz.prog 42 #[.agg (encR x).toArray, .pointer (some ⟨B8, 0, none⟩)] w _
  have HC := Lib.hid hc
  have HF := Lib.hid hf
  have eg : ∀ args w, (callFunc 41 args).run Tryz.prog w = .ok (.enter 41 args) w := enters_of Tryz.func41 (by kernel_rfl) rfl
  clear hc hf
  go_enter Tryz.func42, Tryz.ntmps42
  go_upto_region 1 with fail
  have H := Lib.hid (rAt_new w x 36 (0, 0))
  have hb := Lib.hid (show Below w.heap.size w (w.alloc (.cells (encR x).toArray 36 (0, 0))) from (Below.refl _ _).alloc (Nat.le_refl _) _)
  have z1 := later hb.out HF.out
  have HC := Lib.hid (later hb.out HC.out)
  generalize w.alloc _ = W at H hb HC z1 ⊢
  generalize w.heap.size = B5 at H ⊢
  have c0 := H.out.all.load (k := n20) (encR_n _) Tryz.prog
  have hcall := rep1_any x c B W HC.out
  obtain ⟨y, hy⟩ : ∃ y, inK c x = y := ⟨_, rfl⟩
  rw [hy] at hcall
  have HY := Lib.hid hy
  clear hy
  go_wp2_with (go_at_fn 41; refine hcall.mono ?_; rintro e w6 ⟨rfl, hb'⟩; have hb := Lib.hid (hb.out.trans (hb'.mono hb.out.size)); clear hb' c0 z1)
  go_ret
  rw [HY.out]
  exact ⟨rfl, hb.out⟩
/-- what Replace answers -/
def Repd (w w' : World) (T : List Rt) (c : Int) (M : List Rt) (e : Ending) : Prop :=
  (¬ (0 ≤ c ∧ c < 17) ∧ e = .returned (.tuple #[.pointer none, .int .i64 2])) ∨ ((0 ≤ c ∧ c < 17) ∧ M.any (fun r => !inK c r) = true ∧ e = .returned (.tuple #[.pointer none, .int .i64 1])) ∨
  ((0 ≤ c ∧ c < 17) ∧ M.any (fun r => !inK c r) = false ∧ Made w w' ((T.filter fun r => !inK c r) ++ M) e)
theorem made_lower {w W w' : World} {L : List Rt} {e : Ending} (h : Made W w' L e) (hb : w.heap.size ≤ W.heap.size) : Made w w' L e := by
  rcases h with h | ⟨h1, b, v, h2, h3⟩
  · exact .inl h
  · exact .inr ⟨h1, b, v, h2, ⟨h3.blk, own_le h3.own hb, Nat.le_trans hb h3.lo, h3.tok⟩⟩
set_option maxRecDepth 100000 in
set_option maxHeartbeats 16000000 in
theorem repl_any {base : Nat} {b : Nat} {v : Value} {T : List Rt} (c : Int) (A : Option Addr) (cap : Nat) (M : List Rt) (hM : M.length ≤ 1000) (w : World) (h : Tb base w b v T) (hr : Rd w A M) (hA : A = none → M = []) :
    Calls Tryz.prog 15 #[.pointer (some ⟨b, 0, none⟩), .int .i64 c, .slice A M.length cap] w fun e w' => Repd w w' T c M e ∧ Below w.heap.size w w' := by
  have HT := Lib.hid h
  have HR := Lib.hid hr
  have HA := Lib.hid hA
  clear h hr hA
  have hW := heap_alloc_new (w.alloc (.cells #[.int .i64 c] 3 (0, 0))) (.cells #[.nilFunc] 65 (0, 0))
  rw [show (w.alloc (.cells #[.int .i64 c] 3 (0, 0))).heap.size = w.heap.size + 1 by simp] at hW
  have e1 := (blk_cell hW 0).trans (show (#[Value.nilFunc] : Array Value)[0]? = some .nilFunc from rfl)
  have e2 := blk_free hW 0
  have hst : (store ⟨w.heap.size + 1, 0, none⟩ (.func (.func 41) #[] #[.pointer (some ⟨w.heap.size, 0, none⟩)])).run Tryz.prog ((w.alloc (.cells #[.int .i64 c] 3 (0, 0))).alloc (.cells #[.nilFunc] 65 (0, 0))) = .ok () (((w.alloc (.cells #[.int .i64 c] 3 (0, 0))).alloc (.cells #[.nilFunc] 65 (0, 0))).setCell ⟨w.heap.size + 1, 0, none⟩ (.func (.func 41) #[] #[.pointer (some ⟨w.heap.size, 0, none⟩)])) := by
    rw [run_store _ _ _ _ _ rfl, e1, e2]
    rfl
  obtain ⟨fv, hfv⟩ : ∃ f : Nat → Value, f = fun B => Value.func (.func 41) #[] #[.pointer (some ⟨B, 0, none⟩)] := ⟨_, rfl⟩
  have hF0 := heap_alloc_new (w.alloc (.cells #[.int .i64 c] 3 (0, 0))) (.cells #[.func (.func 41) #[] #[.pointer (some ⟨w.heap.size, 0, none⟩)]] 65 (0, 0))
  rw [show (w.alloc (.cells #[.int .i64 c] 3 (0, 0))).heap.size = w.heap.size + 1 by simp] at hF0
  have HF := Lib.hid ((blk_cell hF0 0).trans (show (#[Value.func (.func 41) #[] #[.pointer (some ⟨w.heap.size, 0, none⟩)]] : Array Value)[0]? = some (.func (.func 41) #[] #[.pointer (some ⟨w.heap.size, 0, none⟩)]) from rfl))
  have hbl := Lib.hid (show Below w.heap.size w ((w.alloc (.cells #[.int .i64 c] 3 (0, 0))).alloc (.cells #[.func (.func 41) #[] #[.pointer (some ⟨w.heap.size, 0, none⟩)]] 65 (0, 0))) from (((Below.refl _ _).alloc (Nat.le_refl _) _).alloc (by simp) _))
  have HC := Lib.hid (later ((Below.refl (w.alloc (.cells #[.int .i64 c] 3 (0, 0))).heap.size _).alloc (Nat.le_refl _) (.cells #[.func (.func 41) #[] #[.pointer (some ⟨w.heap.size, 0, none⟩)]] 65 (0, 0))) ((blk_cell (heap_alloc_new w (.cells #[.int .i64 c] 3 (0, 0))) 0).trans (show (#[Value.int .i64 c] : Array Value)[0]? = some (.int .i64 c) from rfl)))
  have HSZ := Lib.hid (show w.heap.size + 1 < ((w.alloc (.cells #[.int .i64 c] 3 (0, 0))).alloc (.cells #[.func (.func 41) #[] #[.pointer (some ⟨w.heap.size, 0, none⟩)]] 65 (0, 0))).heap.size by simp)
  clear hW e1 e2 hF0 hfv fv
  have hsw : w.heap.size ≤ w.heap.size := Nat.le_refl _
  by_cases h0 : c < 0
  · have h0d : decide (c < 0) = true := decide_eq_true h0
    have HE := Lib.hid (show ¬ (0 ≤ c ∧ c < 17) by omega)
    go_enter Tryz.func15, Tryz.ntmps15
    go_upto_region 2 with fail
    clear hst
    generalize (w.alloc _).alloc _ = W at HF HC hbl HSZ ⊢
    obtain ⟨B, hB⟩ : ∃ B, w.heap.size = B := ⟨_, rfl⟩
    have HBB := Lib.hid (show w.heap.size ≤ B by omega)
    rw [hB] at HF HC HSZ ⊢
    clear hB
    have z0 := HC.out
    go_wp2
    go_ret2
    exact ⟨.inl ⟨HE.out, rfl⟩, hbl.out⟩
  · have h0d : decide (c < 0) = false := decide_eq_false h0
    by_cases h1 : 17 ≤ c
    · have h1d : decide (17 ≤ c) = true := decide_eq_true h1
      have HE := Lib.hid (show ¬ (0 ≤ c ∧ c < 17) by omega)
      go_enter Tryz.func15, Tryz.ntmps15
      go_upto_region 2 with fail
      clear hst
      generalize (w.alloc _).alloc _ = W at HF HC hbl HSZ ⊢
      obtain ⟨B, hB⟩ : ∃ B, w.heap.size = B := ⟨_, rfl⟩
      have HBB := Lib.hid (show w.heap.size ≤ B by omega)
      rw [hB] at HF HC HSZ ⊢
      clear hB
      have z0 := HC.out
      go_wp2
      go_ret2
      exact ⟨.inl ⟨HE.out, rfl⟩, hbl.out⟩
    · have h1d : decide (17 ≤ c) = false := decide_eq_false h1
      have HE := Lib.hid (show 0 ≤ c ∧ c < 17 by omega)
      obtain ⟨y, hy⟩ : ∃ y, M.any (fun r => !inK c r) = y := ⟨_, rfl⟩
      have HY := Lib.hid hy
      clear hy
      go_enter Tryz.func15, Tryz.ntmps15
      go_upto_region 2 with fail
      clear hst
      generalize (w.alloc _).alloc _ = W at HF HC hbl HSZ ⊢
      obtain ⟨B, hB⟩ : ∃ B, w.heap.size = B := ⟨_, rfl⟩
      have HBB := Lib.hid (show w.heap.size ≤ B by omega)
      rw [hB] at HF HC HSZ ⊢
      clear hB
      have z0 := HC.out
      have HCO := Lib.hid (contains_any (fun r => !inK c r) 42 #[.pointer (some ⟨B + 1, 0, none⟩)] (enters_of Tryz.func42 (by kernel_rfl) rfl) A cap M (by omega) W (HR.out.below hbl.out) (fun V x hb => rep2_any x c B (B + 1) V (later hb HC.out) (later hb HF.out)))
      rw [HY.out] at HCO
      cases y with
      | true =>
        go_wp2_with (go_at_call 24; (with_reducible refine (HCO.out).mono ?_); rintro e w2 ⟨rfl, h1⟩; have hbl := Lib.hid (hbl.out.trans (h1.mono hbl.out.size)); clear h1 z0)
        go_ret2
        exact ⟨.inr (.inl ⟨HE.out, HY.out, rfl⟩), hbl.out⟩
      | false =>
        go_upto_region 8 with (go_at_call 24; (with_reducible refine (HCO.out).mono ?_); rintro e w2 ⟨rfl, h1⟩; have hbl := Lib.hid (hbl.out.trans (h1.mono hbl.out.size)); have HC := Lib.hid (later h1 HC.out); have HF := Lib.hid (later h1 HF.out); have HSZ := Lib.hid (Nat.lt_of_lt_of_le HSZ.out h1.size); clear h1 z0)
        have HB8 := Lib.hid (show Below w.heap.size w w2.drew from hbl.out.drew)
        have HF := Lib.hid (later (Below.refl w2.heap.size w2).drew HF.out)
        have HC := Lib.hid (later (Below.refl w2.heap.size w2).drew HC.out)
        have HSZ := Lib.hid (show B + 1 < w2.drew.heap.size from HSZ.out)
        have HT8 := Lib.hid (HT.out.below HB8.out)
        have hn3 := HT.out.tok.len
        obtain ⟨D, hD⟩ : ∃ D, (T.filter fun r => !inK c r) = D := ⟨_, rfl⟩
        have HD := Lib.hid hD
        have HDL := Lib.hid (show D.length ≤ 300 by rw [← hD]; exact Nat.le_trans (List.length_filter_le _ _) hn3)
        clear hD hbl
        have HF0 := HF
        by_cases hc0 : newC (D ++ M) = 0
        · have HC0 := Lib.hid hc0
          clear hc0
          refine wp_region_held_drew (S := (fun w' => w'.cell? ⟨B + 1, 0, none⟩ = some (.func (.func 41) #[] #[.pointer (some ⟨B, 0, none⟩)]))) (by kernel_rfl) HF.out (fun _ => ?_)
          refine held_take 0 24 (v := ?_) rfl rfl (by kernel_rfl) (by kernel_rfl) (by kernel_rfl) (fun _ _ _ h => h) (by rfl) ?_ HF.out ?_
          rotate_left
          · (intro w hSw; (try dsimp only at hSw); have a0 := hSw; clear hSw;try simp only [List.getElem_toArray, List.getElem_cons_zero, List.getElem_cons_succ]; go_simp; try (with_reducible rfl))
          try simp only [List.setIfInBounds_toArray, List.set_cons_zero, List.set_cons_succ]
          refine held_take 2 26 (v := ?_) rfl rfl (by kernel_rfl) (by kernel_rfl) (by kernel_rfl) (fun _ _ _ h => h) (by rfl) ?_ HF.out ?_
          rotate_left
          · (intro w hSw; (try dsimp only at hSw); have a0 := hSw; clear hSw;try simp only [List.getElem_toArray, List.getElem_cons_zero, List.getElem_cons_succ]; go_simp; try (with_reducible rfl))
          try simp only [List.setIfInBounds_toArray, List.set_cons_zero, List.set_cons_succ]
          refine held_take 4 28 (v := ?_) rfl rfl (by kernel_rfl) (by kernel_rfl) (by kernel_rfl) (fun _ _ _ h => h) (by rfl) ?_ HF.out ?_
          rotate_left
          · (intro w hSw; (try dsimp only at hSw); have a0 := hSw; clear hSw;try simp only [List.getElem_toArray, List.getElem_cons_zero, List.getElem_cons_succ]; go_simp; try (with_reducible rfl))
          try simp only [List.setIfInBounds_toArray, List.set_cons_zero, List.set_cons_succ]
          refine held_call 1 25 rfl rfl (by kernel_rfl) (by rfl) (fun K hK => ?_)
          try simp only [List.getElem_toArray, List.getElem_cons_zero, List.getElem_cons_succ]
          go_simp
          (go_at_call 12; (with_reducible refine (all_any _ HT8.out).mono ?_); rintro e w3 ⟨v3, rfl, h1, h2⟩; have HF := Lib.hid (later h2 HF.out); have HC := Lib.hid (later h2 HC.out); have HB3 := Lib.hid h2; have HNB := Lib.hid (show ∀ k, v3.ownBlock = some k → w2.drew.heap.size ≤ k from fun k e => by rcases h1.2 with ⟨h0, _⟩ | ⟨g, cap, cur, h0, hg, _⟩ <;> rw [h0] at e <;> simp [Value.ownBlock] at e; subst e; exact hg); have HDF := Lib.hid (deleteF_own (fun r => inK c r) 41 #[.pointer (some ⟨B, 0, none⟩)] (enters_of Tryz.func41 (by kernel_rfl) rfl) w3 w2.drew.heap.size v3 T (by omega) h1 (fun V x ho => rep1_any x c B V (ho.cell HC.out (fun e => by have := HNB.out B e; have := HSZ.out; omega)))); rw [HD.out] at HDF; clear h1 h2)
          try go_wp2_with fail
          try simp only [Act.put, List.setIfInBounds_toArray, List.set_cons_zero, List.set_cons_succ]
          refine hK.out _ _ _ HF.out ?_
          clear hK K
          refine held_call 3 27 rfl rfl (by kernel_rfl) (by rfl) (fun K hK => ?_)
          try simp only [List.getElem_toArray, List.getElem_cons_zero, List.getElem_cons_succ]
          go_simp
          (go_at_call 43; (with_reducible refine (HDF.out).mono ?_); rintro e w4 ⟨v4, rfl, h3, h4⟩; have HG := Lib.hid (show Gr w2.drew w4 v4 D from ⟨h3, HB3.out.trans (h4.below HB3.out.size (fun i h5 h6 => by have := HNB.out i h6; omega))⟩); have HF := Lib.hid (h4.cell HF.out (fun e => by have := HNB.out (B + 1) e; have := HSZ.out; omega)); clear h3 h4)
          try go_wp2_with fail
          try simp only [Act.put, List.setIfInBounds_toArray, List.set_cons_zero, List.set_cons_succ]
          refine hK.out _ _ _ HF.out ?_
          clear hK K
          refine held_call 5 29 rfl rfl (by kernel_rfl) (by rfl) (fun K hK => ?_)
          try simp only [List.getElem_toArray, List.getElem_cons_zero, List.getElem_cons_succ]
          (refine wp_appR (.tmp 27) (.tmp 28) rfl _ D M A M.length cap rfl rfl rfl HG.out (HR.out.below (HB8.out.trans (HG.out.bel.mono HB8.out.size))) HA.out (by have := HDL.out; omega) ?_; rintro v7 w7 h7 _; obtain ⟨A7, c7, hv7⟩ := h7.rv; obtain rfl := hv7.eq; have HF := Lib.hid (later (show Below w2.drew.heap.size w2.drew w7 from h7.bel) HF0.out); have HB7 := Lib.hid (HB8.out.trans (h7.bel.mono HB8.out.size)); have HNW := Lib.hid (new_any A7 c7 (D ++ M) (by have := HDL.out; rw [List.length_append]; omega) w7 hv7); rw [List.length_append] at HNW; clear h7 hv7)
          try simp only [Act.put, List.setIfInBounds_toArray, List.set_cons_zero, List.set_cons_succ]
          refine hK.out _ _ _ HF.out ?_
          clear hK K
          refine held_call 6 30 rfl rfl (by kernel_rfl) (by rfl) (fun K hK => ?_)
          try simp only [List.getElem_toArray, List.getElem_cons_zero, List.getElem_cons_succ]
          go_simp
          (go_at_call 5; (with_reducible refine (HNW.out).mono ?_); rintro e w8 ⟨h8, h9⟩; (obtain ⟨b9, v9, he9, ht9⟩ : ∃ b v, e = .returned (.tuple #[.pointer (some ⟨b, 0, none⟩), .int .i64 0]) ∧ Tb w7.heap.size w8 b v (fold (D ++ M)) := by (rcases h8 with ⟨h, _⟩ | ⟨_, h⟩; exact absurd HC0.out h; exact h)); subst he9; have HT9 := Lib.hid ht9; clear ht9; have HF := Lib.hid (later h9 HF.out); have HB9 := Lib.hid (HB7.out.trans (h9.mono HB7.out.size)); clear h8 h9)
          try go_wp2_with fail
          try simp only [Act.put, List.setIfInBounds_toArray, List.set_cons_zero, List.set_cons_succ]
          refine hK.out _ _ _ HF.out ?_
          clear hK K
          refine held_take 7 31 (v := ?_) rfl rfl (by kernel_rfl) (by kernel_rfl) (by kernel_rfl) (fun _ _ _ h => h) (by rfl) ?_ HF.out ?_
          rotate_left
          · (intro w hSw; (try dsimp only at hSw); have a0 := hSw; clear hSw;try simp only [List.getElem_toArray, List.getElem_cons_zero, List.getElem_cons_succ]; go_simp; try (with_reducible rfl))
          try simp only [List.setIfInBounds_toArray, List.set_cons_zero, List.set_cons_succ]
          refine held_take 8 32 (v := ?_) rfl rfl (by kernel_rfl) (by kernel_rfl) (by kernel_rfl) (fun _ _ _ h => h) (by rfl) ?_ HF.out ?_
          rotate_left
          · (intro w hSw; (try dsimp only at hSw); have a0 := hSw; clear hSw;try simp only [List.getElem_toArray, List.getElem_cons_zero, List.getElem_cons_succ]; go_simp; try (with_reducible rfl))
          try simp only [List.setIfInBounds_toArray, List.set_cons_zero, List.set_cons_succ]
          refine held_take 9 6 (v := ?_) rfl rfl (by kernel_rfl) (by kernel_rfl) (by kernel_rfl) (fun _ _ _ h => h) (by rfl) ?_ HF.out ?_
          rotate_left
          · (intro w hSw; (try dsimp only at hSw); have a0 := hSw; clear hSw;try simp only [List.getElem_toArray, List.getElem_cons_zero, List.getElem_cons_succ]; go_simp; try (with_reducible rfl))
          try simp only [List.setIfInBounds_toArray, List.set_cons_zero, List.set_cons_succ]
          refine held_take 10 7 (v := ?_) rfl rfl (by kernel_rfl) (by kernel_rfl) (by kernel_rfl) (fun _ _ _ h => h) (by rfl) ?_ HF.out ?_
          rotate_left
          · (intro w hSw; (try dsimp only at hSw); have a0 := hSw; clear hSw;try simp only [List.getElem_toArray, List.getElem_cons_zero, List.getElem_cons_succ]; go_simp; try (with_reducible rfl))
          try simp only [List.setIfInBounds_toArray, List.set_cons_zero, List.set_cons_succ]
          refine wpAnyH_done (by kernel_rfl) ?_ _
          go_wp2
          go_ret2
          exact ⟨.inr (.inr ⟨HE.out, HY.out, by rw [HD.out]; exact made_lower (.inr ⟨HC0.out, b9, v9, rfl, HT9.out⟩) HB7.out.size⟩), HB9.out⟩
        · have HC0 := Lib.hid hc0
          clear hc0
          refine wp_region_held_drew (S := (fun w' => w'.cell? ⟨B + 1, 0, none⟩ = some (.func (.func 41) #[] #[.pointer (some ⟨B, 0, none⟩)]))) (by kernel_rfl) HF.out (fun _ => ?_)
          refine held_take 0 24 (v := ?_) rfl rfl (by kernel_rfl) (by kernel_rfl) (by kernel_rfl) (fun _ _ _ h => h) (by rfl) ?_ HF.out ?_
          rotate_left
          · (intro w hSw; (try dsimp only at hSw); have a0 := hSw; clear hSw;try simp only [List.getElem_toArray, List.getElem_cons_zero, List.getElem_cons_succ]; go_simp; try (with_reducible rfl))
          try simp only [List.setIfInBounds_toArray, List.set_cons_zero, List.set_cons_succ]
          refine held_take 2 26 (v := ?_) rfl rfl (by kernel_rfl) (by kernel_rfl) (by kernel_rfl) (fun _ _ _ h => h) (by rfl) ?_ HF.out ?_
          rotate_left
          · (intro w hSw; (try dsimp only at hSw); have a0 := hSw; clear hSw;try simp only [List.getElem_toArray, List.getElem_cons_zero, List.getElem_cons_succ]; go_simp; try (with_reducible rfl))
          try simp only [List.setIfInBounds_toArray, List.set_cons_zero, List.set_cons_succ]
          refine held_take 4 28 (v := ?_) rfl rfl (by kernel_rfl) (by kernel_rfl) (by kernel_rfl) (fun _ _ _ h => h) (by rfl) ?_ HF.out ?_
          rotate_left
          · (intro w hSw; (try dsimp only at hSw); have a0 := hSw; clear hSw;try simp only [List.getElem_toArray, List.getElem_cons_zero, List.getElem_cons_succ]; go_simp; try (with_reducible rfl))
          try simp only [List.setIfInBounds_toArray, List.set_cons_zero, List.set_cons_succ]
          refine held_call 1 25 rfl rfl (by kernel_rfl) (by rfl) (fun K hK => ?_)
          try simp only [List.getElem_toArray, List.getElem_cons_zero, List.getElem_cons_succ]
          go_simp
          (go_at_call 12; (with_reducible refine (all_any _ HT8.out).mono ?_); rintro e w3 ⟨v3, rfl, h1, h2⟩; have HF := Lib.hid (later h2 HF.out); have HC := Lib.hid (later h2 HC.out); have HB3 := Lib.hid h2; have HNB := Lib.hid (show ∀ k, v3.ownBlock = some k → w2.drew.heap.size ≤ k from fun k e => by rcases h1.2 with ⟨h0, _⟩ | ⟨g, cap, cur, h0, hg, _⟩ <;> rw [h0] at e <;> simp [Value.ownBlock] at e; subst e; exact hg); have HDF := Lib.hid (deleteF_own (fun r => inK c r) 41 #[.pointer (some ⟨B, 0, none⟩)] (enters_of Tryz.func41 (by kernel_rfl) rfl) w3 w2.drew.heap.size v3 T (by omega) h1 (fun V x ho => rep1_any x c B V (ho.cell HC.out (fun e => by have := HNB.out B e; have := HSZ.out; omega)))); rw [HD.out] at HDF; clear h1 h2)
          try go_wp2_with fail
          try simp only [Act.put, List.setIfInBounds_toArray, List.set_cons_zero, List.set_cons_succ]
          refine hK.out _ _ _ HF.out ?_
          clear hK K
          refine held_call 3 27 rfl rfl (by kernel_rfl) (by rfl) (fun K hK => ?_)
          try simp only [List.getElem_toArray, List.getElem_cons_zero, List.getElem_cons_succ]
          go_simp
          (go_at_call 43; (with_reducible refine (HDF.out).mono ?_); rintro e w4 ⟨v4, rfl, h3, h4⟩; have HG := Lib.hid (show Gr w2.drew w4 v4 D from ⟨h3, HB3.out.trans (h4.below HB3.out.size (fun i h5 h6 => by have := HNB.out i h6; omega))⟩); have HF := Lib.hid (h4.cell HF.out (fun e => by have := HNB.out (B + 1) e; have := HSZ.out; omega)); clear h3 h4)
          try go_wp2_with fail
          try simp only [Act.put, List.setIfInBounds_toArray, List.set_cons_zero, List.set_cons_succ]
          refine hK.out _ _ _ HF.out ?_
          clear hK K
          refine held_call 5 29 rfl rfl (by kernel_rfl) (by rfl) (fun K hK => ?_)
          try simp only [List.getElem_toArray, List.getElem_cons_zero, List.getElem_cons_succ]
          (refine wp_appR (.tmp 27) (.tmp 28) rfl _ D M A M.length cap rfl rfl rfl HG.out (HR.out.below (HB8.out.trans (HG.out.bel.mono HB8.out.size))) HA.out (by have := HDL.out; omega) ?_; rintro v7 w7 h7 _; obtain ⟨A7, c7, hv7⟩ := h7.rv; obtain rfl := hv7.eq; have HF := Lib.hid (later (show Below w2.drew.heap.size w2.drew w7 from h7.bel) HF0.out); have HB7 := Lib.hid (HB8.out.trans (h7.bel.mono HB8.out.size)); have HNW := Lib.hid (new_any A7 c7 (D ++ M) (by have := HDL.out; rw [List.length_append]; omega) w7 hv7); rw [List.length_append] at HNW; clear h7 hv7)
          try simp only [Act.put, List.setIfInBounds_toArray, List.set_cons_zero, List.set_cons_succ]
          refine hK.out _ _ _ HF.out ?_
          clear hK K
          refine held_call 6 30 rfl rfl (by kernel_rfl) (by rfl) (fun K hK => ?_)
          try simp only [List.getElem_toArray, List.getElem_cons_zero, List.getElem_cons_succ]
          go_simp
          (go_at_call 5; (with_reducible refine (HNW.out).mono ?_); rintro e w8 ⟨h8, h9⟩; (have he9 : e = .returned (.tuple #[.pointer none, .int .i64 (newC (D ++ M))]) := by (rcases h8 with ⟨_, h⟩ | ⟨h, _⟩; exact h; exact absurd h HC0.out)); subst he9; have HF := Lib.hid (later h9 HF.out); have HB9 := Lib.hid (HB7.out.trans (h9.mono HB7.out.size)); clear h8 h9)
          try go_wp2_with fail
          try simp only [Act.put, List.setIfInBounds_toArray, List.set_cons_zero, List.set_cons_succ]
          refine hK.out _ _ _ HF.out ?_
          clear hK K
          refine held_take 7 31 (v := ?_) rfl rfl (by kernel_rfl) (by kernel_rfl) (by kernel_rfl) (fun _ _ _ h => h) (by rfl) ?_ HF.out ?_
          rotate_left
          · (intro w hSw; (try dsimp only at hSw); have a0 := hSw; clear hSw;try simp only [List.getElem_toArray, List.getElem_cons_zero, List.getElem_cons_succ]; go_simp; try (with_reducible rfl))
          try simp only [List.setIfInBounds_toArray, List.set_cons_zero, List.set_cons_succ]
          refine held_take 8 32 (v := ?_) rfl rfl (by kernel_rfl) (by kernel_rfl) (by kernel_rfl) (fun _ _ _ h => h) (by rfl) ?_ HF.out ?_
          rotate_left
          · (intro w hSw; (try dsimp only at hSw); have a0 := hSw; clear hSw;try simp only [List.getElem_toArray, List.getElem_cons_zero, List.getElem_cons_succ]; go_simp; try (with_reducible rfl))
          try simp only [List.setIfInBounds_toArray, List.set_cons_zero, List.set_cons_succ]
          refine held_take 9 6 (v := ?_) rfl rfl (by kernel_rfl) (by kernel_rfl) (by kernel_rfl) (fun _ _ _ h => h) (by rfl) ?_ HF.out ?_
          rotate_left
          · (intro w hSw; (try dsimp only at hSw); have a0 := hSw; clear hSw;try simp only [List.getElem_toArray, List.getElem_cons_zero, List.getElem_cons_succ]; go_simp; try (with_reducible rfl))
          try simp only [List.setIfInBounds_toArray, List.set_cons_zero, List.set_cons_succ]
          refine held_take 10 7 (v := ?_) rfl rfl (by kernel_rfl) (by kernel_rfl) (by kernel_rfl) (fun _ _ _ h => h) (by rfl) ?_ HF.out ?_
          rotate_left
          · (intro w hSw; (try dsimp only at hSw); have a0 := hSw; clear hSw;try simp only [List.getElem_toArray, List.getElem_cons_zero, List.getElem_cons_succ]; go_simp; try (with_reducible rfl))
          try simp only [List.setIfInBounds_toArray, List.set_cons_zero, List.set_cons_succ]
          refine wpAnyH_done (by kernel_rfl) ?_ _
          go_wp2
          go_ret2
          exact ⟨.inr (.inr ⟨HE.out, HY.out, by rw [HD.out]; exact .inl ⟨HC0.out, rfl⟩⟩), HB9.out⟩
end Dig
end Go.Proofs.YtdcbbjlbfghpbaaGreat
