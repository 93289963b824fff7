/-
  Package network: tick, round, Settle. Conditions: those that each theorem names.
-/
import Derived.Test.YtebkpjefdaieaaaNet5
namespace Go.Proofs.Ytebkpjefdaieaaa
open Go.RowKit FR FP H2 OW
set_option linter.unusedVariables false
set_option linter.unusedSimpArgs false
namespace Net
open Eng GG
theorem infoM : (Try.prog.info? 60).map (fun i => (i.zero, i.size, i.bytes)) = some (some (.agg #[.int .i64 0, .int .i64 0, .slice none 0 0]), 3, 40) := by kernel_rfl
/-- a message more -/
theorem IsNet.push {w w1 : World} {base b : Nat} {ly : Lay} {S : NetV} {wv nv : Value} {o : Obj} {v : MsgV} (h : IsNet w base b ly S) (hb : w.heap[b]? = some (.cells #[.pointer (some ⟨ly.g, 0, none⟩), .slice (some ⟨ly.gn, 0, none⟩) S.n ly.cap, wv] 55 (0, 0))) (hr : w.ownsRow base 60 3 wv S.m.length (cellsM S.m))
    (hv : v.fr < S.n ∧ v.to_ < S.n ∧ v.k ≤ 6 ∧ RdT w v.A v.k v.f ∧ SmO v.f v.k) (ho : w1.ownsRow base 60 3 nv (S.m.length + 1) (cellsM S.m ++ v.cells)) (hg : (w.alloc o).grownBy w1 wv.ownBlock) :
    IsNet (w1.setCell ⟨b, 2, none⟩ nv) base b ly { S with m := S.m ++ [v] } ∧ After base w (w1.setCell ⟨b, 2, none⟩ nv) := by
  have o1 : OnlyT (fun t => t = 60) w w1 := ((OnlyT.refl (fun t => t = 60) w).alloc o).grown hg (fun k hk hlt => by
    obtain ⟨cs, t, fr, h1, h2⟩ := own_type hr hk (T := fun t => t = 60) rfl
    exact ⟨cs, t, fr, (Below.heap_alloc w o k (blk_lt h1)).trans h1, h2⟩)
  have b1 := o1.obj hb (by decide)
  have hs : OnlyT (fun t => t = 55) w1 (w1.setCell ⟨b, 2, none⟩ nv) := (OnlyT.refl (fun t => t = 55) w1).setCell (p := ⟨b, 2, none⟩) (fun _ => ⟨_, _, _, b1, rfl⟩) nv
  have o2 : OnlyT (fun t => t = 60 ∨ t = 55) w (w1.setCell ⟨b, 2, none⟩ nv) := (o1.mono (fun _ e => .inl e)).trans (hs.mono (fun _ e => .inr e))
  refine ⟨⟨h.n1, h.n6, isG_only h.gr o2 (by decide), h.good, ?_, fun i hi => isN_only (h.node i hi) o2 (by decide), h.inj, h.wf, ⟨nv, blk_set b1 2 nv, ?_⟩, fun u hu => ?_, ?_⟩, ?_, o2.mono (fun t e => e.elim (fun e => .inr (.inr (.inr e))) (fun e => .inl e))⟩
  · obtain ⟨cs, x, y⟩ := h.nodes
    exact ⟨cs, o2.obj x (by decide), y⟩
  · have e : (S.m ++ [v]).length = S.m.length + 1 := by simp
    show (w1.setCell ⟨b, 2, none⟩ nv).ownsRow base 60 3 nv (S.m ++ [v]).length (cellsM (S.m ++ [v]))
    rw [e, cellsM_snoc]
    exact hs.own ho (by decide)
  · rcases List.mem_append.1 hu with hu | hu
    · obtain ⟨p, q, r, s, t⟩ := h.msg u hu
      exact ⟨p, q, r, s.onlyT o2 (by decide), t⟩
    · have : u = v := by simpa using hu
      subst this
      obtain ⟨p, q, r, s, t⟩ := hv
      exact ⟨p, q, r, s.onlyT o2 (by decide), t⟩
  · obtain ⟨p, q, r, u, t⟩ := h.lo
    exact ⟨p, q, r, u, Nat.le_trans t o2.size⟩
  · have hb1 : Below base w w1 := (((Only.refl (fun i => base ≤ i) w).alloc o).grown hg (fun k hk _ => (OW.own_base hr hk).1)).below h.lo.2.2.2.2 (fun i hi e => by omega)
    exact hb1.trans (((Only.refl (fun i => i = b) w1).setCell (p := ⟨b, 2, none⟩) (fun _ => rfl) nv).below (Nat.le_trans h.lo.2.2.2.2 o1.size) (fun i hi e => by have := h.lo.1; omega))
/-- a node that has told all of L -/
def tlAll (s : St) (L : List Nat) : St := L.foldl (fun (s : St) (b : Nat) => tl s (b : Int)) s
theorem tlAll_snoc (s : St) (L : List Nat) (b : Nat) : tlAll s (L ++ [b]) = tl (tlAll s L) b := by simp [tlAll]
theorem tlAll_same (s : St) : ∀ L : List Nat, (tlAll s L).id = s.id ∧ (tlAll s L).n = s.n := by
  intro L
  induction L generalizing s with
  | nil => exact ⟨rfl, rfl⟩
  | cons b L ih => exact ⟨(ih (tl s b)).1.trans (tl_same s b).1, (ih (tl s b)).2.trans (tl_same s b).2⟩
/-- the messages by which a node, that was s, told all of L -/
def IsMsgs (s : St) (a : Nat) : List Nat → List MsgV → Prop
  | [], ms => ms = []
  | b :: L, ms => ∃ v r, ms = v :: r ∧ v.fr = a ∧ v.to_ = b ∧ v.k = told_len s b ∧ v.f = s.offer b ∧ IsMsgs (tl s b) a L r
theorem isMsgs_snoc {a : Nat} : ∀ {s : St} {L : List Nat} {ms : List MsgV} {b : Nat} {v : MsgV}, IsMsgs s a L ms → v.fr = a → v.to_ = b → v.k = told_len (tlAll s L) b → v.f = (tlAll s L).offer b → IsMsgs s a (L ++ [b]) (ms ++ [v])
  | s, [], ms, b, v, h, h1, h2, h3, h4 => by
    have : ms = [] := h
    subst this
    exact ⟨v, [], rfl, h1, h2, h3, h4, rfl⟩
  | s, c :: L, ms, b, v, h, h1, h2, h3, h4 => by
    obtain ⟨u, r, rfl, k1, k2, k3, k4, k5⟩ := h
    exact ⟨u, r ++ [v], rfl, k1, k2, k3, k4, isMsgs_snoc k5 h1 h2 h3 h4⟩
/-- what tick makes of a network -/
def NetV.ticked (S : NetV) (a : Nat) (L : List Nat) (ms : List MsgV) : NetV := { S with x := fun i => if i = a then tlAll (S.x a) L else S.x i, m := S.m ++ ms }
theorem ticked_zero (S : NetV) (a : Nat) : S.ticked a [] [] = S := by
  unfold NetV.ticked
  have : (fun i => if i = a then tlAll (S.x a) [] else S.x i) = S.x := by
    funext i
    by_cases e : i = a
    · subst e; rw [if_pos rfl]; rfl
    · rw [if_neg e]
  rw [this]
  simp
theorem natN_row {w : World} {base : Nat} {v : Value} {L : List Nat} (h : w.ownsRow base 3 1 v L.length (natN L)) : ∃ A c, v = .slice A L.length c ∧ ∀ j (hj : j < L.length), ∃ g, A = some ⟨g, 0, none⟩ ∧ w.cell? ⟨g, j, none⟩ = some (.int .i64 (L[j] : Nat)) := by
  rcases h.2 with ⟨rfl, h0⟩ | ⟨g, cap, cur, rfl, hb, hh, hn, hm, hs, ht⟩
  · exact ⟨none, 0, by rw [h0], fun j hj => by omega⟩
  · refine ⟨some ⟨g, 0, none⟩, cap, rfl, fun j hj => ⟨g, rfl, ?_⟩⟩
    rw [blk_cell hh]
    have e : (natN L)[j]? = some (.int .i64 (L[j] : Nat)) := by simp [natN, hj]
    rw [← ht, List.getElem?_take] at e
    split at e
    · rw [← Array.getElem?_toList]; exact e
    · cases e
theorem nbl_get {c : Nat → Nat → Int} {a n j : Nat} (hj : j < (nbl c a n).length) : (nbl c a n)[j] < n ∧ 0 < c a (nbl c a n)[j] := (nbl_mem c a _ n).1 (List.getElem_mem hj)
theorem told_len_le (s : St) (t : Int) (n : Nat) (h : s.n ≤ n) : told_len s t ≤ n := by unfold told_len; split <;> omega
theorem take_snoc {L : List Nat} {j : Nat} (hj : j < L.length) : L.take (j + 1) = L.take j ++ [L[j]] := by
  rw [List.take_succ_eq_append_getElem hj]
set_option maxRecDepth 100000 in
set_option maxHeartbeats 8000000 in
theorem tick_full {base b : Nat} {ly : Lay} {S : NetV} (w : World) (h : IsNet w base b ly S) (hm : S.m.length ≤ 300) (a : Nat) (ha : a < S.n) (hbig : 300 < S.m.length + (nbl S.c a S.n).length) : Calls Try.prog 35 #[.pointer (some ⟨b, 0, none⟩), .int .i64 a] w fun e w' => e = .returned (.int .i64 7) ∧ IsNet w' base b ly S ∧ After base w w' := by
  have H := Lib.hid h
  have hn6 := h.n6
  have HNB := Lib.hid (neighbours_any w h a ha)
  have hll := nbl_len S.c a S.n
  generalize nbl S.c a S.n = L at HNB hll hbig
  clear h
  go_enter Try.func35, Try.ntmps35
  go_upto_region 2 with (go_at_call 49; (with_reducible refine (HNB.out).mono ?_); rintro e w1 ⟨⟨v, rfl, hv⟩, hb⟩; have HV := Lib.hid hv; have H1 := Lib.hid (H.out.below hb); have A1 := Lib.hid (H.out.after_below hb); clear hv hb)
  obtain ⟨A, c, rfl, hrow⟩ := natN_row HV.out
  obtain ⟨A2, c2, x2⟩ := H1.out.c2
  clear hrow
  have hbig' : (300 : Int) < (S.m.length : Int) + (L.length : Int) := by omega
  clear hbig
  go_wp2
  go_ret
  exact ⟨rfl, H1.out, A1.out⟩
set_option maxRecDepth 100000 in
set_option maxHeartbeats 8000000 in
theorem tick_ok {base b : Nat} {ly : Lay} {S : NetV} (w : World) (h : IsNet w base b ly S) (hm : S.m.length ≤ 300) (a : Nat) (ha : a < S.n) (hbig : ¬ 300 < S.m.length + (nbl S.c a S.n).length) : Calls Try.prog 35 #[.pointer (some ⟨b, 0, none⟩), .int .i64 a] w fun e w' =>
    (e = .returned (.int .i64 0) ∧ ∃ ms, IsMsgs (S.x a) a (nbl S.c a S.n) ms ∧ IsNet w' base b ly (S.ticked a (nbl S.c a S.n) ms)) ∧ After base w w' := by
  obtain ⟨i0, hi, hz0, hz1, hz2⟩ := info_parts infoM
  have HI := Lib.hid hi
  have H := Lib.hid h
  have hn6 := h.n6
  have HNB := Lib.hid (neighbours_any w h a ha)
  have hll := nbl_len S.c a S.n
  have HG := Lib.hid (fun j (hj : j < (nbl S.c a S.n).length) => nbl_get hj)
  generalize nbl S.c a S.n = L at HNB HG hll hbig ⊢
  clear h hi
  go_enter Try.func35, Try.ntmps35
  go_upto_region 2 with (go_at_call 49; (with_reducible refine (HNB.out).mono ?_); rintro e w1 ⟨⟨v, rfl, hv⟩, hb⟩; have HV := Lib.hid hv; have H1 := Lib.hid (H.out.below hb); have A1 := Lib.hid (H.out.after_below hb); clear hv hb)
  obtain ⟨A, c, rfl, hrow⟩ := natN_row HV.out
  obtain ⟨A2, c2, x2⟩ := H1.out.c2
  clear hrow
  have hbig' : (S.m.length : Int) + (L.length : Int) ≤ 300 := by omega
  go_upto_region 5 with fail
  clear x2
  go_loopw [24] (fun s24 wr => ∃ (j : Nat) (ms : List MsgV), j ≤ L.length ∧ s24 = .int .i64 j ∧ ms.length = j ∧ IsMsgs (S.x a) a (L.take j) ms ∧ IsNet wr base b ly (S.ticked a (L.take j) ms) ∧ After base w wr ∧ wr.ownsRow w.heap.size 3 1 (.slice A L.length c) L.length (natN L)) (fun s24 _ => L.length - (intOf s24).toNat)
  case atStart => exact ⟨0, [], by omega, rfl, rfl, rfl, by rw [List.take_zero, ticked_zero]; exact H1.out, A1.out, HV.out⟩
  case round =>
    obtain ⟨j, ms, hj, rfl, hlm, hms, hnet, haf, hrow⟩ := hrel
    have HMS := Lib.hid hms
    have N := Lib.hid hnet
    have AF := Lib.hid haf
    have R := Lib.hid hrow
    have HLM := Lib.hid hlm
    clear hms hnet haf hrow H1 A1 HV
    by_cases hlt : j < L.length
    · have hlt' : (j : Int) < (L.length : Int) := by omega
      have j0 : (0 : Int) ≤ (j : Int) := by omega
      obtain ⟨A', c', e', hcell⟩ := natN_row R.out
      cases e'
      obtain ⟨g, rfl, y⟩ := hcell j hlt
      have hbt := HG.out j hlt
      have HTS := Lib.hid (take_snoc hlt)
      generalize L[j] = t at y hbt HTS
      clear hcell
      have hx : (S.ticked a (L.take j) ms).x a = tlAll (S.x a) (L.take j) := by show (if a = a then _ else _) = _; rw [if_pos rfl]
      have hsm := tlAll_same (S.x a) (L.take j)
      have htd := told_any wr N.out a ha t
      have hwa := N.out.wf a ha
      rw [hx] at htd hwa
      have hk6 : told_len (tlAll (S.x a) (L.take j)) t ≤ 6 := told_len_le _ _ _ (by rw [hsm.2, (H.out.wf a ha).2.2]; exact hn6)
      have HSM := Lib.hid (smO_offer (tlAll (S.x a) (L.take j)) t (told_len (tlAll (S.x a) (L.take j)) t) hwa.1)
      have HTD := Lib.hid htd
      clear htd hx hsm hwa
      go_upto_region 8 with (go_at_call 21; (with_reducible refine (HTD.out).mono ?_); rintro e w4 ⟨⟨A4, c4, rfl, hr⟩, hn4, ha4⟩; have HR := Lib.hid hr; have N4 := Lib.hid hn4; have A4' := Lib.hid (AF.out.trans ha4); have R4 := Lib.hid (ha4.typ.own R.out (by unfold netT; decide)); clear hr hn4 ha4)
      obtain ⟨wv, hb4, hr4⟩ := N4.out.blk
      have HB4 := Lib.hid hb4
      have HR4 := Lib.hid hr4
      have hml : ((S.ticked a (L.take j) ms).upd a (tl (tlAll (S.x a) (L.take j)) t)).m.length = S.m.length + j := by
        show (S.m ++ ms).length = _
        rw [List.length_append, HLM.out]
      have hml2 : S.m.length + j ≤ 300 := by omega
      obtain ⟨A5, c5, rfl⟩ := own_slice hr4
      have z2 : w4.cell? ⟨b, 2, none⟩ = some (.slice A5 (((S.ticked a (L.take j) ms).upd a (tl (tlAll (S.x a) (L.take j)) t)).m.length) c5) := by rw [blk_cell hb4]; rfl
      have hlb := N4.out.lt
      have hlo := N4.out.lo.2.2.2.2
      rw [hml] at z2
      have HML := Lib.hid hml
      have HR5 := Lib.hid (show w4.ownsRow base 60 3 (.slice A5 (S.m.length + j) c5) (S.m.length + j) (cellsM ((S.ticked a (L.take j) ms).upd a (tl (tlAll (S.x a) (L.take j)) t)).m) by rw [← hml]; exact hr4)
      have hsz : ((cellsM ((S.ticked a (L.take j) ms).upd a (tl (tlAll (S.x a) (L.take j)) t)).m)).length = (S.m.length + j) * 3 := by rw [cellsM_len, hml]
      clear hb4 hr4 hml hsz
      go_wp2_with (at_builtin; refine wpList_append_lies _ rfl (.tmp 39) (.tmp 44) 53 rfl base 60 i0 _ 3 40 Try.underlying53 HI.out hz0 hz1 hz2 rfl (by omega) (.slice A5 (S.m.length + j) c5) (S.m.length + j) _ rfl (HR5.out.alloc _) ⟨w4.heap.size, 0, none⟩ 1 1 [.int .i64 a, .int .i64 t, .slice A4 (told_len (tlAll (S.x a) (L.take j)) t) c4] rfl rfl (three_cells _ _ _ _ _) (by simp [Value.oneCell']) (by omega) (by unfold maxLen; omega) (by omega) (by simp; omega) (w4.heap.size + 1) (by simp) ?_; intro g2 cap2 w8 hown1 hgrow1 hat1 hlt1; have HO2 := Lib.hid hown1; have HG2 := Lib.hid hgrow1; have hzb := app_obj HB4.out (own_ne_blk HR5.out HB4.out (by decide)) hgrow1; have z1 := blk_cell hzb 2; have z3 := blk_free hzb 2; have hz8 : b < w8.heap.size := (by have := app_size hgrow1; omega); clear hown1 hgrow1 hat1 hlt1 z2 hzb)
      go_roundw
      case rel =>
        have hp := N4.out.push (v := ⟨a, t, A4, told_len (tlAll (S.x a) (L.take j)) t, c4, (tlAll (S.x a) (L.take j)).offer t⟩) HB4.out HR4.out ⟨ha, hbt.1, hk6, HR.out, HSM.out⟩ (by rw [HML.out]; exact HO2.out) (by rw [HML.out]; exact HG2.out)
        refine ⟨j + 1, ms ++ [⟨a, t, A4, told_len (tlAll (S.x a) (L.take j)) t, c4, (tlAll (S.x a) (L.take j)).offer t⟩], by omega, by go_num, by rw [List.length_append, HLM.out]; rfl, by rw [HTS.out]; exact isMsgs_snoc HMS.out rfl rfl rfl rfl, ?_, A4'.out.trans hp.2, hp.2.typ.own R4.out (by unfold netT; decide)⟩
        have e : S.ticked a (L.take (j + 1)) (ms ++ [⟨a, t, A4, told_len (tlAll (S.x a) (L.take j)) t, c4, (tlAll (S.x a) (L.take j)).offer t⟩]) = { ((S.ticked a (L.take j) ms).upd a (tl (tlAll (S.x a) (L.take j)) t)) with m := ((S.ticked a (L.take j) ms).upd a (tl (tlAll (S.x a) (L.take j)) t)).m ++ [⟨a, t, A4, told_len (tlAll (S.x a) (L.take j)) t, c4, (tlAll (S.x a) (L.take j)).offer t⟩] } := by
          unfold NetV.ticked NetV.upd
          rw [HTS.out, tlAll_snoc]
          have e2 : (fun i => if i = a then tl (tlAll (S.x a) (L.take j)) t else S.x i) = (fun i => if i = a then tl (tlAll (S.x a) (L.take j)) t else if i = a then tlAll (S.x a) (L.take j) else S.x i) := by
            funext i
            by_cases e : i = a
            · rw [if_pos e, if_pos e]
            · rw [if_neg e, if_neg e, if_neg e]
          rw [e2, List.append_assoc]
        rw [e]
        exact hp.1
      case measure => simp [intOf]; omega
    · obtain rfl : j = L.length := by omega
      go_wp2
      go_ret
      rw [List.take_length] at HMS N
      exact ⟨⟨rfl, ms, HMS.out, N.out⟩, AF.out⟩
end Net
end Go.Proofs.Ytebkpjefdaieaaa
