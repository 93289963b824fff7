/-
  Joined texts: ColC TabA TabB BytC MixA. Conditions: those that each theorem names.
-/
import Derived.Test.YtdcbbjlbfghpbaaGreatColB
import Derived.Laws.OwnMore
import Derived.Test.YtdcbbjlbfghpbaaGreatDc
import Derived.Test.YtdcbbjlbfghpbaaGreatDb
/-
  slices.Collect, slices.SortedFunc at routes. Conditions: those that each theorem names.
-/
namespace Go.Proofs.YtdcbbjlbfghpbaaGreat
open Go Go.RowKit H2
set_option linter.unusedVariables false
set_option linter.unusedSimpArgs false
namespace Tab
theorem appendSeq_any (Bs : Nat) (sv : Value) (L : List Rt) (hreach : L.length ≤ 1000000) (w : World) (hBs : Bs < w.heap.size) (hc : w.cell? ⟨Bs, 0, none⟩ = some sv) (hI : Rds w.heap.size w sv L) :
    Calls Tryz.prog 78 #[.slice none 0 0, .func (.func 57) #[] #[.pointer (some ⟨Bs, 0, none⟩)]] w fun e W' => ∃ v, e = .returned v ∧ W'.ownsRow w.heap.size 36 20 v L.length (flat L) ∧ (v = .slice none 0 0 ↔ L = []) ∧ Below w.heap.size w W' :=
  (callsIn_wide (n := 3)).1 (appendSeq_in Fence.wide 3 trivial trivial rfl (by omega) Bs sv L hreach w hBs hc hI)
set_option maxHeartbeats 2000000 in
theorem collect_any (Bs : Nat) (sv : Value) (L : List Rt) (hreach : L.length ≤ 1000000) (w : World) (hBs : Bs < w.heap.size) (hc : w.cell? ⟨Bs, 0, none⟩ = some sv) (hI : Rds w.heap.size w sv L) :
    Calls Tryz.prog 55 #[.func (.func 57) #[] #[.pointer (some ⟨Bs, 0, none⟩)]] w fun e W' => ∃ v, e = .returned v ∧ W'.ownsRow w.heap.size 36 20 v L.length (flat L) ∧ (v = .slice none 0 0 ↔ L = []) ∧ Below w.heap.size w W' := by
  have H := Lib.hid (appendSeq_any Bs sv L hreach w hBs hc hI)
  clear hc hI hBs
  go_enter Tryz.func55, Tryz.ntmps55
  go_wp2_with (go_at_call 78; (with_reducible refine (H.out).mono ?_); rintro e w' ⟨v, rfl, h1, h2, h3⟩; have H1 := Lib.hid h1; have H2 := Lib.hid h2; have H3 := Lib.hid h3; clear h1 h2 h3)
  go_ret
  exact ⟨v, rfl, H1.out, H2.out, H3.out⟩
/-- a row sorted, its routes those of L -/
structure SrtOf (L L' : List Rt) : Prop where
  perm : L'.Perm L
  ord : L'.Pairwise fun a b => ¬ Lt b.to a.to
set_option maxHeartbeats 4000000 in
theorem sortedFunc_any (Bs : Nat) (sv : Value) (L : List Rt) (hreach : L.length ≤ 1000000) (w : World) (hBs : Bs < w.heap.size) (hc : w.cell? ⟨Bs, 0, none⟩ = some sv) (hI : Rds w.heap.size w sv L) :
    Calls Tryz.prog 27 #[.func (.func 57) #[] #[.pointer (some ⟨Bs, 0, none⟩)], .func (.func 29) #[] #[]] w fun e W' =>
      ∃ v L', e = .returned v ∧ SrtOf L L' ∧ W'.ownsRow w.heap.size 36 20 v L.length (flat L') ∧ Below w.heap.size w W' := by
  have H := Lib.hid (collect_any Bs sv L hreach w hBs hc hI)
  clear hc hI hBs
  rcases L with _ | ⟨r, L⟩
  · go_enter Tryz.func27, Tryz.ntmps27
    go_wp2_with (first
      | (go_at_call 55; (with_reducible refine (H.out).mono ?_); rintro e w' ⟨v, rfl, h1, h2, h3⟩; obtain rfl := h2.2 rfl; have H1 := Lib.hid h1; have H3 := Lib.hid h3; clear h1 h2 h3)
      | (go_at_call 56; (with_reducible refine (sort_none _ _ _ _).mono ?_); rintro e w2 ⟨rfl, rfl⟩))
    go_ret
    exact ⟨_, [], rfl, ⟨List.Perm.refl _, List.Pairwise.nil⟩, H1.out, H3.out⟩
  · obtain ⟨n, hn⟩ : ∃ n, (r :: L).length = n := ⟨_, rfl⟩
    have HN := Lib.hid hn
    rw [hn] at H
    clear hn
    go_enter Tryz.func27, Tryz.ntmps27
    go_wp2_with (first
      | (go_at_call 55; (with_reducible refine (H.out).mono ?_); rintro e w1 ⟨v, rfl, h1, h2, h3⟩; obtain ⟨g, cap, rfl, hg, _, _⟩ := own_form h1 (by have := HN.out; simp at this; omega); have H1 := Lib.hid h1; have H3 := Lib.hid h3; have HG := Lib.hid hg; clear h1 h2 h3 hg; have h4 := H1.out; rw [← HN.out] at h4; have HS := sort_any w1 w.heap.size g cap (r :: L) h4 (by omega); rw [HN.out] at HS; have HS' := Lib.hid HS; clear h4 HS)
      | (go_at_call 56; (with_reducible refine (HS'.out).mono ?_); rintro e w2 ⟨rfl, ⟨L', hp, ho, hr⟩, hon⟩; have HP := Lib.hid (SrtOf.mk hp ho); have HR := Lib.hid hr; have HO := Lib.hid (H3.out.trans (hon.below H3.out.size (fun i h1 h2 => by have := HG.out; omega))); clear hp ho hr hon))
    go_ret
    exact ⟨_, L', rfl, HP.out, by have := HR.out; rw [HP.out.perm.length_eq] at this; simpa using this, HO.out⟩
end Tab
end Go.Proofs.YtdcbbjlbfghpbaaGreat

/-
  Rows that are read: ContainsFunc, Equal, Clone at routes. Conditions: those that each theorem names.
-/
namespace Go.Proofs.YtdcbbjlbfghpbaaGreat
open Go Go.RowKit H2
set_option linter.unusedVariables false
set_option linter.unusedSimpArgs false
namespace Tab
open Go.Shelf
theorem drewN2 (w : World) (a b : Nat) : (w.drewN a).drewN b = w.drewN (a + b) := by simp [World.drewN, Nat.add_assoc]
/-- routes behind an address -/
def Rd (W : World) (A : Option Addr) (L : List Rt) : Prop := ∀ i (h : i < L.length), ∃ b o, A = some ⟨b, o, none⟩ ∧ RAt W b (o + i * 20) L[i]
/-- a value reads as routes -/
structure Rv (W : World) (v : Value) (A : Option Addr) (cap : Nat) (L : List Rt) : Prop where
  eq : v = .slice A L.length cap
  len : L.length ≤ cap
  capm : cap ≤ maxLen
  rd : Rd W A L
  nil : A = none → cap = 0
  adr : ∀ a, A = some a → ∃ b o, a = ⟨b, o, none⟩ ∧ b < W.heap.size
theorem RAt.lt {w : World} {B o : Nat} {r : Rt} (h : RAt w B o r) : B < w.heap.size := World.block_lt_of_cell? w ⟨B, o, none⟩ h.to.six
theorem Rd.below {w w' : World} {A : Option Addr} {L : List Rt} (h : Rd w A L) (hb : Below w.heap.size w w') : Rd w' A L := fun i hi => by
  obtain ⟨b, o, e, hr⟩ := h i hi
  exact ⟨b, o, e, hr.below hb⟩
theorem Rd.drewN {w : World} {A : Option Addr} {L : List Rt} (h : Rd w A L) (n : Nat) : Rd (w.drewN n) A L := fun i hi => by
  obtain ⟨b, o, e, hr⟩ := h i hi
  exact ⟨b, o, e, hr.drewN n⟩
theorem Rv.below {w w' : World} {v : Value} {A : Option Addr} {cap : Nat} {L : List Rt} (h : Rv w v A cap L) (hb : Below w.heap.size w w') : Rv w' v A cap L := ⟨h.eq, h.len, h.capm, h.rd.below hb, h.nil, fun a e => by
  obtain ⟨b, o, h1, h2⟩ := h.adr a e
  exact ⟨b, o, h1, Nat.lt_of_lt_of_le h2 hb.size⟩⟩
theorem Rd.at {w : World} {b o : Nat} {L : List Rt} (h : At w b o (flat L)) : Rd w (some ⟨b, o, none⟩) L := fun i hi => ⟨b, o, rfl, h.row hi⟩
theorem own_at {w : World} {base n g cap : Nat} {xs : List Value} {sz : Nat} {e : TypeId} (h : w.ownsRow base e sz (.slice (some ⟨g, 0, none⟩) n cap) n xs) : At w g 0 xs := fun j u hj => by
  have := h.cells (g := g) rfl j u hj
  rw [Addr.add_lit] at this
  exact this
theorem own_rv {w : World} {base : Nat} {v : Value} {L : List Rt} (h : w.ownsRow base 36 20 v L.length (flat L)) : ∃ A cap, Rv w v A cap L ∧ (∀ g o, A = some ⟨g, o, none⟩ → base ≤ g ∧ g < w.heap.size ∧ v.ownBlock = some g) := by
  have h' := h
  rcases h.2 with ⟨rfl, h0⟩ | ⟨g, cap, cur, rfl, hb, hh, hn, hm, _⟩
  · exact ⟨none, 0, ⟨by rw [h0], by omega, by decide, fun i hi => by omega, fun _ => rfl, fun a e => by cases e⟩, fun g o e => by cases e⟩
  · exact ⟨some ⟨g, 0, none⟩, cap, ⟨rfl, hn, hm, Rd.at (own_at h'), fun e => (by cases e), fun a e => by cases e; exact ⟨g, 0, rfl, blk_lt hh⟩⟩, fun g' o e => by cases e; exact ⟨hb, blk_lt hh, rfl⟩⟩
theorem Rv.rds {w : World} {v : Value} {A : Option Addr} {cap : Nat} {L : List Rt} (h : Rv w v A cap L) : Rds w.heap.size w v L := by
  rcases Nat.eq_zero_or_pos L.length with h0 | h0
  · have hl : L = [] := List.length_eq_zero_iff.1 h0
    subst hl
    have e := h.eq
    cases hA : A with
    | none => exact .inl ⟨cap, by rw [e, hA]; rfl, rfl⟩
    | some a =>
      obtain ⟨b, o, rfl, hl⟩ := h.adr a hA
      exact .inr ⟨b, o, cap, by rw [e, hA], hl, h.len, fun j u hj => by simp [flat] at hj⟩
  · obtain ⟨b, o, e, hr⟩ := h.rd 0 h0
    refine .inr ⟨b, o, cap, by rw [h.eq, e], hr.lt, h.len, fun j u hj => ?_⟩
    have hj' : j < L.length * 20 := by
      have := (List.getElem?_eq_some_iff.1 hj).1
      rwa [flat_len] at this
    obtain ⟨b', o', e', hr'⟩ := h.rd (j / 20) (by omega)
    rw [e] at e'
    cases e'
    have := hr'.all (j % 20) u (by rw [← flat_get L (j / 20) (j % 20) (by omega) (Nat.mod_lt _ (by omega)), show j / 20 * 20 + j % 20 = j by omega]; exact hj)
    rwa [show o + j / 20 * 20 + j % 20 = o + j by omega] at this
set_option maxHeartbeats 4000000 in
/-- slices.ContainsFunc: does one meet the test? -/
theorem index_any (p : Rt → Bool) (g : Nat) (lb : Array Value) (eg : ∀ args w, (callFunc g args).run Tryz.prog w = .ok (.enter g args) w) (A : Option Addr) (cap : Nat) (L : List Rt) (hL : L.length ≤ 1000000) (w : World) (hr : Rd w A L)
    (hp : ∀ (W : World) (x : Rt), Below w.heap.size w W → Calls Tryz.prog g (#[.agg (encR x).toArray] ++ lb) W fun e w' => e = .returned (.bool (p x)) ∧ Below W.heap.size W w') :
    Calls Tryz.prog 54 #[.slice A L.length cap, .func (.func g) #[] lb] w fun e w' => (∃ i : Int, e = .returned (.int .i64 i) ∧ decide (i ≥ 0) = L.any p) ∧ Below w.heap.size w w' := by
  have HR := Lib.hid hr
  have HP := Lib.hid hp
  clear hr hp
  go_enter Tryz.func54, Tryz.ntmps54
  go_wp2
  go_loopw [8] (fun s8 wr => ∃ k : Nat, k ≤ L.length ∧ s8 = .int .i64 k ∧ (∀ j (h : j < L.length), j < k → p L[j] = false) ∧ Below w.heap.size w wr) (fun s8 _ => L.length - (intOf s8).toNat)
  case atStart => exact ⟨0, by omega, rfl, fun j h1 h2 => by omega, Below.refl _ _⟩
  case round =>
    obtain ⟨k, hk, rfl, hn, hb⟩ := hrel
    have HN := Lib.hid hn
    have HB := Lib.hid hb
    clear hn hb
    by_cases hlt : k < L.length
    · have hlt' : (k : Int) < (L.length : Int) := by omega
      have k0 : (0 : Int) ≤ (k : Int) := by omega
      obtain ⟨b, o, rfl, hra⟩ := HR.out k hlt
      have hld := (hra.below HB.out).all.load (k := n20) (encR_n _) Tryz.prog
      have hld2 : Sem.run Tryz.prog (loadCellsFrom ⟨b, o + k * n20, none⟩ 0 n20 #[]) wr = .ok (encR L[k]).toArray wr := hld
      have hcall := HP.out wr L[k] HB.out
      clear hra hld
      cases hq : p L[k]
      · rw [hq] at hcall
        have HQ := Lib.hid hq
        clear hq
        generalize L[k] = x at hld2 hcall
        go_wp2_with (go_at_fn g; refine hcall.mono ?_; rintro e w' ⟨rfl, hb'⟩; have HB2 := Lib.hid (HB.out.trans (hb'.mono HB.out.size)); clear hb')
        go_roundw
        case rel => exact ⟨k + 1, by omega, by go_num, fun j h1 h2 => by
          rcases Nat.lt_or_eq_of_le (Nat.lt_succ_iff.1 h2) with h | h
          · exact HN.out j h1 h
          · subst h; exact HQ.out, HB2.out⟩
        case measure => simp [intOf]; omega
      · rw [hq] at hcall
        have HQ := Lib.hid (show L.any p = true from List.any_eq_true.2 ⟨_, List.getElem_mem hlt, hq⟩)
        clear hq
        generalize L[k] = x at hld2 hcall
        go_wp2_with (go_at_fn g; refine hcall.mono ?_; rintro e w' ⟨rfl, hb'⟩; have HB2 := Lib.hid (HB.out.trans (hb'.mono HB.out.size)); clear hb')
        go_ret
        exact ⟨⟨_, rfl, by rw [HQ.out]; exact decide_eq_true k0⟩, HB2.out⟩
    · obtain rfl : k = L.length := by omega
      have HQ := Lib.hid (show L.any p = false from by
        rw [List.any_eq_false]
        intro x hx
        obtain ⟨j, hj, rfl⟩ := List.getElem_of_mem hx
        rw [HN.out j hj hj]
        exact Bool.false_ne_true)
      go_wp2
      go_ret
      exact ⟨⟨_, rfl, by rw [HQ.out]; rfl⟩, HB.out⟩
theorem contains_any (p : Rt → Bool) (g : Nat) (lb : Array Value) (eg : ∀ args w, (callFunc g args).run Tryz.prog w = .ok (.enter g args) w) (A : Option Addr) (cap : Nat) (L : List Rt) (hL : L.length ≤ 1000000) (w : World) (hr : Rd w A L)
    (hp : ∀ (W : World) (x : Rt), Below w.heap.size w W → Calls Tryz.prog g (#[.agg (encR x).toArray] ++ lb) W fun e w' => e = .returned (.bool (p x)) ∧ Below W.heap.size W w') :
    Calls Tryz.prog 24 #[.slice A L.length cap, .func (.func g) #[] lb] w fun e w' => e = .returned (.bool (L.any p)) ∧ Below w.heap.size w w' := by
  have H := Lib.hid (index_any p g lb eg A cap L hL w hr hp)
  clear hr hp
  go_enter Tryz.func24, Tryz.ntmps24
  go_wp2_with (go_at_call 54; (with_reducible refine (H.out).mono ?_); rintro e w' ⟨⟨i, rfl, hi⟩, hb⟩; have HI := Lib.hid hi; have HB := Lib.hid hb; clear hi hb)
  go_ret
  exact ⟨by rw [← HI.out]; rfl, HB.out⟩
set_option maxHeartbeats 4000000 in
/-- slices.Equal -/
theorem equal_any (A B : Option Addr) (cap cap' : Nat) (L M : List Rt) (hL : L.length ≤ 1000000) (hM : M.length ≤ 1000000) (w : World) (hr : Rd w A L) (hs : Rd w B M) :
    Calls Tryz.prog 51 #[.slice A L.length cap, .slice B M.length cap'] w fun e w' => e = .returned (.bool (decide (L = M))) ∧ Below w.heap.size w w' := by
  have HR := Lib.hid hr
  have HS := Lib.hid hs
  clear hr hs
  by_cases hlen : L.length = M.length
  · have HL := Lib.hid hlen
    obtain ⟨n, hn⟩ : ∃ n, L.length = n := ⟨_, rfl⟩
    have HLN := Lib.hid hn
    rw [← hlen, hn]
    rw [hn] at hL
    clear hM hlen hn
    go_enter Tryz.func51, Tryz.ntmps51
    go_wp2
    go_loopw [13] (fun s13 wr => ∃ k : Nat, k ≤ n ∧ s13 = .int .i64 k ∧ L.take k = M.take k ∧ ∃ q, wr = w.drewN q) (fun s13 _ => n - (intOf s13).toNat)
    case atStart => exact ⟨0, by omega, rfl, rfl, 0, rfl⟩
    case round =>
      obtain ⟨k, hk, rfl, hn, q, hq⟩ := hrel
      have HN := Lib.hid hn
      have HQ := Lib.hid hq
      clear hn hq
      by_cases hlt : k < n
      · have hlt' : (k : Int) < (n : Int) := by omega
        have k0 : (0 : Int) ≤ (k : Int) := by omega
        have h1 : k < L.length := by rw [HLN.out]; exact hlt
        have h2 : k < M.length := by rw [← HL.out]; exact h1
        obtain ⟨b, o, rfl, hra⟩ := HR.out k h1
        obtain ⟨b', o', rfl, hrb⟩ := HS.out k h2
        have hl1 : ∀ m, Sem.run Tryz.prog (loadCellsFrom ⟨b, o + k * n20, none⟩ 0 n20 #[]) (wr.drewN m) = .ok (encR L[k]).toArray (wr.drewN m) := fun m => by
          rw [HQ.out]
          exact ((hra.drewN q).drewN m).all.load (k := n20) (encR_n _) Tryz.prog
        have hl2 : ∀ m, Sem.run Tryz.prog (loadCellsFrom ⟨b', o' + k * n20, none⟩ 0 n20 #[]) (wr.drewN m) = .ok (encR M[k]).toArray (wr.drewN m) := fun m => by
          rw [HQ.out]
          exact ((hrb.drewN q).drewN m).all.load (k := n20) (encR_n _) Tryz.prog
        have HT1 := Lib.hid (List.take_append_getElem h1)
        have HT2 := Lib.hid (List.take_append_getElem h2)
        by_cases he : L[k] = M[k]
        · have HE := Lib.hid he
          rw [← he] at hl2
          clear hra hrb he
          generalize L[k] = x at hl1 hl2
          have hd : decide (x = x) = true := by simp
          go_wp2
          go_quiet (fail)
          go_wp2
          go_roundw
          case rel => exact ⟨k + 1, by omega, by go_num, by rw [← HT1.out, ← HT2.out, HN.out, HE.out], _, by rw [HQ.out]; exact drewN2 w _ _⟩
          case measure => simp [intOf]; omega
        · have HE := Lib.hid (show decide (L = M) = false from decide_eq_false (fun e => he (by subst e; rfl)))
          have hd : decide (L[k] = M[k]) = false := decide_eq_false he
          clear hra hrb he
          generalize L[k] = x at hl1 hl2 hd
          generalize M[k] = y at hl2 hd
          go_wp2
          go_quiet (fail)
          go_wp2
          go_ret
          rw [HE.out]
          exact ⟨rfl, by rw [HQ.out]; exact bdN (bdN (Below.refl _ _) _) _⟩
      · obtain rfl : k = n := by omega
        have HE := Lib.hid (show decide (L = M) = true from decide_eq_true (by
          have := HN.out
          rw [List.take_of_length_le (by rw [HLN.out]; exact Nat.le_refl _), List.take_of_length_le (by rw [← HL.out, HLN.out]; exact Nat.le_refl _)] at this
          exact this))
        go_wp2
        go_ret
        rw [HE.out]
        exact ⟨rfl, by rw [HQ.out]; exact bdN (Below.refl _ _) _⟩
  · have HE := Lib.hid (show decide (L = M) = false from decide_eq_false (fun e => hlen (by rw [e])))
    have hne : ¬ ((L.length : Int) = (M.length : Int)) := by omega
    have hne2 : ((L.length : Int) != (M.length : Int)) = true := by simp; omega
    have hne3 : decide (L.length = M.length) = false := decide_eq_false hlen
    have hne4 : (L.length != M.length) = true := by simpa using hlen
    clear hlen
    generalize L.length = n at *
    generalize M.length = m at *
    go_enter Tryz.func51, Tryz.ntmps51
    go_wp2
    go_ret
    rw [HE.out]
    exact ⟨rfl, Below.refl _ _⟩
end Tab
end Go.Proofs.YtdcbbjlbfghpbaaGreat

/-
  Rows of routes that grow: append, Clone. Conditions: those that each theorem names.
-/
namespace Go.Proofs.YtdcbbjlbfghpbaaGreat
open Go Go.RowKit H2
set_option linter.unusedVariables false
set_option linter.unusedSimpArgs false
namespace Tab
section
variable {P : Program}
theorem wpList_append_run {ops : Array Oper} {rest : List Oper} {o : Oper} {a : Act} {w w' : World} {Q : Exit → Act → World → Prop} (hgd : o.guard = none) (s x : Operand) (t : TypeId)
    (ho : o.op = .call { callee := .builtin .append, args := #[s, x], argTypes := #[t, t] }) (v u : Value) (hs : a.eval s = v) (hx : a.eval x = u) {v' : Value} (hr : (Builtin.append_ #[t, t] o.type #[v, u]).run P w = .ok v' w')
    (h : wpList P ops Q rest (a.put o.dst v') w') : wpList P ops Q (o :: rest) a w := by
  refine wpList_plain hgd fun K hK => ?_
  unfold Oper.wp execOp
  simp only [ho, resolve, invoke, builtin, Sem.run_bind, Sem.run_pure, Result.andThen_ok, List.map_toArray, List.map_cons, List.map_nil, hs, hx, hr]
  exact hK _ _ h
end
theorem run_app_none (w : World) {base size n : Nat} {t ty e : TypeId} {i : TypeInfo} (ht : Tryz.prog.underlying t = some (.slice e)) (hi : Tryz.prog.info? e = some i) {v : Value} {xs : List Value} (ho : w.ownsRow base e size v n xs) (c : Nat) : (Builtin.append_ #[t, t] ty #[v, .slice none 0 c]).run Tryz.prog w = .ok v w := by
  rcases ho.2 with ⟨rfl, rfl⟩ | ⟨g, cap, cur, rfl, _, _, hc, _⟩
  · simp [Builtin.append_, run_underlying ht, sizeOf, typeInfo, hi, Builtin.lenOf, Builtin.firstCells]
  · simp [Builtin.append_, run_underlying ht, sizeOf, typeInfo, hi, Builtin.lenOf, Builtin.firstCells, hc, storeCells]
theorem infoR' : ∃ i0 : TypeInfo, Tryz.prog.info? 36 = some i0 ∧ i0.zero = some (.agg (encR zR).toArray) ∧ i0.size = 20 ∧ i0.bytes = 48 := by
  obtain ⟨i0, h1, h2, h3, h4⟩ := info_parts infoR
  exact ⟨i0, h1, h2, h3, h4⟩
theorem Rd.flat {w : World} {b o : Nat} {M : List Rt} (h : Rd w (some ⟨b, o, none⟩) M) : At w b o (flat M) := fun j u hj => by
  have hj' : j < M.length * 20 := by
    have := (List.getElem?_eq_some_iff.1 hj).1
    rwa [flat_len] at this
  obtain ⟨b', o', e', hr'⟩ := h (j / 20) (by omega)
  cases e'
  have := hr'.all (j % 20) u (by rw [← flat_get M (j / 20) (j % 20) (by omega) (Nat.mod_lt _ (by omega)), show j / 20 * 20 + j % 20 = j by omega]; exact hj)
  rwa [show o + j / 20 * 20 + j % 20 = o + j by omega] at this
/-- append of routes -/
theorem app_run (w : World) (base : Nat) (v : Value) (L M : List Rt) (ty : TypeId) (ho : w.ownsRow base 36 20 v L.length (flat L)) (A : Option Addr) (c : Nat) (hr : Rd w A M) (hA : A = none → M = [])
    (hl : L.length + M.length ≤ 1000000) (hb : base ≤ w.heap.size) :
    ∃ v' w', (Builtin.append_ #[22, 22] ty #[v, .slice A M.length c]).run Tryz.prog w = .ok v' w' ∧ w'.ownsRow base 36 20 v' (L ++ M).length (flat (L ++ M)) ∧ w.grownBy w' v.ownBlock := by
  obtain ⟨i0, hi, hz0, hz1, hz2⟩ := infoR'
  cases A with
  | none =>
    obtain rfl := hA rfl
    exact ⟨v, w, run_app_none w Tryz.underlying22 hi ho c, by simpa using ho, World.grownBy.refl w _⟩
  | some ad =>
    have hnews : ∀ j u, (flat M)[j]? = some u → w.cell? (ad.add j) = some u := fun j u hj => by
      have hj' : j < M.length * 20 := by
        have := (List.getElem?_eq_some_iff.1 hj).1
        rwa [flat_len] at this
      obtain ⟨b, o, e, _⟩ := hr (j / 20) (by omega)
      cases e
      rw [Addr.add_lit]
      exact hr.flat j u hj
    obtain ⟨v', w', hrun, h2, h3, _⟩ := run_append_own (P := Tryz.prog) w base 22 ty 36 i0 _ 20 48 Tryz.underlying22 hi hz0 hz1 hz2 (by simp [Value.cells, encR_len]) (by omega) v L.length (flat L) ho ad M.length c (flat M) (flat_len M) hnews (flat_one' M) (by unfold maxLen; omega) (by omega) hb
    exact ⟨v', w', hrun, by rw [flat_app, List.length_append]; exact h2, h3⟩
theorem own_zero (w : World) : (w.alloc (.cells #[] 36 (0, 0))).ownsRow w.heap.size 36 20 (.slice (some ⟨w.heap.size, 0, none⟩) 0 0) 0 [] :=
  ⟨rfl, .inr ⟨w.heap.size, 0, #[], rfl, Nat.le_refl _, heap_alloc_new w _, Nat.le_refl _, by decide, rfl, rfl⟩⟩
theorem sl_none (w : World) (c : Nat) : (binOp .eql 22 (.slice none 0 c) (.slice none 0 0)).run Tryz.prog w = .ok (.bool true) w := by kernel_rfl
theorem sl_some (w : World) (ad : Addr) (n c : Nat) : (binOp .eql 22 (.slice (some ad) n c) (.slice none 0 0)).run Tryz.prog w = .ok (.bool false) w := by kernel_rfl
attribute [go_sem 10000] sl_none sl_some
theorem row_R0 (w : World) : (Instr.buildSlice 22 0 #[]).run Tryz.prog w = .ok (.slice (some ⟨w.heap.size, 0, none⟩) 0 0) (w.alloc (.cells #[] 36 (0, 0))) := by kernel_rfl
set_option maxRecDepth 1000000 in
set_option maxHeartbeats 4000000 in
theorem clone_any (A : Option Addr) (cap : Nat) (L : List Rt) (hL : L.length ≤ 1000000) (w : World) (hr : Rd w A L) (hA : A = none → L = [] ∧ cap = 0) :
    Calls Tryz.prog 39 #[.slice A L.length cap] w fun e w' => ∃ v, e = .returned v ∧ w'.ownsRow w.heap.size 36 20 v L.length (flat L) ∧ Below w.heap.size w w' := by
  have HLL := Lib.hid hL
  clear hL
  cases A with
  | none =>
    obtain ⟨rfl, rfl⟩ := hA rfl
    rw [List.length_nil]
    go_enter Tryz.func39, Tryz.ntmps39
    go_wp2
    go_ret
    exact ⟨_, rfl, World.ownsRow_nil _ _ _ _, Below.refl _ _⟩
  | some ad =>
    have HW := Lib.hid (own_zero w)
    have HB := Lib.hid ((Below.refl _ w).alloc (Nat.le_refl _) (.cells #[] 36 (0, 0)))
    have HR := Lib.hid (hr.below ((Below.refl _ w).alloc (Nat.le_refl _) (.cells #[] 36 (0, 0))))
    clear hr hA
    go_enter Tryz.func39, Tryz.ntmps39
    go_wp2_with (at_builtin; generalize w.alloc (.cells #[] 36) = W at HW HB HR ⊢; obtain ⟨v', w', hrun, h1, h2⟩ := app_run W w.heap.size _ [] L 22 HW.out (some ad) cap HR.out (fun e => by cases e) (by simpa using HLL.out) HB.out.size; have H1 := Lib.hid h1; have H2 := Lib.hid h2; clear h1 h2; refine wpList_append_run rfl (.tmp 5) (.tmp 6) 22 rfl _ _ rfl rfl hrun ?_; clear hrun)
    go_ret
    refine ⟨_, rfl, H1.out, HB.out.trans (((Only.refl (fun k => w.heap.size ≤ k) W).grown H2.out (fun k hk _ => by simp [Value.ownBlock] at hk; omega)).below HB.out.size (fun i h1 h2 => by omega))⟩
end Tab
end Go.Proofs.YtdcbbjlbfghpbaaGreat

/-
  Bytes gathered in a walk; bytes turned to texts and back. Conditions: those that each theorem names.
-/
namespace Go.Proofs.YtdcbbjlbfghpbaaGreat
open Go Go.RowKit H2
set_option linter.unusedVariables false
set_option linter.unusedSimpArgs false
namespace Byt
/-- what has been gathered since wl -/
structure Gb (wl w : World) (v : Value) (bs : List UInt8) : Prop where
  own : By wl.heap.size w v bs
  bel : Below wl.heap.size wl w
theorem Gb.below {wl w w' : World} {v : Value} {bs : List UInt8} (h : Gb wl w v bs) (hb : Below w.heap.size w w') : Gb wl w' v bs := ⟨h.own.below hb, h.bel.trans (hb.mono h.bel.size)⟩
theorem Gb.drew {wl w : World} {v : Value} {bs : List UInt8} (h : Gb wl w v bs) : Gb wl w.drew v bs := h.below (Below.refl _ _).drew
theorem gb_nil (wl : World) : Gb wl wl (.slice none 0 0) [] := ⟨.inl ⟨rfl, rfl⟩, Below.refl _ _⟩
theorem by_one (wl : World) (c : UInt8) : Gb wl (wl.alloc (.cells #[u8 c] 5 (0, 0))) (.slice (some ⟨wl.heap.size, 0, none⟩) 1 1) [c] :=
  ⟨.inr ⟨wl.heap.size, 1, _, 0, 0, rfl, Nat.le_refl _, heap_alloc_new wl _, Nat.le_refl _, by decide, rfl, fun j _ e => by omega, fun j u hj => by
    have : j = 0 := by have := (List.getElem?_eq_some_iff.1 hj).1; simp [encB] at this; omega
    subst this
    simpa [encB] using hj⟩, (Below.refl _ _).alloc (Nat.le_refl _) _⟩
theorem by_zero (wl : World) : Gb wl (wl.alloc (.cells #[] 5 (0, 0))) (.slice (some ⟨wl.heap.size, 0, none⟩) 0 0) [] :=
  ⟨.inr ⟨wl.heap.size, 0, _, 0, 0, rfl, Nat.le_refl _, heap_alloc_new wl _, Nat.le_refl _, by decide, rfl, fun j h => by omega, fun j u hj => by simp [encB] at hj⟩, (Below.refl _ _).alloc (Nat.le_refl _) _⟩
theorem By.no {base : Nat} {w : World} {v : Value} {bs : List UInt8} (h : By base w v bs) {g : Nat} (hg : v.ownBlock = some g) : g < w.heap.size ∧ base ≤ g := by
  rcases h with ⟨rfl, _⟩ | ⟨g', cap, cur, lo, hi, rfl, h2, h3, _⟩
  · cases hg
  · simp only [Value.ownBlock, Option.some.injEq] at hg
    subst hg
    exact ⟨blk_lt h3, h2⟩
theorem wpList_appB {ops : Array Oper} {rest : List Oper} {o : Oper} {a : Act} {wl W : World} {Q : Exit → Act → World → Prop} (hgd : o.guard = none) (s x : Operand) (ho : o.op = .call { callee := .builtin .append, args := #[s, x], argTypes := #[87, 87] }) (v : Value) (bs : List UInt8) (c : UInt8)
    (hs : a.eval s = v) (hx : a.eval x = .slice (some ⟨W.heap.size, 0, none⟩) 1 1) (h : Gb wl W v bs) (hl : bs.length ≤ 10000)
    (hK : ∀ v' w', Gb wl w' v' (bs ++ [c]) → (∃ A n k, v' = .slice A n k) → wpList Tryz.prog ops Q rest (a.put o.dst v') w') : wpList Tryz.prog ops Q (o :: rest) a (W.alloc (.cells #[.int .u8 (c.toNat : Int)] 5 (0, 0))) := by
  have hal := h.below ((Below.refl W.heap.size W).alloc (Nat.le_refl _) (.cells #[.int .u8 (c.toNat : Int)] 5 (0, 0)))
  have hc : (W.alloc (.cells #[.int .u8 (c.toNat : Int)] 5 (0, 0))).cell? ⟨W.heap.size, 0, none⟩ = some (u8 c) := (blk_cell (heap_alloc_new W _) 0).trans rfl
  obtain ⟨v', w', hrun, h1, h2⟩ := app_byte _ wl.heap.size v bs c o.type hal.own (by omega) hal.bel.size ⟨W.heap.size, 0, none⟩ 1 hc (fun g hg e => by have := (h.own.no hg).1; simp at e; omega)
  have hg : Gb wl w' v' (bs ++ [c]) := ⟨h1, ((Only.refl (fun k => v.ownBlock = some k) wl).of_below hal.bel).grown h2 (fun k hk _ => hk) |>.below (Nat.le_refl _) (fun k hk e => by have := (h.own.no e).2; omega)⟩
  refine Tab.wpList_append_run hgd s x 87 ho _ _ hs hx hrun (hK v' w' hg ?_)
  obtain ⟨A, cap, e, _⟩ := h1.form
  exact ⟨A, _, cap, e⟩
theorem wpList_appBv {ops : Array Oper} {rest : List Oper} {o : Oper} {a : Act} {wl W : World} {Q : Exit → Act → World → Prop} (hgd : o.guard = none) (s x : Operand) (ho : o.op = .call { callee := .builtin .append, args := #[s, x], argTypes := #[87, 87] }) (v : Value) (bs : List UInt8) (c : UInt8) (V : Int) (hV : V = (c.toNat : Int))
    (hs : a.eval s = v) (hx : a.eval x = .slice (some ⟨W.heap.size, 0, none⟩) 1 1) (h : Gb wl W v bs) (hl : bs.length ≤ 10000)
    (hK : ∀ v' w', Gb wl w' v' (bs ++ [c]) → (∃ A n k, v' = .slice A n k) → wpList Tryz.prog ops Q rest (a.put o.dst v') w') : wpList Tryz.prog ops Q (o :: rest) a (W.alloc (.cells #[.int .u8 V] 5 (0, 0))) := by
  subst hV
  exact wpList_appB hgd s x ho v bs c hs hx h hl hK
theorem str_nums (bs : List UInt8) : strOfNums (bs.map fun c => (c.toNat : Int)) = str bs := by
  unfold strOfNums str
  rw [List.map_map, show ((fun n : Int => UInt8.ofNat n.toNat) ∘ fun c : UInt8 => (c.toNat : Int)) = id from funext fun c => by simp, List.map_id]
/-- a row of bytes, read as a text -/
theorem conv_by {base : Nat} {w : World} {v : Value} {bs : List UInt8} (h : By base w v bs) : (convert 87 9 v).run Tryz.prog w = .ok (.string (str bs)) w := by
  rcases h with ⟨rfl, rfl⟩ | ⟨g, cap, cur, lo, hi, rfl, h2, h3, h4, h5, h6, h7, h8⟩
  · exact run_convert_bytes_nil w 87 5 Tryz.underlying87 Tryz.underlying5 0 0 _ Tryz.underlying9
  · have := run_convert_bytes_arg (P := Tryz.prog) w 87 5 Tryz.underlying87 Tryz.underlying5 g 0 bs.length cap (bs.map fun c => (c.toNat : Int)) (by simp) (fun i hi => by
      rw [Nat.zero_add, blk_cell h3]
      exact h8 i _ (by simp [encB, u8, List.getElem?_eq_getElem hi, List.getD])) _ Tryz.underlying9
    rw [str_nums] at this
    exact this
end Byt
end Go.Proofs.YtdcbbjlbfghpbaaGreat

/-
  Digest: mix, Bucket, Buckets, the document's too. Conditions: those that each theorem names.
-/
namespace Go.Proofs.YtdcbbjlbfghpbaaGreat
open Go Go.RowKit H2
set_option linter.unusedVariables false
set_option linter.unusedSimpArgs false
namespace Dig
open Tab
def s1 (x : Int) : Int := IntKind.u64.wrap (x + 11400714819323198485)
def s2 (x : Int) : Int := IntKind.u64.wrap (bits BinOp.xor IntKind.u64 x (x / 1073741824) * 13787848793156543929)
def s3 (x : Int) : Int := IntKind.u64.wrap (bits BinOp.xor IntKind.u64 x (x / 134217728) * 10723151780598845931)
/-- 64 bits mixed -/
def mixI (x : Int) : Int := bits BinOp.xor IntKind.u64 (s3 (s2 (s1 x))) (s3 (s2 (s1 x)) / 2147483648)
set_option maxRecDepth 100000 in
theorem mix_any (x : Int) (w : World) : Calls Tryz.prog 53 #[.int .u64 x] w fun e w' => e = .returned (.int .u64 (mixI x)) ∧ w = w' := by
  go_enter Tryz.func53, Tryz.ntmps53
  go_wp2
  go_ret
  exact ⟨rfl, rfl⟩
set_option maxRecDepth 100000 in
theorem refMix_any (x : Int) (w : World) : Calls Tryz.prog 72 #[.int .u64 x] w fun e w' => e = .returned (.int .u64 (mixI x)) ∧ w = w' := by
  go_enter Tryz.func72, Tryz.ntmps72
  go_wp2
  go_ret
  exact ⟨rfl, rfl⟩
theorem buckets_any (w : World) : Calls Tryz.prog 22 #[] w fun e w' => e = .returned (.int .i64 17) ∧ w = w' := by
  go_enter Tryz.func22, Tryz.ntmps22
  go_wp2
  go_ret
  exact ⟨rfl, rfl⟩
/-- the range of a prefix -/
def bk (p : Pf) : Nat := if p.six = true then 16 else p.addr[0].toNat / 16
theorem bk_lt (p : Pf) : bk p < 17 := by
  unfold bk
  have := p.addr[0].toNat_lt
  split <;> omega
set_option maxRecDepth 100000 in
theorem bucket_any (p : Pf) (w : World) : Calls Tryz.prog 31 #[.agg (encP p).toArray] w fun e w' => e = .returned (.int .i64 (bk p : Int)) ∧ Below w.heap.size w w' := by
  obtain ⟨b, hb6⟩ : ∃ b, p.six = b := ⟨_, rfl⟩
  obtain ⟨c, hc⟩ : ∃ c, p.addr[0] = c := ⟨_, rfl⟩
  have HBK := Lib.hid (show bk p = if b = true then 16 else c.toNat / 16 by unfold bk; rw [hb6, hc])
  have hcl := c.toNat_lt
  have hw1 : IntKind.u8.wrap ((c.toNat : Int) / 16) = (c.toNat : Int) / 16 := by simp [IntKind.wrap, IntKind.bits, IntKind.signed]; omega
  have hw2 : IntKind.i64.wrap ((c.toNat : Int) / 16) = (c.toNat : Int) / 16 := IntWalk.i64_in _ (by omega)
  have hw3 : (c.toNat : Int).tdiv 16 = (c.toNat : Int) / 16 := Int.tdiv_eq_ediv_of_nonneg (by omega)
  go_enter Tryz.func31, Tryz.ntmps31
  go_upto_region 1 with fail
  have H := PAt.mk (at_new w (encP p) 33 (0, 0))
  have hbl := Lib.hid (show Below w.heap.size w (w.alloc (.cells (encP p).toArray 33 (0, 0))) from (Below.refl _ _).alloc (Nat.le_refl _) _)
  have z0 := H.six
  have z1 := H.addr 0 (.int .u8 (c.toNat : Int)) (by rw [encA_get _ 0 (by decide), hc])
  rw [hb6] at z0
  clear H hb6 hc
  generalize w.alloc _ = W at z0 z1 hbl ⊢
  generalize w.heap.size = B at z0 z1 ⊢
  cases b with
  | true =>
    rw [if_pos rfl] at HBK
    go_wp2
    go_ret
    rw [HBK.out]
    exact ⟨rfl, hbl.out⟩
  | false =>
    rw [if_neg (by decide)] at HBK
    have HE := Lib.hid (show ((bk p : Nat) : Int) = (c.toNat : Int) / 16 by rw [HBK.out]; omega)
    go_wp2
    go_ret
    rw [HE.out]
    exact ⟨rfl, hbl.out⟩
set_option maxRecDepth 100000 in
theorem refBucket_any (p : Pf) (w : World) : Calls Tryz.prog 68 #[.agg (encP p).toArray] w fun e w' => e = .returned (.int .i64 (bk p : Int)) ∧ Below w.heap.size w w' := by
  obtain ⟨b, hb6⟩ : ∃ b, p.six = b := ⟨_, rfl⟩
  obtain ⟨c, hc⟩ : ∃ c, p.addr[0] = c := ⟨_, rfl⟩
  have HBK := Lib.hid (show bk p = if b = true then 16 else c.toNat / 16 by unfold bk; rw [hb6, hc])
  have hcl := c.toNat_lt
  have hw1 : IntKind.u8.wrap ((c.toNat : Int) / 16) = (c.toNat : Int) / 16 := by simp [IntKind.wrap, IntKind.bits, IntKind.signed]; omega
  have hw2 : IntKind.i64.wrap ((c.toNat : Int) / 16) = (c.toNat : Int) / 16 := IntWalk.i64_in _ (by omega)
  have hw3 : (c.toNat : Int).tdiv 16 = (c.toNat : Int) / 16 := Int.tdiv_eq_ediv_of_nonneg (by omega)
  go_enter Tryz.func68, Tryz.ntmps68
  go_upto_region 1 with fail
  have H := PAt.mk (at_new w (encP p) 33 (0, 0))
  have hbl := Lib.hid (show Below w.heap.size w (w.alloc (.cells (encP p).toArray 33 (0, 0))) from (Below.refl _ _).alloc (Nat.le_refl _) _)
  have z0 := H.six
  have z1 := H.addr 0 (.int .u8 (c.toNat : Int)) (by rw [encA_get _ 0 (by decide), hc])
  rw [hb6] at z0
  clear H hb6 hc
  generalize w.alloc _ = W at z0 z1 hbl ⊢
  generalize w.heap.size = B at z0 z1 ⊢
  cases b with
  | true =>
    rw [if_pos rfl] at HBK
    go_wp2
    go_ret
    rw [HBK.out]
    exact ⟨rfl, hbl.out⟩
  | false =>
    rw [if_neg (by decide)] at HBK
    have HE := Lib.hid (show ((bk p : Nat) : Int) = (c.toNat : Int) / 16 by rw [HBK.out]; omega)
    go_wp2
    go_ret
    rw [HE.out]
    exact ⟨rfl, hbl.out⟩
end Dig
end Go.Proofs.YtdcbbjlbfghpbaaGreat
