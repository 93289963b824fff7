/-
  Rows that are read: ContainsFunc, Equal, Clone at routes. Conditions: those that each theorem names.
-/
import Derived.Test.YtbeoclcnajfjcaaColC
import Derived.Laws.OwnMore
namespace Go.Proofs.Ytbeoclcnajfjcaa
open Go Go.RowKit H2
set_option linter.unusedVariables false
set_option linter.unusedSimpArgs false
namespace Tab
open Go.Shelf
theorem drewN2 (w : World) (a b : Nat) : (w.drewN a).drewN b = w.drewN (a + b) := by simp [World.drewN, Nat.add_assoc]
/-- routes behind an address -/
def Rd (W : World) (A : Option Addr) (L : List Rt) : Prop := ∀ i (h : i < L.length), ∃ b o, A = some ⟨b, o, none⟩ ∧ RAt W b (o + i * 20) L[i]
/-- a value reads as routes -/
structure Rv (W : World) (v : Value) (A : Option Addr) (cap : Nat) (L : List Rt) : Prop where
  eq : v = .slice A L.length cap
  len : L.length ≤ cap
  capm : cap ≤ maxLen
  rd : Rd W A L
  nil : A = none → cap = 0
  adr : ∀ a, A = some a → ∃ b o, a = ⟨b, o, none⟩ ∧ b < W.heap.size
theorem RAt.lt {w : World} {B o : Nat} {r : Rt} (h : RAt w B o r) : B < w.heap.size := World.block_lt_of_cell? w ⟨B, o, none⟩ h.to.six
theorem Rd.below {w w' : World} {A : Option Addr} {L : List Rt} (h : Rd w A L) (hb : Below w.heap.size w w') : Rd w' A L := fun i hi => by
  obtain ⟨b, o, e, hr⟩ := h i hi
  exact ⟨b, o, e, hr.below hb⟩
theorem Rd.drewN {w : World} {A : Option Addr} {L : List Rt} (h : Rd w A L) (n : Nat) : Rd (w.drewN n) A L := fun i hi => by
  obtain ⟨b, o, e, hr⟩ := h i hi
  exact ⟨b, o, e, hr.drewN n⟩
theorem Rv.below {w w' : World} {v : Value} {A : Option Addr} {cap : Nat} {L : List Rt} (h : Rv w v A cap L) (hb : Below w.heap.size w w') : Rv w' v A cap L := ⟨h.eq, h.len, h.capm, h.rd.below hb, h.nil, fun a e => by
  obtain ⟨b, o, h1, h2⟩ := h.adr a e
  exact ⟨b, o, h1, Nat.lt_of_lt_of_le h2 hb.size⟩⟩
theorem Rd.at {w : World} {b o : Nat} {L : List Rt} (h : At w b o (flat L)) : Rd w (some ⟨b, o, none⟩) L := fun i hi => ⟨b, o, rfl, h.row hi⟩
theorem own_at {w : World} {base n g cap : Nat} {xs : List Value} {sz : Nat} {e : TypeId} (h : w.ownsRow base e sz (.slice (some ⟨g, 0, none⟩) n cap) n xs) : At w g 0 xs := fun j u hj => by
  have := h.cells (g := g) rfl j u hj
  rw [Addr.add_lit] at this
  exact this
theorem own_rv {w : World} {base : Nat} {v : Value} {L : List Rt} (h : w.ownsRow base 34 20 v L.length (flat L)) : ∃ A cap, Rv w v A cap L ∧ (∀ g o, A = some ⟨g, o, none⟩ → base ≤ g ∧ g < w.heap.size ∧ v.ownBlock = some g) := by
  have h' := h
  rcases h.2 with ⟨rfl, h0⟩ | ⟨g, cap, cur, rfl, hb, hh, hn, hm, _⟩
  · exact ⟨none, 0, ⟨by rw [h0], by omega, by decide, fun i hi => by omega, fun _ => rfl, fun a e => by cases e⟩, fun g o e => by cases e⟩
  · exact ⟨some ⟨g, 0, none⟩, cap, ⟨rfl, hn, hm, Rd.at (own_at h'), fun e => (by cases e), fun a e => by cases e; exact ⟨g, 0, rfl, blk_lt hh⟩⟩, fun g' o e => by cases e; exact ⟨hb, blk_lt hh, rfl⟩⟩
theorem Rv.rds {w : World} {v : Value} {A : Option Addr} {cap : Nat} {L : List Rt} (h : Rv w v A cap L) : Rds w.heap.size w v L := by
  rcases Nat.eq_zero_or_pos L.length with h0 | h0
  · have hl : L = [] := List.length_eq_zero_iff.1 h0
    subst hl
    have e := h.eq
    cases hA : A with
    | none => exact .inl ⟨cap, by rw [e, hA]; rfl, rfl⟩
    | some a =>
      obtain ⟨b, o, rfl, hl⟩ := h.adr a hA
      exact .inr ⟨b, o, cap, by rw [e, hA], hl, h.len, fun j u hj => by simp [flat] at hj⟩
  · obtain ⟨b, o, e, hr⟩ := h.rd 0 h0
    refine .inr ⟨b, o, cap, by rw [h.eq, e], hr.lt, h.len, fun j u hj => ?_⟩
    have hj' : j < L.length * 20 := by
      have := (List.getElem?_eq_some_iff.1 hj).1
      rwa [flat_len] at this
    obtain ⟨b', o', e', hr'⟩ := h.rd (j / 20) (by omega)
    rw [e] at e'
    cases e'
    have := hr'.all (j % 20) u (by rw [← flat_get L (j / 20) (j % 20) (by omega) (Nat.mod_lt _ (by omega)), show j / 20 * 20 + j % 20 = j by omega]; exact hj)
    rwa [show o + j / 20 * 20 + j % 20 = o + j by omega] at this
set_option maxHeartbeats 4000000 in
/-- slices.ContainsFunc: does one meet the test? -/
theorem index_any (p : Rt → Bool) (g : Nat) (lb : Array Value) (eg : ∀ args w, (callFunc g args).run Try.prog w = .ok (.enter g args) w) (A : Option Addr) (cap : Nat) (L : List Rt) (hL : L.length ≤ 1000000) (w : World) (hr : Rd w A L)
    (hp : ∀ (W : World) (x : Rt), Below w.heap.size w W → Calls Try.prog g (#[.agg (encR x).toArray] ++ lb) W fun e w' => e = .returned (.bool (p x)) ∧ Below W.heap.size W w') :
    Calls Try.prog 49 #[.slice A L.length cap, .func (.func g) #[] lb] w fun e w' => (∃ i : Int, e = .returned (.int .i64 i) ∧ decide (i ≥ 0) = L.any p) ∧ Below w.heap.size w w' := by
  have HR := Lib.hid hr
  have HP := Lib.hid hp
  clear hr hp
  go_enter Try.func49, Try.ntmps49
  go_wp2
  go_loopw [8] (fun s8 wr => ∃ k : Nat, k ≤ L.length ∧ s8 = .int .i64 k ∧ (∀ j (h : j < L.length), j < k → p L[j] = false) ∧ Below w.heap.size w wr) (fun s8 _ => L.length - (intOf s8).toNat)
  case atStart => exact ⟨0, by omega, rfl, fun j h1 h2 => by omega, Below.refl _ _⟩
  case round =>
    obtain ⟨k, hk, rfl, hn, hb⟩ := hrel
    have HN := Lib.hid hn
    have HB := Lib.hid hb
    clear hn hb
    by_cases hlt : k < L.length
    · have hlt' : (k : Int) < (L.length : Int) := by omega
      have k0 : (0 : Int) ≤ (k : Int) := by omega
      obtain ⟨b, o, rfl, hra⟩ := HR.out k hlt
      have hld := (hra.below HB.out).all.load (k := n20) (encR_n _) Try.prog
      have hld2 : Sem.run Try.prog (loadCellsFrom ⟨b, o + k * n20, none⟩ 0 n20 #[]) wr = .ok (encR L[k]).toArray wr := hld
      have hcall := HP.out wr L[k] HB.out
      clear hra hld
      cases hq : p L[k]
      · rw [hq] at hcall
        have HQ := Lib.hid hq
        clear hq
        generalize L[k] = x at hld2 hcall
        go_wp2_with (go_at_fn g; refine hcall.mono ?_; rintro e w' ⟨rfl, hb'⟩; have HB2 := Lib.hid (HB.out.trans (hb'.mono HB.out.size)); clear hb')
        go_roundw
        case rel => exact ⟨k + 1, by omega, by go_num, fun j h1 h2 => by
          rcases Nat.lt_or_eq_of_le (Nat.lt_succ_iff.1 h2) with h | h
          · exact HN.out j h1 h
          · subst h; exact HQ.out, HB2.out⟩
        case measure => simp [intOf]; omega
      · rw [hq] at hcall
        have HQ := Lib.hid (show L.any p = true from List.any_eq_true.2 ⟨_, List.getElem_mem hlt, hq⟩)
        clear hq
        generalize L[k] = x at hld2 hcall
        go_wp2_with (go_at_fn g; refine hcall.mono ?_; rintro e w' ⟨rfl, hb'⟩; have HB2 := Lib.hid (HB.out.trans (hb'.mono HB.out.size)); clear hb')
        go_ret
        exact ⟨⟨_, rfl, by rw [HQ.out]; exact decide_eq_true k0⟩, HB2.out⟩
    · obtain rfl : k = L.length := by omega
      have HQ := Lib.hid (show L.any p = false from by
        rw [List.any_eq_false]
        intro x hx
        obtain ⟨j, hj, rfl⟩ := List.getElem_of_mem hx
        rw [HN.out j hj hj]
        exact Bool.false_ne_true)
      go_wp2
      go_ret
      exact ⟨⟨_, rfl, by rw [HQ.out]; rfl⟩, HB.out⟩
theorem contains_any (p : Rt → Bool) (g : Nat) (lb : Array Value) (eg : ∀ args w, (callFunc g args).run Try.prog w = .ok (.enter g args) w) (A : Option Addr) (cap : Nat) (L : List Rt) (hL : L.length ≤ 1000000) (w : World) (hr : Rd w A L)
    (hp : ∀ (W : World) (x : Rt), Below w.heap.size w W → Calls Try.prog g (#[.agg (encR x).toArray] ++ lb) W fun e w' => e = .returned (.bool (p x)) ∧ Below W.heap.size W w') :
    Calls Try.prog 35 #[.slice A L.length cap, .func (.func g) #[] lb] w fun e w' => e = .returned (.bool (L.any p)) ∧ Below w.heap.size w w' := by
  have H := Lib.hid (index_any p g lb eg A cap L hL w hr hp)
  clear hr hp
  go_enter Try.func35, Try.ntmps35
  go_wp2_with (go_at_call 49; (with_reducible refine (H.out).mono ?_); rintro e w' ⟨⟨i, rfl, hi⟩, hb⟩; have HI := Lib.hid hi; have HB := Lib.hid hb; clear hi hb)
  go_ret
  exact ⟨by rw [← HI.out]; rfl, HB.out⟩
set_option maxHeartbeats 4000000 in
/-- slices.Equal -/
theorem equal_any (A B : Option Addr) (cap cap' : Nat) (L M : List Rt) (hL : L.length ≤ 1000000) (hM : M.length ≤ 1000000) (w : World) (hr : Rd w A L) (hs : Rd w B M) :
    Calls Try.prog 47 #[.slice A L.length cap, .slice B M.length cap'] w fun e w' => e = .returned (.bool (decide (L = M))) ∧ Below w.heap.size w w' := by
  have HR := Lib.hid hr
  have HS := Lib.hid hs
  clear hr hs
  by_cases hlen : L.length = M.length
  · have HL := Lib.hid hlen
    obtain ⟨n, hn⟩ : ∃ n, L.length = n := ⟨_, rfl⟩
    have HLN := Lib.hid hn
    rw [← hlen, hn]
    rw [hn] at hL
    clear hM hlen hn
    go_enter Try.func47, Try.ntmps47
    go_wp2
    go_loopw [13] (fun s13 wr => ∃ k : Nat, k ≤ n ∧ s13 = .int .i64 k ∧ L.take k = M.take k ∧ ∃ q, wr = w.drewN q) (fun s13 _ => n - (intOf s13).toNat)
    case atStart => exact ⟨0, by omega, rfl, rfl, 0, rfl⟩
    case round =>
      obtain ⟨k, hk, rfl, hn, q, hq⟩ := hrel
      have HN := Lib.hid hn
      have HQ := Lib.hid hq
      clear hn hq
      by_cases hlt : k < n
      · have hlt' : (k : Int) < (n : Int) := by omega
        have k0 : (0 : Int) ≤ (k : Int) := by omega
        have h1 : k < L.length := by rw [HLN.out]; exact hlt
        have h2 : k < M.length := by rw [← HL.out]; exact h1
        obtain ⟨b, o, rfl, hra⟩ := HR.out k h1
        obtain ⟨b', o', rfl, hrb⟩ := HS.out k h2
        have hl1 : ∀ m, Sem.run Try.prog (loadCellsFrom ⟨b, o + k * n20, none⟩ 0 n20 #[]) (wr.drewN m) = .ok (encR L[k]).toArray (wr.drewN m) := fun m => by
          rw [HQ.out]
          exact ((hra.drewN q).drewN m).all.load (k := n20) (encR_n _) Try.prog
        have hl2 : ∀ m, Sem.run Try.prog (loadCellsFrom ⟨b', o' + k * n20, none⟩ 0 n20 #[]) (wr.drewN m) = .ok (encR M[k]).toArray (wr.drewN m) := fun m => by
          rw [HQ.out]
          exact ((hrb.drewN q).drewN m).all.load (k := n20) (encR_n _) Try.prog
        have HT1 := Lib.hid (List.take_append_getElem h1)
        have HT2 := Lib.hid (List.take_append_getElem h2)
        by_cases he : L[k] = M[k]
        · have HE := Lib.hid he
          rw [← he] at hl2
          clear hra hrb he
          generalize L[k] = x at hl1 hl2
          have hd : decide (x = x) = true := by simp
          go_wp2
          go_quiet (fail)
          go_wp2
          go_roundw
          case rel => exact ⟨k + 1, by omega, by go_num, by rw [← HT1.out, ← HT2.out, HN.out, HE.out], _, by rw [HQ.out]; exact drewN2 w _ _⟩
          case measure => simp [intOf]; omega
        · have HE := Lib.hid (show decide (L = M) = false from decide_eq_false (fun e => he (by subst e; rfl)))
          have hd : decide (L[k] = M[k]) = false := decide_eq_false he
          clear hra hrb he
          generalize L[k] = x at hl1 hl2 hd
          generalize M[k] = y at hl2 hd
          go_wp2
          go_quiet (fail)
          go_wp2
          go_ret
          rw [HE.out]
          exact ⟨rfl, by rw [HQ.out]; exact bdN (bdN (Below.refl _ _) _) _⟩
      · obtain rfl : k = n := by omega
        have HE := Lib.hid (show decide (L = M) = true from decide_eq_true (by
          have := HN.out
          rw [List.take_of_length_le (by rw [HLN.out]; exact Nat.le_refl _), List.take_of_length_le (by rw [← HL.out, HLN.out]; exact Nat.le_refl _)] at this
          exact this))
        go_wp2
        go_ret
        rw [HE.out]
        exact ⟨rfl, by rw [HQ.out]; exact bdN (Below.refl _ _) _⟩
  · have HE := Lib.hid (show decide (L = M) = false from decide_eq_false (fun e => hlen (by rw [e])))
    have hne : ¬ ((L.length : Int) = (M.length : Int)) := by omega
    have hne2 : ((L.length : Int) != (M.length : Int)) = true := by simp; omega
    have hne3 : decide (L.length = M.length) = false := decide_eq_false hlen
    have hne4 : (L.length != M.length) = true := by simpa using hlen
    clear hlen
    generalize L.length = n at *
    generalize M.length = m at *
    go_enter Try.func47, Try.ntmps47
    go_wp2
    go_ret
    rw [HE.out]
    exact ⟨rfl, Below.refl _ _⟩
end Tab
end Go.Proofs.Ytbeoclcnajfjcaa
