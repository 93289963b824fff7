/-
  The document's Right, Find, Same. Conditions: those that each theorem names.
-/
import Derived.Test.YtbeoclcnajfjcaaRefP
import Derived.Test.YtbeoclcnajfjcaaTabF
namespace Go.Proofs.Ytbeoclcnajfjcaa
open Go Go.RowKit H2
set_option linter.unusedVariables false
set_option linter.unusedSimpArgs false
namespace Tab
set_option maxRecDepth 100000 in
set_option maxHeartbeats 4000000 in
theorem refR_any (r : Rt) (w : World) : Calls Try.prog 27 #[.agg (encR r).toArray] w fun e w' => e = .returned (.bool (right r)) ∧ Below w.heap.size w w' := by
  cases hp : rightP r.to
  · have HV := Lib.hid hp
    have HR := Lib.hid (show right r = false by unfold right; rw [hp]; rfl)
    clear hp
    go_enter Try.func27, Try.ntmps27
    go_upto_region 1 with fail
    have H := Lib.hid (rAt_new w r 34 (0, 0))
    have hb := Lib.hid (show Below w.heap.size w (w.alloc (.cells (encR r).toArray 34 (0, 0))) from (Below.refl _ _).alloc (Nat.le_refl _) _)
    generalize w.alloc _ = W at H hb ⊢
    generalize w.heap.size = B at H ⊢
    have c0 := H.out.to.all.load (encP_n _) Try.prog
    go_wp2_with (go_at_call 45; (with_reducible refine (refRightP_any _ _).mono ?_); rintro e w2 ⟨rfl, hb2⟩; rw [HV.out]; have hb := Lib.hid (hb.out.trans (hb2.mono hb.out.size)); have c1 := (H.out.below hb2).met; clear hb2 c0)
    go_ret
    rw [HR.out]
    exact ⟨rfl, hb.out⟩
  · have HV := Lib.hid hp
    by_cases h0 : 0 ≤ r.metric
    · have h0' : decide (0 ≤ r.metric) = true := decide_eq_true h0
      by_cases h1 : r.metric < 65535
      · have h1' : decide (r.metric < 65535) = true := decide_eq_true h1
        have HR := Lib.hid (show right r = true by unfold right; rw [hp, h0', h1']; rfl)
        clear hp
        go_enter Try.func27, Try.ntmps27
        go_upto_region 1 with fail
        have H := Lib.hid (rAt_new w r 34 (0, 0))
        have hb := Lib.hid (show Below w.heap.size w (w.alloc (.cells (encR r).toArray 34 (0, 0))) from (Below.refl _ _).alloc (Nat.le_refl _) _)
        generalize w.alloc _ = W at H hb ⊢
        generalize w.heap.size = B at H ⊢
        have c0 := H.out.to.all.load (encP_n _) Try.prog
        go_wp2_with (go_at_call 45; (with_reducible refine (refRightP_any _ _).mono ?_); rintro e w2 ⟨rfl, hb2⟩; rw [HV.out]; have hb := Lib.hid (hb.out.trans (hb2.mono hb.out.size)); have c1 := (H.out.below hb2).met; clear hb2 c0)
        go_ret
        rw [HR.out]
        exact ⟨rfl, hb.out⟩
      · have h1' : decide (r.metric < 65535) = false := decide_eq_false h1
        have HR := Lib.hid (show right r = false by unfold right; rw [hp, h0', h1']; rfl)
        clear hp
        go_enter Try.func27, Try.ntmps27
        go_upto_region 1 with fail
        have H := Lib.hid (rAt_new w r 34 (0, 0))
        have hb := Lib.hid (show Below w.heap.size w (w.alloc (.cells (encR r).toArray 34 (0, 0))) from (Below.refl _ _).alloc (Nat.le_refl _) _)
        generalize w.alloc _ = W at H hb ⊢
        generalize w.heap.size = B at H ⊢
        have c0 := H.out.to.all.load (encP_n _) Try.prog
        go_wp2_with (go_at_call 45; (with_reducible refine (refRightP_any _ _).mono ?_); rintro e w2 ⟨rfl, hb2⟩; rw [HV.out]; have hb := Lib.hid (hb.out.trans (hb2.mono hb.out.size)); have c1 := (H.out.below hb2).met; clear hb2 c0)
        go_ret
        rw [HR.out]
        exact ⟨rfl, hb.out⟩
    · have h0' : decide (0 ≤ r.metric) = false := decide_eq_false h0
      have HR := Lib.hid (show right r = false by unfold right; rw [hp, h0']; rfl)
      clear hp
      go_enter Try.func27, Try.ntmps27
      go_upto_region 1 with fail
      have H := Lib.hid (rAt_new w r 34 (0, 0))
      have hb := Lib.hid (show Below w.heap.size w (w.alloc (.cells (encR r).toArray 34 (0, 0))) from (Below.refl _ _).alloc (Nat.le_refl _) _)
      generalize w.alloc _ = W at H hb ⊢
      generalize w.heap.size = B at H ⊢
      have c0 := H.out.to.all.load (encP_n _) Try.prog
      go_wp2_with (go_at_call 45; (with_reducible refine (refRightP_any _ _).mono ?_); rintro e w2 ⟨rfl, hb2⟩; rw [HV.out]; have hb := Lib.hid (hb.out.trans (hb2.mono hb.out.size)); have c1 := (H.out.below hb2).met; clear hb2 c0)
      go_ret
      rw [HR.out]
      exact ⟨rfl, hb.out⟩
set_option maxRecDepth 100000 in
set_option maxHeartbeats 4000000 in
theorem refFind_any (A : Option Addr) (cap : Nat) (L : List Rt) (hL : L.length ≤ 1000000) (p : Pf) (w : World) (hr : Rd w A L) :
    Calls Try.prog 19 #[.slice A L.length cap, .agg (encP p).toArray] w fun e w' => e = .returned (.int .i64 (fnd L p)) ∧ Below w.heap.size w w' := by
  have HR := Lib.hid hr
  obtain ⟨n, hn⟩ : ∃ n, L.length = n := ⟨_, rfl⟩
  have HN := Lib.hid hn
  rw [hn]
  rw [hn] at hL
  clear hr hn
  go_enter Try.func19, Try.ntmps19
  go_upto_region 1 with fail
  have H := Lib.hid (PAt.mk (at_new w (encP p) 25 (0, 0)))
  have hb := Lib.hid (show Below w.heap.size w (w.alloc (.cells (encP p).toArray 25 (0, 0))) from (Below.refl _ _).alloc (Nat.le_refl _) _)
  generalize w.alloc _ = W at H hb ⊢
  generalize w.heap.size = B at H ⊢
  go_wp2
  go_loopw [5] (fun s5 wr => ∃ k : Nat, k ≤ n ∧ s5 = .int .i64 k ∧ (∀ j (hj : j < L.length), j < k → L[j].to ≠ p) ∧ ∃ q, wr = W.drewN q) (fun s5 _ => n - (intOf s5).toNat)
  case atStart => exact ⟨0, by omega, rfl, fun j _ h => absurd h (by omega), 0, rfl⟩
  case round =>
    obtain ⟨k, hk, rfl, hne, q, hq⟩ := hrel
    have HNE := Lib.hid hne
    have HQ := Lib.hid hq
    clear hne hq
    by_cases hlt : k < n
    · have hlt' : (k : Int) < (n : Int) := by omega
      have k0 : (0 : Int) ≤ (k : Int) := by omega
      have hkl : k < L.length := by rw [HN.out]; exact hlt
      obtain ⟨b, o, rfl, hra⟩ := HR.out k hkl
      have hra := (hra.below hb.out).drewN q
      have hl1 : ∀ m, Sem.run Try.prog (loadCellsFrom ⟨b, o + k * n20, none⟩ 0 n18 #[]) (wr.drewN m) = .ok (encP L[k].to).toArray (wr.drewN m) := fun m => by
        rw [HQ.out]
        exact (hra.drewN m).to.all.load (k := n18) (encP_n _) Try.prog
      have hl2 : ∀ m, Sem.run Try.prog (loadCellsFrom ⟨B, 0, none⟩ 0 n18 #[]) (wr.drewN m) = .ok (encP p).toArray (wr.drewN m) := fun m => by
        rw [HQ.out]
        exact ((H.out.drewN q).drewN m).all.load (k := n18) (encP_n _) Try.prog
      clear hra
      by_cases he : L[k].to = p
      · have HE := Lib.hid (fnd_at hkl he HNE.out)
        rw [he] at hl1
        clear he
        go_wp2
        go_quiet (fail)
        go_wp2
        go_ret
        rw [HE.out]
        exact ⟨rfl, by rw [HQ.out]; exact bdN (bdN hb.out _) _⟩
      · have hd : decide (L[k].to = p) = false := decide_eq_false he
        have HE := Lib.hid he
        clear he
        generalize L[k].to = x at hl1 hd
        go_wp2
        go_quiet (fail)
        go_wp2
        go_roundw
        case rel => exact ⟨k + 1, by omega, by go_num, fun j hj h => by
          rcases Nat.lt_succ_iff_lt_or_eq.1 h with h | rfl
          · exact HNE.out j hj h
          · exact HE.out, _, by rw [HQ.out]; exact drewN2 W _ _⟩
        case measure => simp [intOf]; omega
    · have HE := Lib.hid (fnd_none (fun j hj => HNE.out j hj (by have := HN.out; omega)))
      have hlt' : ¬ (k : Int) < (n : Int) := by omega
      go_wp2
      go_ret
      rw [HE.out]
      exact ⟨rfl, by rw [HQ.out]; exact bdN hb.out _⟩
set_option maxRecDepth 100000 in
set_option maxHeartbeats 4000000 in
theorem refSame_any (A B : Option Addr) (cap cap' : Nat) (L M : List Rt) (hL : L.length ≤ 1000000) (hM : M.length ≤ 1000000) (w : World) (hr : Rd w A L) (hs : Rd w B M) :
    Calls Try.prog 21 #[.slice A L.length cap, .slice B M.length cap'] w fun e w' => e = .returned (.bool (decide (L = M))) ∧ Below w.heap.size w w' := by
  have HR := Lib.hid hr
  have HS := Lib.hid hs
  clear hr hs
  by_cases hlen : L.length = M.length
  · have HL := Lib.hid hlen
    obtain ⟨n, hn⟩ : ∃ n, L.length = n := ⟨_, rfl⟩
    have HLN := Lib.hid hn
    rw [← hlen, hn]
    rw [hn] at hL
    clear hM hlen hn
    go_enter Try.func21, Try.ntmps21
    go_wp2
    go_loopw [5] (fun s5 wr => ∃ k : Nat, k ≤ n ∧ s5 = .int .i64 k ∧ L.take k = M.take k ∧ ∃ q, wr = w.drewN q) (fun s5 _ => n - (intOf s5).toNat)
    case atStart => exact ⟨0, by omega, rfl, rfl, 0, rfl⟩
    case round =>
      obtain ⟨k, hk, rfl, hn, q, hq⟩ := hrel
      have HN := Lib.hid hn
      have HQ := Lib.hid hq
      clear hn hq
      by_cases hlt : k < n
      · have hlt' : (k : Int) < (n : Int) := by omega
        have k0 : (0 : Int) ≤ (k : Int) := by omega
        have h1 : k < L.length := by rw [HLN.out]; exact hlt
        have h2 : k < M.length := by rw [← HL.out]; exact h1
        obtain ⟨b, o, rfl, hra⟩ := HR.out k h1
        obtain ⟨b', o', rfl, hrb⟩ := HS.out k h2
        have hl1 : ∀ m, Sem.run Try.prog (loadCellsFrom ⟨b, o + k * n20, none⟩ 0 n20 #[]) (wr.drewN m) = .ok (encR L[k]).toArray (wr.drewN m) := fun m => by
          rw [HQ.out]
          exact ((hra.drewN q).drewN m).all.load (k := n20) (encR_n _) Try.prog
        have hl2 : ∀ m, Sem.run Try.prog (loadCellsFrom ⟨b', o' + k * n20, none⟩ 0 n20 #[]) (wr.drewN m) = .ok (encR M[k]).toArray (wr.drewN m) := fun m => by
          rw [HQ.out]
          exact ((hrb.drewN q).drewN m).all.load (k := n20) (encR_n _) Try.prog
        have HT1 := Lib.hid (List.take_append_getElem h1)
        have HT2 := Lib.hid (List.take_append_getElem h2)
        by_cases he : L[k] = M[k]
        · have HE := Lib.hid he
          rw [← he] at hl2
          clear hra hrb he
          generalize L[k] = x at hl1 hl2
          have hd : decide (x = x) = true := by simp
          go_wp2
          go_quiet (fail)
          go_wp2
          go_roundw
          case rel => exact ⟨k + 1, by omega, by go_num, by rw [← HT1.out, ← HT2.out, HN.out, HE.out], _, by rw [HQ.out]; exact drewN2 w _ _⟩
          case measure => simp [intOf]; omega
        · have HE := Lib.hid (show decide (L = M) = false from decide_eq_false (fun e => he (by subst e; rfl)))
          have hd : decide (L[k] = M[k]) = false := decide_eq_false he
          clear hra hrb he
          generalize L[k] = x at hl1 hl2 hd
          generalize M[k] = y at hl2 hd
          go_wp2
          go_quiet (fail)
          go_wp2
          go_ret
          rw [HE.out]
          exact ⟨rfl, by rw [HQ.out]; exact bdN (bdN (Below.refl _ _) _) _⟩
      · obtain rfl : k = n := by omega
        have HE := Lib.hid (show decide (L = M) = true from decide_eq_true (by
          have := HN.out
          rw [List.take_of_length_le (by rw [HLN.out]; exact Nat.le_refl _), List.take_of_length_le (by rw [← HL.out, HLN.out]; exact Nat.le_refl _)] at this
          exact this))
        go_wp2
        go_ret
        rw [HE.out]
        exact ⟨rfl, by rw [HQ.out]; exact bdN (Below.refl _ _) _⟩
  · have HE := Lib.hid (show decide (L = M) = false from decide_eq_false (fun e => hlen (by rw [e])))
    have hne : ¬ ((L.length : Int) = (M.length : Int)) := by omega
    have hne2 : ((L.length : Int) != (M.length : Int)) = true := by simp; omega
    have hne3 : decide (L.length = M.length) = false := decide_eq_false hlen
    have hne4 : (L.length != M.length) = true := by simpa using hlen
    go_enter Try.func21, Try.ntmps21
    go_wp2
    go_ret
    rw [HE.out]
    exact ⟨rfl, Below.refl _ _⟩
end Tab
end Go.Proofs.Ytbeoclcnajfjcaa
