/-
  The document's SameIncs. Conditions: those that each theorem names.
-/
import Derived.Test.YtbeoclcnajfjcaaTd
import Derived.Test.YtbeoclcnajfjcaaTabA
namespace Go.Proofs.Ytbeoclcnajfjcaa
open Go Go.RowKit H2
set_option linter.unusedVariables false
set_option linter.unusedSimpArgs false
namespace Tab
set_option maxRecDepth 100000 in
set_option maxHeartbeats 4000000 in
theorem refSameI_any (A B : Option Addr) (cap cap' : Nat) (L M : List In) (hL : L.length ≤ 1000000) (hM : M.length ≤ 1000000) (w : World) (hr : RdI w A L) (hs : RdI w B M) :
    Calls Try.prog 30 #[.slice A L.length cap, .slice B M.length cap'] w fun e w' => e = .returned (.bool (decide (L = M))) ∧ Below w.heap.size w w' := by
  have HR := Lib.hid hr
  have HS := Lib.hid hs
  clear hr hs
  by_cases hlen : L.length = M.length
  · have HL := Lib.hid hlen
    obtain ⟨n, hn⟩ : ∃ n, L.length = n := ⟨_, rfl⟩
    have HLN := Lib.hid hn
    rw [← hlen, hn]
    rw [hn] at hL
    clear hM hlen hn
    go_enter Try.func30, Try.ntmps30
    go_wp2
    go_loopw [5] (fun s5 wr => ∃ k : Nat, k ≤ n ∧ s5 = .int .i64 k ∧ L.take k = M.take k ∧ ∃ q, wr = w.drewN q) (fun s5 _ => n - (intOf s5).toNat)
    case atStart => exact ⟨0, by omega, rfl, rfl, 0, rfl⟩
    case round =>
      obtain ⟨k, hk, rfl, hn, q, hq⟩ := hrel
      have HN := Lib.hid hn
      have HQ := Lib.hid hq
      clear hn hq
      by_cases hlt : k < n
      · have hlt' : (k : Int) < (n : Int) := by omega
        have k0 : (0 : Int) ≤ (k : Int) := by omega
        have h1 : k < L.length := by rw [HLN.out]; exact hlt
        have h2 : k < M.length := by rw [← HL.out]; exact h1
        obtain ⟨b, o, rfl, hra⟩ := HR.out k h1
        obtain ⟨b', o', rfl, hrb⟩ := HS.out k h2
        have hl1 : ∀ m, Sem.run Try.prog (loadCellsFrom ⟨b, o + k * n21, none⟩ 0 n21 #[]) (wr.drewN m) = .ok (encI L[k]).toArray (wr.drewN m) := fun m => by
          rw [HQ.out]
          exact ((hra.drewN q).drewN m).all.load (k := n21) (encI_n _) Try.prog
        have hl2 : ∀ m, Sem.run Try.prog (loadCellsFrom ⟨b', o' + k * n21, none⟩ 0 n21 #[]) (wr.drewN m) = .ok (encI M[k]).toArray (wr.drewN m) := fun m => by
          rw [HQ.out]
          exact ((hrb.drewN q).drewN m).all.load (k := n21) (encI_n _) Try.prog
        have HT1 := Lib.hid (List.take_append_getElem h1)
        have HT2 := Lib.hid (List.take_append_getElem h2)
        by_cases he : L[k] = M[k]
        · have HE := Lib.hid he
          rw [← he] at hl2
          clear hra hrb he
          generalize L[k] = x at hl1 hl2
          have hd : decide (x = x) = true := by simp
          go_wp2
          go_quiet (fail)
          go_wp2
          go_roundw
          case rel => exact ⟨k + 1, by omega, by go_num, by rw [← HT1.out, ← HT2.out, HN.out, HE.out], _, by rw [HQ.out]; exact drewN2 w _ _⟩
          case measure => simp [intOf]; omega
        · have HE := Lib.hid (show decide (L = M) = false from decide_eq_false (fun e => he (by subst e; rfl)))
          have hd : decide (L[k] = M[k]) = false := decide_eq_false he
          clear hra hrb he
          generalize L[k] = x at hl1 hl2 hd
          generalize M[k] = y at hl2 hd
          go_wp2
          go_quiet (fail)
          go_wp2
          go_ret
          rw [HE.out]
          exact ⟨rfl, by rw [HQ.out]; exact bdN (bdN (Below.refl _ _) _) _⟩
      · obtain rfl : k = n := by omega
        have HE := Lib.hid (show decide (L = M) = true from decide_eq_true (by
          have := HN.out
          rw [List.take_of_length_le (by rw [HLN.out]; exact Nat.le_refl _), List.take_of_length_le (by rw [← HL.out, HLN.out]; exact Nat.le_refl _)] at this
          exact this))
        go_wp2
        go_ret
        rw [HE.out]
        exact ⟨rfl, by rw [HQ.out]; exact bdN (Below.refl _ _) _⟩
  · have HE := Lib.hid (show decide (L = M) = false from decide_eq_false (fun e => hlen (by rw [e])))
    have hne : ¬ ((L.length : Int) = (M.length : Int)) := by omega
    have hne2 : ((L.length : Int) != (M.length : Int)) = true := by simp; omega
    have hne3 : decide (L.length = M.length) = false := decide_eq_false hlen
    have hne4 : (L.length != M.length) = true := by simpa using hlen
    go_enter Try.func30, Try.ntmps30
    go_wp2
    go_ret
    rw [HE.out]
    exact ⟨rfl, Below.refl _ _⟩
end Tab
end Go.Proofs.Ytbeoclcnajfjcaa
