/-
  table.New. Conditions: those that each theorem names.
-/
import Derived.Test.YtbeoclcnajfjcaaTd
import Derived.Test.YtbeoclcnajfjcaaTabF
namespace Go.Proofs.Ytbeoclcnajfjcaa
open Go Go.RowKit H2
set_option linter.unusedVariables false
set_option linter.unusedSimpArgs false
namespace Tab
/-- what New answers: no table and a code, or a table -/
def Made (w w' : World) (L : List Rt) (e : Ending) : Prop :=
  (newC L ≠ 0 ∧ e = .returned (.tuple #[.pointer none, .int .i64 (newC L)])) ∨
  (newC L = 0 ∧ ∃ b v, e = .returned (.tuple #[.pointer (some ⟨b, 0, none⟩), .int .i64 0]) ∧ Tb w.heap.size w' b v (fold L))
set_option maxRecDepth 100000 in
set_option maxHeartbeats 8000000 in
theorem new_any (A : Option Addr) (cap : Nat) (L : List Rt) (hL : L.length ≤ 1000000) (w : World) (hv : Rv w (.slice A L.length cap) A cap L) :
    Calls Try.prog 11 #[.slice A L.length cap] w fun e w' => Made w w' L e ∧ Below w.heap.size w w' := by
  have HV := Lib.hid hv
  have HCO := Lib.hid (contains_any (fun r => !right r) 36 #[] (enters_of Try.func36 (by kernel_rfl) rfl) A cap L hL w hv.rd (fun W x _ => new1_any x W))
  clear hv
  obtain ⟨n, hn⟩ : ∃ n, L.length = n := ⟨_, rfl⟩
  have HN := Lib.hid hn
  rw [hn] at HCO hL ⊢
  clear hn
  by_cases ha : L.any (fun r => !right r) = true
  · have HA := Lib.hid ha
    have HC := Lib.hid (show newC L = 1 by unfold newC; rw [if_pos ha])
    clear ha
    go_enter Try.func11, Try.ntmps11
    go_wp2_with (go_at_call 35; (with_reducible refine (HCO.out).mono ?_); rintro e w2 ⟨rfl, hb2⟩; rw [HA.out]; have hb := Lib.hid hb2; clear hb2)
    go_ret2
    exact ⟨.inl ⟨by rw [HC.out]; decide, by rw [HC.out]; rfl⟩, hb.out⟩
  · have ha' : L.any (fun r => !right r) = false := by simpa using ha
    have HA := Lib.hid ha'
    have HOK := Lib.hid (show ∀ r ∈ L, right r = true by simpa using ha')
    have HC := Lib.hid (show newC L = if dup L = true then 9 else if 300 < L.length then 7 else 0 by unfold newC; rw [if_neg ha])
    clear ha ha'
    have HSO := Lib.hid (fun (W : World) (hb : Below w.heap.size w W) => sortedFunc_any W.heap.size (.slice A n cap) L (by rw [HN.out]; exact hL) (W.alloc (.cells #[.slice A n cap] 31)) (by simp) (blk_cell (heap_alloc_new W _) 0) (by
      have h := (HV.out.below (hb.alloc hb.size (.cells #[.slice A n cap] 31))).rds
      rw [HN.out] at h
      exact h))
    go_enter Try.func11, Try.ntmps11
    go_upto_region 4 with (first
      | (go_at_call 35; (with_reducible refine (HCO.out).mono ?_); rintro e w2 ⟨rfl, hb2⟩; rw [HA.out]; have hb := Lib.hid hb2; clear hb2)
      | (go_at_call 38; (with_reducible refine (values_any _ _ _ _).mono ?_); rintro e w3 ⟨rfl, hw3⟩)
      | (go_at_call 37; (with_reducible refine (hw3 ▸ HSO.out _ hb.out).mono ?_); rintro e w4 ⟨v, L', rfl, hs, ho, hb4⟩; have HS := Lib.hid hs; have HO := Lib.hid ho; have HB := Lib.hid hb4; clear hs ho hb4))
    have HLEN := Lib.hid (show L'.length = n by rw [HS.out.perm.length_eq, HN.out])
    have HOL := Lib.hid (show w4.ownsRow w.heap.size 34 20 v L'.length (flat L') by
      have := HO.out
      rw [HN.out, ← HLEN.out] at this
      exact own_le this (by subst hw3; exact Nat.le_trans hb.out.size (by simp)))
    have HBB := Lib.hid (show Below w.heap.size w w4 by subst hw3; exact (hb.out.alloc hb.out.size _).trans (HB.out.mono (Nat.le_trans hb.out.size (by simp))))
    clear hw3 hb HO HB HSO HCO
    obtain ⟨A', cap', hv', _⟩ := own_rv HOL.out
    obtain rfl := hv'.eq
    have HR' := Lib.hid hv'.rd
    rw [HLEN.out]
    clear hv'
    go_wp2
    go_loopw [4] (fun s4 wr => ∃ i : Nat, (i ≤ n ∨ i = 0) ∧ s4 = .int .i64 (i + 1 : Nat) ∧ (∀ j (h : j + 1 < L'.length), j < i → L'[j].to ≠ L'[j + 1].to) ∧ ∃ q, wr = w4.drewN q) (fun s4 _ => n - (intOf s4).toNat)
    case atStart => exact ⟨0, .inr rfl, rfl, fun j _ h => absurd h (by omega), 0, rfl⟩
    case round =>
      obtain ⟨k, hk, rfl, hne, q, hq⟩ := hrel
      have HNE := Lib.hid hne
      have HQ := Lib.hid hq
      clear hne hq
      by_cases hlt : k + 1 < n
      · have hlt' : (k : Int) + 1 < (n : Int) := by omega
        have hlt2 : (k : Int) < (n : Int) := by omega
        have k0 : (0 : Int) ≤ (k : Int) := by omega
        have k1 : (0 : Int) ≤ (k : Int) + 1 := by omega
        have kt : ((k : Int) + 1).toNat = k + 1 := by omega
        have kw : IntKind.i64.wrap (k : Int) = (k : Int) := IntWalk.i64_in _ (by omega)
        have h1 : k < L'.length := by rw [HLEN.out]; omega
        have h2 : k + 1 < L'.length := by rw [HLEN.out]; omega
        obtain ⟨b, o, rfl, hra⟩ := HR'.out k h1
        obtain ⟨b', o', e', hrb⟩ := HR'.out (k + 1) h2
        cases e'
        have hl1 : ∀ m, Sem.run Try.prog (loadCellsFrom ⟨b, o + k * n20, none⟩ 0 n18 #[]) (wr.drewN m) = .ok (encP L'[k].to).toArray (wr.drewN m) := fun m => by
          rw [HQ.out]
          exact ((hra.drewN q).drewN m).to.all.load (k := n18) (encP_n _) Try.prog
        have hl2 : ∀ m, Sem.run Try.prog (loadCellsFrom ⟨b, o + (k + 1) * n20, none⟩ 0 n18 #[]) (wr.drewN m) = .ok (encP L'[k + 1].to).toArray (wr.drewN m) := fun m => by
          rw [HQ.out]
          exact ((hrb.drewN q).drewN m).to.all.load (k := n18) (encP_n _) Try.prog
        clear hra hrb
        by_cases he : L'[k].to = L'[k + 1].to
        · have HC' := Lib.hid (show newC L = 9 by rw [HC.out, if_pos (is_dup HS.out h2 he)])
          rw [← he] at hl2
          clear he
          generalize L'[k].to = x at hl1 hl2
          go_wp2
          go_quiet (fail)
          go_wp2
          go_ret2
          exact ⟨.inl ⟨by rw [HC'.out]; decide, by rw [HC'.out]; rfl⟩, by rw [HQ.out]; exact bdN (bdN HBB.out _) _⟩
        · have hd : decide (L'[k].to = L'[k + 1].to) = false := decide_eq_false he
          have HE := Lib.hid he
          clear he
          obtain ⟨x, hx⟩ : ∃ x, L'[k].to = x := ⟨_, rfl⟩
          obtain ⟨y, hy⟩ : ∃ y, L'[k + 1].to = y := ⟨_, rfl⟩
          rw [hx] at hl1 hd
          rw [hy] at hl2 hd
          clear hx hy
          go_wp2
          go_quiet (fail)
          go_wp2
          go_roundw
          case rel => exact ⟨k + 1, .inl (by omega), by go_num, fun j hj h => by
            rcases Nat.lt_succ_iff_lt_or_eq.1 h with h | rfl
            · exact HNE.out j hj h
            · exact HE.out, _, by rw [HQ.out]; exact drewN2 w4 _ _⟩
          case measure => simp [intOf]; omega
      · have HD := Lib.hid (no_dup HS.out (fun i hi => HNE.out i hi (by have := HLEN.out; omega)))
        have hlt' : ¬ (k : Int) + 1 < (n : Int) := by omega
        clear hk hlt
        by_cases h3 : 300 < n
        · have h3' : (300 : Int) < (n : Int) := by omega
          have HC' := Lib.hid (show newC L = 7 by rw [HC.out, HD.out, HN.out, if_neg (by simp), if_pos h3])
          go_wp2
          go_ret2
          exact ⟨.inl ⟨by rw [HC'.out]; decide, by rw [HC'.out]; rfl⟩, by rw [HQ.out]; exact bdN HBB.out _⟩
        · have h3' : ¬ (300 : Int) < (n : Int) := by omega
          have HC' := Lib.hid (show newC L = 0 by rw [HC.out, HD.out, HN.out, if_neg (by simp), if_neg h3])
          have HF := Lib.hid (sort_fold HS.out HD.out)
          go_wp2
          go_ret2
          have hfb : Below w.heap.size w wr := by rw [HQ.out]; exact bdN HBB.out _
          have ho : wr.ownsRow w.heap.size 34 20 (.slice A' n cap') (fold L).length (flat (fold L)) := by
            have := own_below HOL.out (bdN (Below.refl w4.heap.size w4) q)
            rw [HLEN.out, ← HQ.out] at this
            rw [← HF.out, HLEN.out]
            exact this
          exact ⟨.inr ⟨HC'.out, _, _, rfl, tb_new ho ⟨(fold_of HD.out).1, fun r hr => HOK.out r ((fold_of HD.out).2.1 r |>.1 hr), by rw [(fold_of HD.out).2.2, HN.out]; omega⟩ hfb.size⟩, hfb.alloc hfb.size _⟩
end Tab
end Go.Proofs.Ytbeoclcnajfjcaa
