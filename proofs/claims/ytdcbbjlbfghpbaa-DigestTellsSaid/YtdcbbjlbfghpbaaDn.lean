/-
  Joined texts: RefG DigX DigY. Conditions: those that each theorem names.
-/
import Derived.Test.YtdcbbjlbfghpbaaRefC
import Derived.Test.YtdcbbjlbfghpbaaDj
import Derived.Test.YtdcbbjlbfghpbaaDk
import Derived.Test.YtdcbbjlbfghpbaaMarkC
/-
  The document's New. Conditions: those that each theorem names.
-/
namespace Go.Proofs.Ytdcbbjlbfghpbaa
open Go Go.RowKit H2
set_option linter.unusedVariables false
set_option linter.unusedSimpArgs false
namespace Tab
/-- what New leaves -/
def newT (L : List Rt) : List Rt := if newC L = 0 then fold L else []
theorem newT_zero {L : List Rt} (h : newC L = 0) : newT L = fold L := by unfold newT; rw [if_pos h]
theorem newT_ne {L : List Rt} (h : newC L ≠ 0) : newT L = [] := by unfold newT; rw [if_neg h]
theorem rv_none (w : World) : Rv w (.slice none 0 0) none 0 [] := ⟨rfl, Nat.le_refl _, by decide, fun i hi => absurd hi (by simp), fun _ => rfl, fun a e => by cases e⟩
theorem dup_at {L : List Rt} {k : Nat} (hk : k < L.length) (h : has (L.take k) L[k].to = true) : dup L = true := by
  obtain ⟨r, hr, e⟩ := has_iff.1 h
  obtain ⟨j, hj, rfl⟩ := List.getElem_of_mem hr
  rw [List.length_take] at hj
  rw [List.getElem_take] at e
  unfold dup
  have : ¬ (L.map Rt.to).Nodup := fun hn => by
    unfold List.Nodup at hn
    rw [List.pairwise_map] at hn
    exact (List.pairwise_iff_getElem.1 hn) j k (by omega) hk (by omega) e
  simpa using this
theorem dup_not {L : List Rt} (h : ∀ k (hk : k < L.length), has (L.take k) L[k].to = false) : dup L = false := by
  unfold dup
  have : (L.map Rt.to).Nodup := by
    unfold List.Nodup
    rw [List.pairwise_map, List.pairwise_iff_getElem]
    intro i j hi hj hij e
    have := has_false.1 (h j hj) L[i] (List.mem_of_getElem (i := i) (h := by rw [List.length_take]; omega) (by rw [List.getElem_take]))
    exact this e
  simpa using this
theorem fold_step {L : List Rt} {k : Nat} (hk : k < L.length) : fold (L.take (k + 1)) = ins (fold (L.take k)) L[k] := by
  unfold fold
  rw [← List.take_append_getElem hk, List.foldl_append]
  rfl
theorem dup_take {L : List Rt} (h : dup L = false) (k : Nat) : dup (L.take k) = false := by
  unfold dup at h ⊢
  simp only [Bool.not_eq_false', decide_eq_true_eq] at h ⊢
  exact List.Nodup.sublist ((List.take_sublist k L).map Rt.to) h
theorem fold_tok {L : List Rt} (h : dup L = false) (hr : ∀ r ∈ L, right r = true) (hl : L.length ≤ 300) : TOk (fold L) :=
  ⟨(fold_of h).1, fun r hm => hr r ((fold_of h).2.1 r |>.1 hm), by rw [(fold_of h).2.2]; exact hl⟩
set_option maxRecDepth 100000 in
set_option maxHeartbeats 16000000 in
theorem refNew_any (A : Option Addr) (cap : Nat) (L : List Rt) (hL : L.length ≤ 1000000) (w : World) (hv : Rv w (.slice A L.length cap) A cap L) :
    Calls Try.prog 47 #[.slice A L.length cap] w fun e w' => Lst w w' (newT L) (newC L) e ∧ Below w.heap.size w w' := by
  have HV := Lib.hid (fun (W : World) (hb : Below w.heap.size w W) => hv.below hb)
  have hnc := hv.len
  have hcm := hv.capm
  unfold maxLen at hcm
  clear hv
  obtain ⟨n, hn⟩ : ∃ n, L.length = n := ⟨_, rfl⟩
  have HN := Lib.hid hn
  have HFI := Lib.hid (fun (W : World) (hb : Below w.heap.size w W) (k : Nat) (hk : k ≤ n) (p : Pf) => by
    have := refFind_any A cap (L.take k) (by rw [List.length_take]; omega) p W ((HV.out W hb).rd.take k)
    rw [List.length_take, hn, Nat.min_eq_left hk] at this
    exact this)
  rw [hn] at HV hnc hL ⊢
  clear hn
  go_enter Try.func47, Try.ntmps47
  go_wp2
  go_loopw [4] (fun s4 wr => ∃ k : Nat, k ≤ n ∧ s4 = .int .i64 k ∧ (∀ j (hj : j < L.length), j < k → right L[j] = true) ∧ Below w.heap.size w wr) (fun s4 _ => n - (intOf s4).toNat)
  case atStart => exact ⟨0, by omega, rfl, fun j _ h => absurd h (by omega), Below.refl _ _⟩
  case round =>
    obtain ⟨k, hk, rfl, hne, hb⟩ := hrel
    have HNE := Lib.hid hne
    have HB := Lib.hid hb
    clear hne hb
    by_cases hlt : k < n
    · have hlt' : (k : Int) < (n : Int) := by omega
      have k0 : (0 : Int) ≤ (k : Int) := by omega
      have hkl : k < L.length := by rw [HN.out]; exact hlt
      obtain ⟨b, o, rfl, hra⟩ := (HV.out _ HB.out).rd k hkl
      have hl1 : Sem.run Try.prog (loadCellsFrom ⟨b, o + k * n20, none⟩ 0 n20 #[]) wr = .ok (encR L[k]).toArray wr := hra.all.load (k := n20) (encR_n _) Try.prog
      clear hra
      by_cases hr : right L[k] = true
      · have HR := Lib.hid hr
        clear hr
        have HE := HR
        generalize L[k] = t at hl1 HR
        go_wp2_with (go_at_call 30; (with_reducible refine (refR_any _ _).mono ?_); rintro e w3 ⟨rfl, hb3⟩; rw [HR.out]; have HB := Lib.hid (HB.out.trans (hb3.mono HB.out.size)); clear hb3 hl1)
        go_roundw
        case rel => exact ⟨k + 1, by omega, by go_num, fun j hj h => by
          rcases Nat.lt_succ_iff_lt_or_eq.1 h with h | rfl
          · exact HNE.out j hj h
          · exact HE.out, HB.out⟩
        case measure => simp [intOf]; omega
      · have HR := Lib.hid (show right L[k] = false by simpa using hr)
        have HC := Lib.hid (show newC L = 1 by unfold newC; rw [if_pos]; rw [List.any_eq_true]; exact ⟨L[k], List.getElem_mem hkl, by simpa using hr⟩)
        clear hr
        generalize L[k] = t at hl1 HR
        go_wp2_with (go_at_call 30; (with_reducible refine (refR_any _ _).mono ?_); rintro e w3 ⟨rfl, hb3⟩; rw [HR.out]; have HB := Lib.hid (HB.out.trans (hb3.mono HB.out.size)); clear hb3 hl1)
        go_ret2
        rw [newT_ne (by rw [HC.out]; decide), HC.out]
        exact ⟨⟨_, none, 0, rfl, rv_none _⟩, HB.out⟩
    · have HOK := Lib.hid (show ∀ r ∈ L, right r = true from fun r hr => by
        obtain ⟨j, hj, rfl⟩ := List.getElem_of_mem hr
        exact HNE.out j hj (by have := HN.out; omega))
      have hlt' : ¬ (k : Int) < (n : Int) := by omega
      have HC := Lib.hid (show newC L = if dup L = true then 9 else if 300 < L.length then 7 else 0 by unfold newC; rw [if_neg]; rw [List.any_eq_true]; rintro ⟨r, hr, h⟩; rw [HOK.out r hr] at h; cases h)
      clear hk hlt HNE
      have hnc2 : (n : Int) ≤ (cap : Int) := by omega
      go_wp2
      go_loopw [5] (fun s5 wr => ∃ k : Nat, k ≤ n ∧ s5 = .int .i64 k ∧ (∀ j (hj : j < L.length), j < k → has (L.take j) L[j].to = false) ∧ Below w.heap.size w wr) (fun s5 _ => n - (intOf s5).toNat)
      case atStart => exact ⟨0, by omega, rfl, fun j _ h => absurd h (by omega), HB.out⟩
      case round =>
        clear HB
        obtain ⟨k, hk, rfl, hne, hb⟩ := hrel
        have HNE := Lib.hid hne
        have HB := Lib.hid hb
        clear hne hb
        by_cases hlt : k < n
        · have hlt' : (k : Int) < (n : Int) := by omega
          have k0 : (0 : Int) ≤ (k : Int) := by omega
          have hkc : (k : Int) ≤ (cap : Int) := by omega
          have hkl : k < L.length := by rw [HN.out]; exact hlt
          obtain ⟨b, o, rfl, hra⟩ := (HV.out _ HB.out).rd k hkl
          have HX := Lib.hid hra
          have HFK := Lib.hid (fun (W : World) (hb : Below w.heap.size w W) => HFI.out W hb k hk L[k].to)
          have HDA := Lib.hid (fun h => dup_at hkl h)
          have HFH := Lib.hid (fnd_has (L := L.take k) (p := L[k].to))
          have HNE2 := Lib.hid (show has (L.take k) L[k].to = false → ∀ j (hj : j < L.length), j < k + 1 → has (L.take j) L[j].to = false from fun h j hj hjk => by
            rcases Nat.lt_succ_iff_lt_or_eq.1 hjk with h' | rfl
            · exact HNE.out j hj h'
            · exact h)
          clear hra
          generalize has (L.take k) L[k].to = hs at HDA HFH HNE2
          generalize fnd (L.take k) L[k].to = fp at HFK HFH
          generalize L[k] = t at HX HFK
          cases hs with
          | true =>
            have hfp : (0 : Int) ≤ fp := HFH.out.2 rfl
            have HC' := Lib.hid (show newC L = 9 by rw [HC.out, if_pos (HDA.out rfl)])
            go_upto_region 9 with fail
            have HX := Lib.hid HX.out.drew
            have HB := Lib.hid HB.out.drew
            refine wp_region_held_drew (S := (fun w' => RAt w' b (o + k * 20) t)) (by kernel_rfl) HX.out (fun _ => ?_)
            refine held_take 0 26 (v := ?_) rfl rfl (by kernel_rfl) (by kernel_rfl) (by kernel_rfl) (fun _ _ _ h => h) (by rfl) ?_ HX.out ?_
            rotate_left
            · (intro w hSw; (try dsimp only at hSw); have a0 : Sem.run Try.prog (loadCellsFrom ⟨b, o + k * n20, none⟩ 0 n18 #[]) w = .ok (encP t.to).toArray w := hSw.to.all.load (k := n18) (encP_n _) Try.prog; clear hSw;try simp only [List.getElem_toArray, List.getElem_cons_zero, List.getElem_cons_succ]; go_simp; try (with_reducible rfl))
            try simp only [List.setIfInBounds_toArray, List.set_cons_zero, List.set_cons_succ]
            refine held_take 1 27 (v := ?_) rfl rfl (by kernel_rfl) (by kernel_rfl) (by kernel_rfl) (fun _ _ _ h => h) (by rfl) ?_ HX.out ?_
            rotate_left
            · (intro w hSw; (try dsimp only at hSw); have a0 : Sem.run Try.prog (loadCellsFrom ⟨b, o + k * n20, none⟩ 0 n18 #[]) w = .ok (encP t.to).toArray w := hSw.to.all.load (k := n18) (encP_n _) Try.prog; clear hSw;try simp only [List.getElem_toArray, List.getElem_cons_zero, List.getElem_cons_succ]; go_simp; try (with_reducible rfl))
            try simp only [List.setIfInBounds_toArray, List.set_cons_zero, List.set_cons_succ]
            refine held_take 2 28 (v := ?_) rfl rfl (by kernel_rfl) (by kernel_rfl) (by kernel_rfl) (fun _ _ _ h => h) (by rfl) ?_ HX.out ?_
            rotate_left
            · (intro w hSw; (try dsimp only at hSw); have a0 : Sem.run Try.prog (loadCellsFrom ⟨b, o + k * n20, none⟩ 0 n18 #[]) w = .ok (encP t.to).toArray w := hSw.to.all.load (k := n18) (encP_n _) Try.prog; clear hSw;try simp only [List.getElem_toArray, List.getElem_cons_zero, List.getElem_cons_succ]; go_simp; try (with_reducible rfl))
            try simp only [List.setIfInBounds_toArray, List.set_cons_zero, List.set_cons_succ]
            refine held_take 3 29 (v := ?_) rfl rfl (by kernel_rfl) (by kernel_rfl) (by kernel_rfl) (fun _ _ _ h => h) (by rfl) ?_ HX.out ?_
            rotate_left
            · (intro w hSw; (try dsimp only at hSw); have a0 : Sem.run Try.prog (loadCellsFrom ⟨b, o + k * n20, none⟩ 0 n18 #[]) w = .ok (encP t.to).toArray w := hSw.to.all.load (k := n18) (encP_n _) Try.prog; clear hSw;try simp only [List.getElem_toArray, List.getElem_cons_zero, List.getElem_cons_succ]; go_simp; try (with_reducible rfl))
            try simp only [List.setIfInBounds_toArray, List.set_cons_zero, List.set_cons_succ]
            refine held_take 4 30 (v := ?_) rfl rfl (by kernel_rfl) (by kernel_rfl) (by kernel_rfl) (fun _ _ _ h => h) (by rfl) ?_ HX.out ?_
            rotate_left
            · (intro w hSw; (try dsimp only at hSw); have a0 : Sem.run Try.prog (loadCellsFrom ⟨b, o + k * n20, none⟩ 0 n18 #[]) w = .ok (encP t.to).toArray w := hSw.to.all.load (k := n18) (encP_n _) Try.prog; clear hSw;try simp only [List.getElem_toArray, List.getElem_cons_zero, List.getElem_cons_succ]; go_simp; try (with_reducible rfl))
            try simp only [List.setIfInBounds_toArray, List.set_cons_zero, List.set_cons_succ]
            refine held_take 5 31 (v := ?_) rfl rfl (by kernel_rfl) (by kernel_rfl) (by kernel_rfl) (fun _ _ _ h => h) (by rfl) ?_ HX.out ?_
            rotate_left
            · (intro w hSw; (try dsimp only at hSw); have a0 : Sem.run Try.prog (loadCellsFrom ⟨b, o + k * n20, none⟩ 0 n18 #[]) w = .ok (encP t.to).toArray w := hSw.to.all.load (k := n18) (encP_n _) Try.prog; clear hSw;try simp only [List.getElem_toArray, List.getElem_cons_zero, List.getElem_cons_succ]; go_simp; try (with_reducible rfl))
            try simp only [List.setIfInBounds_toArray, List.set_cons_zero, List.set_cons_succ]
            refine held_take 6 32 (v := ?_) rfl rfl (by kernel_rfl) (by kernel_rfl) (by kernel_rfl) (fun _ _ _ h => h) (by rfl) ?_ HX.out ?_
            rotate_left
            · (intro w hSw; (try dsimp only at hSw); have a0 : Sem.run Try.prog (loadCellsFrom ⟨b, o + k * n20, none⟩ 0 n18 #[]) w = .ok (encP t.to).toArray w := hSw.to.all.load (k := n18) (encP_n _) Try.prog; clear hSw;try simp only [List.getElem_toArray, List.getElem_cons_zero, List.getElem_cons_succ]; go_simp; try (with_reducible rfl))
            try simp only [List.setIfInBounds_toArray, List.set_cons_zero, List.set_cons_succ]
            refine held_take 7 33 (v := ?_) rfl rfl (by kernel_rfl) (by kernel_rfl) (by kernel_rfl) (fun _ _ _ h => h) (by rfl) ?_ HX.out ?_
            rotate_left
            · (intro w hSw; (try dsimp only at hSw); have a0 : Sem.run Try.prog (loadCellsFrom ⟨b, o + k * n20, none⟩ 0 n18 #[]) w = .ok (encP t.to).toArray w := hSw.to.all.load (k := n18) (encP_n _) Try.prog; clear hSw;try simp only [List.getElem_toArray, List.getElem_cons_zero, List.getElem_cons_succ]; go_simp; try (with_reducible rfl))
            try simp only [List.setIfInBounds_toArray, List.set_cons_zero, List.set_cons_succ]
            refine held_call 8 34 rfl rfl (by kernel_rfl) (by rfl) (fun K hK => ?_)
            try simp only [List.getElem_toArray, List.getElem_cons_zero, List.getElem_cons_succ]
            go_simp
            (go_at_call 74; (with_reducible refine (HFK.out _ HB.out).mono ?_); rintro e w3 ⟨rfl, hb3⟩; have HX := Lib.hid (HX.out.below hb3); have HB := Lib.hid (HB.out.trans (hb3.mono HB.out.size)); clear hb3)
            try go_wp2_with fail
            try simp only [Act.put, List.setIfInBounds_toArray, List.set_cons_zero, List.set_cons_succ]
            refine hK.out _ _ _ HX.out ?_
            clear hK K
            refine held_take 9 35 (v := ?_) rfl rfl (by kernel_rfl) (by kernel_rfl) (by kernel_rfl) (fun _ _ _ h => h) (by rfl) ?_ HX.out ?_
            rotate_left
            · (intro w hSw; (try dsimp only at hSw); have a0 : Sem.run Try.prog (loadCellsFrom ⟨b, o + k * n20, none⟩ 0 n18 #[]) w = .ok (encP t.to).toArray w := hSw.to.all.load (k := n18) (encP_n _) Try.prog; clear hSw;try simp only [List.getElem_toArray, List.getElem_cons_zero, List.getElem_cons_succ]; go_simp; try (with_reducible rfl))
            try simp only [List.setIfInBounds_toArray, List.set_cons_zero, List.set_cons_succ]
            refine wpAnyH_done (by kernel_rfl) ?_ _
            go_wp2
            go_ret2
            rw [newT_ne (by rw [HC'.out]; decide), HC'.out]
            exact ⟨⟨_, none, 0, rfl, rv_none _⟩, HB.out⟩
          | false =>
            have hfp : ¬ (0 : Int) ≤ fp := fun h => by have := HFH.out.1 h; cases this
            have hfp2 : decide ((0 : Int) ≤ fp) = false := decide_eq_false hfp
            go_upto_region 9 with fail
            have HX := Lib.hid HX.out.drew
            have HB := Lib.hid HB.out.drew
            refine wp_region_held_drew (S := (fun w' => RAt w' b (o + k * 20) t)) (by kernel_rfl) HX.out (fun _ => ?_)
            refine held_take 0 26 (v := ?_) rfl rfl (by kernel_rfl) (by kernel_rfl) (by kernel_rfl) (fun _ _ _ h => h) (by rfl) ?_ HX.out ?_
            rotate_left
            · (intro w hSw; (try dsimp only at hSw); have a0 : Sem.run Try.prog (loadCellsFrom ⟨b, o + k * n20, none⟩ 0 n18 #[]) w = .ok (encP t.to).toArray w := hSw.to.all.load (k := n18) (encP_n _) Try.prog; clear hSw;try simp only [List.getElem_toArray, List.getElem_cons_zero, List.getElem_cons_succ]; go_simp; try (with_reducible rfl))
            try simp only [List.setIfInBounds_toArray, List.set_cons_zero, List.set_cons_succ]
            refine held_take 1 27 (v := ?_) rfl rfl (by kernel_rfl) (by kernel_rfl) (by kernel_rfl) (fun _ _ _ h => h) (by rfl) ?_ HX.out ?_
            rotate_left
            · (intro w hSw; (try dsimp only at hSw); have a0 : Sem.run Try.prog (loadCellsFrom ⟨b, o + k * n20, none⟩ 0 n18 #[]) w = .ok (encP t.to).toArray w := hSw.to.all.load (k := n18) (encP_n _) Try.prog; clear hSw;try simp only [List.getElem_toArray, List.getElem_cons_zero, List.getElem_cons_succ]; go_simp; try (with_reducible rfl))
            try simp only [List.setIfInBounds_toArray, List.set_cons_zero, List.set_cons_succ]
            refine held_take 2 28 (v := ?_) rfl rfl (by kernel_rfl) (by kernel_rfl) (by kernel_rfl) (fun _ _ _ h => h) (by rfl) ?_ HX.out ?_
            rotate_left
            · (intro w hSw; (try dsimp only at hSw); have a0 : Sem.run Try.prog (loadCellsFrom ⟨b, o + k * n20, none⟩ 0 n18 #[]) w = .ok (encP t.to).toArray w := hSw.to.all.load (k := n18) (encP_n _) Try.prog; clear hSw;try simp only [List.getElem_toArray, List.getElem_cons_zero, List.getElem_cons_succ]; go_simp; try (with_reducible rfl))
            try simp only [List.setIfInBounds_toArray, List.set_cons_zero, List.set_cons_succ]
            refine held_take 3 29 (v := ?_) rfl rfl (by kernel_rfl) (by kernel_rfl) (by kernel_rfl) (fun _ _ _ h => h) (by rfl) ?_ HX.out ?_
            rotate_left
            · (intro w hSw; (try dsimp only at hSw); have a0 : Sem.run Try.prog (loadCellsFrom ⟨b, o + k * n20, none⟩ 0 n18 #[]) w = .ok (encP t.to).toArray w := hSw.to.all.load (k := n18) (encP_n _) Try.prog; clear hSw;try simp only [List.getElem_toArray, List.getElem_cons_zero, List.getElem_cons_succ]; go_simp; try (with_reducible rfl))
            try simp only [List.setIfInBounds_toArray, List.set_cons_zero, List.set_cons_succ]
            refine held_take 4 30 (v := ?_) rfl rfl (by kernel_rfl) (by kernel_rfl) (by kernel_rfl) (fun _ _ _ h => h) (by rfl) ?_ HX.out ?_
            rotate_left
            · (intro w hSw; (try dsimp only at hSw); have a0 : Sem.run Try.prog (loadCellsFrom ⟨b, o + k * n20, none⟩ 0 n18 #[]) w = .ok (encP t.to).toArray w := hSw.to.all.load (k := n18) (encP_n _) Try.prog; clear hSw;try simp only [List.getElem_toArray, List.getElem_cons_zero, List.getElem_cons_succ]; go_simp; try (with_reducible rfl))
            try simp only [List.setIfInBounds_toArray, List.set_cons_zero, List.set_cons_succ]
            refine held_take 5 31 (v := ?_) rfl rfl (by kernel_rfl) (by kernel_rfl) (by kernel_rfl) (fun _ _ _ h => h) (by rfl) ?_ HX.out ?_
            rotate_left
            · (intro w hSw; (try dsimp only at hSw); have a0 : Sem.run Try.prog (loadCellsFrom ⟨b, o + k * n20, none⟩ 0 n18 #[]) w = .ok (encP t.to).toArray w := hSw.to.all.load (k := n18) (encP_n _) Try.prog; clear hSw;try simp only [List.getElem_toArray, List.getElem_cons_zero, List.getElem_cons_succ]; go_simp; try (with_reducible rfl))
            try simp only [List.setIfInBounds_toArray, List.set_cons_zero, List.set_cons_succ]
            refine held_take 6 32 (v := ?_) rfl rfl (by kernel_rfl) (by kernel_rfl) (by kernel_rfl) (fun _ _ _ h => h) (by rfl) ?_ HX.out ?_
            rotate_left
            · (intro w hSw; (try dsimp only at hSw); have a0 : Sem.run Try.prog (loadCellsFrom ⟨b, o + k * n20, none⟩ 0 n18 #[]) w = .ok (encP t.to).toArray w := hSw.to.all.load (k := n18) (encP_n _) Try.prog; clear hSw;try simp only [List.getElem_toArray, List.getElem_cons_zero, List.getElem_cons_succ]; go_simp; try (with_reducible rfl))
            try simp only [List.setIfInBounds_toArray, List.set_cons_zero, List.set_cons_succ]
            refine held_take 7 33 (v := ?_) rfl rfl (by kernel_rfl) (by kernel_rfl) (by kernel_rfl) (fun _ _ _ h => h) (by rfl) ?_ HX.out ?_
            rotate_left
            · (intro w hSw; (try dsimp only at hSw); have a0 : Sem.run Try.prog (loadCellsFrom ⟨b, o + k * n20, none⟩ 0 n18 #[]) w = .ok (encP t.to).toArray w := hSw.to.all.load (k := n18) (encP_n _) Try.prog; clear hSw;try simp only [List.getElem_toArray, List.getElem_cons_zero, List.getElem_cons_succ]; go_simp; try (with_reducible rfl))
            try simp only [List.setIfInBounds_toArray, List.set_cons_zero, List.set_cons_succ]
            refine held_call 8 34 rfl rfl (by kernel_rfl) (by rfl) (fun K hK => ?_)
            try simp only [List.getElem_toArray, List.getElem_cons_zero, List.getElem_cons_succ]
            go_simp
            (go_at_call 74; (with_reducible refine (HFK.out _ HB.out).mono ?_); rintro e w3 ⟨rfl, hb3⟩; have HX := Lib.hid (HX.out.below hb3); have HB := Lib.hid (HB.out.trans (hb3.mono HB.out.size)); clear hb3)
            try go_wp2_with fail
            try simp only [Act.put, List.setIfInBounds_toArray, List.set_cons_zero, List.set_cons_succ]
            refine hK.out _ _ _ HX.out ?_
            clear hK K
            refine held_take 9 35 (v := ?_) rfl rfl (by kernel_rfl) (by kernel_rfl) (by kernel_rfl) (fun _ _ _ h => h) (by rfl) ?_ HX.out ?_
            rotate_left
            · (intro w hSw; (try dsimp only at hSw); have a0 : Sem.run Try.prog (loadCellsFrom ⟨b, o + k * n20, none⟩ 0 n18 #[]) w = .ok (encP t.to).toArray w := hSw.to.all.load (k := n18) (encP_n _) Try.prog; clear hSw;try simp only [List.getElem_toArray, List.getElem_cons_zero, List.getElem_cons_succ]; go_simp; try (with_reducible rfl))
            try simp only [List.setIfInBounds_toArray, List.set_cons_zero, List.set_cons_succ]
            refine wpAnyH_done (by kernel_rfl) ?_ _
            go_wp2
            go_roundw
            case rel => exact ⟨k + 1, by omega, by go_num, HNE2.out (by first | rfl | trivial), HB.out⟩
            case measure => simp [intOf]; omega
        · have HD := Lib.hid (dup_not (fun j hj => HNE.out j hj (by have := HN.out; omega)))
          have hlt' : ¬ (k : Int) < (n : Int) := by omega
          clear hk hlt HNE
          by_cases h3 : 300 < n
          · have h3' : (300 : Int) < (n : Int) := by omega
            have HC' := Lib.hid (show newC L = 7 by rw [HC.out, HD.out, HN.out, if_neg (by simp), if_pos h3])
            go_wp2
            go_ret2
            rw [newT_ne (by rw [HC'.out]; decide), HC'.out]
            exact ⟨⟨_, none, 0, rfl, rv_none _⟩, HB.out⟩
          · have h3' : ¬ (300 : Int) < (n : Int) := by omega
            have HC' := Lib.hid (show newC L = 0 by rw [HC.out, HD.out, HN.out, if_neg (by simp), if_neg h3])
            go_wp2
            go_loopw [6, 7] (fun s6 s7 wr => ∃ (k : Nat) (A' : Option Addr) (c' : Nat), k ≤ n ∧ s7 = .int .i64 k ∧ Rv wr s6 A' c' (fold (L.take k)) ∧ Below w.heap.size w wr) (fun s6 s7 _ => n - (intOf s7).toNat)
            case atStart => exact ⟨0, none, 0, by omega, rfl, by rw [List.take_zero]; exact rv_none _, HB.out⟩
            case round =>
              clear HB
              obtain ⟨k, A', c', hk, rfl, hv, hb⟩ := hrel
              obtain rfl := hv.eq
              have HVK := Lib.hid hv
              have HB := Lib.hid hb
              clear hv hb
              by_cases hlt : k < n
              · have hlt' : (k : Int) < (n : Int) := by omega
                have k0 : (0 : Int) ≤ (k : Int) := by omega
                have hkl : k < L.length := by rw [HN.out]; exact hlt
                obtain ⟨b, o, rfl, hra⟩ := (HV.out _ HB.out).rd k hkl
                have hl1 : Sem.run Try.prog (loadCellsFrom ⟨b, o + k * n20, none⟩ 0 n20 #[]) wr = .ok (encR L[k]).toArray wr := hra.all.load (k := n20) (encR_n _) Try.prog
                have HFS := Lib.hid (fold_step hkl)
                have HRK := Lib.hid (HOK.out _ (List.getElem_mem hkl))
                have HTK := Lib.hid (fold_tok (dup_take HD.out k) (fun r hr => HOK.out r (List.mem_of_mem_take hr)) (by rw [List.length_take, HN.out]; omega))
                have HLK := Lib.hid (show (fold (L.take k)).length = k by rw [(fold_of (dup_take HD.out k)).2.2, List.length_take, HN.out]; omega)
                clear hra
                generalize L[k] = t at hl1 HFS HRK
                generalize fold (L.take k) = F at HVK HFS HTK HLK ⊢
                have HPU := Lib.hid (refPut_any A' c' F HTK.out t wr HVK.out)
                have HPT := Lib.hid (putT_new (T := F) HRK.out (by rw [HLK.out]; omega))
                generalize F.length = fl at HPU ⊢
                go_wp2_with (go_at_call 75; (with_reducible refine (HPU.out).mono ?_); rintro e w3 ⟨⟨v3, A3, c3, rfl, h3⟩, hb3⟩; have H3 := Lib.hid h3; have HB := Lib.hid (HB.out.trans (hb3.mono HB.out.size)); clear h3 hb3 hl1)
                go_roundw
                case rel => exact ⟨k + 1, A3, c3, by omega, by go_num, by rw [HFS.out, ← HPT.out]; exact H3.out, HB.out⟩
                case measure => simp [intOf]; omega
              · obtain rfl : k = n := by omega
                have HTK := Lib.hid (show fold (L.take k) = newT L by rw [List.take_of_length_le (by rw [HN.out]; exact Nat.le_refl _), newT_zero HC'.out])
                have hlt2 : ¬ (k : Int) < (k : Int) := by omega
                rw [HTK.out] at HVK ⊢
                generalize (newT L).length = fl at HVK ⊢
                go_wp2
                go_ret2
                rw [HC'.out]
                exact ⟨⟨_, A', c', rfl, HVK.out⟩, HB.out⟩
end Tab
end Go.Proofs.Ytdcbbjlbfghpbaa

/-
  Digest: the document's Part once more, its All, its Replace. Conditions: those that each theorem names.
-/
namespace Go.Proofs.Ytdcbbjlbfghpbaa
open Go Go.RowKit H2
set_option linter.unusedVariables false
set_option linter.unusedSimpArgs false
namespace Dig
open Tab Byt
set_option maxRecDepth 100000 in
set_option maxHeartbeats 8000000 in
theorem refPart_gr (A : Option Addr) (cap : Nat) (T : List Rt) (hl : T.length ≤ 1000) (c : Int) (w : World) (hr : Rd w A T) :
    Calls Try.prog 22 #[.slice A T.length cap, .int .i64 c] w fun e w' => ∃ v, e = .returned v ∧ Gr w w' v (T.filter (inK c)) := by
  have HR := Lib.hid hr
  clear hr
  obtain ⟨n, hn⟩ : ∃ n, T.length = n := ⟨_, rfl⟩
  have HN := Lib.hid hn
  rw [hn] at hl ⊢
  clear hn
  go_enter Try.func22, Try.ntmps22
  go_wp2
  go_loopw [5, 6] (fun s5 s6 wr => ∃ k : Nat, k ≤ n ∧ s6 = .int .i64 k ∧ Gr w wr s5 ((T.take k).filter (inK c)) ∧ (∃ x y z, s5 = .slice x y z)) (fun s5 s6 _ => n - (intOf s6).toNat)
  case atStart => exact ⟨0, by omega, rfl, by rw [List.take_zero]; exact gr_nil w, _, _, _, rfl⟩
  case round =>
    obtain ⟨k, hk, rfl, hg, x5, y5, z5, rfl⟩ := hrel
    have HG := Lib.hid hg
    clear hg
    by_cases hlt : k < n
    · have hlt' : (k : Int) < (n : Int) := by omega
      have k0 : (0 : Int) ≤ (k : Int) := by omega
      have hkl : k < T.length := by rw [HN.out]; exact hlt
      obtain ⟨b, o, rfl, hra⟩ := HR.out k hkl
      have HX := Lib.hid (hra.below HG.out.bel)
      have HFS := Lib.hid (filter_step hkl (inK c))
      have HLE := Lib.hid (show ((T.take k).filter (inK c)).length ≤ 10000 from Nat.le_trans (List.length_filter_le _ _) (by rw [List.length_take]; omega))
      clear hra
      generalize T[k] = t at HX HFS
      have c0 : Sem.run Try.prog (loadCellsFrom ⟨b, o + k * n20, none⟩ 0 n18 #[]) wr = .ok (encP t.to).toArray wr := HX.out.to.all.load (k := n18) (encP_n _) Try.prog
      obtain ⟨q, hq⟩ : ∃ q, bk t.to = q := ⟨_, rfl⟩
      have HQ := Lib.hid hq
      have HIN := Lib.hid (show inK c t = decide ((q : Int) = c) by unfold inK; rw [hq])
      clear hq
      by_cases hc : (q : Int) = c
      · have hcd : decide ((q : Int) = c) = true := decide_eq_true hc
        have HFE := Lib.hid (show (T.take (k + 1)).filter (inK c) = (T.take k).filter (inK c) ++ [t] by rw [HFS.out, HIN.out, hcd]; rfl)
        subst hc
        go_upto_region 6 with (go_at_call 16; (with_reducible refine (refBucket_any _ _).mono ?_); rintro e w6 ⟨rfl, h1⟩; rw [HQ.out]; have HX := Lib.hid (HX.out.below h1); have HG := Lib.hid (HG.out.below h1); clear h1 c0)
        have a1 : Sem.run Try.prog (loadCellsFrom ⟨b, o + k * n20, none⟩ 0 n20 #[]) w6 = .ok (encR t).toArray w6 := HX.out.all.load (k := n20) (encR_n _) Try.prog
        go_wp2_with (first
          | (refine wpList_row_run (o := ⟨some 26, .buildSlice 22 1 #[(0, .tmp 25)], _, _, _, _⟩) rfl 22 1 #[(0, .tmp 25)] rfl #[(0, .agg (encR t).toArray)] (by simp [Act.eval, Act.put]) (row_R1 _ _) ?_)
          | (refine wpList_app1 rfl (.tmp 21) (.tmp 26) rfl _ t _ rfl rfl HG.out HLE.out ?_; rintro v7 w7 h7 ⟨x7, y7, z7, rfl⟩; have H7 := Lib.hid h7; clear h7))
        go_roundw
        case rel => exact ⟨k + 1, by omega, by go_num, by rw [HFE.out]; exact H7.out, _, _, _, rfl⟩
        case measure => simp [intOf]; omega
      · have hcd : decide ((q : Int) = c) = false := decide_eq_false hc
        have hce : ((q : Int) == c) = false := by simpa using hc
        have HFE := Lib.hid (show (T.take (k + 1)).filter (inK c) = (T.take k).filter (inK c) by rw [HFS.out, HIN.out, hcd, if_neg (by simp), List.append_nil])
        go_wp2_with (go_at_call 16; (with_reducible refine (refBucket_any _ _).mono ?_); rintro e w6 ⟨rfl, h1⟩; rw [HQ.out]; have HG := Lib.hid (HG.out.below h1); clear h1 c0)
        go_roundw
        case rel => exact ⟨k + 1, by omega, by go_num, by rw [HFE.out]; exact HG.out, _, _, _, rfl⟩
        case measure => simp [intOf]; omega
    · obtain rfl : k = n := by omega
      have hkk : ¬ (k : Int) < (k : Int) := by omega
      have HE := Lib.hid (show Gr w wr (.slice x5 y5 z5) (T.filter (inK c)) by have := HG.out; rwa [List.take_of_length_le (by rw [HN.out]; exact Nat.le_refl _)] at this)
      go_wp2
      go_ret
      exact ⟨_, rfl, HE.out⟩
/-- a row of 17 digests of type T -/
structure DT (T : TypeId) (w : World) (g : Nat) (D : Dg) : Prop where
  ex : ∃ cur : Array Value, w.heap[g]? = some (.cells cur T (0, 0)) ∧ cur.size = 34 ∧ ∀ k, k < 17 → cur[k * 2]? = some (.int .i64 (D k).1) ∧ cur[k * 2 + 1]? = some (.int .u64 (D k).2)
theorem DT.lt {T : TypeId} {w : World} {g : Nat} {D : Dg} (h : DT T w g D) : g < w.heap.size := by
  obtain ⟨cur, h1, _⟩ := h.ex
  exact blk_lt h1
theorem DT.below {T : TypeId} {w w' : World} {g : Nat} {D : Dg} (h : DT T w g D) (hb : Below w.heap.size w w') : DT T w' g D := by
  obtain ⟨cur, h1, h2⟩ := h.ex
  exact ⟨cur, (hb.block g (blk_lt h1)).trans h1, h2⟩
theorem DT.n {T : TypeId} {w : World} {g : Nat} {D : Dg} (h : DT T w g D) {k : Nat} (hk : k < 17) : w.cell? ⟨g, k * 2, none⟩ = some (.int .i64 (D k).1) ∧ w.frozen? ⟨g, k * 2, none⟩ = false := by
  obtain ⟨cur, h1, h2, h3⟩ := h.ex
  exact ⟨(blk_cell h1 _).trans (h3 k hk).1, blk_free h1 _⟩
theorem DT.s {T : TypeId} {w : World} {g : Nat} {D : Dg} (h : DT T w g D) {k : Nat} (hk : k < 17) : w.cell? ⟨g, k * 2 + 1, none⟩ = some (.int .u64 (D k).2) ∧ w.frozen? ⟨g, k * 2 + 1, none⟩ = false := by
  obtain ⟨cur, h1, h2, h3⟩ := h.ex
  exact ⟨(blk_cell h1 _).trans (h3 k hk).2, blk_free h1 _⟩
theorem DT.setN {T : TypeId} {w : World} {g : Nat} {D : Dg} (h : DT T w g D) {k : Nat} (hk : k < 17) (x : Int) : DT T (w.setCell ⟨g, k * 2, none⟩ (.int .i64 x)) g (fun j => if j = k then (x, (D j).2) else D j) := by
  obtain ⟨cur, h1, h2, h3⟩ := h.ex
  refine ⟨_, blk_set h1 _ _, by simpa using h2, fun j hj => ?_⟩
  obtain ⟨e1, e2⟩ := h3 j hj
  constructor
  · rw [Array.getElem?_setIfInBounds]
    by_cases e : k * 2 = j * 2
    · have : j = k := by omega
      subst this
      rw [if_pos rfl, if_pos (by omega), if_pos rfl]
    · rw [if_neg e, if_neg (by omega)]; exact e1
  · rw [Array.getElem?_setIfInBounds, if_neg (by omega)]
    rw [e2]
    split <;> rfl
theorem DT.setS {T : TypeId} {w : World} {g : Nat} {D : Dg} (h : DT T w g D) {k : Nat} (hk : k < 17) (x : Int) : DT T (w.setCell ⟨g, k * 2 + 1, none⟩ (.int .u64 x)) g (fun j => if j = k then ((D j).1, x) else D j) := by
  obtain ⟨cur, h1, h2, h3⟩ := h.ex
  refine ⟨_, blk_set h1 _ _, by simpa using h2, fun j hj => ?_⟩
  obtain ⟨e1, e2⟩ := h3 j hj
  constructor
  · rw [Array.getElem?_setIfInBounds, if_neg (by omega), e1]
    split <;> rfl
  · rw [Array.getElem?_setIfInBounds]
    by_cases e : k * 2 + 1 = j * 2 + 1
    · have : j = k := by omega
      subst this
      rw [if_pos rfl, if_pos (by omega), if_pos rfl]
    · rw [if_neg e, if_neg (by omega)]; exact e2
theorem DT.rd {T : TypeId} {w : World} {g : Nat} {D : Dg} (h : DT T w g D) : RdG w (some ⟨g, 0, none⟩) 17 D := fun i hi => ⟨g, 0, rfl, by rw [Nat.zero_add]; exact (h.n hi).1, by rw [Nat.zero_add]; exact (h.s hi).1⟩
theorem mk17r (w : World) : (Instr.makeSlice 44 (.int .i64 17) (.int .i64 17)).run Try.prog w = .ok (.slice (some ⟨w.heap.size, 0, none⟩) 17 17) (w.alloc (.cells z34 92 (0, 0))) := by kernel_rfl
theorem dT_new (T : TypeId) (w : World) : DT T (w.alloc (.cells z34 T (0, 0))) w.heap.size dg0 := ⟨z34, heap_alloc_new w _, rfl, z34_get⟩
/-- the digests of the ranges below k, and of the first i routes of range k -/
def rA (T : List Rt) (k i : Nat) : Dg := fun j => if j < k then dgs T j else if j = k then ((((T.filter (inK k)).take i).length : Int), ms ((T.filter (inK k)).take i) 0) else (0, 0)
def rN (T : List Rt) (k i : Nat) : Dg := fun j => if j = k then ((((T.filter (inK k)).take i).length : Int) + 1, (rA T k i j).2) else rA T k i j
theorem rA_zero (T : List Rt) : rA T 0 0 = dg0 := by
  funext j
  unfold rA dg0
  rw [if_neg (Nat.not_lt_zero j)]
  split
  · simp [ms]
  · rfl
theorem rA_at (T : List Rt) (k i : Nat) : rA T k i k = ((((T.filter (inK k)).take i).length : Int), ms ((T.filter (inK k)).take i) 0) := by
  unfold rA
  rw [if_neg (Nat.lt_irrefl k), if_pos rfl]
theorem rA_next (T : List Rt) (k : Nat) : rA T k (T.filter (inK k)).length = rA T (k + 1) 0 := by
  funext j
  unfold rA
  by_cases h1 : j < k
  · rw [if_pos h1, if_pos (by omega)]
  · rw [if_neg h1]
    by_cases h2 : j = k
    · subst h2
      rw [if_pos rfl, if_pos (by omega), List.take_of_length_le (Nat.le_refl _), dgs_part]
    · rw [if_neg h2, if_neg (by omega)]
      split
      · rw [List.take_zero]; rfl
      · rfl
theorem rA_all (T : List Rt) : ∀ j, j < 17 → rA T 17 0 j = dgs T j := fun j hj => by unfold rA; rw [if_pos hj]
theorem rN_eq (T : List Rt) (k i : Nat) : (fun j => if j = k then ((((T.filter (inK k)).take i).length : Int) + 1, (rA T k i j).2) else rA T k i j) = rN T k i := rfl
theorem rA_step (T : List Rt) (k i : Nat) (h : i < (T.filter (inK k)).length) : (fun j => if j = k then ((rN T k i j).1, IntKind.u64.wrap (ms ((T.filter (inK k)).take i) 0 + mk (T.filter (inK k))[i])) else rN T k i j) = rA T k (i + 1) := by
  funext j
  unfold rN
  by_cases h2 : j = k
  · subst h2
    rw [if_pos rfl, if_pos rfl, rA_at, rA_at, ms_take h, List.length_take, List.length_take]
    apply Prod.ext
    · dsimp only; omega
    · rfl
  · rw [if_neg h2, if_neg h2]
    unfold rA
    rw [if_neg h2, if_neg h2]
set_option maxRecDepth 100000 in
set_option maxHeartbeats 16000000 in
theorem refAll_any (A : Option Addr) (cap : Nat) (T : List Rt) (hl : T.length ≤ 1000) (w : World) (hr : Rd w A T) :
    Calls Try.prog 19 #[.slice A T.length cap] w fun e w' => (∃ g, e = .returned (.slice (some ⟨g, 0, none⟩) 17 17) ∧ w.heap.size ≤ g ∧ RdG w' (some ⟨g, 0, none⟩) 17 (dgs T)) ∧ Below w.heap.size w w' := by
  have HRW := Lib.hid hr
  have HPT := Lib.hid (fun (c : Int) (V : World) (hb : Below w.heap.size w V) => refPart_gr A cap T hl c V (hr.below hb))
  have HAL := Lib.hid (rA_all T)
  have HNX := Lib.hid (rA_next T)
  have HST := Lib.hid (rA_step T)
  have HAT := Lib.hid (rA_at T)
  have HZ := Lib.hid (rA_zero T)
  clear hr
  obtain ⟨n, hn⟩ : ∃ n, T.length = n := ⟨_, rfl⟩
  have HNT := Lib.hid hn
  rw [hn] at hl HPT ⊢
  clear hn
  go_enter Try.func19, Try.ntmps19
  have hmk := mk17r w
  go_upto_region 2 with fail
  have HD0 := Lib.hid (dT_new 92 w)
  have hb0 := Lib.hid (show Below w.heap.size w (w.alloc (.cells z34 92 (0, 0))) from (Below.refl _ _).alloc (Nat.le_refl _) _)
  clear hmk
  generalize w.alloc _ = W at HD0 hb0 ⊢
  obtain ⟨g, hg⟩ : ∃ g, w.heap.size = g := ⟨_, rfl⟩
  have HGL := Lib.hid (show w.heap.size ≤ g by omega)
  rw [hg] at HD0 ⊢
  clear hg
  rw [← HZ.out] at HD0
  go_wp2
  go_loopw [4] (fun s4 wr => ∃ k : Nat, k ≤ 17 ∧ s4 = .int .i64 k ∧ DT 92 wr g (rA T k 0) ∧ Below w.heap.size w wr) (fun s4 _ => 17 - (intOf s4).toNat)
  case atStart => exact ⟨0, by omega, rfl, HD0.out, hb0.out⟩
  case round =>
    clear HD0 hb0
    obtain ⟨k, hk, rfl, hd, hbb⟩ := hrel
    have HD := Lib.hid hd
    have HB := Lib.hid hbb
    clear hd hbb
    by_cases hlt : k < 17
    · have hlt' : (k : Int) < 17 := by omega
      have k0 : (0 : Int) ≤ (k : Int) := by omega
      go_upto_region 6 with (go_at_call 22; (with_reducible refine (HPT.out (k : Int) _ HB.out).mono ?_); rintro e w6 ⟨v6, rfl, h1⟩; obtain ⟨A6, c6, hv6, hf6⟩ := own_rv h1.own; obtain rfl := hv6.eq; have HR6 := Lib.hid hv6.rd; have HNE := Lib.hid (show ∀ g' o, A6 = some ⟨g', o, none⟩ → g' ≠ g from fun g' o e => by have h5 := (hf6 g' o e).1; have h6 := HD.out.lt; omega); have HD := Lib.hid (HD.out.below h1.bel); have HB := Lib.hid (HB.out.trans (h1.bel.mono HB.out.size)); clear h1 hv6 hf6)
      have HNXK := Lib.hid (HNX.out k)
      have HSTK := Lib.hid (fun i h => HST.out k i h)
      have HATK := Lib.hid (fun i => HAT.out k i)
      have HRN := Lib.hid (fun i => rN_eq T k i)
      have HRS := Lib.hid (fun i => show (rN T k i k).2 = ms ((T.filter (inK k)).take i) 0 by unfold rN; rw [if_pos rfl, rA_at])
      have HPL := Lib.hid (show (T.filter (inK k)).length ≤ 1000 from Nat.le_trans (List.length_filter_le _ _) (by rw [HNT.out]; exact hl))
      generalize T.filter (inK (k : Int)) = P at HR6 HNXK HSTK HATK HRN HRS HPL ⊢
      obtain ⟨m, hm⟩ : ∃ m, P.length = m := ⟨_, rfl⟩
      have HM := Lib.hid hm
      rw [hm] at HNXK HPL ⊢
      clear hm
      go_wp2
      go_loopw [6] (fun s6 wq => ∃ i : Nat, i ≤ m ∧ s6 = .int .i64 i ∧ DT 92 wq g (rA T k i) ∧ Below w.heap.size w wq ∧ Rd wq A6 P) (fun s6 _ => m - (intOf s6).toNat)
      case atStart => exact ⟨0, by omega, rfl, HD.out, HB.out, HR6.out⟩
      case round =>
        clear HD HB HR6
        obtain ⟨i, hi, rfl, hd, hbb, hr⟩ := hrel
        have HD := Lib.hid hd
        have HB := Lib.hid hbb
        have HR := Lib.hid hr
        clear hd hbb hr
        rename World => wq
        by_cases hil : i < m
        · have hil' : (i : Int) < (m : Int) := by omega
          have i0 : (0 : Int) ≤ (i : Int) := by omega
          have hip : i < P.length := by rw [HM.out]; exact hil
          obtain ⟨g2, o, e2, hx⟩ := HR.out i hip
          have hne := HNE.out g2 o e2
          have HX := Lib.hid hx
          have HSTI := Lib.hid (HSTK.out i hip)
          subst e2
          clear hx
          generalize P[i] = x at HX HSTI
          have hil5 : i ≤ 1000 := Nat.le_trans hi HPL.out
          obtain ⟨y1, y2⟩ := HD.out.n hlt
          rw [HATK.out, List.length_take, HM.out, Nat.min_eq_left hi] at y1
          dsimp only at y1
          have hw1 : IntKind.i64.wrap ((i : Int) + 1) = (i : Int) + 1 := IntWalk.i64_in _ (by omega)
          go_upto_region 10 with fail
          clear y1 y2
          have ho := Lib.hid ((Only.refl (fun i => i = g) wq).setCell (p := ⟨g, k * 2, none⟩) (fun _ => rfl) (.int .i64 ((i : Int) + 1)))
          have HD7 := Lib.hid (show DT 92 (wq.setCell ⟨g, k * 2, none⟩ (.int .i64 ((i : Int) + 1))) g (rN T k i) by
            have := HD.out.setN hlt ((i : Int) + 1)
            rw [← HRN.out, List.length_take, HM.out, Nat.min_eq_left hi]
            exact this)
          have HX7 := Lib.hid (HX.out.only' ho.out hne).drew
          have HR7 := Lib.hid (show Rd (wq.setCell ⟨g, k * 2, none⟩ (.int .i64 ((i : Int) + 1))).drew (some ⟨g2, o, none⟩) P from fun i hi => by
            obtain ⟨b', o', e', h'⟩ := HR.out i hi
            cases e'
            exact ⟨_, _, rfl, (h'.only' ho.out hne).drew⟩)
          have HB7 := Lib.hid (HB.out.setCell HGL.out (p := ⟨g, k * 2, none⟩) (.int .i64 ((i : Int) + 1))).drew
          have HD7 := Lib.hid (HD7.out.below (Below.refl _ _).drew)
          generalize (wq.setCell _ _) = W7 at HX7 HR7 HB7 HD7 ⊢
          have HS2 := HRS.out i
          obtain ⟨S, hS⟩ : ∃ S, ms (P.take i) 0 = S := ⟨_, rfl⟩
          have HSS := Lib.hid hS
          rw [hS] at HS2 HSTI
          have HS2 := Lib.hid HS2
          clear hS
          refine wp_region_held_drew (S := (fun w' => RAt w' g2 (o + i * n20) x)) (by kernel_rfl) HX7.out (fun _ => ?_)
          refine held_take 0 29 (v := ?_) rfl rfl (by kernel_rfl) (by kernel_rfl) (by kernel_rfl) (fun _ _ _ h => h) (by rfl) ?_ HX7.out ?_
          rotate_left
          · (intro w hSw; (try dsimp only at hSw); have a0 := hSw.all.load (k := n20) (encR_n _) Try.prog; clear hSw;try simp only [List.getElem_toArray, List.getElem_cons_zero, List.getElem_cons_succ]; go_simp; try (with_reducible rfl))
          try simp only [List.setIfInBounds_toArray, List.set_cons_zero, List.set_cons_succ]
          refine held_take 1 30 (v := ?_) rfl rfl (by kernel_rfl) (by kernel_rfl) (by kernel_rfl) (fun _ _ _ h => h) (by rfl) ?_ HX7.out ?_
          rotate_left
          · (intro w hSw; (try dsimp only at hSw); have a0 := hSw.all.load (k := n20) (encR_n _) Try.prog; clear hSw;try simp only [List.getElem_toArray, List.getElem_cons_zero, List.getElem_cons_succ]; go_simp; try (with_reducible rfl))
          try simp only [List.setIfInBounds_toArray, List.set_cons_zero, List.set_cons_succ]
          refine held_take 2 31 (v := ?_) rfl rfl (by kernel_rfl) (by kernel_rfl) (by kernel_rfl) (fun _ _ _ h => h) (by rfl) ?_ HX7.out ?_
          rotate_left
          · (intro w hSw; (try dsimp only at hSw); have a0 := hSw.all.load (k := n20) (encR_n _) Try.prog; clear hSw;try simp only [List.getElem_toArray, List.getElem_cons_zero, List.getElem_cons_succ]; go_simp; try (with_reducible rfl))
          try simp only [List.setIfInBounds_toArray, List.set_cons_zero, List.set_cons_succ]
          refine held_take 3 32 (v := ?_) rfl rfl (by kernel_rfl) (by kernel_rfl) (by kernel_rfl) (fun _ _ _ h => h) (by rfl) ?_ HX7.out ?_
          rotate_left
          · (intro w hSw; (try dsimp only at hSw); have a0 := hSw.all.load (k := n20) (encR_n _) Try.prog; clear hSw;try simp only [List.getElem_toArray, List.getElem_cons_zero, List.getElem_cons_succ]; go_simp; try (with_reducible rfl))
          try simp only [List.setIfInBounds_toArray, List.set_cons_zero, List.set_cons_succ]
          refine held_take 5 34 (v := ?_) rfl rfl (by kernel_rfl) (by kernel_rfl) (by kernel_rfl) (fun _ _ _ h => h) (by rfl) ?_ HX7.out ?_
          rotate_left
          · (intro w hSw; (try dsimp only at hSw); have a0 := hSw.all.load (k := n20) (encR_n _) Try.prog; clear hSw;try simp only [List.getElem_toArray, List.getElem_cons_zero, List.getElem_cons_succ]; go_simp; try (with_reducible rfl))
          try simp only [List.setIfInBounds_toArray, List.set_cons_zero, List.set_cons_succ]
          refine held_take 6 35 (v := ?_) rfl rfl (by kernel_rfl) (by kernel_rfl) (by kernel_rfl) (fun _ _ _ h => h) (by rfl) ?_ HX7.out ?_
          rotate_left
          · (intro w hSw; (try dsimp only at hSw); have a0 := hSw.all.load (k := n20) (encR_n _) Try.prog; clear hSw;try simp only [List.getElem_toArray, List.getElem_cons_zero, List.getElem_cons_succ]; go_simp; try (with_reducible rfl))
          try simp only [List.setIfInBounds_toArray, List.set_cons_zero, List.set_cons_succ]
          refine held_take 7 36 (v := ?_) rfl rfl (by kernel_rfl) (by kernel_rfl) (by kernel_rfl) (fun _ _ _ h => h) (by rfl) ?_ HX7.out ?_
          rotate_left
          · (intro w hSw; (try dsimp only at hSw); have a0 := hSw.all.load (k := n20) (encR_n _) Try.prog; clear hSw;try simp only [List.getElem_toArray, List.getElem_cons_zero, List.getElem_cons_succ]; go_simp; try (with_reducible rfl))
          try simp only [List.setIfInBounds_toArray, List.set_cons_zero, List.set_cons_succ]
          refine held_take 8 37 (v := ?_) rfl rfl (by kernel_rfl) (by kernel_rfl) (by kernel_rfl) (fun _ _ _ h => h) (by rfl) ?_ HX7.out ?_
          rotate_left
          · (intro w hSw; (try dsimp only at hSw); have a0 := hSw.all.load (k := n20) (encR_n _) Try.prog; clear hSw;try simp only [List.getElem_toArray, List.getElem_cons_zero, List.getElem_cons_succ]; go_simp; try (with_reducible rfl))
          try simp only [List.setIfInBounds_toArray, List.set_cons_zero, List.set_cons_succ]
          refine H2.held_two 4 9 rfl rfl (by kernel_rfl) (by rfl) (by rfl) (fun K hK => ?_) (fun K hK => ?_)
          · try simp only [List.getElem_toArray, List.getElem_cons_zero, List.getElem_cons_succ]
            have e1 := (HD7.out.s hlt).1
            rw [HS2.out] at e1
            go_simp
            clear e1
            try simp only [Act.put, List.setIfInBounds_toArray, List.set_cons_zero, List.set_cons_succ]
            refine hK.out _ _ _ HX7.out ?_
            clear hK K
            refine held_call 9 38 rfl rfl (by kernel_rfl) (by rfl) (fun K hK => ?_)
            try simp only [List.getElem_toArray, List.getElem_cons_zero, List.getElem_cons_succ]
            go_simp
            (go_at_call 14; (with_reducible refine (refMark_any _ _).mono ?_); rintro e w8 ⟨rfl, h1⟩; have HX7 := Lib.hid (HX7.out.below h1); have HD7 := Lib.hid (HD7.out.below h1); have HR7 := Lib.hid (HR7.out.below h1); have HB7 := Lib.hid (HB7.out.trans (h1.mono HB7.out.size)); clear h1)
            try go_wp2_with fail
            try simp only [Act.put, List.setIfInBounds_toArray, List.set_cons_zero, List.set_cons_succ]
            refine hK.out _ _ _ HX7.out ?_
            clear hK K
            refine held_take 10 39 (v := ?_) rfl rfl (by kernel_rfl) (by kernel_rfl) (by kernel_rfl) (fun _ _ _ h => h) (by rfl) ?_ HX7.out ?_
            rotate_left
            · (intro w hSw; (try dsimp only at hSw); have a0 := hSw.all.load (k := n20) (encR_n _) Try.prog; clear hSw;try simp only [List.getElem_toArray, List.getElem_cons_zero, List.getElem_cons_succ]; go_simp; try (with_reducible rfl))
            try simp only [List.setIfInBounds_toArray, List.set_cons_zero, List.set_cons_succ]
            refine held_take 11 40 (v := ?_) rfl rfl (by kernel_rfl) (by kernel_rfl) (by kernel_rfl) (fun _ _ _ h => h) (by rfl) ?_ HX7.out ?_
            rotate_left
            · (intro w hSw; (try dsimp only at hSw); have a0 := hSw.all.load (k := n20) (encR_n _) Try.prog; clear hSw;try simp only [List.getElem_toArray, List.getElem_cons_zero, List.getElem_cons_succ]; go_simp; try (with_reducible rfl))
            try simp only [List.setIfInBounds_toArray, List.set_cons_zero, List.set_cons_succ]
            refine held_take 12 41 (v := ?_) rfl rfl (by kernel_rfl) (by kernel_rfl) (by kernel_rfl) (fun _ _ _ h => h) (by rfl) ?_ HX7.out ?_
            rotate_left
            · (intro w hSw; (try dsimp only at hSw); have a0 := hSw.all.load (k := n20) (encR_n _) Try.prog; clear hSw;try simp only [List.getElem_toArray, List.getElem_cons_zero, List.getElem_cons_succ]; go_simp; try (with_reducible rfl))
            try simp only [List.setIfInBounds_toArray, List.set_cons_zero, List.set_cons_succ]
            refine held_do 13 rfl (by kernel_rfl) (by rfl) (fun K hK => ?_)
            try simp only [List.getElem_toArray, List.getElem_cons_zero, List.getElem_cons_succ]
            (have e1 := (HD7.out.s hlt).1; have e2 := (HD7.out.s hlt).2; go_simp; have ho := Lib.hid ((Only.refl (fun i => i = g) w8).setCell (p := ⟨g, k * 2 + 1, none⟩) (fun _ => rfl) (.int .u64 (IntKind.u64.wrap (S + mk x)))); have HX7 := Lib.hid (HX7.out.only' ho.out hne); clear e1 e2)
            try simp only [Act.put, List.setIfInBounds_toArray, List.set_cons_zero, List.set_cons_succ]
            refine hK.out _ _ _ HX7.out ?_
            clear hK K
            refine wpAnyH_done (by kernel_rfl) ?_ _
            have HD9 := Lib.hid (show DT 92 (w8.setCell ⟨g, k * 2 + 1, none⟩ (.int .u64 (IntKind.u64.wrap (S + mk x)))) g (rA T k (i + 1)) by
              have := HD7.out.setS hlt (IntKind.u64.wrap (S + mk x))
              rw [← HSTI.out]
              exact this)
            have HR9 := Lib.hid (show Rd (w8.setCell ⟨g, k * 2 + 1, none⟩ (.int .u64 (IntKind.u64.wrap (S + mk x)))) (some ⟨g2, o, none⟩) P from fun i hi => by
              obtain ⟨b', o', e', h'⟩ := HR7.out i hi
              cases e'
              exact ⟨_, _, rfl, h'.only' ho.out hne⟩)
            have HB9 := Lib.hid (HB7.out.setCell HGL.out (p := ⟨g, k * 2 + 1, none⟩) (.int .u64 (IntKind.u64.wrap (S + mk x))))
            go_wp2
            go_roundw
            case rel => exact ⟨i + 1, by omega, by go_num, HD9.out, HB9.out, HR9.out⟩
            case measure => simp [intOf]; omega
          · try simp only [List.getElem_toArray, List.getElem_cons_zero, List.getElem_cons_succ]
            go_simp
            (go_at_call 14; (with_reducible refine (refMark_any _ _).mono ?_); rintro e w8 ⟨rfl, h1⟩; have HX7 := Lib.hid (HX7.out.below h1); have HD7 := Lib.hid (HD7.out.below h1); have HR7 := Lib.hid (HR7.out.below h1); have HB7 := Lib.hid (HB7.out.trans (h1.mono HB7.out.size)); clear h1)
            try go_wp2_with fail
            try simp only [Act.put, List.setIfInBounds_toArray, List.set_cons_zero, List.set_cons_succ]
            refine hK.out _ _ _ HX7.out ?_
            clear hK K
            refine held_call 4 33 rfl rfl (by kernel_rfl) (by rfl) (fun K hK => ?_)
            try simp only [List.getElem_toArray, List.getElem_cons_zero, List.getElem_cons_succ]
            have e1 := (HD7.out.s hlt).1
            rw [HS2.out] at e1
            go_simp
            clear e1
            try simp only [Act.put, List.setIfInBounds_toArray, List.set_cons_zero, List.set_cons_succ]
            refine hK.out _ _ _ HX7.out ?_
            clear hK K
            refine held_take 10 39 (v := ?_) rfl rfl (by kernel_rfl) (by kernel_rfl) (by kernel_rfl) (fun _ _ _ h => h) (by rfl) ?_ HX7.out ?_
            rotate_left
            · (intro w hSw; (try dsimp only at hSw); have a0 := hSw.all.load (k := n20) (encR_n _) Try.prog; clear hSw;try simp only [List.getElem_toArray, List.getElem_cons_zero, List.getElem_cons_succ]; go_simp; try (with_reducible rfl))
            try simp only [List.setIfInBounds_toArray, List.set_cons_zero, List.set_cons_succ]
            refine held_take 11 40 (v := ?_) rfl rfl (by kernel_rfl) (by kernel_rfl) (by kernel_rfl) (fun _ _ _ h => h) (by rfl) ?_ HX7.out ?_
            rotate_left
            · (intro w hSw; (try dsimp only at hSw); have a0 := hSw.all.load (k := n20) (encR_n _) Try.prog; clear hSw;try simp only [List.getElem_toArray, List.getElem_cons_zero, List.getElem_cons_succ]; go_simp; try (with_reducible rfl))
            try simp only [List.setIfInBounds_toArray, List.set_cons_zero, List.set_cons_succ]
            refine held_take 12 41 (v := ?_) rfl rfl (by kernel_rfl) (by kernel_rfl) (by kernel_rfl) (fun _ _ _ h => h) (by rfl) ?_ HX7.out ?_
            rotate_left
            · (intro w hSw; (try dsimp only at hSw); have a0 := hSw.all.load (k := n20) (encR_n _) Try.prog; clear hSw;try simp only [List.getElem_toArray, List.getElem_cons_zero, List.getElem_cons_succ]; go_simp; try (with_reducible rfl))
            try simp only [List.setIfInBounds_toArray, List.set_cons_zero, List.set_cons_succ]
            refine held_do 13 rfl (by kernel_rfl) (by rfl) (fun K hK => ?_)
            try simp only [List.getElem_toArray, List.getElem_cons_zero, List.getElem_cons_succ]
            (have e1 := (HD7.out.s hlt).1; have e2 := (HD7.out.s hlt).2; go_simp; have ho := Lib.hid ((Only.refl (fun i => i = g) w8).setCell (p := ⟨g, k * 2 + 1, none⟩) (fun _ => rfl) (.int .u64 (IntKind.u64.wrap (S + mk x)))); have HX7 := Lib.hid (HX7.out.only' ho.out hne); clear e1 e2)
            try simp only [Act.put, List.setIfInBounds_toArray, List.set_cons_zero, List.set_cons_succ]
            refine hK.out _ _ _ HX7.out ?_
            clear hK K
            refine wpAnyH_done (by kernel_rfl) ?_ _
            have HD9 := Lib.hid (show DT 92 (w8.setCell ⟨g, k * 2 + 1, none⟩ (.int .u64 (IntKind.u64.wrap (S + mk x)))) g (rA T k (i + 1)) by
              have := HD7.out.setS hlt (IntKind.u64.wrap (S + mk x))
              rw [← HSTI.out]
              exact this)
            have HR9 := Lib.hid (show Rd (w8.setCell ⟨g, k * 2 + 1, none⟩ (.int .u64 (IntKind.u64.wrap (S + mk x)))) (some ⟨g2, o, none⟩) P from fun i hi => by
              obtain ⟨b', o', e', h'⟩ := HR7.out i hi
              cases e'
              exact ⟨_, _, rfl, h'.only' ho.out hne⟩)
            have HB9 := Lib.hid (HB7.out.setCell HGL.out (p := ⟨g, k * 2 + 1, none⟩) (.int .u64 (IntKind.u64.wrap (S + mk x))))
            go_wp2
            go_roundw
            case rel => exact ⟨i + 1, by omega, by go_num, HD9.out, HB9.out, HR9.out⟩
            case measure => simp [intOf]; omega
        · have hin : ¬ (i : Int) < (m : Int) := by omega
          have him : i = m := by omega
          have HE := Lib.hid (show DT 92 wq g (rA T (k + 1) 0) by rw [← HNXK.out, ← him]; exact HD.out)
          clear him
          go_wp2
          go_roundw
          case rel => exact ⟨k + 1, by omega, by go_num, HE.out, HB.out⟩
          case measure => simp [intOf]; omega
    · obtain rfl : k = 17 := by omega
      rw [show ((17 : Nat) : Int) = 17 from rfl]
      go_wp2
      go_ret
      refine ⟨⟨g, rfl, HGL.out, fun i hi => ?_⟩, HB.out⟩
      have := HD.out.rd i hi
      rw [HAL.out i hi] at this
      exact this
end Dig
end Go.Proofs.Ytdcbbjlbfghpbaa

/-
  Digest: the document's Replace. Conditions: those that each theorem names.
-/
namespace Go.Proofs.Ytdcbbjlbfghpbaa
open Go Go.RowKit H2
set_option linter.unusedVariables false
set_option linter.unusedSimpArgs false
namespace Dig
open Tab Byt
/-- what the document's Replace answers -/
def rpL (T : List Rt) (c : Int) (M : List Rt) : List Rt := (T.filter fun r => !inK c r) ++ M
def rpC (T : List Rt) (c : Int) (M : List Rt) : Int := if 0 ≤ c ∧ c < 17 then (if M.any (fun r => !inK c r) = true then 1 else newC (rpL T c M)) else 2
def rpT (T : List Rt) (c : Int) (M : List Rt) : List Rt := if 0 ≤ c ∧ c < 17 then (if M.any (fun r => !inK c r) = true then [] else newT (rpL T c M)) else []
theorem lst_none (w w' : World) (c : Int) : Lst w w' [] c (.returned (.tuple #[.slice none 0 0, .int .i64 c])) := ⟨_, none, 0, rfl, rv_none w'⟩
theorem any_take {M : List Rt} {p : Rt → Bool} {i : Nat} (hi : i < M.length) (h : M.any p = false) : p M[i] = false := by
  rw [List.any_eq_false] at h
  have := h M[i] (List.getElem_mem hi)
  simpa using this
set_option maxRecDepth 100000 in
set_option maxHeartbeats 16000000 in
theorem refRepl_any (A A' : Option Addr) (cap cap' : Nat) (T M : List Rt) (hl : T.length ≤ 1000) (hm : M.length ≤ 1000) (c : Int) (w : World) (hr : Rd w A T) (hr' : Rd w A' M) (hA' : A' = none → M = []) :
    Calls Try.prog 12 #[.slice A T.length cap, .int .i64 c, .slice A' M.length cap'] w fun e w' => Lst w w' (rpT T c M) (rpC T c M) e ∧ Below w.heap.size w w' := by
  have HR := Lib.hid hr
  have HR' := Lib.hid hr'
  have HA := Lib.hid hA'
  clear hr hr' hA'
  obtain ⟨n, hn⟩ : ∃ n, T.length = n := ⟨_, rfl⟩
  obtain ⟨m, hmm⟩ : ∃ n, M.length = n := ⟨_, rfl⟩
  have HN := Lib.hid hn
  have HM := Lib.hid hmm
  rw [hn] at hl ⊢
  rw [hmm] at hm ⊢
  clear hn hmm
  by_cases h0 : c < 0
  · have h0d : decide (c < 0) = true := decide_eq_true h0
    have HC := Lib.hid (show rpC T c M = 2 ∧ rpT T c M = [] by unfold rpC rpT; rw [if_neg (by omega), if_neg (by omega)]; exact ⟨rfl, rfl⟩)
    go_enter Try.func12, Try.ntmps12
    go_wp2
    go_ret2
    rw [HC.out.1, HC.out.2]
    exact ⟨lst_none _ _ _, Below.refl _ _⟩
  have h0d : decide (c < 0) = false := decide_eq_false h0
  by_cases h1 : 16 < c
  · have h1d : decide (16 < c) = true := decide_eq_true h1
    have HC := Lib.hid (show rpC T c M = 2 ∧ rpT T c M = [] by unfold rpC rpT; rw [if_neg (by omega), if_neg (by omega)]; exact ⟨rfl, rfl⟩)
    go_enter Try.func12, Try.ntmps12
    go_wp2
    go_ret2
    rw [HC.out.1, HC.out.2]
    exact ⟨lst_none _ _ _, Below.refl _ _⟩
  have h1d : decide (16 < c) = false := decide_eq_false h1
  have HC := Lib.hid (show rpC T c M = (if M.any (fun r => !inK c r) = true then 1 else newC (rpL T c M)) ∧ rpT T c M = (if M.any (fun r => !inK c r) = true then [] else newT (rpL T c M)) by exact ⟨if_pos (show 0 ≤ c ∧ c < 17 by omega), if_pos (show 0 ≤ c ∧ c < 17 by omega)⟩)
  go_enter Try.func12, Try.ntmps12
  go_wp2
  go_loopw [8, 9] (fun s8 s9 wr => ∃ k : Nat, k ≤ n ∧ s9 = .int .i64 k ∧ Gr w wr s8 ((T.take k).filter fun r => !inK c r) ∧ (∃ x y z, s8 = .slice x y z)) (fun s8 s9 _ => n - (intOf s9).toNat)
  case atStart => exact ⟨0, by omega, rfl, by rw [List.take_zero]; exact gr_nil w, _, _, _, rfl⟩
  case round =>
    obtain ⟨k, hk, rfl, hg, x8, y8, z8, rfl⟩ := hrel
    have HG := Lib.hid hg
    clear hg
    by_cases hlt : k < n
    · have hlt' : (k : Int) < (n : Int) := by omega
      have k0 : (0 : Int) ≤ (k : Int) := by omega
      have hkl : k < T.length := by rw [HN.out]; exact hlt
      obtain ⟨b, o, rfl, hra⟩ := HR.out k hkl
      have HX := Lib.hid (hra.below HG.out.bel)
      have HFS := Lib.hid (filter_step hkl (fun r => !inK c r))
      have HLE := Lib.hid (show ((T.take k).filter (fun r => !inK c r)).length ≤ 10000 from Nat.le_trans (List.length_filter_le _ _) (by rw [List.length_take]; omega))
      clear hra
      generalize T[k] = t at HX HFS
      have c0 : Sem.run Try.prog (loadCellsFrom ⟨b, o + k * n20, none⟩ 0 n18 #[]) wr = .ok (encP t.to).toArray wr := HX.out.to.all.load (k := n18) (encP_n _) Try.prog
      obtain ⟨q, hq⟩ : ∃ q, bk t.to = q := ⟨_, rfl⟩
      have HQ := Lib.hid hq
      have HIN := Lib.hid (show inK c t = decide ((q : Int) = c) by unfold inK; rw [hq])
      clear hq
      by_cases hc : (q : Int) = c
      · have hcd : decide ((q : Int) = c) = true := decide_eq_true hc
        have HFE := Lib.hid (show (T.take (k + 1)).filter (fun r => !inK c r) = (T.take k).filter (fun r => !inK c r) by rw [HFS.out, HIN.out, hcd, if_neg (by simp), List.append_nil])
        subst hc
        go_wp2_with (go_at_call 16; (with_reducible refine (refBucket_any _ _).mono ?_); rintro e w6 ⟨rfl, h1⟩; rw [HQ.out]; have HG := Lib.hid (HG.out.below h1); clear h1 c0)
        go_roundw
        case rel => exact ⟨k + 1, by omega, by go_num, by rw [HFE.out]; exact HG.out, _, _, _, rfl⟩
        case measure => simp [intOf]; omega
      · have hcd : decide ((q : Int) = c) = false := decide_eq_false hc
        have hce : ((q : Int) == c) = false := by simpa using hc
        have hcf : ((q : Int) != c) = true := by simpa using hc
        have HFE := Lib.hid (show (T.take (k + 1)).filter (fun r => !inK c r) = (T.take k).filter (fun r => !inK c r) ++ [t] by rw [HFS.out, HIN.out, hcd]; rfl)
        go_upto_region 8 with (go_at_call 16; (with_reducible refine (refBucket_any _ _).mono ?_); rintro e w6 ⟨rfl, h1⟩; rw [HQ.out]; have HX := Lib.hid (HX.out.below h1); have HG := Lib.hid (HG.out.below h1); clear h1 c0)
        have a1 : Sem.run Try.prog (loadCellsFrom ⟨b, o + k * n20, none⟩ 0 n20 #[]) w6 = .ok (encR t).toArray w6 := HX.out.all.load (k := n20) (encR_n _) Try.prog
        go_wp2_with (first
          | (refine wpList_row_run (o := ⟨some 36, .buildSlice 22 1 #[(0, .tmp 35)], _, _, _, _⟩) rfl 22 1 #[(0, .tmp 35)] rfl #[(0, .agg (encR t).toArray)] (by simp [Act.eval, Act.put]) (row_R1 _ _) ?_)
          | (refine wpList_app1 rfl (.tmp 31) (.tmp 36) rfl _ t _ rfl rfl HG.out HLE.out ?_; rintro v7 w7 h7 ⟨x7, y7, z7, rfl⟩; have H7 := Lib.hid h7; clear h7))
        go_roundw
        case rel => exact ⟨k + 1, by omega, by go_num, by rw [HFE.out]; exact H7.out, _, _, _, rfl⟩
        case measure => simp [intOf]; omega
    · have hkn : k = n := by omega
      have hkk : ¬ (k : Int) < (n : Int) := by omega
      have HE := Lib.hid (show Gr w wr (.slice x8 y8 z8) (T.filter fun r => !inK c r) by have := HG.out; rwa [List.take_of_length_le (by rw [HN.out, hkn]; exact Nat.le_refl _)] at this)
      have HEL := Lib.hid (show (T.filter fun r => !inK c r).length ≤ 1000 from Nat.le_trans (List.length_filter_le _ _) (by rw [HN.out]; exact hl))
      clear HG hkn
      rename World => wr
      go_wp2
      go_loopw [10] (fun s10 wq => ∃ i : Nat, i ≤ m ∧ s10 = .int .i64 i ∧ (∀ j (h : j < M.length), j < i → inK c M[j] = true) ∧ Gr w wq (.slice x8 y8 z8) (T.filter fun r => !inK c r)) (fun s10 _ => m - (intOf s10).toNat)
      case atStart => exact ⟨0, by omega, rfl, fun j _ h => absurd h (Nat.not_lt_zero j), HE.out⟩
      case round =>
        clear HE
        obtain ⟨i, hi, rfl, hall, hg⟩ := hrel
        have HG := Lib.hid hg
        have HALL := Lib.hid hall
        clear hg hall
        rename World => wq
        by_cases hil : i < m
        · have hil' : (i : Int) < (m : Int) := by omega
          have i0 : (0 : Int) ≤ (i : Int) := by omega
          have hip : i < M.length := by rw [HM.out]; exact hil
          obtain ⟨b, o, rfl, hra⟩ := HR'.out i hip
          have HX := Lib.hid (hra.below HG.out.bel)
          have HMI := Lib.hid (show M[i] = M[i] from rfl)
          clear hra
          obtain ⟨t, ht⟩ : ∃ t, M[i] = t := ⟨_, rfl⟩
          have HTT := Lib.hid ht
          rw [ht] at HX
          clear ht HMI
          have c0 : Sem.run Try.prog (loadCellsFrom ⟨b, o + i * n20, none⟩ 0 n18 #[]) wq = .ok (encP t.to).toArray wq := HX.out.to.all.load (k := n18) (encP_n _) Try.prog
          obtain ⟨q, hq⟩ : ∃ q, bk t.to = q := ⟨_, rfl⟩
          have HQ := Lib.hid hq
          have HIN := Lib.hid (show inK c t = decide ((q : Int) = c) by unfold inK; rw [hq])
          clear hq
          by_cases hc : (q : Int) = c
          · have hcd : decide ((q : Int) = c) = true := decide_eq_true hc
            have HNX := Lib.hid (show inK c M[i] = true by rw [HTT.out, HIN.out, hcd])
            subst hc
            go_wp2_with (go_at_call 16; (with_reducible refine (refBucket_any _ _).mono ?_); rintro e w6 ⟨rfl, h1⟩; rw [HQ.out]; have HG := Lib.hid (HG.out.below h1); clear h1 c0)
            go_roundw
            case rel => exact ⟨i + 1, by omega, by go_num, fun j h hj => by
              rcases Nat.lt_succ_iff_lt_or_eq.1 hj with h2 | h2
              · exact HALL.out j h h2
              · subst h2; exact HNX.out, HG.out⟩
            case measure => simp [intOf]; omega
          · have hcd : decide ((q : Int) = c) = false := decide_eq_false hc
            have hce : ((q : Int) == c) = false := by simpa using hc
            have hcf : ((q : Int) != c) = true := by simpa using hc
            have HAN := Lib.hid (show M.any (fun r => !inK c r) = true by
              rw [List.any_eq_true]
              exact ⟨M[i], List.getElem_mem hip, by rw [HTT.out, HIN.out, hcd]; rfl⟩)
            have HC2 := Lib.hid (show rpC T c M = 1 ∧ rpT T c M = [] from ⟨HC.out.1.trans (if_pos HAN.out), HC.out.2.trans (if_pos HAN.out)⟩)
            go_wp2_with (go_at_call 16; (with_reducible refine (refBucket_any _ _).mono ?_); rintro e w6 ⟨rfl, h1⟩; rw [HQ.out]; have HG := Lib.hid (HG.out.below h1); clear h1 c0)
            go_ret2
            rw [HC2.out.1, HC2.out.2]
            exact ⟨lst_none _ _ _, HG.out.bel⟩
        · have hin : ¬ (i : Int) < (m : Int) := by omega
          have HAN := Lib.hid (show ¬ M.any (fun r => !inK c r) = true by
            rw [List.any_eq_true]
            rintro ⟨x, hx, h⟩
            obtain ⟨j, hj, rfl⟩ := List.getElem_of_mem hx
            have := HALL.out j hj (by have := HM.out; omega)
            rw [this] at h
            cases h)
          have HC2 := Lib.hid (show rpC T c M = newC (rpL T c M) ∧ rpT T c M = newT (rpL T c M) from ⟨HC.out.1.trans (if_neg HAN.out), HC.out.2.trans (if_neg HAN.out)⟩)
          go_wp2_with (first
            | (refine wpList_appR rfl (.tmp 52) (.tmp 53) rfl _ (T.filter fun r => !inK c r) M A' m cap' HM.out rfl rfl HG.out (HR'.out.below HG.out.bel) HA.out (by have h9 := HEL.out; have h8 := HM.out; omega) ?_; rintro v7 w7 h7 _; have HB7 := Lib.hid h7.bel; obtain ⟨A7, c7, hv7⟩ := h7.rv; obtain rfl := hv7.eq; have HNW := Lib.hid (refNew_any A7 c7 _ (by have h9 := HEL.out; have h8 := HM.out; rw [List.length_append]; omega) w7 hv7); rw [List.length_append] at HNW; clear h7 hv7)
            | (go_at_call 47; (with_reducible refine (HNW.out).mono ?_); rintro e w9 ⟨⟨v9, A9, c9, rfl, h1⟩, h2⟩; have HV9 := Lib.hid h1; have HB9 := Lib.hid (HB7.out.trans (h2.mono HB7.out.size)); clear h1 h2))
          go_ret2
          rw [HC2.out.1, HC2.out.2]
          exact ⟨⟨_, A9, c9, rfl, HV9.out⟩, HB9.out⟩
end Dig
end Go.Proofs.Ytdcbbjlbfghpbaa
