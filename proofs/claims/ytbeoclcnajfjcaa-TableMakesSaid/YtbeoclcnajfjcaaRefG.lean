/-
  The document's New. Conditions: those that each theorem names.
-/
import Derived.Test.YtbeoclcnajfjcaaRefC
import Derived.Test.YtbeoclcnajfjcaaRefD
namespace Go.Proofs.Ytbeoclcnajfjcaa
open Go Go.RowKit H2
set_option linter.unusedVariables false
set_option linter.unusedSimpArgs false
namespace Tab
/-- what New leaves -/
def newT (L : List Rt) : List Rt := if newC L = 0 then fold L else []
theorem newT_zero {L : List Rt} (h : newC L = 0) : newT L = fold L := by unfold newT; rw [if_pos h]
theorem newT_ne {L : List Rt} (h : newC L ≠ 0) : newT L = [] := by unfold newT; rw [if_neg h]
theorem rv_none (w : World) : Rv w (.slice none 0 0) none 0 [] := ⟨rfl, Nat.le_refl _, by decide, fun i hi => absurd hi (by simp), fun _ => rfl, fun a e => by cases e⟩
theorem dup_at {L : List Rt} {k : Nat} (hk : k < L.length) (h : has (L.take k) L[k].to = true) : dup L = true := by
  obtain ⟨r, hr, e⟩ := has_iff.1 h
  obtain ⟨j, hj, rfl⟩ := List.getElem_of_mem hr
  rw [List.length_take] at hj
  rw [List.getElem_take] at e
  unfold dup
  have : ¬ (L.map Rt.to).Nodup := fun hn => by
    unfold List.Nodup at hn
    rw [List.pairwise_map] at hn
    exact (List.pairwise_iff_getElem.1 hn) j k (by omega) hk (by omega) e
  simpa using this
theorem dup_not {L : List Rt} (h : ∀ k (hk : k < L.length), has (L.take k) L[k].to = false) : dup L = false := by
  unfold dup
  have : (L.map Rt.to).Nodup := by
    unfold List.Nodup
    rw [List.pairwise_map, List.pairwise_iff_getElem]
    intro i j hi hj hij e
    have := has_false.1 (h j hj) L[i] (List.mem_of_getElem (i := i) (h := by rw [List.length_take]; omega) (by rw [List.getElem_take]))
    exact this e
  simpa using this
theorem fold_step {L : List Rt} {k : Nat} (hk : k < L.length) : fold (L.take (k + 1)) = ins (fold (L.take k)) L[k] := by
  unfold fold
  rw [← List.take_append_getElem hk, List.foldl_append]
  rfl
theorem dup_take {L : List Rt} (h : dup L = false) (k : Nat) : dup (L.take k) = false := by
  unfold dup at h ⊢
  simp only [Bool.not_eq_false', decide_eq_true_eq] at h ⊢
  exact List.Nodup.sublist ((List.take_sublist k L).map Rt.to) h
theorem fold_tok {L : List Rt} (h : dup L = false) (hr : ∀ r ∈ L, right r = true) (hl : L.length ≤ 300) : TOk (fold L) :=
  ⟨(fold_of h).1, fun r hm => hr r ((fold_of h).2.1 r |>.1 hm), by rw [(fold_of h).2.2]; exact hl⟩
set_option maxRecDepth 100000 in
set_option maxHeartbeats 16000000 in
theorem refNew_any (A : Option Addr) (cap : Nat) (L : List Rt) (hL : L.length ≤ 1000000) (w : World) (hv : Rv w (.slice A L.length cap) A cap L) :
    Calls Try.prog 25 #[.slice A L.length cap] w fun e w' => Lst w w' (newT L) (newC L) e ∧ Below w.heap.size w w' := by
  have HV := Lib.hid (fun (W : World) (hb : Below w.heap.size w W) => hv.below hb)
  have hnc := hv.len
  have hcm := hv.capm
  unfold maxLen at hcm
  clear hv
  obtain ⟨n, hn⟩ : ∃ n, L.length = n := ⟨_, rfl⟩
  have HN := Lib.hid hn
  have HFI := Lib.hid (fun (W : World) (hb : Below w.heap.size w W) (k : Nat) (hk : k ≤ n) (p : Pf) => by
    have := refFind_any A cap (L.take k) (by rw [List.length_take]; omega) p W ((HV.out W hb).rd.take k)
    rw [List.length_take, hn, Nat.min_eq_left hk] at this
    exact this)
  rw [hn] at HV hnc hL ⊢
  clear hn
  go_enter Try.func25, Try.ntmps25
  go_wp2
  go_loopw [4] (fun s4 wr => ∃ k : Nat, k ≤ n ∧ s4 = .int .i64 k ∧ (∀ j (hj : j < L.length), j < k → right L[j] = true) ∧ Below w.heap.size w wr) (fun s4 _ => n - (intOf s4).toNat)
  case atStart => exact ⟨0, by omega, rfl, fun j _ h => absurd h (by omega), Below.refl _ _⟩
  case round =>
    obtain ⟨k, hk, rfl, hne, hb⟩ := hrel
    have HNE := Lib.hid hne
    have HB := Lib.hid hb
    clear hne hb
    by_cases hlt : k < n
    · have hlt' : (k : Int) < (n : Int) := by omega
      have k0 : (0 : Int) ≤ (k : Int) := by omega
      have hkl : k < L.length := by rw [HN.out]; exact hlt
      obtain ⟨b, o, rfl, hra⟩ := (HV.out _ HB.out).rd k hkl
      have hl1 : Sem.run Try.prog (loadCellsFrom ⟨b, o + k * n20, none⟩ 0 n20 #[]) wr = .ok (encR L[k]).toArray wr := hra.all.load (k := n20) (encR_n _) Try.prog
      clear hra
      by_cases hr : right L[k] = true
      · have HR := Lib.hid hr
        clear hr
        have HE := HR
        generalize L[k] = t at hl1 HR
        go_wp2_with (go_at_call 27; (with_reducible refine (refR_any _ _).mono ?_); rintro e w3 ⟨rfl, hb3⟩; rw [HR.out]; have HB := Lib.hid (HB.out.trans (hb3.mono HB.out.size)); clear hb3 hl1)
        go_roundw
        case rel => exact ⟨k + 1, by omega, by go_num, fun j hj h => by
          rcases Nat.lt_succ_iff_lt_or_eq.1 h with h | rfl
          · exact HNE.out j hj h
          · exact HE.out, HB.out⟩
        case measure => simp [intOf]; omega
      · have HR := Lib.hid (show right L[k] = false by simpa using hr)
        have HC := Lib.hid (show newC L = 1 by unfold newC; rw [if_pos]; rw [List.any_eq_true]; exact ⟨L[k], List.getElem_mem hkl, by simpa using hr⟩)
        clear hr
        generalize L[k] = t at hl1 HR
        go_wp2_with (go_at_call 27; (with_reducible refine (refR_any _ _).mono ?_); rintro e w3 ⟨rfl, hb3⟩; rw [HR.out]; have HB := Lib.hid (HB.out.trans (hb3.mono HB.out.size)); clear hb3 hl1)
        go_ret2
        rw [newT_ne (by rw [HC.out]; decide), HC.out]
        exact ⟨⟨_, none, 0, rfl, rv_none _⟩, HB.out⟩
    · have HOK := Lib.hid (show ∀ r ∈ L, right r = true from fun r hr => by
        obtain ⟨j, hj, rfl⟩ := List.getElem_of_mem hr
        exact HNE.out j hj (by have := HN.out; omega))
      have hlt' : ¬ (k : Int) < (n : Int) := by omega
      have HC := Lib.hid (show newC L = if dup L = true then 9 else if 300 < L.length then 7 else 0 by unfold newC; rw [if_neg]; rw [List.any_eq_true]; rintro ⟨r, hr, h⟩; rw [HOK.out r hr] at h; cases h)
      clear hk hlt HNE
      have hnc2 : (n : Int) ≤ (cap : Int) := by omega
      go_wp2
      go_loopw [5] (fun s5 wr => ∃ k : Nat, k ≤ n ∧ s5 = .int .i64 k ∧ (∀ j (hj : j < L.length), j < k → has (L.take j) L[j].to = false) ∧ Below w.heap.size w wr) (fun s5 _ => n - (intOf s5).toNat)
      case atStart => exact ⟨0, by omega, rfl, fun j _ h => absurd h (by omega), HB.out⟩
      case round =>
        clear HB
        obtain ⟨k, hk, rfl, hne, hb⟩ := hrel
        have HNE := Lib.hid hne
        have HB := Lib.hid hb
        clear hne hb
        by_cases hlt : k < n
        · have hlt' : (k : Int) < (n : Int) := by omega
          have k0 : (0 : Int) ≤ (k : Int) := by omega
          have hkc : (k : Int) ≤ (cap : Int) := by omega
          have hkl : k < L.length := by rw [HN.out]; exact hlt
          obtain ⟨b, o, rfl, hra⟩ := (HV.out _ HB.out).rd k hkl
          have HX := Lib.hid hra
          have HFK := Lib.hid (fun (W : World) (hb : Below w.heap.size w W) => HFI.out W hb k hk L[k].to)
          have HDA := Lib.hid (fun h => dup_at hkl h)
          have HFH := Lib.hid (fnd_has (L := L.take k) (p := L[k].to))
          have HNE2 := Lib.hid (show has (L.take k) L[k].to = false → ∀ j (hj : j < L.length), j < k + 1 → has (L.take j) L[j].to = false from fun h j hj hjk => by
            rcases Nat.lt_succ_iff_lt_or_eq.1 hjk with h' | rfl
            · exact HNE.out j hj h'
            · exact h)
          clear hra
          generalize has (L.take k) L[k].to = hs at HDA HFH HNE2
          generalize fnd (L.take k) L[k].to = fp at HFK HFH
          generalize L[k] = t at HX HFK
          cases hs with
          | true =>
            have hfp : (0 : Int) ≤ fp := HFH.out.2 rfl
            have HC' := Lib.hid (show newC L = 9 by rw [HC.out, if_pos (HDA.out rfl)])
            go_upto_region 9 with fail
            have HX := Lib.hid HX.out.drew
            have HB := Lib.hid HB.out.drew
            refine wp_region_held_drew (S := (fun w' => RAt w' b (o + k * 20) t)) (by kernel_rfl) HX.out (fun _ => ?_)
            refine held_take 0 26 (v := ?_) rfl rfl (by kernel_rfl) (by kernel_rfl) (by kernel_rfl) (fun _ _ _ h => h) (by rfl) ?_ HX.out ?_
            rotate_left
            · (intro w hSw; (try dsimp only at hSw); have a0 : Sem.run Try.prog (loadCellsFrom ⟨b, o + k * n20, none⟩ 0 n18 #[]) w = .ok (encP t.to).toArray w := hSw.to.all.load (k := n18) (encP_n _) Try.prog; clear hSw;try simp only [List.getElem_toArray, List.getElem_cons_zero, List.getElem_cons_succ]; go_simp; try (with_reducible rfl))
            try simp only [List.setIfInBounds_toArray, List.set_cons_zero, List.set_cons_succ]
            refine held_take 1 27 (v := ?_) rfl rfl (by kernel_rfl) (by kernel_rfl) (by kernel_rfl) (fun _ _ _ h => h) (by rfl) ?_ HX.out ?_
            rotate_left
            · (intro w hSw; (try dsimp only at hSw); have a0 : Sem.run Try.prog (loadCellsFrom ⟨b, o + k * n20, none⟩ 0 n18 #[]) w = .ok (encP t.to).toArray w := hSw.to.all.load (k := n18) (encP_n _) Try.prog; clear hSw;try simp only [List.getElem_toArray, List.getElem_cons_zero, List.getElem_cons_succ]; go_simp; try (with_reducible rfl))
            try simp only [List.setIfInBounds_toArray, List.set_cons_zero, List.set_cons_succ]
            refine held_take 2 28 (v := ?_) rfl rfl (by kernel_rfl) (by kernel_rfl) (by kernel_rfl) (fun _ _ _ h => h) (by rfl) ?_ HX.out ?_
            rotate_left
            · (intro w hSw; (try dsimp only at hSw); have a0 : Sem.run Try.prog (loadCellsFrom ⟨b, o + k * n20, none⟩ 0 n18 #[]) w = .ok (encP t.to).toArray w := hSw.to.all.load (k := n18) (encP_n _) Try.prog; clear hSw;try simp only [List.getElem_toArray, List.getElem_cons_zero, List.getElem_cons_succ]; go_simp; try (with_reducible rfl))
            try simp only [List.setIfInBounds_toArray, List.set_cons_zero, List.set_cons_succ]
            refine held_take 3 29 (v := ?_) rfl rfl (by kernel_rfl) (by kernel_rfl) (by kernel_rfl) (fun _ _ _ h => h) (by rfl) ?_ HX.out ?_
            rotate_left
            · (intro w hSw; (try dsimp only at hSw); have a0 : Sem.run Try.prog (loadCellsFrom ⟨b, o + k * n20, none⟩ 0 n18 #[]) w = .ok (encP t.to).toArray w := hSw.to.all.load (k := n18) (encP_n _) Try.prog; clear hSw;try simp only [List.getElem_toArray, List.getElem_cons_zero, List.getElem_cons_succ]; go_simp; try (with_reducible rfl))
            try simp only [List.setIfInBounds_toArray, List.set_cons_zero, List.set_cons_succ]
            refine held_take 4 30 (v := ?_) rfl rfl (by kernel_rfl) (by kernel_rfl) (by kernel_rfl) (fun _ _ _ h => h) (by rfl) ?_ HX.out ?_
            rotate_left
            · (intro w hSw; (try dsimp only at hSw); have a0 : Sem.run Try.prog (loadCellsFrom ⟨b, o + k * n20, none⟩ 0 n18 #[]) w = .ok (encP t.to).toArray w := hSw.to.all.load (k := n18) (encP_n _) Try.prog; clear hSw;try simp only [List.getElem_toArray, List.getElem_cons_zero, List.getElem_cons_succ]; go_simp; try (with_reducible rfl))
            try simp only [List.setIfInBounds_toArray, List.set_cons_zero, List.set_cons_succ]
            refine held_take 5 31 (v := ?_) rfl rfl (by kernel_rfl) (by kernel_rfl) (by kernel_rfl) (fun _ _ _ h => h) (by rfl) ?_ HX.out ?_
            rotate_left
            · (intro w hSw; (try dsimp only at hSw); have a0 : Sem.run Try.prog (loadCellsFrom ⟨b, o + k * n20, none⟩ 0 n18 #[]) w = .ok (encP t.to).toArray w := hSw.to.all.load (k := n18) (encP_n _) Try.prog; clear hSw;try simp only [List.getElem_toArray, List.getElem_cons_zero, List.getElem_cons_succ]; go_simp; try (with_reducible rfl))
            try simp only [List.setIfInBounds_toArray, List.set_cons_zero, List.set_cons_succ]
            refine held_take 6 32 (v := ?_) rfl rfl (by kernel_rfl) (by kernel_rfl) (by kernel_rfl) (fun _ _ _ h => h) (by rfl) ?_ HX.out ?_
            rotate_left
            · (intro w hSw; (try dsimp only at hSw); have a0 : Sem.run Try.prog (loadCellsFrom ⟨b, o + k * n20, none⟩ 0 n18 #[]) w = .ok (encP t.to).toArray w := hSw.to.all.load (k := n18) (encP_n _) Try.prog; clear hSw;try simp only [List.getElem_toArray, List.getElem_cons_zero, List.getElem_cons_succ]; go_simp; try (with_reducible rfl))
            try simp only [List.setIfInBounds_toArray, List.set_cons_zero, List.set_cons_succ]
            refine held_take 7 33 (v := ?_) rfl rfl (by kernel_rfl) (by kernel_rfl) (by kernel_rfl) (fun _ _ _ h => h) (by rfl) ?_ HX.out ?_
            rotate_left
            · (intro w hSw; (try dsimp only at hSw); have a0 : Sem.run Try.prog (loadCellsFrom ⟨b, o + k * n20, none⟩ 0 n18 #[]) w = .ok (encP t.to).toArray w := hSw.to.all.load (k := n18) (encP_n _) Try.prog; clear hSw;try simp only [List.getElem_toArray, List.getElem_cons_zero, List.getElem_cons_succ]; go_simp; try (with_reducible rfl))
            try simp only [List.setIfInBounds_toArray, List.set_cons_zero, List.set_cons_succ]
            refine held_call 8 34 rfl rfl (by kernel_rfl) (by rfl) (fun K hK => ?_)
            try simp only [List.getElem_toArray, List.getElem_cons_zero, List.getElem_cons_succ]
            go_simp
            (go_at_call 19; (with_reducible refine (HFK.out _ HB.out).mono ?_); rintro e w3 ⟨rfl, hb3⟩; have HX := Lib.hid (HX.out.below hb3); have HB := Lib.hid (HB.out.trans (hb3.mono HB.out.size)); clear hb3)
            try go_wp2_with fail
            try simp only [Act.put, List.setIfInBounds_toArray, List.set_cons_zero, List.set_cons_succ]
            refine hK.out _ _ _ HX.out ?_
            clear hK K
            refine held_take 9 35 (v := ?_) rfl rfl (by kernel_rfl) (by kernel_rfl) (by kernel_rfl) (fun _ _ _ h => h) (by rfl) ?_ HX.out ?_
            rotate_left
            · (intro w hSw; (try dsimp only at hSw); have a0 : Sem.run Try.prog (loadCellsFrom ⟨b, o + k * n20, none⟩ 0 n18 #[]) w = .ok (encP t.to).toArray w := hSw.to.all.load (k := n18) (encP_n _) Try.prog; clear hSw;try simp only [List.getElem_toArray, List.getElem_cons_zero, List.getElem_cons_succ]; go_simp; try (with_reducible rfl))
            try simp only [List.setIfInBounds_toArray, List.set_cons_zero, List.set_cons_succ]
            refine wpAnyH_done (by kernel_rfl) ?_ _
            go_wp2
            go_ret2
            rw [newT_ne (by rw [HC'.out]; decide), HC'.out]
            exact ⟨⟨_, none, 0, rfl, rv_none _⟩, HB.out⟩
          | false =>
            have hfp : ¬ (0 : Int) ≤ fp := fun h => by have := HFH.out.1 h; cases this
            have hfp2 : decide ((0 : Int) ≤ fp) = false := decide_eq_false hfp
            go_upto_region 9 with fail
            have HX := Lib.hid HX.out.drew
            have HB := Lib.hid HB.out.drew
            refine wp_region_held_drew (S := (fun w' => RAt w' b (o + k * 20) t)) (by kernel_rfl) HX.out (fun _ => ?_)
            refine held_take 0 26 (v := ?_) rfl rfl (by kernel_rfl) (by kernel_rfl) (by kernel_rfl) (fun _ _ _ h => h) (by rfl) ?_ HX.out ?_
            rotate_left
            · (intro w hSw; (try dsimp only at hSw); have a0 : Sem.run Try.prog (loadCellsFrom ⟨b, o + k * n20, none⟩ 0 n18 #[]) w = .ok (encP t.to).toArray w := hSw.to.all.load (k := n18) (encP_n _) Try.prog; clear hSw;try simp only [List.getElem_toArray, List.getElem_cons_zero, List.getElem_cons_succ]; go_simp; try (with_reducible rfl))
            try simp only [List.setIfInBounds_toArray, List.set_cons_zero, List.set_cons_succ]
            refine held_take 1 27 (v := ?_) rfl rfl (by kernel_rfl) (by kernel_rfl) (by kernel_rfl) (fun _ _ _ h => h) (by rfl) ?_ HX.out ?_
            rotate_left
            · (intro w hSw; (try dsimp only at hSw); have a0 : Sem.run Try.prog (loadCellsFrom ⟨b, o + k * n20, none⟩ 0 n18 #[]) w = .ok (encP t.to).toArray w := hSw.to.all.load (k := n18) (encP_n _) Try.prog; clear hSw;try simp only [List.getElem_toArray, List.getElem_cons_zero, List.getElem_cons_succ]; go_simp; try (with_reducible rfl))
            try simp only [List.setIfInBounds_toArray, List.set_cons_zero, List.set_cons_succ]
            refine held_take 2 28 (v := ?_) rfl rfl (by kernel_rfl) (by kernel_rfl) (by kernel_rfl) (fun _ _ _ h => h) (by rfl) ?_ HX.out ?_
            rotate_left
            · (intro w hSw; (try dsimp only at hSw); have a0 : Sem.run Try.prog (loadCellsFrom ⟨b, o + k * n20, none⟩ 0 n18 #[]) w = .ok (encP t.to).toArray w := hSw.to.all.load (k := n18) (encP_n _) Try.prog; clear hSw;try simp only [List.getElem_toArray, List.getElem_cons_zero, List.getElem_cons_succ]; go_simp; try (with_reducible rfl))
            try simp only [List.setIfInBounds_toArray, List.set_cons_zero, List.set_cons_succ]
            refine held_take 3 29 (v := ?_) rfl rfl (by kernel_rfl) (by kernel_rfl) (by kernel_rfl) (fun _ _ _ h => h) (by rfl) ?_ HX.out ?_
            rotate_left
            · (intro w hSw; (try dsimp only at hSw); have a0 : Sem.run Try.prog (loadCellsFrom ⟨b, o + k * n20, none⟩ 0 n18 #[]) w = .ok (encP t.to).toArray w := hSw.to.all.load (k := n18) (encP_n _) Try.prog; clear hSw;try simp only [List.getElem_toArray, List.getElem_cons_zero, List.getElem_cons_succ]; go_simp; try (with_reducible rfl))
            try simp only [List.setIfInBounds_toArray, List.set_cons_zero, List.set_cons_succ]
            refine held_take 4 30 (v := ?_) rfl rfl (by kernel_rfl) (by kernel_rfl) (by kernel_rfl) (fun _ _ _ h => h) (by rfl) ?_ HX.out ?_
            rotate_left
            · (intro w hSw; (try dsimp only at hSw); have a0 : Sem.run Try.prog (loadCellsFrom ⟨b, o + k * n20, none⟩ 0 n18 #[]) w = .ok (encP t.to).toArray w := hSw.to.all.load (k := n18) (encP_n _) Try.prog; clear hSw;try simp only [List.getElem_toArray, List.getElem_cons_zero, List.getElem_cons_succ]; go_simp; try (with_reducible rfl))
            try simp only [List.setIfInBounds_toArray, List.set_cons_zero, List.set_cons_succ]
            refine held_take 5 31 (v := ?_) rfl rfl (by kernel_rfl) (by kernel_rfl) (by kernel_rfl) (fun _ _ _ h => h) (by rfl) ?_ HX.out ?_
            rotate_left
            · (intro w hSw; (try dsimp only at hSw); have a0 : Sem.run Try.prog (loadCellsFrom ⟨b, o + k * n20, none⟩ 0 n18 #[]) w = .ok (encP t.to).toArray w := hSw.to.all.load (k := n18) (encP_n _) Try.prog; clear hSw;try simp only [List.getElem_toArray, List.getElem_cons_zero, List.getElem_cons_succ]; go_simp; try (with_reducible rfl))
            try simp only [List.setIfInBounds_toArray, List.set_cons_zero, List.set_cons_succ]
            refine held_take 6 32 (v := ?_) rfl rfl (by kernel_rfl) (by kernel_rfl) (by kernel_rfl) (fun _ _ _ h => h) (by rfl) ?_ HX.out ?_
            rotate_left
            · (intro w hSw; (try dsimp only at hSw); have a0 : Sem.run Try.prog (loadCellsFrom ⟨b, o + k * n20, none⟩ 0 n18 #[]) w = .ok (encP t.to).toArray w := hSw.to.all.load (k := n18) (encP_n _) Try.prog; clear hSw;try simp only [List.getElem_toArray, List.getElem_cons_zero, List.getElem_cons_succ]; go_simp; try (with_reducible rfl))
            try simp only [List.setIfInBounds_toArray, List.set_cons_zero, List.set_cons_succ]
            refine held_take 7 33 (v := ?_) rfl rfl (by kernel_rfl) (by kernel_rfl) (by kernel_rfl) (fun _ _ _ h => h) (by rfl) ?_ HX.out ?_
            rotate_left
            · (intro w hSw; (try dsimp only at hSw); have a0 : Sem.run Try.prog (loadCellsFrom ⟨b, o + k * n20, none⟩ 0 n18 #[]) w = .ok (encP t.to).toArray w := hSw.to.all.load (k := n18) (encP_n _) Try.prog; clear hSw;try simp only [List.getElem_toArray, List.getElem_cons_zero, List.getElem_cons_succ]; go_simp; try (with_reducible rfl))
            try simp only [List.setIfInBounds_toArray, List.set_cons_zero, List.set_cons_succ]
            refine held_call 8 34 rfl rfl (by kernel_rfl) (by rfl) (fun K hK => ?_)
            try simp only [List.getElem_toArray, List.getElem_cons_zero, List.getElem_cons_succ]
            go_simp
            (go_at_call 19; (with_reducible refine (HFK.out _ HB.out).mono ?_); rintro e w3 ⟨rfl, hb3⟩; have HX := Lib.hid (HX.out.below hb3); have HB := Lib.hid (HB.out.trans (hb3.mono HB.out.size)); clear hb3)
            try go_wp2_with fail
            try simp only [Act.put, List.setIfInBounds_toArray, List.set_cons_zero, List.set_cons_succ]
            refine hK.out _ _ _ HX.out ?_
            clear hK K
            refine held_take 9 35 (v := ?_) rfl rfl (by kernel_rfl) (by kernel_rfl) (by kernel_rfl) (fun _ _ _ h => h) (by rfl) ?_ HX.out ?_
            rotate_left
            · (intro w hSw; (try dsimp only at hSw); have a0 : Sem.run Try.prog (loadCellsFrom ⟨b, o + k * n20, none⟩ 0 n18 #[]) w = .ok (encP t.to).toArray w := hSw.to.all.load (k := n18) (encP_n _) Try.prog; clear hSw;try simp only [List.getElem_toArray, List.getElem_cons_zero, List.getElem_cons_succ]; go_simp; try (with_reducible rfl))
            try simp only [List.setIfInBounds_toArray, List.set_cons_zero, List.set_cons_succ]
            refine wpAnyH_done (by kernel_rfl) ?_ _
            go_wp2
            go_roundw
            case rel => exact ⟨k + 1, by omega, by go_num, HNE2.out (by first | rfl | trivial), HB.out⟩
            case measure => simp [intOf]; omega
        · have HD := Lib.hid (dup_not (fun j hj => HNE.out j hj (by have := HN.out; omega)))
          have hlt' : ¬ (k : Int) < (n : Int) := by omega
          clear hk hlt HNE
          by_cases h3 : 300 < n
          · have h3' : (300 : Int) < (n : Int) := by omega
            have HC' := Lib.hid (show newC L = 7 by rw [HC.out, HD.out, HN.out, if_neg (by simp), if_pos h3])
            go_wp2
            go_ret2
            rw [newT_ne (by rw [HC'.out]; decide), HC'.out]
            exact ⟨⟨_, none, 0, rfl, rv_none _⟩, HB.out⟩
          · have h3' : ¬ (300 : Int) < (n : Int) := by omega
            have HC' := Lib.hid (show newC L = 0 by rw [HC.out, HD.out, HN.out, if_neg (by simp), if_neg h3])
            go_wp2
            go_loopw [6, 7] (fun s6 s7 wr => ∃ (k : Nat) (A' : Option Addr) (c' : Nat), k ≤ n ∧ s7 = .int .i64 k ∧ Rv wr s6 A' c' (fold (L.take k)) ∧ Below w.heap.size w wr) (fun s6 s7 _ => n - (intOf s7).toNat)
            case atStart => exact ⟨0, none, 0, by omega, rfl, by rw [List.take_zero]; exact rv_none _, HB.out⟩
            case round =>
              clear HB
              obtain ⟨k, A', c', hk, rfl, hv, hb⟩ := hrel
              obtain rfl := hv.eq
              have HVK := Lib.hid hv
              have HB := Lib.hid hb
              clear hv hb
              by_cases hlt : k < n
              · have hlt' : (k : Int) < (n : Int) := by omega
                have k0 : (0 : Int) ≤ (k : Int) := by omega
                have hkl : k < L.length := by rw [HN.out]; exact hlt
                obtain ⟨b, o, rfl, hra⟩ := (HV.out _ HB.out).rd k hkl
                have hl1 : Sem.run Try.prog (loadCellsFrom ⟨b, o + k * n20, none⟩ 0 n20 #[]) wr = .ok (encR L[k]).toArray wr := hra.all.load (k := n20) (encR_n _) Try.prog
                have HFS := Lib.hid (fold_step hkl)
                have HRK := Lib.hid (HOK.out _ (List.getElem_mem hkl))
                have HTK := Lib.hid (fold_tok (dup_take HD.out k) (fun r hr => HOK.out r (List.mem_of_mem_take hr)) (by rw [List.length_take, HN.out]; omega))
                have HLK := Lib.hid (show (fold (L.take k)).length = k by rw [(fold_of (dup_take HD.out k)).2.2, List.length_take, HN.out]; omega)
                clear hra
                generalize L[k] = t at hl1 HFS HRK
                generalize fold (L.take k) = F at HVK HFS HTK HLK ⊢
                have HPU := Lib.hid (refPut_any A' c' F HTK.out t wr HVK.out)
                have HPT := Lib.hid (putT_new (T := F) HRK.out (by rw [HLK.out]; omega))
                generalize F.length = fl at HPU ⊢
                go_wp2_with (go_at_call 13; (with_reducible refine (HPU.out).mono ?_); rintro e w3 ⟨⟨v3, A3, c3, rfl, h3⟩, hb3⟩; have H3 := Lib.hid h3; have HB := Lib.hid (HB.out.trans (hb3.mono HB.out.size)); clear h3 hb3 hl1)
                go_roundw
                case rel => exact ⟨k + 1, A3, c3, by omega, by go_num, by rw [HFS.out, ← HPT.out]; exact H3.out, HB.out⟩
                case measure => simp [intOf]; omega
              · obtain rfl : k = n := by omega
                have HTK := Lib.hid (show fold (L.take k) = newT L by rw [List.take_of_length_le (by rw [HN.out]; exact Nat.le_refl _), newT_zero HC'.out])
                have hlt2 : ¬ (k : Int) < (k : Int) := by omega
                rw [HTK.out] at HVK ⊢
                generalize (newT L).length = fl at HVK ⊢
                go_wp2
                go_ret2
                rw [HC'.out]
                exact ⟨⟨_, A', c', rfl, HVK.out⟩, HB.out⟩
end Tab
end Go.Proofs.Ytbeoclcnajfjcaa
