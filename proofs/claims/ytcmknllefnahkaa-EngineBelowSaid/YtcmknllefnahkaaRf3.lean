/-
  The document's node: Link. Conditions: those that each theorem names.
-/
import Derived.Test.YtcmknllefnahkaaRf2
namespace Go.Proofs.Ytcmknllefnahkaa
open Go.RowKit FR FP H2 OW
set_option linter.unusedVariables false
set_option linter.unusedSimpArgs false
namespace RefN
open Eng Ref18
theorem RN.nec {w : World} {base b : Nat} {s : St} {L : RLay} (h : RN w base b s L) : b ≠ L.c ∧ L.f ≠ L.c ∧ L.i ≠ L.c ∧ ∀ d, d < s.n → L.r d ≠ L.c := by
  obtain ⟨cur, hc, _⟩ := h.rb.cost
  obtain ⟨cu2, hc2, _⟩ := h.outer
  obtain ⟨cu3, hc3, _⟩ := h.rb.fd
  exact ⟨blk_ne h.rb.blk hc (by decide), blk_ne hc3 hc (by decide), blk_ne hc2 hc (by decide), fun d hd => by
    obtain ⟨cu4, hc4, _⟩ := h.rows d hd
    exact blk_ne hc4 hc (by decide)⟩
theorem RN.ner {w : World} {base b : Nat} {s : St} {L : RLay} (h : RN w base b s L) {d : Nat} (hd : d < s.n) : b ≠ L.r d ∧ L.c ≠ L.r d ∧ L.i ≠ L.r d := by
  obtain ⟨cur, hc, _⟩ := h.rb.cost
  obtain ⟨cu2, hc2, _⟩ := h.outer
  obtain ⟨cu4, hc4, _⟩ := h.rows d hd
  exact ⟨blk_ne h.rb.blk hc4 (by decide), blk_ne hc hc4 (by decide), blk_ne hc2 hc4 (by decide)⟩
theorem RN.nef {w : World} {base b : Nat} {s : St} {L : RLay} (h : RN w base b s L) : b ≠ L.f ∧ L.c ≠ L.f ∧ L.i ≠ L.f := by
  obtain ⟨cur, hc, _⟩ := h.rb.cost
  obtain ⟨cu2, hc2, _⟩ := h.outer
  obtain ⟨cu3, hc3, _⟩ := h.rb.fd
  exact ⟨blk_ne h.rb.blk hc3 (by decide), blk_ne hc hc3 (by decide), blk_ne hc2 hc3 (by decide)⟩
theorem RN.price {w : World} {base b : Nat} {s : St} {L : RLay} (h : RN w base b s L) (t : Nat) (x : Int) : RN (w.setCell ⟨L.c, t, none⟩ (.int .i64 x)) base b (s.price t (x, 0)) L := by
  have hne := h.nec
  have ho : Only (fun k => k = L.c) w (w.setCell ⟨L.c, t, none⟩ (.int .i64 x)) := (Only.refl (fun k => k = L.c) w).setCell (p := ⟨L.c, t, none⟩) (fun _ => rfl) _
  obtain ⟨cur, hc, hcc⟩ := h.rb.cost
  obtain ⟨cu2, hc2, hcc2⟩ := h.outer
  refine ⟨⟨ho.obj h.rb.blk hne.1, ⟨_, blk_set hc t _, fun i hi => ?_⟩, h.rb.fd.only ho hne.2.1, ⟨h.rb.lo.1, h.rb.lo.2.1, h.rb.lo.2.2.1, Nat.le_trans h.rb.lo.2.2.2 ho.size⟩, h.rb.id, h.rb.n6⟩, ⟨cu2, ho.obj hc2 hne.2.2.1, hcc2⟩, fun d hd => (h.rows d hd).only ho (hne.2.2.2 d hd), h.inj, h.fne, h.lo⟩
  have hi' : i < s.n := hi
  have h1 := hcc i hi'
  have hl := (Array.getElem?_eq_some_iff.1 h1).1
  rw [Array.getElem?_setIfInBounds]
  show _ = some (Value.int .i64 (if i = t then (x, (0 : Int)) else s.cost i).1)
  by_cases e : t = i
  · subst e; rw [if_pos rfl, if_pos hl, if_pos rfl]
  · rw [if_neg e, if_neg (fun e2 => e e2.symm)]; exact h1
theorem RN.entry {w : World} {base b : Nat} {s : St} {L : RLay} {f : Nat → Nat → Int × Int} (h : RN w base b (s.hears f) L) {d : Nat} (hd : d < s.n) (t : Nat) (x y : Int) :
    RN ((w.setCell ⟨L.r d, t * 2, none⟩ (.int .i64 x)).setCell ⟨L.r d, t * 2 + 1, none⟩ (.int .i64 y)) base b (s.hears (fun e k => if e = d ∧ k = t then (x, y) else f e k)) L := by
  have hne := h.ner (d := d) hd
  have ho : Only (fun k => k = L.r d) w ((w.setCell ⟨L.r d, t * 2, none⟩ (.int .i64 x)).setCell ⟨L.r d, t * 2 + 1, none⟩ (.int .i64 y)) := ((Only.refl (fun k => k = L.r d) w).setCell (p := ⟨L.r d, t * 2, none⟩) (fun _ => rfl) _).setCell (p := ⟨L.r d, t * 2 + 1, none⟩) (fun _ => rfl) _
  obtain ⟨cur, hc, hcc⟩ := h.rb.cost
  obtain ⟨cu2, hc2, hcc2⟩ := h.outer
  refine ⟨⟨ho.obj h.rb.blk hne.1, ⟨cur, ho.obj hc hne.2.1, hcc⟩, h.rb.fd.only ho (fun e => h.fne d hd e.symm), ⟨h.rb.lo.1, h.rb.lo.2.1, h.rb.lo.2.2.1, Nat.le_trans h.rb.lo.2.2.2 ho.size⟩, h.rb.id, h.rb.n6⟩, ⟨cu2, ho.obj hc2 hne.2.2, hcc2⟩, fun e he => ?_, h.inj, h.fne, h.lo⟩
  by_cases e1 : e = d
  · subst e1
    exact ((h.rows e hd).set t x y).congr (fun i hi => by
      show (if e = e ∧ i = t then (x, y) else f e i) = if i = t then (x, y) else f e i
      by_cases e2 : i = t
      · rw [if_pos e2, if_pos ⟨rfl, e2⟩]
      · rw [if_neg e2, if_neg (fun h => e2 h.2)])
  · exact ((h.rows e he).only ho (fun e2 => e1 (h.inj e d he hd e2))).congr (fun i hi => by
      show (if e = d ∧ i = t then (x, y) else f e i) = f e i
      rw [if_neg (fun h => e1 h.1)])
theorem RN.after_entry {w w0 : World} {base b : Nat} {s : St} {L : RLay} (h : RN w base b s L) (ha : AfterR base w0 w) (h0 : base ≤ w0.heap.size) {d : Nat} (hd : d < s.n) (t : Nat) (x y : Int) : AfterR base w0 ((w.setCell ⟨L.r d, t * 2, none⟩ (.int .i64 x)).setCell ⟨L.r d, t * 2 + 1, none⟩ (.int .i64 y)) := by
  obtain ⟨cu4, hc4, _⟩ := h.rows d hd
  exact (ha.set (p := ⟨L.r d, t * 2, none⟩) hc4 (.inr (.inr (.inr rfl))) (h.lo.2 d hd) h0 _).set (p := ⟨L.r d, t * 2 + 1, none⟩) (blk_set hc4 _ _) (.inr (.inr (.inr rfl))) (h.lo.2 d hd) h0 _
theorem RN.hears {w : World} {base b : Nat} {s : St} {L : RLay} {f g : Nat → Nat → Int × Int} (h : RN w base b (s.hears f) L) (he : ∀ d k, d < s.n → k < s.n → g d k = f d k) : RN w base b (s.hears g) L :=
  ⟨h.rb.congr rfl rfl rfl rfl rfl rfl rfl rfl, h.outer, fun d hd => (h.rows d hd).congr (fun i hi => he d i hd hi), h.inj, h.fne, h.lo⟩
theorem below_drew {B : Nat} {w w' : World} (h : Below B w w') : Below B w w'.drew := ⟨h.os, h.tape, h.output, h.size, h.block⟩
theorem AfterR.drew {base : Nat} {w w' : World} (h : AfterR base w w') : AfterR base w w'.drew := ⟨below_drew h.bel, h.typ.drew⟩
theorem AfterR.below {base : Nat} {w w' w2 : World} (h : AfterR base w w') (hb : Below w'.heap.size w' w2) (h0 : base ≤ w.heap.size) : AfterR base w w2 := h.trans (AfterR.of_below hb (Nat.le_trans h0 h.bel.size))
set_option maxRecDepth 100000 in
set_option maxHeartbeats 8000000 in
theorem link_any {base b : Nat} {s : St} {L : RLay} (t c : Int) (w : World) (h : RN w base b s L) : Calls Try.prog 14 #[.pointer (some ⟨b, 0, none⟩), .int .i64 t, .int .i64 c] w fun e w' => e = .returned (.int .i64 (lnk s t c)) ∧ RN w' base b (s.link t c) L ∧ AfterR base w w' := by
  have H := Lib.hid h
  have hlo := h.rb.lo.2.2.2
  have hck := other_any t w h
  cases ho : oth s t
  · have e1 : lnk s t c = 2 := by unfold lnk; rw [if_neg (by rw [ho]; simp)]
    have e2 : s.link t c = s := by unfold St.link; rw [if_neg (by rw [ho]; simp)]
    rw [ho] at hck
    have HCK := Lib.hid hck
    rw [e1, e2]
    clear hck h ho e1 e2
    go_enter Try.func14, Try.ntmps14
    go_wp2_with (go_at_call 41; (with_reducible refine (HCK.out).mono ?_); rintro e w' ⟨rfl, rfl⟩)
    go_ret
    exact ⟨rfl, H.out, AfterR.refl _ _⟩
  · rw [ho] at hck
    have HCK := Lib.hid hck
    by_cases h0 : 0 ≤ c
    · by_cases h1 : c ≤ 1000
      · have e1 : lnk s t c = 0 := by unfold lnk; rw [if_pos ho, if_pos ⟨h0, h1⟩]
        have e2 : s.link t c = (if c = 0 then (s.price t.toNat (0, 0)).hears (fun d k => if k = t.toNat then (65535, 0) else s.inn d k) else s.price t.toNat (c, 0)) := by unfold St.link; rw [if_pos ⟨ho, h0, h1⟩]
        obtain ⟨k, rfl, hk, _⟩ := oth_nat ho
        rw [Int.toNat_natCast] at e2
        have c2 := h.at.2.2.1
        have x0 := h.rb.cost_at hk
        have z0 := h.rb.cost_free k
        have k0 : (0 : Int) ≤ (k : Int) := by omega
        have kn : (k : Int) < (s.n : Int) := by omega
        have hn6 := h.rb.n6
        by_cases hz : c = 0
        · subst hz
          rw [if_pos rfl] at e2
          have HE := Lib.hid e2
          rw [e1]
          have HN1 := Lib.hid (h.price k 0)
          have HA1 := Lib.hid ((AfterR.refl base w).set (p := ⟨L.c, k, none⟩) h.rb.cost.choose_spec.1 (.inr (.inl rfl)) h.rb.lo.2.1 hlo (.int .i64 0))
          clear hck h ho e1 e2
          go_enter Try.func14, Try.ntmps14
          go_upto_region 8 with (go_at_call 41; (with_reducible refine (HCK.out).mono ?_); rintro e w' ⟨rfl, rfl⟩)
          clear c2 x0 z0
          go_loopw [7] (fun s7 wr => ∃ d : Nat, d ≤ s.n ∧ s7 = .int .i64 d ∧ RN wr base b ((s.price k (0, 0)).hears (fun e j => if e < d ∧ j = k then (65535, 0) else s.inn e j)) L ∧ AfterR base w wr) (fun s7 _ => s.n - (intOf s7).toNat)
          case atStart => exact ⟨0, by omega, rfl, (show RN _ base b ((s.price k (0, 0)).hears s.inn) L from HN1.out).hears (fun d j _ _ => by rw [if_neg (by omega)]), HA1.out⟩
          case round =>
            obtain ⟨d, hd, rfl, hn, ha⟩ := hrel
            have HN := Lib.hid hn
            have HA := Lib.hid ha
            have c1 : wr.cell? ⟨b, 1, none⟩ = some (.int .i64 s.n) := hn.at.2.1
            clear hn ha
            by_cases hdn : d < s.n
            · have hdn' : (d : Int) < (s.n : Int) := by omega
              have d0 : (0 : Int) ≤ (d : Int) := by omega
              go_upto_region 10 with fail
              have c3 : wr.drew.cell? ⟨b, 3, none⟩ = some (.slice (some ⟨L.i, 0, none⟩) s.n L.ic) := HN.out.at.2.2.2.1
              have y3 : wr.drew.cell? ⟨L.i, d, none⟩ = some (.slice (some ⟨L.r d, 0, none⟩) s.n (L.rc d)) := HN.out.outer_at hdn
              have hner := HN.out.ner hdn
              refine wp_region_held_drew (S := (fun w' => w'.cell? ⟨b, 3, none⟩ = some (.slice (some ⟨L.i, 0, none⟩) s.n L.ic) ∧ w'.cell? ⟨L.i, d, none⟩ = some (.slice (some ⟨L.r d, 0, none⟩) s.n (L.rc d)))) (by kernel_rfl) ⟨c3, y3⟩ (fun _ => ?_)
              refine held_take 0 35 (v := ?_) rfl rfl (by kernel_rfl) (by kernel_rfl) (by kernel_rfl) (fun _ _ _ h => h) (by rfl) ?_ ⟨c3, y3⟩ ?_
              rotate_left
              · (intro w hSw; (try dsimp only at hSw); try simp only [List.getElem_toArray, List.getElem_cons_zero, List.getElem_cons_succ]; go_simp; try (with_reducible rfl))
              try simp only [List.setIfInBounds_toArray, List.set_cons_zero, List.set_cons_succ]
              refine held_take 1 36 (v := ?_) rfl rfl (by kernel_rfl) (by kernel_rfl) (by kernel_rfl) (fun _ _ _ h => h) (by rfl) ?_ ⟨c3, y3⟩ ?_
              rotate_left
              · (intro w hSw; (try dsimp only at hSw); try simp only [List.getElem_toArray, List.getElem_cons_zero, List.getElem_cons_succ]; go_simp; try (with_reducible rfl))
              try simp only [List.setIfInBounds_toArray, List.set_cons_zero, List.set_cons_succ]
              refine held_take 2 37 (v := ?_) rfl rfl (by kernel_rfl) (by kernel_rfl) (by kernel_rfl) (fun _ _ _ h => h) (by rfl) ?_ ⟨c3, y3⟩ ?_
              rotate_left
              · (intro w hSw; (try dsimp only at hSw); try simp only [List.getElem_toArray, List.getElem_cons_zero, List.getElem_cons_succ]; go_simp; try (with_reducible rfl))
              try simp only [List.setIfInBounds_toArray, List.set_cons_zero, List.set_cons_succ]
              refine held_take 3 38 (v := ?_) rfl rfl (by kernel_rfl) (by kernel_rfl) (by kernel_rfl) (fun _ _ _ h => h) (by rfl) ?_ ⟨c3, y3⟩ ?_
              rotate_left
              · (intro w hSw; (try dsimp only at hSw); try simp only [List.getElem_toArray, List.getElem_cons_zero, List.getElem_cons_succ]; go_simp; try (with_reducible rfl))
              try simp only [List.setIfInBounds_toArray, List.set_cons_zero, List.set_cons_succ]
              refine held_take 4 39 (v := ?_) rfl rfl (by kernel_rfl) (by kernel_rfl) (by kernel_rfl) (fun _ _ _ h => h) (by rfl) ?_ ⟨c3, y3⟩ ?_
              rotate_left
              · (intro w hSw; (try dsimp only at hSw); try simp only [List.getElem_toArray, List.getElem_cons_zero, List.getElem_cons_succ]; go_simp; try (with_reducible rfl))
              try simp only [List.setIfInBounds_toArray, List.set_cons_zero, List.set_cons_succ]
              refine held_take 5 40 (v := ?_) rfl rfl (by kernel_rfl) (by kernel_rfl) (by kernel_rfl) (fun _ _ _ h => h) (by rfl) ?_ ⟨c3, y3⟩ ?_
              rotate_left
              · (intro w hSw; (try dsimp only at hSw); try simp only [List.getElem_toArray, List.getElem_cons_zero, List.getElem_cons_succ]; go_simp; try (with_reducible rfl))
              try simp only [List.setIfInBounds_toArray, List.set_cons_zero, List.set_cons_succ]
              refine held_take 6 41 (v := ?_) rfl rfl (by kernel_rfl) (by kernel_rfl) (by kernel_rfl) (fun _ _ _ h => h) (by rfl) ?_ ⟨c3, y3⟩ ?_
              rotate_left
              · (intro w hSw; (try dsimp only at hSw); try simp only [List.getElem_toArray, List.getElem_cons_zero, List.getElem_cons_succ]; go_simp; try (with_reducible rfl))
              try simp only [List.setIfInBounds_toArray, List.set_cons_zero, List.set_cons_succ]
              refine held_take 7 42 (v := ?_) rfl rfl (by kernel_rfl) (by kernel_rfl) (by kernel_rfl) (fun _ _ _ h => h) (by rfl) ?_ ⟨c3, y3⟩ ?_
              rotate_left
              · (intro w hSw; (try dsimp only at hSw); try simp only [List.getElem_toArray, List.getElem_cons_zero, List.getElem_cons_succ]; go_simp; try (with_reducible rfl))
              try simp only [List.setIfInBounds_toArray, List.set_cons_zero, List.set_cons_succ]
              refine held_call 8 43 rfl rfl (by kernel_rfl) (by rfl) (fun K hK => ?_)
              try simp only [List.getElem_toArray, List.getElem_cons_zero, List.getElem_cons_succ]
              go_simp
              (go_at_call 28; (refine (none_any _).mono ?_); rintro e w5 ⟨rfl, hb5⟩; have HN5 := Lib.hid (HN.out.drew.below hb5); have HA5 := Lib.hid (HA.out.drew.below hb5 hlo); have c3 := later hb5 c3; have y3 := later hb5 y3; clear hb5)
              try go_wp2_with fail
              try simp only [Act.put, List.setIfInBounds_toArray, List.set_cons_zero, List.set_cons_succ]
              refine hK.out _ _ _ ⟨c3, y3⟩ ?_
              clear hK K
              refine held_take 9 44 (v := ?_) rfl rfl (by kernel_rfl) (by kernel_rfl) (by kernel_rfl) (fun _ _ _ h => h) (by rfl) ?_ ⟨c3, y3⟩ ?_
              rotate_left
              · (intro w hSw; (try dsimp only at hSw); try simp only [List.getElem_toArray, List.getElem_cons_zero, List.getElem_cons_succ]; go_simp; try (with_reducible rfl))
              try simp only [List.setIfInBounds_toArray, List.set_cons_zero, List.set_cons_succ]
              refine held_do 10 rfl (by kernel_rfl) (by rfl) (fun K hK => ?_)
              try simp only [List.getElem_toArray, List.getElem_cons_zero, List.getElem_cons_succ]
              (have p0 := (HN5.out.rows d hdn).c0 hk; have p1 := (HN5.out.rows d hdn).c1 hk; have q0 := (HN5.out.rows d hdn).free (k * 2); have q1 := (HN5.out.rows d hdn).free (k * 2 + 1); go_simp; have c3 := cell_other (q := ⟨L.r d, k * 2 + 1, none⟩) (u := .int .i64 0) (cell_other (q := ⟨L.r d, k * 2, none⟩) (u := .int .i64 65535) c3 (fun e => hner.1 e.symm)) (fun e => hner.1 e.symm); have y3 := cell_other (q := ⟨L.r d, k * 2 + 1, none⟩) (u := .int .i64 0) (cell_other (q := ⟨L.r d, k * 2, none⟩) (u := .int .i64 65535) y3 (fun e => hner.2.2 e.symm)) (fun e => hner.2.2 e.symm))
              try simp only [Act.put, List.setIfInBounds_toArray, List.set_cons_zero, List.set_cons_succ]
              refine hK.out _ _ _ ⟨c3, y3⟩ ?_
              clear hK K
              refine wpAnyH_done (by kernel_rfl) ?_ _
              have HN6 := Lib.hid ((HN5.out.entry hdn k 65535 0).hears (g := fun e j => if e < d + 1 ∧ j = k then (65535, 0) else s.inn e j) (fun e j _ _ => by
                by_cases h1 : e = d ∧ j = k
                · rw [if_pos h1, if_pos (by omega)]
                · rw [if_neg h1]
                  by_cases h2 : e < d ∧ j = k
                  · rw [if_pos h2, if_pos (by omega)]
                  · rw [if_neg h2, if_neg (by omega)]))
              have HA6 := Lib.hid (HN5.out.after_entry HA5.out hlo hdn k 65535 0)
              clear c3 y3 hner c1
              go_wp2
              go_roundw
              case rel => exact ⟨d + 1, by omega, by go_num, HN6.out, HA6.out⟩
              case measure => simp [intOf]; omega
            · go_wp2
              go_ret
              rw [HE.out]
              exact ⟨rfl, HN.out.hears (fun e j he _ => by
                have he : e < s.n := he
                by_cases h1 : j = k
                · rw [if_pos h1, if_pos ⟨by omega, h1⟩]
                · rw [if_neg h1, if_neg (fun h => h1 h.2)]), HA.out⟩
        · rw [if_neg hz] at e2
          have HE := Lib.hid e2
          rw [e1]
          have HN1 := Lib.hid (h.price k c)
          have HA1 := Lib.hid ((AfterR.refl base w).set (p := ⟨L.c, k, none⟩) h.rb.cost.choose_spec.1 (.inr (.inl rfl)) h.rb.lo.2.1 hlo (.int .i64 c))
          have hz' : (c == 0) = false := by simpa using hz
          clear hck h ho e1 e2 hz
          go_enter Try.func14, Try.ntmps14
          go_wp2_with (go_at_call 41; (with_reducible refine (HCK.out).mono ?_); rintro e w' ⟨rfl, rfl⟩)
          go_ret
          rw [HE.out]
          exact ⟨rfl, HN1.out, HA1.out⟩
      · have e1 : lnk s t c = 1 := by unfold lnk; rw [if_pos ho, if_neg (by omega)]
        have e2 : s.link t c = s := by unfold St.link; rw [if_neg (by omega)]
        rw [e1, e2]
        clear hck h ho e1 e2
        go_enter Try.func14, Try.ntmps14
        go_wp2_with (go_at_call 41; (with_reducible refine (HCK.out).mono ?_); rintro e w' ⟨rfl, rfl⟩)
        go_ret
        exact ⟨rfl, H.out, AfterR.refl _ _⟩
    · have e1 : lnk s t c = 1 := by unfold lnk; rw [if_pos ho, if_neg (by omega)]
      have e2 : s.link t c = s := by unfold St.link; rw [if_neg (by omega)]
      rw [e1, e2]
      clear hck h ho e1 e2
      go_enter Try.func14, Try.ntmps14
      go_wp2_with (go_at_call 41; (with_reducible refine (HCK.out).mono ?_); rintro e w' ⟨rfl, rfl⟩)
      go_ret
      exact ⟨rfl, H.out, AfterR.refl _ _⟩
end RefN
end Go.Proofs.Ytcmknllefnahkaa
