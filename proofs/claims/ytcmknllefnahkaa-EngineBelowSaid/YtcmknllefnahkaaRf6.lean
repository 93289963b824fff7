/-
  The document's node: Tell. Conditions: those that each theorem names.
-/
import Derived.Test.YtcmknllefnahkaaRf5
namespace Go.Proofs.Ytcmknllefnahkaa
open Go.RowKit FR FP H2 OW
set_option linter.unusedVariables false
set_option linter.unusedSimpArgs false
namespace RefN
open Eng Ref18
theorem RN.told_set {w : World} {base b : Nat} {s : St} {L : RLay} (h : RN w base b s L) (k : Nat) (x y : Int) :
    RN ((w.setCell ⟨L.f, k * 2, none⟩ (.int .i64 x)).setCell ⟨L.f, k * 2 + 1, none⟩ (.int .i64 y)) base b { s with told := fun j => if j = k then (x, y) else s.told j } L := by
  have hne := h.nef
  have ho : Only (fun k => k = L.f) w ((w.setCell ⟨L.f, k * 2, none⟩ (.int .i64 x)).setCell ⟨L.f, k * 2 + 1, none⟩ (.int .i64 y)) := ((Only.refl (fun k => k = L.f) w).setCell (p := ⟨L.f, k * 2, none⟩) (fun _ => rfl) _).setCell (p := ⟨L.f, k * 2 + 1, none⟩) (fun _ => rfl) _
  obtain ⟨cur, hc, hcc⟩ := h.rb.cost
  obtain ⟨cu2, hc2, hcc2⟩ := h.outer
  exact ⟨⟨ho.obj h.rb.blk hne.1, ⟨cur, ho.obj hc hne.2.1, hcc⟩, h.rb.fd.set k x y, ⟨h.rb.lo.1, h.rb.lo.2.1, h.rb.lo.2.2.1, Nat.le_trans h.rb.lo.2.2.2 ho.size⟩, h.rb.id, h.rb.n6⟩, ⟨cu2, ho.obj hc2 hne.2.2, hcc2⟩, fun d hd => (h.rows d hd).only ho (fun e => h.fne d hd e), h.inj, h.fne, h.lo⟩
theorem RN.told_congr {w : World} {base b : Nat} {s : St} {L : RLay} {f : Nat → Int × Int} (h : RN w base b s L) (he : ∀ k, k < s.n → f k = s.told k) : RN w base b { s with told := f } L :=
  ⟨⟨h.rb.blk, h.rb.cost, h.rb.fd.congr he, h.rb.lo, h.rb.id, h.rb.n6⟩, h.outer, h.rows, h.inj, h.fne, h.lo⟩
theorem RN.tell_no {w : World} {base b : Nat} {s : St} {L : RLay} {t : Int} {k : Nat} (h : RN w base b (s.tells t k) L) (hb : s.best t k = false) : RN w base b (s.tells t (k + 1)) L := by
  have e : s.tells t (k + 1) = s.tells t k := by
    unfold St.tells
    congr 1
    funext d
    by_cases e : d = k
    · subst e
      rw [if_neg (by rw [hb]; simp), if_neg (by omega)]
    · by_cases h1 : d < k ∧ s.best t d = true
      · rw [if_pos h1, if_pos ⟨by omega, h1.2⟩]
      · rw [if_neg h1, if_neg (fun h2 => h1 ⟨by omega, h2.2⟩)]
  rw [e]
  exact h
theorem RN.tell_yes {w : World} {base b : Nat} {s : St} {L : RLay} {t : Int} {k : Nat} (h : RN w base b (s.tells t k) L) (hb : s.best t k = true) {m q : Int} (hr : (s.route k).2.1 = (m, q)) :
    RN ((w.setCell ⟨L.f, k * 2, none⟩ (.int .i64 m)).setCell ⟨L.f, k * 2 + 1, none⟩ (.int .i64 q)) base b (s.tells t (k + 1)) L := by
  have e : s.tells t (k + 1) = { s.tells t k with told := fun j => if j = k then (m, q) else (s.tells t k).told j } := by
    unfold St.tells
    congr 1
    funext d
    by_cases e : d = k
    · subst e
      rw [if_pos ⟨by omega, hb⟩, if_pos rfl, hr]
    · rw [if_neg e]
      show (if d < k + 1 ∧ s.best t d = true then (s.route d).2.1 else s.told d) = if d < k ∧ s.best t d = true then (s.route d).2.1 else s.told d
      by_cases h1 : d < k ∧ s.best t d = true
      · rw [if_pos h1, if_pos ⟨by omega, h1.2⟩]
      · rw [if_neg h1, if_neg (fun h2 => h1 ⟨by omega, h2.2⟩)]
  rw [e]
  exact h.told_set k m q
theorem RN.after_told {w w0 : World} {base b : Nat} {s : St} {L : RLay} (h : RN w base b s L) (ha : AfterR base w0 w) (h0 : base ≤ w0.heap.size) (t : Nat) (x y : Int) : AfterR base w0 ((w.setCell ⟨L.f, t * 2, none⟩ (.int .i64 x)).setCell ⟨L.f, t * 2 + 1, none⟩ (.int .i64 y)) := by
  obtain ⟨cu4, hc4, _⟩ := h.rb.fd
  exact (ha.set (p := ⟨L.f, t * 2, none⟩) hc4 (.inr (.inr (.inr rfl))) h.rb.lo.2.2.1 h0 _).set (p := ⟨L.f, t * 2 + 1, none⟩) (blk_set hc4 _ _) (.inr (.inr (.inr rfl))) h.rb.lo.2.2.1 h0 _
theorem AfterR.own {base : Nat} {w wr w8 : World} (h : AfterR base w wr) (h0 : base ≤ w.heap.size) (ho : Only (fun k => w.heap.size ≤ k) wr w8) : AfterR base w w8 :=
  ⟨h.bel.trans (ho.below (Nat.le_trans h0 h.bel.size) (fun i hi e => by omega)), Only.trans h.typ ho (fun i hi e => absurd hi (by omega))⟩
theorem own_only {w w1 : World} {H size d : Nat} {e : TypeId} {v : Value} {xs : List Value} {o : Obj} (ho : w.ownsRow H e size v d xs) (hg : (w.alloc o).grownBy w1 v.ownBlock) (hH : H ≤ w.heap.size) : Only (fun k => H ≤ k) w w1 :=
  ((Only.refl (fun k => H ≤ k) w).alloc o).grown hg (fun k hk _ => (OW.own_base ho hk).1)
theorem own_typ {w w1 : World} {H size d : Nat} {e : TypeId} {v : Value} {xs : List Value} {o : Obj} (ho : w.ownsRow H e size v d xs) (hg : (w.alloc o).grownBy w1 v.ownBlock) : OnlyT (fun t => t = e) w w1 :=
  ((OnlyT.refl (fun t => t = e) w).alloc o).grown hg (fun k hk hlt => by
    obtain ⟨cs, t, fr, h1, h2⟩ := own_type ho hk (T := fun t => t = e) rfl
    exact ⟨cs, t, fr, (Below.heap_alloc w o k (blk_lt h1)).trans h1, h2⟩)
theorem best_hid {s : St} {t : Int} {d : Nat} (h : s.hid t d = true) : s.best t d = false := by unfold St.best; rw [h]; rfl
theorem best_id {s : St} {t : Int} {d : Nat} (h : d = s.id) : s.best t d = false := by
  unfold St.best
  rw [show ((d : Int) == (s.id : Int)) = true by simp [h]]
  simp
theorem best_of {s : St} {t : Int} {d : Nat} (h : s.hid t d = false) (hd : d ≠ s.id) : s.best t d = (decide (65535 ≤ (s.told d).1) || bet (s.route d).2.1.1 (s.route d).2.1.2 (s.told d).1 (s.told d).2) := by
  unfold St.best
  rw [h, show ((d : Int) == (s.id : Int)) = false by simp; omega]
  simp
set_option maxRecDepth 100000 in
set_option maxHeartbeats 16000000 in
theorem tell_no {base b : Nat} {s : St} {L : RLay} (t : Int) (w : World) (h : RN w base b s L) (hu : upv s t ≠ 0) : Calls Try.prog 19 #[.pointer (some ⟨b, 0, none⟩), .int .i64 t] w fun e w' => e = .returned (.tuple #[.slice none 0 0, .int .i64 (upv s t)]) ∧ w = w' := by
  have hck := other_any t w h
  cases ho : oth s t
  · have e1 : upv s t = 2 := by unfold upv; rw [if_neg (by rw [ho]; simp)]
    rw [ho] at hck
    have HCK := Lib.hid hck
    rw [e1]
    clear hck h ho hu e1
    go_enter Try.func19, Try.ntmps19
    go_wp2_with (go_at_call 41; (with_reducible refine (HCK.out).mono ?_); rintro e w' ⟨rfl, rfl⟩)
    go_ret2
    exact ⟨rfl, rfl⟩
  · rw [ho] at hck
    have HCK := Lib.hid hck
    obtain ⟨k, rfl, hk, hkid⟩ := oth_nat ho
    have c2 := h.at.2.2.1
    have x0 := h.rb.cost_at hk
    have k0 : (0 : Int) ≤ (k : Int) := by omega
    have kn : (k : Int) < (s.n : Int) := by omega
    have hn6 := h.rb.n6
    have hz : (s.cost k).1 = 0 := by
      apply Decidable.byContradiction
      intro hne
      apply hu
      unfold upv
      rw [if_pos ho, Int.toNat_natCast, if_neg hne]
    have e1 : upv s (k : Int) = 8 := by unfold upv; rw [if_pos ho, Int.toNat_natCast, if_pos hz]
    rw [hz] at x0
    rw [e1]
    clear hck h ho hu e1 hz
    go_enter Try.func19, Try.ntmps19
    go_wp2_with (go_at_call 41; (with_reducible refine (HCK.out).mono ?_); rintro e w' ⟨rfl, rfl⟩)
    go_ret2
    exact ⟨rfl, rfl⟩
set_option maxRecDepth 100000 in
set_option maxHeartbeats 16000000 in
theorem tell_any {base b : Nat} {s : St} {L : RLay} (t : Int) (w : World) (h : RN w base b s L) (hw : Wf s) (hu : upv s t = 0) : Calls Try.prog 19 #[.pointer (some ⟨b, 0, none⟩), .int .i64 t] w fun e w' => (∃ v, e = .returned (.tuple #[v, .int .i64 0]) ∧ w'.ownsRow w.heap.size 87 3 v s.n (cellsO (s.offer t) s.n)) ∧ RN w' base b (s.tells t s.n) L ∧ AfterR base w w' := by
  obtain ⟨i0, hi, hz0, hz1, hz2⟩ := info_parts infoR
  have HI := Lib.hid hi
  have HW := Lib.hid hw
  have hck := other_any t w h
  have ho : oth s t = true := by
    cases ho : oth s t
    · unfold upv at hu
      rw [if_neg (by rw [ho]; simp)] at hu
      cases hu
    · rfl
  rw [ho] at hck
  have HCK := Lib.hid hck
  obtain ⟨k, rfl, hk, hkid⟩ := oth_nat ho
  have H := Lib.hid h
  have c2 := h.at.2.2.1
  have x0 := h.rb.cost_at hk
  have k0 : (0 : Int) ≤ (k : Int) := by omega
  have kn : (k : Int) < (s.n : Int) := by omega
  have hn6 := h.rb.n6
  have hlo := h.rb.lo.2.2.2
  have hz' : ((s.cost k).1 == 0) = false := by
    have hne : (s.cost k).1 ≠ 0 := fun hz => by
      unfold upv at hu
      rw [if_pos ho, Int.toNat_natCast, if_pos hz] at hu
      cases hu
    simpa using hne
  generalize (s.cost k).1 = cc at x0 hz'
  obtain ⟨n, hnn⟩ : ∃ n, s.n = n := ⟨_, rfl⟩
  have HN := Lib.hid hnn
  rw [hnn] at hn6
  clear hck h ho hu hi hw
  go_enter Try.func19, Try.ntmps19
  go_upto_region 7 with (go_at_call 41; (with_reducible refine (HCK.out).mono ?_); rintro e w' ⟨rfl, rfl⟩)
  clear c2 x0 hnn
  go_loopw [6, 7] (fun s6 s7 wr => ∃ (d : Nat) (sv : Value), d ≤ n ∧ s7 = .int .i64 d ∧ sv = s6 ∧ wr.ownsRow w.heap.size 87 3 sv d (cellsO (s.offer k) d) ∧ RN wr base b (s.tells k d) L ∧ AfterR base w wr) (fun _ s7 _ => n - (intOf s7).toNat)
  case atStart => exact ⟨0, _, by omega, rfl, rfl, World.ownsRow_nil _ _ _ _, by rw [tells_zero]; exact H.out, AfterR.refl _ _⟩
  case round =>
    obtain ⟨d, sv, hd, rfl, rfl, hown, hrn, ha⟩ := hrel
    have HO := Lib.hid hown
    have R := Lib.hid hrn
    have HA := Lib.hid ha
    have c1 : wr.cell? ⟨b, 1, none⟩ = some (.int .i64 n) := by rw [← HN.out]; exact hrn.at.2.1
    have hsz : w.heap.size ≤ wr.heap.size := ha.bel.size |> fun h => ha.typ.size
    clear hown hrn ha
    by_cases hdn : d < n
    · have hdn' : (d : Int) < (n : Int) := by omega
      have d0 : (0 : Int) ≤ (d : Int) := by omega
      have hrt := route_any (d : Int) wr R.out (wf_tells s k d HW.out)
      rw [route_tells s k d d (Nat.le_refl _)] at hrt
      have hrr := route_range s HW.out d
      have HS := Lib.hid (cellsO_succ (s.offer k) d)
      obtain ⟨nx, m, q, ok, hr⟩ : ∃ nx m q ok, s.route d = (nx, (m, q), ok) := ⟨_, _, _, _, rfl⟩
      have hhid : s.hid k d = (!ok || (nx == (k : Int))) := by unfold St.hid; rw [hr]
      rw [hr] at hrt hrr
      have HRT := Lib.hid hrt
      have HR := Lib.hid hr
      have HH := Lib.hid hhid
      have q0 := hrr.2.1
      have q1 := hrr.2.2
      dsimp only at q0 q1
      clear hrt hr hhid hrr
      go_upto_region 10 with (go_at_call 27; (with_reducible refine (HRT.out).mono ?_); rintro e w4 ⟨rfl, hb4⟩; have R4 := Lib.hid (R.out.below hb4); have HO4 := Lib.hid (OW.own_keep HO.out hb4); have HA4 := Lib.hid (HA.out.below hb4 hlo); have hs4 := hb4.size; clear hb4)
      have hbx : (w4.alloc (.cells #[.int .i64 m, .int .i64 q] 59 (0, 0))).heap[w4.heap.size]? = some (.cells #[.int .i64 m, .int .i64 q] 59 (0, 0)) := heap_alloc_new _ _
      have hbl : Below w4.heap.size w4 (w4.alloc (.cells #[.int .i64 m, .int .i64 q] 59 (0, 0))) := (Below.refl _ _).alloc (Nat.le_refl _) _
      have R5 := Lib.hid (R4.out.below hbl)
      have HO5 := Lib.hid (OW.own_keep HO4.out hbl)
      have HA5 := Lib.hid (HA4.out.below hbl hlo)
      have hs5 := hbl.size
      have hfx : L.f ≠ w4.heap.size := Nat.ne_of_lt R4.out.rb.fd.lt
      generalize hxb : w4.heap.size = xb at hbx hs4 hs5 hfx ⊢
      generalize hW5 : w4.alloc (.cells #[.int .i64 m, .int .i64 q] 59 (0, 0)) = W5 at hbx R5 HO5 HA5 hs5 ⊢
      have HBX := Lib.hid hbx
      clear hbl hxb hW5 c1 hbx
      cases hid : s.hid k d
      · have h1 := HH.out
        rw [hid] at h1
        have hok : ok = true := by cases ok; simp at h1; rfl
        subst hok
        have hnx : (nx == (k : Int)) = false := by simpa using h1.symm
        have hof : s.offer k d = ((d : Int), m, q) := by unfold St.offer; rw [hid, HR.out]; rfl
        have HOF := Lib.hid hof
        have HID := Lib.hid hid
        have x0 := blk_cell HBX.out 0
        have x1 := blk_cell HBX.out 1
        have hwq : IntKind.u32.wrap q = q := by simp [IntKind.wrap, IntKind.bits, IntKind.signed]; omega
        clear h1 hof hid
        go_upto_region 13 with (at_builtin; refine wpList_append_lies _ rfl (.tmp 50) (.tmp 58) 38 rfl w.heap.size 87 i0 _ 3 24 Try.underlying38 HI.out hz0 hz1 hz2 rfl (by omega) sv d _ rfl (HO5.out.alloc _) ⟨W5.heap.size, 0, none⟩ 1 1 [.int .i64 d, .int .i64 m, .int .u32 q] rfl rfl (three_cells _ _ _ _ _) (by simp [Value.oneCell']) (by omega) (by unfold maxLen; omega) (by omega) (by simp; omega) (W5.heap.size + 1) (by simp) ?_; intro g2 cap2 w8 hown1 hgrow1 hat1 hlt1; have HO8 := Lib.hid hown1; have o8 := own_typ HO5.out hgrow1; have R8 := Lib.hid (R5.out.typ o8 (by decide) (by decide) (by decide) (by decide)); have HB8 := Lib.hid (o8.obj HBX.out (by decide)); have HA8 := Lib.hid (HA5.out.own hlo (own_only HO5.out hgrow1 (by omega))); clear hown1 hgrow1 hat1 hlt1 o8)
        clear x0 x1
        by_cases hid : d = s.id
        · have hb0 : ((d : Int) != (s.id : Int)) = false := by simp [hid]
          have HBE := Lib.hid (best_id (t := (k : Int)) hid)
          clear hid
          have c0 : w8.drew.cell? ⟨b, 0, none⟩ = some (.int .i64 s.id) := R8.out.at.1
          refine wp_region_held_drew (S := (fun w' => w'.cell? ⟨b, 0, none⟩ = some (.int .i64 s.id))) (by kernel_rfl) c0 (fun _ => ?_)
          refine held_take 0 60 (v := ?_) rfl rfl (by kernel_rfl) (by kernel_rfl) (by kernel_rfl) (fun _ _ _ h => h) (by rfl) ?_ c0 ?_
          rotate_left
          · (intro w hSw; (try dsimp only at hSw); try simp only [List.getElem_toArray, List.getElem_cons_zero, List.getElem_cons_succ]; go_simp; try (with_reducible rfl))
          try simp only [List.setIfInBounds_toArray, List.set_cons_zero, List.set_cons_succ]
          refine held_take 1 61 (v := ?_) rfl rfl (by kernel_rfl) (by kernel_rfl) (by kernel_rfl) (fun _ _ _ h => h) (by rfl) ?_ c0 ?_
          rotate_left
          · (intro w hSw; (try dsimp only at hSw); try simp only [List.getElem_toArray, List.getElem_cons_zero, List.getElem_cons_succ]; go_simp; try (with_reducible rfl))
          try simp only [List.setIfInBounds_toArray, List.set_cons_zero, List.set_cons_succ]
          refine held_take 2 62 (v := ?_) rfl rfl (by kernel_rfl) (by kernel_rfl) (by kernel_rfl) (fun _ _ _ h => h) (by rfl) ?_ c0 ?_
          rotate_left
          · (intro w hSw; (try dsimp only at hSw); try simp only [List.getElem_toArray, List.getElem_cons_zero, List.getElem_cons_succ]; go_simp; try (with_reducible rfl))
          try simp only [List.setIfInBounds_toArray, List.set_cons_zero, List.set_cons_succ]
          refine held_take 3 63 (v := ?_) rfl rfl (by kernel_rfl) (by kernel_rfl) (by kernel_rfl) (fun _ _ _ h => h) (by rfl) ?_ c0 ?_
          rotate_left
          · (intro w hSw; (try dsimp only at hSw); try simp only [List.getElem_toArray, List.getElem_cons_zero, List.getElem_cons_succ]; go_simp; try (with_reducible rfl))
          try simp only [List.setIfInBounds_toArray, List.set_cons_zero, List.set_cons_succ]
          refine held_take 4 64 (v := ?_) rfl rfl (by kernel_rfl) (by kernel_rfl) (by kernel_rfl) (fun _ _ _ h => h) (by rfl) ?_ c0 ?_
          rotate_left
          · (intro w hSw; (try dsimp only at hSw); try simp only [List.getElem_toArray, List.getElem_cons_zero, List.getElem_cons_succ]; go_simp; try (with_reducible rfl))
          try simp only [List.setIfInBounds_toArray, List.set_cons_zero, List.set_cons_succ]
          refine held_take 5 65 (v := ?_) rfl rfl (by kernel_rfl) (by kernel_rfl) (by kernel_rfl) (fun _ _ _ h => h) (by rfl) ?_ c0 ?_
          rotate_left
          · (intro w hSw; (try dsimp only at hSw); try simp only [List.getElem_toArray, List.getElem_cons_zero, List.getElem_cons_succ]; go_simp; try (with_reducible rfl))
          try simp only [List.setIfInBounds_toArray, List.set_cons_zero, List.set_cons_succ]
          refine held_take 6 66 (v := ?_) rfl rfl (by kernel_rfl) (by kernel_rfl) (by kernel_rfl) (fun _ _ _ h => h) (by rfl) ?_ c0 ?_
          rotate_left
          · (intro w hSw; (try dsimp only at hSw); try simp only [List.getElem_toArray, List.getElem_cons_zero, List.getElem_cons_succ]; go_simp; try (with_reducible rfl))
          try simp only [List.setIfInBounds_toArray, List.set_cons_zero, List.set_cons_succ]
          refine held_skip 7 67 rfl rfl (by kernel_rfl) (by kernel_rfl) (by kernel_rfl) (fun _ _ _ h => h) (by rfl) c0 ?_
          try simp only [List.setIfInBounds_toArray, List.set_cons_zero, List.set_cons_succ]
          refine held_skip 8 68 rfl rfl (by kernel_rfl) (by kernel_rfl) (by kernel_rfl) (fun _ _ _ h => h) (by rfl) c0 ?_
          try simp only [List.setIfInBounds_toArray, List.set_cons_zero, List.set_cons_succ]
          refine held_skip 9 69 rfl rfl (by kernel_rfl) (by kernel_rfl) (by kernel_rfl) (fun _ _ _ h => h) (by rfl) c0 ?_
          try simp only [List.setIfInBounds_toArray, List.set_cons_zero, List.set_cons_succ]
          refine held_skip 10 70 rfl rfl (by kernel_rfl) (by kernel_rfl) (by kernel_rfl) (fun _ _ _ h => h) (by rfl) c0 ?_
          try simp only [List.setIfInBounds_toArray, List.set_cons_zero, List.set_cons_succ]
          refine held_skip 11 71 rfl rfl (by kernel_rfl) (by kernel_rfl) (by kernel_rfl) (fun _ _ _ h => h) (by rfl) c0 ?_
          try simp only [List.setIfInBounds_toArray, List.set_cons_zero, List.set_cons_succ]
          refine held_skip 12 72 rfl rfl (by kernel_rfl) (by kernel_rfl) (by kernel_rfl) (fun _ _ _ h => h) (by rfl) c0 ?_
          try simp only [List.setIfInBounds_toArray, List.set_cons_zero, List.set_cons_succ]
          refine held_skip 13 73 rfl rfl (by kernel_rfl) (by kernel_rfl) (by kernel_rfl) (fun _ _ _ h => h) (by rfl) c0 ?_
          try simp only [List.setIfInBounds_toArray, List.set_cons_zero, List.set_cons_succ]
          refine held_skip 14 74 rfl rfl (by kernel_rfl) (by kernel_rfl) (by kernel_rfl) (fun _ _ _ h => h) (by rfl) c0 ?_
          try simp only [List.setIfInBounds_toArray, List.set_cons_zero, List.set_cons_succ]
          refine held_skip 15 75 rfl rfl (by kernel_rfl) (by kernel_rfl) (by kernel_rfl) (fun _ _ _ h => h) (by rfl) c0 ?_
          try simp only [List.setIfInBounds_toArray, List.set_cons_zero, List.set_cons_succ]
          refine held_skip 16 76 rfl rfl (by kernel_rfl) (by kernel_rfl) (by kernel_rfl) (fun _ _ _ h => h) (by rfl) c0 ?_
          try simp only [List.setIfInBounds_toArray, List.set_cons_zero, List.set_cons_succ]
          refine held_skip 17 77 rfl rfl (by kernel_rfl) (by kernel_rfl) (by kernel_rfl) (fun _ _ _ h => h) (by rfl) c0 ?_
          try simp only [List.setIfInBounds_toArray, List.set_cons_zero, List.set_cons_succ]
          refine held_skip 18 78 rfl rfl (by kernel_rfl) (by kernel_rfl) (by kernel_rfl) (fun _ _ _ h => h) (by rfl) c0 ?_
          try simp only [List.setIfInBounds_toArray, List.set_cons_zero, List.set_cons_succ]
          refine held_skip 19 79 rfl rfl (by kernel_rfl) (by kernel_rfl) (by kernel_rfl) (fun _ _ _ h => h) (by rfl) c0 ?_
          try simp only [List.setIfInBounds_toArray, List.set_cons_zero, List.set_cons_succ]
          refine held_skip 20 80 rfl rfl (by kernel_rfl) (by kernel_rfl) (by kernel_rfl) (fun _ _ _ h => h) (by rfl) c0 ?_
          try simp only [List.setIfInBounds_toArray, List.set_cons_zero, List.set_cons_succ]
          refine held_skip 21 81 rfl rfl (by kernel_rfl) (by kernel_rfl) (by kernel_rfl) (fun _ _ _ h => h) (by rfl) c0 ?_
          try simp only [List.setIfInBounds_toArray, List.set_cons_zero, List.set_cons_succ]
          refine held_skip 22 82 rfl rfl (by kernel_rfl) (by kernel_rfl) (by kernel_rfl) (fun _ _ _ h => h) (by rfl) c0 ?_
          try simp only [List.setIfInBounds_toArray, List.set_cons_zero, List.set_cons_succ]
          refine held_skip 23 83 rfl rfl (by kernel_rfl) (by kernel_rfl) (by kernel_rfl) (fun _ _ _ h => h) (by rfl) c0 ?_
          try simp only [List.setIfInBounds_toArray, List.set_cons_zero, List.set_cons_succ]
          refine held_skip 24 84 rfl rfl (by kernel_rfl) (by kernel_rfl) (by kernel_rfl) (fun _ _ _ h => h) (by rfl) c0 ?_
          try simp only [List.setIfInBounds_toArray, List.set_cons_zero, List.set_cons_succ]
          refine held_skip 25 85 rfl rfl (by kernel_rfl) (by kernel_rfl) (by kernel_rfl) (fun _ _ _ h => h) (by rfl) c0 ?_
          try simp only [List.setIfInBounds_toArray, List.set_cons_zero, List.set_cons_succ]
          refine held_skip 26 86 rfl rfl (by kernel_rfl) (by kernel_rfl) (by kernel_rfl) (fun _ _ _ h => h) (by rfl) c0 ?_
          try simp only [List.setIfInBounds_toArray, List.set_cons_zero, List.set_cons_succ]
          refine held_take 27 87 (v := ?_) rfl rfl (by kernel_rfl) (by kernel_rfl) (by kernel_rfl) (fun _ _ _ h => h) (by rfl) ?_ c0 ?_
          rotate_left
          · (intro w hSw; (try dsimp only at hSw); try simp only [List.getElem_toArray, List.getElem_cons_zero, List.getElem_cons_succ]; go_simp; try (with_reducible rfl))
          try simp only [List.setIfInBounds_toArray, List.set_cons_zero, List.set_cons_succ]
          refine wpAnyH_done (by kernel_rfl) ?_ _
          go_wp2
          go_roundw
          case rel => exact ⟨d + 1, _, by omega, by go_num, rfl, by rw [HS.out, HOF.out]; exact OW.own_keep HO8.out (below_drew (Below.refl _ _)), R8.out.drew.tell_no HBE.out, HA8.out.drew⟩
          case measure => simp [intOf]; omega
        · have hb0 : ((d : Int) != (s.id : Int)) = true := by simp; omega
          have hbe := best_of HID.out hid
          rw [HR.out] at hbe
          have hdt : (s.tells k d).told d = s.told d := by unfold St.tells; dsimp only; rw [if_neg (by omega)]
          have hdn2 : d < (s.tells k d).n := by show d < s.n; rw [HN.out]; exact hdn
          obtain ⟨tm, tq, hT⟩ : ∃ tm tq, s.told d = (tm, tq) := ⟨_, _, rfl⟩
          rw [hT] at hbe hdt
          dsimp only at hbe
          have c0 : w8.drew.cell? ⟨b, 0, none⟩ = some (.int .i64 s.id) := R8.out.at.1
          have c4 : w8.drew.cell? ⟨b, 4, none⟩ = some (.slice (some ⟨L.f, 0, none⟩) n L.fc) := by rw [← HN.out]; exact R8.out.at.2.2.2.2.1
          have y0 : w8.drew.cell? ⟨L.f, d * 2, none⟩ = some (.int .i64 tm) := by have := R8.out.rb.fd.c0 hdn2; rw [hdt] at this; exact this
          have y1 : w8.drew.cell? ⟨L.f, d * 2 + 1, none⟩ = some (.int .i64 tq) := by have := R8.out.rb.fd.c1 hdn2; rw [hdt] at this; exact this
          have x0 : w8.drew.cell? ⟨xb, 0, none⟩ = some (.int .i64 m) := (blk_cell (w := w8) HB8.out 0).trans rfl
          have x1 : w8.drew.cell? ⟨xb, 1, none⟩ = some (.int .i64 q) := (blk_cell (w := w8) HB8.out 1).trans rfl
          clear hid hdt hT
          by_cases htm : 65535 ≤ tm
          · have HBE := Lib.hid (show s.best k d = true by rw [hbe, decide_eq_true htm]; rfl)
            clear hbe
            refine wp_region_held_drew (S := (fun w' => w'.cell? ⟨b, 0, none⟩ = some (.int .i64 s.id) ∧ w'.cell? ⟨b, 4, none⟩ = some (.slice (some ⟨L.f, 0, none⟩) n L.fc) ∧ w'.cell? ⟨L.f, d * 2, none⟩ = some (.int .i64 tm))) (by kernel_rfl) ⟨c0, c4, y0⟩ (fun _ => ?_)
            refine held_take 0 60 (v := ?_) rfl rfl (by kernel_rfl) (by kernel_rfl) (by kernel_rfl) (fun _ _ _ h => h) (by rfl) ?_ ⟨c0, c4, y0⟩ ?_
            rotate_left
            · (intro w hSw; (try dsimp only at hSw); try simp only [List.getElem_toArray, List.getElem_cons_zero, List.getElem_cons_succ]; go_simp; try (with_reducible rfl))
            try simp only [List.setIfInBounds_toArray, List.set_cons_zero, List.set_cons_succ]
            refine held_take 1 61 (v := ?_) rfl rfl (by kernel_rfl) (by kernel_rfl) (by kernel_rfl) (fun _ _ _ h => h) (by rfl) ?_ ⟨c0, c4, y0⟩ ?_
            rotate_left
            · (intro w hSw; (try dsimp only at hSw); try simp only [List.getElem_toArray, List.getElem_cons_zero, List.getElem_cons_succ]; go_simp; try (with_reducible rfl))
            try simp only [List.setIfInBounds_toArray, List.set_cons_zero, List.set_cons_succ]
            refine held_take 2 62 (v := ?_) rfl rfl (by kernel_rfl) (by kernel_rfl) (by kernel_rfl) (fun _ _ _ h => h) (by rfl) ?_ ⟨c0, c4, y0⟩ ?_
            rotate_left
            · (intro w hSw; (try dsimp only at hSw); try simp only [List.getElem_toArray, List.getElem_cons_zero, List.getElem_cons_succ]; go_simp; try (with_reducible rfl))
            try simp only [List.setIfInBounds_toArray, List.set_cons_zero, List.set_cons_succ]
            refine held_take 3 63 (v := ?_) rfl rfl (by kernel_rfl) (by kernel_rfl) (by kernel_rfl) (fun _ _ _ h => h) (by rfl) ?_ ⟨c0, c4, y0⟩ ?_
            rotate_left
            · (intro w hSw; (try dsimp only at hSw); try simp only [List.getElem_toArray, List.getElem_cons_zero, List.getElem_cons_succ]; go_simp; try (with_reducible rfl))
            try simp only [List.setIfInBounds_toArray, List.set_cons_zero, List.set_cons_succ]
            refine held_take 4 64 (v := ?_) rfl rfl (by kernel_rfl) (by kernel_rfl) (by kernel_rfl) (fun _ _ _ h => h) (by rfl) ?_ ⟨c0, c4, y0⟩ ?_
            rotate_left
            · (intro w hSw; (try dsimp only at hSw); try simp only [List.getElem_toArray, List.getElem_cons_zero, List.getElem_cons_succ]; go_simp; try (with_reducible rfl))
            try simp only [List.setIfInBounds_toArray, List.set_cons_zero, List.set_cons_succ]
            refine held_take 5 65 (v := ?_) rfl rfl (by kernel_rfl) (by kernel_rfl) (by kernel_rfl) (fun _ _ _ h => h) (by rfl) ?_ ⟨c0, c4, y0⟩ ?_
            rotate_left
            · (intro w hSw; (try dsimp only at hSw); try simp only [List.getElem_toArray, List.getElem_cons_zero, List.getElem_cons_succ]; go_simp; try (with_reducible rfl))
            try simp only [List.setIfInBounds_toArray, List.set_cons_zero, List.set_cons_succ]
            refine held_take 6 66 (v := ?_) rfl rfl (by kernel_rfl) (by kernel_rfl) (by kernel_rfl) (fun _ _ _ h => h) (by rfl) ?_ ⟨c0, c4, y0⟩ ?_
            rotate_left
            · (intro w hSw; (try dsimp only at hSw); try simp only [List.getElem_toArray, List.getElem_cons_zero, List.getElem_cons_succ]; go_simp; try (with_reducible rfl))
            try simp only [List.setIfInBounds_toArray, List.set_cons_zero, List.set_cons_succ]
            refine held_take 7 67 (v := ?_) rfl rfl (by kernel_rfl) (by kernel_rfl) (by kernel_rfl) (fun _ _ _ h => h) (by rfl) ?_ ⟨c0, c4, y0⟩ ?_
            rotate_left
            · (intro w hSw; (try dsimp only at hSw); try simp only [List.getElem_toArray, List.getElem_cons_zero, List.getElem_cons_succ]; go_simp; try (with_reducible rfl))
            try simp only [List.setIfInBounds_toArray, List.set_cons_zero, List.set_cons_succ]
            refine held_take 8 68 (v := ?_) rfl rfl (by kernel_rfl) (by kernel_rfl) (by kernel_rfl) (fun _ _ _ h => h) (by rfl) ?_ ⟨c0, c4, y0⟩ ?_
            rotate_left
            · (intro w hSw; (try dsimp only at hSw); try simp only [List.getElem_toArray, List.getElem_cons_zero, List.getElem_cons_succ]; go_simp; try (with_reducible rfl))
            try simp only [List.setIfInBounds_toArray, List.set_cons_zero, List.set_cons_succ]
            refine held_take 9 69 (v := ?_) rfl rfl (by kernel_rfl) (by kernel_rfl) (by kernel_rfl) (fun _ _ _ h => h) (by rfl) ?_ ⟨c0, c4, y0⟩ ?_
            rotate_left
            · (intro w hSw; (try dsimp only at hSw); try simp only [List.getElem_toArray, List.getElem_cons_zero, List.getElem_cons_succ]; go_simp; try (with_reducible rfl))
            try simp only [List.setIfInBounds_toArray, List.set_cons_zero, List.set_cons_succ]
            refine held_take 10 70 (v := ?_) rfl rfl (by kernel_rfl) (by kernel_rfl) (by kernel_rfl) (fun _ _ _ h => h) (by rfl) ?_ ⟨c0, c4, y0⟩ ?_
            rotate_left
            · (intro w hSw; (try dsimp only at hSw); try simp only [List.getElem_toArray, List.getElem_cons_zero, List.getElem_cons_succ]; go_simp; try (with_reducible rfl))
            try simp only [List.setIfInBounds_toArray, List.set_cons_zero, List.set_cons_succ]
            refine held_take 11 71 (v := ?_) rfl rfl (by kernel_rfl) (by kernel_rfl) (by kernel_rfl) (fun _ _ _ h => h) (by rfl) ?_ ⟨c0, c4, y0⟩ ?_
            rotate_left
            · (intro w hSw; (try dsimp only at hSw); try simp only [List.getElem_toArray, List.getElem_cons_zero, List.getElem_cons_succ]; go_simp; try (with_reducible rfl))
            try simp only [List.setIfInBounds_toArray, List.set_cons_zero, List.set_cons_succ]
            refine held_take 12 72 (v := ?_) rfl rfl (by kernel_rfl) (by kernel_rfl) (by kernel_rfl) (fun _ _ _ h => h) (by rfl) ?_ ⟨c0, c4, y0⟩ ?_
            rotate_left
            · (intro w hSw; (try dsimp only at hSw); try simp only [List.getElem_toArray, List.getElem_cons_zero, List.getElem_cons_succ]; go_simp; try (with_reducible rfl))
            try simp only [List.setIfInBounds_toArray, List.set_cons_zero, List.set_cons_succ]
            refine held_take 13 73 (v := ?_) rfl rfl (by kernel_rfl) (by kernel_rfl) (by kernel_rfl) (fun _ _ _ h => h) (by rfl) ?_ ⟨c0, c4, y0⟩ ?_
            rotate_left
            · (intro w hSw; (try dsimp only at hSw); try simp only [List.getElem_toArray, List.getElem_cons_zero, List.getElem_cons_succ]; go_simp; try (with_reducible rfl))
            try simp only [List.setIfInBounds_toArray, List.set_cons_zero, List.set_cons_succ]
            refine held_take 14 74 (v := ?_) rfl rfl (by kernel_rfl) (by kernel_rfl) (by kernel_rfl) (fun _ _ _ h => h) (by rfl) ?_ ⟨c0, c4, y0⟩ ?_
            rotate_left
            · (intro w hSw; (try dsimp only at hSw); try simp only [List.getElem_toArray, List.getElem_cons_zero, List.getElem_cons_succ]; go_simp; try (with_reducible rfl))
            try simp only [List.setIfInBounds_toArray, List.set_cons_zero, List.set_cons_succ]
            refine held_take 15 75 (v := ?_) rfl rfl (by kernel_rfl) (by kernel_rfl) (by kernel_rfl) (fun _ _ _ h => h) (by rfl) ?_ ⟨c0, c4, y0⟩ ?_
            rotate_left
            · (intro w hSw; (try dsimp only at hSw); try simp only [List.getElem_toArray, List.getElem_cons_zero, List.getElem_cons_succ]; go_simp; try (with_reducible rfl))
            try simp only [List.setIfInBounds_toArray, List.set_cons_zero, List.set_cons_succ]
            refine held_take 16 76 (v := ?_) rfl rfl (by kernel_rfl) (by kernel_rfl) (by kernel_rfl) (fun _ _ _ h => h) (by rfl) ?_ ⟨c0, c4, y0⟩ ?_
            rotate_left
            · (intro w hSw; (try dsimp only at hSw); try simp only [List.getElem_toArray, List.getElem_cons_zero, List.getElem_cons_succ]; go_simp; try (with_reducible rfl))
            try simp only [List.setIfInBounds_toArray, List.set_cons_zero, List.set_cons_succ]
            refine held_skip 17 77 rfl rfl (by kernel_rfl) (by kernel_rfl) (by kernel_rfl) (fun _ _ _ h => h) (by rfl) ⟨c0, c4, y0⟩ ?_
            try simp only [List.setIfInBounds_toArray, List.set_cons_zero, List.set_cons_succ]
            refine held_skip 18 78 rfl rfl (by kernel_rfl) (by kernel_rfl) (by kernel_rfl) (fun _ _ _ h => h) (by rfl) ⟨c0, c4, y0⟩ ?_
            try simp only [List.setIfInBounds_toArray, List.set_cons_zero, List.set_cons_succ]
            refine held_skip 19 79 rfl rfl (by kernel_rfl) (by kernel_rfl) (by kernel_rfl) (fun _ _ _ h => h) (by rfl) ⟨c0, c4, y0⟩ ?_
            try simp only [List.setIfInBounds_toArray, List.set_cons_zero, List.set_cons_succ]
            refine held_skip 20 80 rfl rfl (by kernel_rfl) (by kernel_rfl) (by kernel_rfl) (fun _ _ _ h => h) (by rfl) ⟨c0, c4, y0⟩ ?_
            try simp only [List.setIfInBounds_toArray, List.set_cons_zero, List.set_cons_succ]
            refine held_skip 21 81 rfl rfl (by kernel_rfl) (by kernel_rfl) (by kernel_rfl) (fun _ _ _ h => h) (by rfl) ⟨c0, c4, y0⟩ ?_
            try simp only [List.setIfInBounds_toArray, List.set_cons_zero, List.set_cons_succ]
            refine held_skip 22 82 rfl rfl (by kernel_rfl) (by kernel_rfl) (by kernel_rfl) (fun _ _ _ h => h) (by rfl) ⟨c0, c4, y0⟩ ?_
            try simp only [List.setIfInBounds_toArray, List.set_cons_zero, List.set_cons_succ]
            refine held_skip 23 83 rfl rfl (by kernel_rfl) (by kernel_rfl) (by kernel_rfl) (fun _ _ _ h => h) (by rfl) ⟨c0, c4, y0⟩ ?_
            try simp only [List.setIfInBounds_toArray, List.set_cons_zero, List.set_cons_succ]
            refine held_skip 24 84 rfl rfl (by kernel_rfl) (by kernel_rfl) (by kernel_rfl) (fun _ _ _ h => h) (by rfl) ⟨c0, c4, y0⟩ ?_
            try simp only [List.setIfInBounds_toArray, List.set_cons_zero, List.set_cons_succ]
            refine held_skip 25 85 rfl rfl (by kernel_rfl) (by kernel_rfl) (by kernel_rfl) (fun _ _ _ h => h) (by rfl) ⟨c0, c4, y0⟩ ?_
            try simp only [List.setIfInBounds_toArray, List.set_cons_zero, List.set_cons_succ]
            refine held_take 26 86 (v := ?_) rfl rfl (by kernel_rfl) (by kernel_rfl) (by kernel_rfl) (fun _ _ _ h => h) (by rfl) ?_ ⟨c0, c4, y0⟩ ?_
            rotate_left
            · (intro w hSw; (try dsimp only at hSw); try simp only [List.getElem_toArray, List.getElem_cons_zero, List.getElem_cons_succ]; go_simp; try (with_reducible rfl))
            try simp only [List.setIfInBounds_toArray, List.set_cons_zero, List.set_cons_succ]
            refine held_take 27 87 (v := ?_) rfl rfl (by kernel_rfl) (by kernel_rfl) (by kernel_rfl) (fun _ _ _ h => h) (by rfl) ?_ ⟨c0, c4, y0⟩ ?_
            rotate_left
            · (intro w hSw; (try dsimp only at hSw); try simp only [List.getElem_toArray, List.getElem_cons_zero, List.getElem_cons_succ]; go_simp; try (with_reducible rfl))
            try simp only [List.setIfInBounds_toArray, List.set_cons_zero, List.set_cons_succ]
            refine wpAnyH_done (by kernel_rfl) ?_ _
            clear c0 y0 y1
            have R9 := Lib.hid R8.out.drew
            have HA9 := Lib.hid HA8.out.drew
            have HO9 := Lib.hid (OW.own_keep HO8.out (below_drew (Below.refl _ _)))
            generalize w8.drew = W9 at R9 HA9 HO9 c4 x0 x1 ⊢
            go_upto_region 14 with fail
            have c4 : W9.drew.cell? ⟨b, 4, none⟩ = some (.slice (some ⟨L.f, 0, none⟩) n L.fc) := c4
            have x0 : W9.drew.cell? ⟨xb, 0, none⟩ = some (.int .i64 m) := x0
            have x1 : W9.drew.cell? ⟨xb, 1, none⟩ = some (.int .i64 q) := x1
            have hbf : b ≠ L.f := R9.out.nef.1
            have R10 := Lib.hid R9.out.drew
            have HA10 := Lib.hid HA9.out.drew
            have HO10 := Lib.hid (OW.own_keep HO9.out (below_drew (Below.refl _ _)))
            refine wp_region_held_drew (S := (fun w' => w'.cell? ⟨b, 4, none⟩ = some (.slice (some ⟨L.f, 0, none⟩) n L.fc) ∧ w'.cell? ⟨xb, 0, none⟩ = some (.int .i64 m) ∧ w'.cell? ⟨xb, 1, none⟩ = some (.int .i64 q))) (by kernel_rfl) ⟨c4, x0, x1⟩ (fun _ => ?_)
            refine held_take 0 88 (v := ?_) rfl rfl (by kernel_rfl) (by kernel_rfl) (by kernel_rfl) (fun _ _ _ h => h) (by rfl) ?_ ⟨c4, x0, x1⟩ ?_
            rotate_left
            · (intro w hSw; (try dsimp only at hSw); try simp only [List.getElem_toArray, List.getElem_cons_zero, List.getElem_cons_succ]; go_simp; try (with_reducible rfl))
            try simp only [List.setIfInBounds_toArray, List.set_cons_zero, List.set_cons_succ]
            refine held_take 1 89 (v := ?_) rfl rfl (by kernel_rfl) (by kernel_rfl) (by kernel_rfl) (fun _ _ _ h => h) (by rfl) ?_ ⟨c4, x0, x1⟩ ?_
            rotate_left
            · (intro w hSw; (try dsimp only at hSw); try simp only [List.getElem_toArray, List.getElem_cons_zero, List.getElem_cons_succ]; go_simp; try (with_reducible rfl))
            try simp only [List.setIfInBounds_toArray, List.set_cons_zero, List.set_cons_succ]
            refine held_take 2 90 (v := ?_) rfl rfl (by kernel_rfl) (by kernel_rfl) (by kernel_rfl) (fun _ _ _ h => h) (by rfl) ?_ ⟨c4, x0, x1⟩ ?_
            rotate_left
            · (intro w hSw; (try dsimp only at hSw); try simp only [List.getElem_toArray, List.getElem_cons_zero, List.getElem_cons_succ]; go_simp; try (with_reducible rfl))
            try simp only [List.setIfInBounds_toArray, List.set_cons_zero, List.set_cons_succ]
            refine held_take 3 91 (v := ?_) rfl rfl (by kernel_rfl) (by kernel_rfl) (by kernel_rfl) (fun _ _ _ h => h) (by rfl) ?_ ⟨c4, x0, x1⟩ ?_
            rotate_left
            · (intro w hSw; (try dsimp only at hSw); try simp only [List.getElem_toArray, List.getElem_cons_zero, List.getElem_cons_succ]; go_simp; try (with_reducible rfl))
            try simp only [List.setIfInBounds_toArray, List.set_cons_zero, List.set_cons_succ]
            refine held_take 4 92 (v := ?_) rfl rfl (by kernel_rfl) (by kernel_rfl) (by kernel_rfl) (fun _ _ _ h => h) (by rfl) ?_ ⟨c4, x0, x1⟩ ?_
            rotate_left
            · (intro w hSw; (try dsimp only at hSw); try simp only [List.getElem_toArray, List.getElem_cons_zero, List.getElem_cons_succ]; go_simp; try (with_reducible rfl))
            try simp only [List.setIfInBounds_toArray, List.set_cons_zero, List.set_cons_succ]
            refine held_take 5 93 (v := ?_) rfl rfl (by kernel_rfl) (by kernel_rfl) (by kernel_rfl) (fun _ _ _ h => h) (by rfl) ?_ ⟨c4, x0, x1⟩ ?_
            rotate_left
            · (intro w hSw; (try dsimp only at hSw); try simp only [List.getElem_toArray, List.getElem_cons_zero, List.getElem_cons_succ]; go_simp; try (with_reducible rfl))
            try simp only [List.setIfInBounds_toArray, List.set_cons_zero, List.set_cons_succ]
            refine held_take 6 94 (v := ?_) rfl rfl (by kernel_rfl) (by kernel_rfl) (by kernel_rfl) (fun _ _ _ h => h) (by rfl) ?_ ⟨c4, x0, x1⟩ ?_
            rotate_left
            · (intro w hSw; (try dsimp only at hSw); try simp only [List.getElem_toArray, List.getElem_cons_zero, List.getElem_cons_succ]; go_simp; try (with_reducible rfl))
            try simp only [List.setIfInBounds_toArray, List.set_cons_zero, List.set_cons_succ]
            generalize W9.drew = W10 at R10 HA10 HO10 c4 x0 x1 ⊢
            have p0 := R10.out.rb.fd.c0 hdn2
            have p1 := R10.out.rb.fd.c1 hdn2
            have z0 := R10.out.rb.fd.free (d * 2)
            have z1 := R10.out.rb.fd.free (d * 2 + 1)
            refine held_do 7 rfl (by kernel_rfl) (by rfl) (fun K hK => ?_)
            try simp only [List.getElem_toArray, List.getElem_cons_zero, List.getElem_cons_succ]
            (go_simp; have c4 := cell_other (q := ⟨L.f, d * 2 + 1, none⟩) (u := .int .i64 q) (cell_other (q := ⟨L.f, d * 2, none⟩) (u := .int .i64 m) c4 (fun e => hbf e.symm)) (fun e => hbf e.symm); have x0 := cell_other (q := ⟨L.f, d * 2 + 1, none⟩) (u := .int .i64 q) (cell_other (q := ⟨L.f, d * 2, none⟩) (u := .int .i64 m) x0 hfx) hfx; have x1 := cell_other (q := ⟨L.f, d * 2 + 1, none⟩) (u := .int .i64 q) (cell_other (q := ⟨L.f, d * 2, none⟩) (u := .int .i64 m) x1 hfx) hfx)
            try simp only [Act.put, List.setIfInBounds_toArray, List.set_cons_zero, List.set_cons_succ]
            refine hK.out _ _ _ ⟨c4, x0, x1⟩ ?_
            clear hK K
            refine wpAnyH_done (by kernel_rfl) ?_ _
            have R11 := Lib.hid (R10.out.tell_yes HBE.out (m := m) (q := q) (by rw [HR.out]))
            have HA11 := Lib.hid (R10.out.after_told HA10.out hlo d m q)
            have HO11 := Lib.hid (((Only.refl (fun k => k = L.f) W10).setCell (p := ⟨L.f, d * 2, none⟩) (fun _ => rfl) (.int .i64 m)).setCell (p := ⟨L.f, d * 2 + 1, none⟩) (fun _ => rfl) (.int .i64 q) |>.own HO10.out (fun k hk e => own_ne_blk HO10.out R10.out.rb.fd.choose_spec.1 (by decide) (by rw [hk, e])))
            clear c4 x0 x1 p0 p1 z0 z1
            go_wp2
            go_roundw
            case rel => exact ⟨d + 1, _, by omega, by go_num, rfl, by rw [HS.out, HOF.out]; exact HO11.out, R11.out, HA11.out⟩
            case measure => simp [intOf]; omega
          · have hbe2 : s.best k d = bet m q tm tq := by rw [hbe, decide_eq_false htm]; rfl
            clear hbe
            have HB2 := Lib.hid (fun (w : World) => bet_below m q tm tq w)
            generalize bet m q tm tq = bb at hbe2 HB2
            have HBE := Lib.hid hbe2
            clear hbe2
            refine wp_region_held_drew (S := (fun w' => w'.cell? ⟨b, 0, none⟩ = some (.int .i64 s.id) ∧ w'.cell? ⟨b, 4, none⟩ = some (.slice (some ⟨L.f, 0, none⟩) n L.fc) ∧ w'.cell? ⟨L.f, d * 2, none⟩ = some (.int .i64 tm) ∧ w'.cell? ⟨L.f, d * 2 + 1, none⟩ = some (.int .i64 tq) ∧ w'.cell? ⟨xb, 0, none⟩ = some (.int .i64 m) ∧ w'.cell? ⟨xb, 1, none⟩ = some (.int .i64 q))) (by kernel_rfl) ⟨c0, c4, y0, y1, x0, x1⟩ (fun _ => ?_)
            refine held_take 0 60 (v := ?_) rfl rfl (by kernel_rfl) (by kernel_rfl) (by kernel_rfl) (fun _ _ _ h => h) (by rfl) ?_ ⟨c0, c4, y0, y1, x0, x1⟩ ?_
            rotate_left
            · (intro w hSw; (try dsimp only at hSw); try simp only [List.getElem_toArray, List.getElem_cons_zero, List.getElem_cons_succ]; go_simp; try (with_reducible rfl))
            try simp only [List.setIfInBounds_toArray, List.set_cons_zero, List.set_cons_succ]
            refine held_take 1 61 (v := ?_) rfl rfl (by kernel_rfl) (by kernel_rfl) (by kernel_rfl) (fun _ _ _ h => h) (by rfl) ?_ ⟨c0, c4, y0, y1, x0, x1⟩ ?_
            rotate_left
            · (intro w hSw; (try dsimp only at hSw); try simp only [List.getElem_toArray, List.getElem_cons_zero, List.getElem_cons_succ]; go_simp; try (with_reducible rfl))
            try simp only [List.setIfInBounds_toArray, List.set_cons_zero, List.set_cons_succ]
            refine held_take 2 62 (v := ?_) rfl rfl (by kernel_rfl) (by kernel_rfl) (by kernel_rfl) (fun _ _ _ h => h) (by rfl) ?_ ⟨c0, c4, y0, y1, x0, x1⟩ ?_
            rotate_left
            · (intro w hSw; (try dsimp only at hSw); try simp only [List.getElem_toArray, List.getElem_cons_zero, List.getElem_cons_succ]; go_simp; try (with_reducible rfl))
            try simp only [List.setIfInBounds_toArray, List.set_cons_zero, List.set_cons_succ]
            refine held_take 3 63 (v := ?_) rfl rfl (by kernel_rfl) (by kernel_rfl) (by kernel_rfl) (fun _ _ _ h => h) (by rfl) ?_ ⟨c0, c4, y0, y1, x0, x1⟩ ?_
            rotate_left
            · (intro w hSw; (try dsimp only at hSw); try simp only [List.getElem_toArray, List.getElem_cons_zero, List.getElem_cons_succ]; go_simp; try (with_reducible rfl))
            try simp only [List.setIfInBounds_toArray, List.set_cons_zero, List.set_cons_succ]
            refine held_take 4 64 (v := ?_) rfl rfl (by kernel_rfl) (by kernel_rfl) (by kernel_rfl) (fun _ _ _ h => h) (by rfl) ?_ ⟨c0, c4, y0, y1, x0, x1⟩ ?_
            rotate_left
            · (intro w hSw; (try dsimp only at hSw); try simp only [List.getElem_toArray, List.getElem_cons_zero, List.getElem_cons_succ]; go_simp; try (with_reducible rfl))
            try simp only [List.setIfInBounds_toArray, List.set_cons_zero, List.set_cons_succ]
            refine held_take 5 65 (v := ?_) rfl rfl (by kernel_rfl) (by kernel_rfl) (by kernel_rfl) (fun _ _ _ h => h) (by rfl) ?_ ⟨c0, c4, y0, y1, x0, x1⟩ ?_
            rotate_left
            · (intro w hSw; (try dsimp only at hSw); try simp only [List.getElem_toArray, List.getElem_cons_zero, List.getElem_cons_succ]; go_simp; try (with_reducible rfl))
            try simp only [List.setIfInBounds_toArray, List.set_cons_zero, List.set_cons_succ]
            refine held_take 6 66 (v := ?_) rfl rfl (by kernel_rfl) (by kernel_rfl) (by kernel_rfl) (fun _ _ _ h => h) (by rfl) ?_ ⟨c0, c4, y0, y1, x0, x1⟩ ?_
            rotate_left
            · (intro w hSw; (try dsimp only at hSw); try simp only [List.getElem_toArray, List.getElem_cons_zero, List.getElem_cons_succ]; go_simp; try (with_reducible rfl))
            try simp only [List.setIfInBounds_toArray, List.set_cons_zero, List.set_cons_succ]
            refine held_take 7 67 (v := ?_) rfl rfl (by kernel_rfl) (by kernel_rfl) (by kernel_rfl) (fun _ _ _ h => h) (by rfl) ?_ ⟨c0, c4, y0, y1, x0, x1⟩ ?_
            rotate_left
            · (intro w hSw; (try dsimp only at hSw); try simp only [List.getElem_toArray, List.getElem_cons_zero, List.getElem_cons_succ]; go_simp; try (with_reducible rfl))
            try simp only [List.setIfInBounds_toArray, List.set_cons_zero, List.set_cons_succ]
            refine held_take 8 68 (v := ?_) rfl rfl (by kernel_rfl) (by kernel_rfl) (by kernel_rfl) (fun _ _ _ h => h) (by rfl) ?_ ⟨c0, c4, y0, y1, x0, x1⟩ ?_
            rotate_left
            · (intro w hSw; (try dsimp only at hSw); try simp only [List.getElem_toArray, List.getElem_cons_zero, List.getElem_cons_succ]; go_simp; try (with_reducible rfl))
            try simp only [List.setIfInBounds_toArray, List.set_cons_zero, List.set_cons_succ]
            refine held_take 9 69 (v := ?_) rfl rfl (by kernel_rfl) (by kernel_rfl) (by kernel_rfl) (fun _ _ _ h => h) (by rfl) ?_ ⟨c0, c4, y0, y1, x0, x1⟩ ?_
            rotate_left
            · (intro w hSw; (try dsimp only at hSw); try simp only [List.getElem_toArray, List.getElem_cons_zero, List.getElem_cons_succ]; go_simp; try (with_reducible rfl))
            try simp only [List.setIfInBounds_toArray, List.set_cons_zero, List.set_cons_succ]
            refine held_take 10 70 (v := ?_) rfl rfl (by kernel_rfl) (by kernel_rfl) (by kernel_rfl) (fun _ _ _ h => h) (by rfl) ?_ ⟨c0, c4, y0, y1, x0, x1⟩ ?_
            rotate_left
            · (intro w hSw; (try dsimp only at hSw); try simp only [List.getElem_toArray, List.getElem_cons_zero, List.getElem_cons_succ]; go_simp; try (with_reducible rfl))
            try simp only [List.setIfInBounds_toArray, List.set_cons_zero, List.set_cons_succ]
            refine held_take 11 71 (v := ?_) rfl rfl (by kernel_rfl) (by kernel_rfl) (by kernel_rfl) (fun _ _ _ h => h) (by rfl) ?_ ⟨c0, c4, y0, y1, x0, x1⟩ ?_
            rotate_left
            · (intro w hSw; (try dsimp only at hSw); try simp only [List.getElem_toArray, List.getElem_cons_zero, List.getElem_cons_succ]; go_simp; try (with_reducible rfl))
            try simp only [List.setIfInBounds_toArray, List.set_cons_zero, List.set_cons_succ]
            refine held_take 12 72 (v := ?_) rfl rfl (by kernel_rfl) (by kernel_rfl) (by kernel_rfl) (fun _ _ _ h => h) (by rfl) ?_ ⟨c0, c4, y0, y1, x0, x1⟩ ?_
            rotate_left
            · (intro w hSw; (try dsimp only at hSw); try simp only [List.getElem_toArray, List.getElem_cons_zero, List.getElem_cons_succ]; go_simp; try (with_reducible rfl))
            try simp only [List.setIfInBounds_toArray, List.set_cons_zero, List.set_cons_succ]
            refine held_take 13 73 (v := ?_) rfl rfl (by kernel_rfl) (by kernel_rfl) (by kernel_rfl) (fun _ _ _ h => h) (by rfl) ?_ ⟨c0, c4, y0, y1, x0, x1⟩ ?_
            rotate_left
            · (intro w hSw; (try dsimp only at hSw); try simp only [List.getElem_toArray, List.getElem_cons_zero, List.getElem_cons_succ]; go_simp; try (with_reducible rfl))
            try simp only [List.setIfInBounds_toArray, List.set_cons_zero, List.set_cons_succ]
            refine held_take 14 74 (v := ?_) rfl rfl (by kernel_rfl) (by kernel_rfl) (by kernel_rfl) (fun _ _ _ h => h) (by rfl) ?_ ⟨c0, c4, y0, y1, x0, x1⟩ ?_
            rotate_left
            · (intro w hSw; (try dsimp only at hSw); try simp only [List.getElem_toArray, List.getElem_cons_zero, List.getElem_cons_succ]; go_simp; try (with_reducible rfl))
            try simp only [List.setIfInBounds_toArray, List.set_cons_zero, List.set_cons_succ]
            refine held_take 15 75 (v := ?_) rfl rfl (by kernel_rfl) (by kernel_rfl) (by kernel_rfl) (fun _ _ _ h => h) (by rfl) ?_ ⟨c0, c4, y0, y1, x0, x1⟩ ?_
            rotate_left
            · (intro w hSw; (try dsimp only at hSw); try simp only [List.getElem_toArray, List.getElem_cons_zero, List.getElem_cons_succ]; go_simp; try (with_reducible rfl))
            try simp only [List.setIfInBounds_toArray, List.set_cons_zero, List.set_cons_succ]
            refine held_take 16 76 (v := ?_) rfl rfl (by kernel_rfl) (by kernel_rfl) (by kernel_rfl) (fun _ _ _ h => h) (by rfl) ?_ ⟨c0, c4, y0, y1, x0, x1⟩ ?_
            rotate_left
            · (intro w hSw; (try dsimp only at hSw); try simp only [List.getElem_toArray, List.getElem_cons_zero, List.getElem_cons_succ]; go_simp; try (with_reducible rfl))
            try simp only [List.setIfInBounds_toArray, List.set_cons_zero, List.set_cons_succ]
            refine held_take 17 77 (v := ?_) rfl rfl (by kernel_rfl) (by kernel_rfl) (by kernel_rfl) (fun _ _ _ h => h) (by rfl) ?_ ⟨c0, c4, y0, y1, x0, x1⟩ ?_
            rotate_left
            · (intro w hSw; (try dsimp only at hSw); try simp only [List.getElem_toArray, List.getElem_cons_zero, List.getElem_cons_succ]; go_simp; try (with_reducible rfl))
            try simp only [List.setIfInBounds_toArray, List.set_cons_zero, List.set_cons_succ]
            refine held_take 18 78 (v := ?_) rfl rfl (by kernel_rfl) (by kernel_rfl) (by kernel_rfl) (fun _ _ _ h => h) (by rfl) ?_ ⟨c0, c4, y0, y1, x0, x1⟩ ?_
            rotate_left
            · (intro w hSw; (try dsimp only at hSw); try simp only [List.getElem_toArray, List.getElem_cons_zero, List.getElem_cons_succ]; go_simp; try (with_reducible rfl))
            try simp only [List.setIfInBounds_toArray, List.set_cons_zero, List.set_cons_succ]
            refine held_take 19 79 (v := ?_) rfl rfl (by kernel_rfl) (by kernel_rfl) (by kernel_rfl) (fun _ _ _ h => h) (by rfl) ?_ ⟨c0, c4, y0, y1, x0, x1⟩ ?_
            rotate_left
            · (intro w hSw; (try dsimp only at hSw); try simp only [List.getElem_toArray, List.getElem_cons_zero, List.getElem_cons_succ]; go_simp; try (with_reducible rfl))
            try simp only [List.setIfInBounds_toArray, List.set_cons_zero, List.set_cons_succ]
            refine held_take 20 80 (v := ?_) rfl rfl (by kernel_rfl) (by kernel_rfl) (by kernel_rfl) (fun _ _ _ h => h) (by rfl) ?_ ⟨c0, c4, y0, y1, x0, x1⟩ ?_
            rotate_left
            · (intro w hSw; (try dsimp only at hSw); try simp only [List.getElem_toArray, List.getElem_cons_zero, List.getElem_cons_succ]; go_simp; try (with_reducible rfl))
            try simp only [List.setIfInBounds_toArray, List.set_cons_zero, List.set_cons_succ]
            refine held_take 21 81 (v := ?_) rfl rfl (by kernel_rfl) (by kernel_rfl) (by kernel_rfl) (fun _ _ _ h => h) (by rfl) ?_ ⟨c0, c4, y0, y1, x0, x1⟩ ?_
            rotate_left
            · (intro w hSw; (try dsimp only at hSw); try simp only [List.getElem_toArray, List.getElem_cons_zero, List.getElem_cons_succ]; go_simp; try (with_reducible rfl))
            try simp only [List.setIfInBounds_toArray, List.set_cons_zero, List.set_cons_succ]
            refine held_take 22 82 (v := ?_) rfl rfl (by kernel_rfl) (by kernel_rfl) (by kernel_rfl) (fun _ _ _ h => h) (by rfl) ?_ ⟨c0, c4, y0, y1, x0, x1⟩ ?_
            rotate_left
            · (intro w hSw; (try dsimp only at hSw); try simp only [List.getElem_toArray, List.getElem_cons_zero, List.getElem_cons_succ]; go_simp; try (with_reducible rfl))
            try simp only [List.setIfInBounds_toArray, List.set_cons_zero, List.set_cons_succ]
            refine held_take 23 83 (v := ?_) rfl rfl (by kernel_rfl) (by kernel_rfl) (by kernel_rfl) (fun _ _ _ h => h) (by rfl) ?_ ⟨c0, c4, y0, y1, x0, x1⟩ ?_
            rotate_left
            · (intro w hSw; (try dsimp only at hSw); try simp only [List.getElem_toArray, List.getElem_cons_zero, List.getElem_cons_succ]; go_simp; try (with_reducible rfl))
            try simp only [List.setIfInBounds_toArray, List.set_cons_zero, List.set_cons_succ]
            refine held_take 24 84 (v := ?_) rfl rfl (by kernel_rfl) (by kernel_rfl) (by kernel_rfl) (fun _ _ _ h => h) (by rfl) ?_ ⟨c0, c4, y0, y1, x0, x1⟩ ?_
            rotate_left
            · (intro w hSw; (try dsimp only at hSw); try simp only [List.getElem_toArray, List.getElem_cons_zero, List.getElem_cons_succ]; go_simp; try (with_reducible rfl))
            try simp only [List.setIfInBounds_toArray, List.set_cons_zero, List.set_cons_succ]
            refine held_call 25 85 rfl rfl (by kernel_rfl) (by rfl) (fun K hK => ?_)
            try simp only [List.getElem_toArray, List.getElem_cons_zero, List.getElem_cons_succ]
            go_simp
            (go_at_call 44; (refine (HB2.out _).mono ?_); rintro e W9 ⟨rfl, hb9⟩; have R9 := Lib.hid (R8.out.drew.below hb9); have HA9 := Lib.hid (HA8.out.drew.below hb9 hlo); have HO9 := Lib.hid (OW.own_keep (OW.own_keep HO8.out (below_drew (Below.refl _ _))) hb9); have c0 := later hb9 c0; have c4 := later hb9 c4; have y0 := later hb9 y0; have y1 := later hb9 y1; have x0 := later hb9 x0; have x1 := later hb9 x1; clear hb9)
            try go_wp2_with fail
            try simp only [Act.put, List.setIfInBounds_toArray, List.set_cons_zero, List.set_cons_succ]
            refine hK.out _ _ _ ⟨c0, c4, y0, y1, x0, x1⟩ ?_
            clear hK K
            refine held_take 26 86 (v := ?_) rfl rfl (by kernel_rfl) (by kernel_rfl) (by kernel_rfl) (fun _ _ _ h => h) (by rfl) ?_ ⟨c0, c4, y0, y1, x0, x1⟩ ?_
            rotate_left
            · (intro w hSw; (try dsimp only at hSw); try simp only [List.getElem_toArray, List.getElem_cons_zero, List.getElem_cons_succ]; go_simp; try (with_reducible rfl))
            try simp only [List.setIfInBounds_toArray, List.set_cons_zero, List.set_cons_succ]
            refine held_take 27 87 (v := ?_) rfl rfl (by kernel_rfl) (by kernel_rfl) (by kernel_rfl) (fun _ _ _ h => h) (by rfl) ?_ ⟨c0, c4, y0, y1, x0, x1⟩ ?_
            rotate_left
            · (intro w hSw; (try dsimp only at hSw); try simp only [List.getElem_toArray, List.getElem_cons_zero, List.getElem_cons_succ]; go_simp; try (with_reducible rfl))
            try simp only [List.setIfInBounds_toArray, List.set_cons_zero, List.set_cons_succ]
            refine wpAnyH_done (by kernel_rfl) ?_ _
            clear c0 y0 y1
            cases bb
            · go_wp2
              go_roundw
              case rel => exact ⟨d + 1, _, by omega, by go_num, rfl, by rw [HS.out, HOF.out]; exact HO9.out, R9.out.tell_no HBE.out, HA9.out⟩
              case measure => simp [intOf]; omega
            · skip
              go_upto_region 14 with fail
              have c4 : W9.drew.cell? ⟨b, 4, none⟩ = some (.slice (some ⟨L.f, 0, none⟩) n L.fc) := c4
              have x0 : W9.drew.cell? ⟨xb, 0, none⟩ = some (.int .i64 m) := x0
              have x1 : W9.drew.cell? ⟨xb, 1, none⟩ = some (.int .i64 q) := x1
              have hbf : b ≠ L.f := R9.out.nef.1
              have R10 := Lib.hid R9.out.drew
              have HA10 := Lib.hid HA9.out.drew
              have HO10 := Lib.hid (OW.own_keep HO9.out (below_drew (Below.refl _ _)))
              refine wp_region_held_drew (S := (fun w' => w'.cell? ⟨b, 4, none⟩ = some (.slice (some ⟨L.f, 0, none⟩) n L.fc) ∧ w'.cell? ⟨xb, 0, none⟩ = some (.int .i64 m) ∧ w'.cell? ⟨xb, 1, none⟩ = some (.int .i64 q))) (by kernel_rfl) ⟨c4, x0, x1⟩ (fun _ => ?_)
              refine held_take 0 88 (v := ?_) rfl rfl (by kernel_rfl) (by kernel_rfl) (by kernel_rfl) (fun _ _ _ h => h) (by rfl) ?_ ⟨c4, x0, x1⟩ ?_
              rotate_left
              · (intro w hSw; (try dsimp only at hSw); try simp only [List.getElem_toArray, List.getElem_cons_zero, List.getElem_cons_succ]; go_simp; try (with_reducible rfl))
              try simp only [List.setIfInBounds_toArray, List.set_cons_zero, List.set_cons_succ]
              refine held_take 1 89 (v := ?_) rfl rfl (by kernel_rfl) (by kernel_rfl) (by kernel_rfl) (fun _ _ _ h => h) (by rfl) ?_ ⟨c4, x0, x1⟩ ?_
              rotate_left
              · (intro w hSw; (try dsimp only at hSw); try simp only [List.getElem_toArray, List.getElem_cons_zero, List.getElem_cons_succ]; go_simp; try (with_reducible rfl))
              try simp only [List.setIfInBounds_toArray, List.set_cons_zero, List.set_cons_succ]
              refine held_take 2 90 (v := ?_) rfl rfl (by kernel_rfl) (by kernel_rfl) (by kernel_rfl) (fun _ _ _ h => h) (by rfl) ?_ ⟨c4, x0, x1⟩ ?_
              rotate_left
              · (intro w hSw; (try dsimp only at hSw); try simp only [List.getElem_toArray, List.getElem_cons_zero, List.getElem_cons_succ]; go_simp; try (with_reducible rfl))
              try simp only [List.setIfInBounds_toArray, List.set_cons_zero, List.set_cons_succ]
              refine held_take 3 91 (v := ?_) rfl rfl (by kernel_rfl) (by kernel_rfl) (by kernel_rfl) (fun _ _ _ h => h) (by rfl) ?_ ⟨c4, x0, x1⟩ ?_
              rotate_left
              · (intro w hSw; (try dsimp only at hSw); try simp only [List.getElem_toArray, List.getElem_cons_zero, List.getElem_cons_succ]; go_simp; try (with_reducible rfl))
              try simp only [List.setIfInBounds_toArray, List.set_cons_zero, List.set_cons_succ]
              refine held_take 4 92 (v := ?_) rfl rfl (by kernel_rfl) (by kernel_rfl) (by kernel_rfl) (fun _ _ _ h => h) (by rfl) ?_ ⟨c4, x0, x1⟩ ?_
              rotate_left
              · (intro w hSw; (try dsimp only at hSw); try simp only [List.getElem_toArray, List.getElem_cons_zero, List.getElem_cons_succ]; go_simp; try (with_reducible rfl))
              try simp only [List.setIfInBounds_toArray, List.set_cons_zero, List.set_cons_succ]
              refine held_take 5 93 (v := ?_) rfl rfl (by kernel_rfl) (by kernel_rfl) (by kernel_rfl) (fun _ _ _ h => h) (by rfl) ?_ ⟨c4, x0, x1⟩ ?_
              rotate_left
              · (intro w hSw; (try dsimp only at hSw); try simp only [List.getElem_toArray, List.getElem_cons_zero, List.getElem_cons_succ]; go_simp; try (with_reducible rfl))
              try simp only [List.setIfInBounds_toArray, List.set_cons_zero, List.set_cons_succ]
              refine held_take 6 94 (v := ?_) rfl rfl (by kernel_rfl) (by kernel_rfl) (by kernel_rfl) (fun _ _ _ h => h) (by rfl) ?_ ⟨c4, x0, x1⟩ ?_
              rotate_left
              · (intro w hSw; (try dsimp only at hSw); try simp only [List.getElem_toArray, List.getElem_cons_zero, List.getElem_cons_succ]; go_simp; try (with_reducible rfl))
              try simp only [List.setIfInBounds_toArray, List.set_cons_zero, List.set_cons_succ]
              generalize W9.drew = W10 at R10 HA10 HO10 c4 x0 x1 ⊢
              have p0 := R10.out.rb.fd.c0 hdn2
              have p1 := R10.out.rb.fd.c1 hdn2
              have z0 := R10.out.rb.fd.free (d * 2)
              have z1 := R10.out.rb.fd.free (d * 2 + 1)
              refine held_do 7 rfl (by kernel_rfl) (by rfl) (fun K hK => ?_)
              try simp only [List.getElem_toArray, List.getElem_cons_zero, List.getElem_cons_succ]
              (go_simp; have c4 := cell_other (q := ⟨L.f, d * 2 + 1, none⟩) (u := .int .i64 q) (cell_other (q := ⟨L.f, d * 2, none⟩) (u := .int .i64 m) c4 (fun e => hbf e.symm)) (fun e => hbf e.symm); have x0 := cell_other (q := ⟨L.f, d * 2 + 1, none⟩) (u := .int .i64 q) (cell_other (q := ⟨L.f, d * 2, none⟩) (u := .int .i64 m) x0 hfx) hfx; have x1 := cell_other (q := ⟨L.f, d * 2 + 1, none⟩) (u := .int .i64 q) (cell_other (q := ⟨L.f, d * 2, none⟩) (u := .int .i64 m) x1 hfx) hfx)
              try simp only [Act.put, List.setIfInBounds_toArray, List.set_cons_zero, List.set_cons_succ]
              refine hK.out _ _ _ ⟨c4, x0, x1⟩ ?_
              clear hK K
              refine wpAnyH_done (by kernel_rfl) ?_ _
              have R11 := Lib.hid (R10.out.tell_yes HBE.out (m := m) (q := q) (by rw [HR.out]))
              have HA11 := Lib.hid (R10.out.after_told HA10.out hlo d m q)
              have HO11 := Lib.hid (((Only.refl (fun k => k = L.f) W10).setCell (p := ⟨L.f, d * 2, none⟩) (fun _ => rfl) (.int .i64 m)).setCell (p := ⟨L.f, d * 2 + 1, none⟩) (fun _ => rfl) (.int .i64 q) |>.own HO10.out (fun k hk e => own_ne_blk HO10.out R10.out.rb.fd.choose_spec.1 (by decide) (by rw [hk, e])))
              clear c4 x0 x1 p0 p1 z0 z1
              go_wp2
              go_roundw
              case rel => exact ⟨d + 1, _, by omega, by go_num, rfl, by rw [HS.out, HOF.out]; exact HO11.out, R11.out, HA11.out⟩
              case measure => simp [intOf]; omega
      · have hof : s.offer k d = ((d : Int), 65535, 0) := by unfold St.offer; rw [hid]; rfl
        have HOF := Lib.hid hof
        have HBE := Lib.hid (best_hid hid)
        have h1 := HH.out
        rw [hid] at h1
        clear hof hid
        cases ok
        · clear h1
          go_wp2_with (at_builtin; refine wpList_append_lies _ rfl (.tmp 45) (.tmp 48) 38 rfl w.heap.size 87 i0 _ 3 24 Try.underlying38 HI.out hz0 hz1 hz2 rfl (by omega) sv d _ rfl (HO5.out.alloc _) ⟨W5.heap.size, 0, none⟩ 1 1 [.int .i64 d, .int .i64 65535, .int .u32 0] rfl rfl (three_cells _ _ _ _ _) (by simp [Value.oneCell']) (by omega) (by unfold maxLen; omega) (by omega) (by simp; omega) (W5.heap.size + 1) (by simp) ?_; intro g2 cap2 w8 hown1 hgrow1 hat1 hlt1; have HO8 := Lib.hid hown1; have o8 := own_typ HO5.out hgrow1; have R8 := Lib.hid (R5.out.typ o8 (by decide) (by decide) (by decide) (by decide)); have HA8 := Lib.hid (HA5.out.own hlo (own_only HO5.out hgrow1 (by omega))); clear hown1 hgrow1 hat1 hlt1 o8)
          go_roundw
          case rel => exact ⟨d + 1, _, by omega, by go_num, rfl, by rw [HS.out, HOF.out]; exact HO8.out, R8.out.tell_no HBE.out, HA8.out⟩
          case measure => simp [intOf]; omega
        · have hnx : (nx == (k : Int)) = true := by simpa using h1.symm
          clear h1
          go_wp2_with (at_builtin; refine wpList_append_lies _ rfl (.tmp 45) (.tmp 48) 38 rfl w.heap.size 87 i0 _ 3 24 Try.underlying38 HI.out hz0 hz1 hz2 rfl (by omega) sv d _ rfl (HO5.out.alloc _) ⟨W5.heap.size, 0, none⟩ 1 1 [.int .i64 d, .int .i64 65535, .int .u32 0] rfl rfl (three_cells _ _ _ _ _) (by simp [Value.oneCell']) (by omega) (by unfold maxLen; omega) (by omega) (by simp; omega) (W5.heap.size + 1) (by simp) ?_; intro g2 cap2 w8 hown1 hgrow1 hat1 hlt1; have HO8 := Lib.hid hown1; have o8 := own_typ HO5.out hgrow1; have R8 := Lib.hid (R5.out.typ o8 (by decide) (by decide) (by decide) (by decide)); have HA8 := Lib.hid (HA5.out.own hlo (own_only HO5.out hgrow1 (by omega))); clear hown1 hgrow1 hat1 hlt1 o8)
          go_roundw
          case rel => exact ⟨d + 1, _, by omega, by go_num, rfl, by rw [HS.out, HOF.out]; exact HO8.out, R8.out.tell_no HBE.out, HA8.out⟩
          case measure => simp [intOf]; omega
    · obtain rfl : n = d := by omega
      go_wp2
      go_ret2
      rw [HN.out]
      exact ⟨⟨_, rfl, HO.out⟩, R.out, HA.out⟩
end RefN
end Go.Proofs.Ytcmknllefnahkaa
