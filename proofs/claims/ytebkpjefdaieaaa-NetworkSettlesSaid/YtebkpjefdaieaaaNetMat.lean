/-
  Networks and the laws' rows of rows. Conditions: those that each theorem names.
-/
import Derived.Test.YtebkpjefdaieaaaSettleR
import Derived.Test.YtebkpjefdaieaaaMat2
namespace Go.Proofs.Ytebkpjefdaieaaa
open Go.RowKit FR FP H2 OW
set_option linter.unusedVariables false
set_option linter.unusedSimpArgs false
namespace Net
open Eng GG
/-- there is one answer to how far -/
theorem far_ex {n t : Nat} {c : Nat → Nat → Int} (hg : GG.Good c) (ht : t < n) : ∃ D, GP.IsFar n c t D := by
  have key : ∀ (m : Nat) (done : Nat → Bool) (far : Nat → Int), GP.undone done n ≤ m → GP.Dij n c t done far → ∃ D, GP.IsFar n c t D := by
    intro m
    induction m with
    | zero =>
      intro done far hm h
      refine ⟨far, h.isFar hg.sym (fun j hj hd => ?_)⟩
      exfalso
      have := GP.undone_step (d := done) (d' := fun i => if i = j then true else done i) j n hj hd (by simp) (fun i hi => by simp [hi])
      omega
    | succ m ih =>
      intro done far hm h
      rcases GP.pick_is done far n with ⟨_, h2⟩ | ⟨a, _, ha, hd, hf, hmin⟩
      · exact ⟨far, h.isFar hg.sym h2⟩
      · have hs := h.step ht hg.low ha hd hf hmin
        have := GP.undone_step (d := done) (d' := fun i => if i = a then true else done i) a n ha hd (by simp) (fun i hi => by simp [hi])
        exact ih _ _ (by omega) hs
  exact key _ _ _ (Nat.le_refl _) GP.Dij.start
theorem mat_drew {w : World} {base gm n cap : Nat} {G : Nat → Nat} {c : Nat → Nat → Int} (h : Mat w base gm n cap G c) : Mat w.drew base gm n cap G c := ⟨(Only.drew (Only.refl (fun _ => False) w)).own h.own (fun _ _ h => h), fun j hj => Far.drew (h.far j hj), h.inj, h.low⟩
theorem gm_ne {w : World} {base gm n cap : Nat} {G : Nat → Nat} {c : Nat → Nat → Int} (h : Mat w base gm n cap G c) {a : Nat} (ha : a < n) : G a ≠ gm := fun e =>
  own_ne_blk h.own (show w.heap[G a]? = _ from h.far a ha) (by decide) (by rw [e]; rfl)
theorem mat_set {w : World} {base gm n cap : Nat} {G : Nat → Nat} {c : Nat → Nat → Int} (h : Mat w base gm n cap G c) {a b : Nat} (ha : a < n) (x : Int) : Mat (w.setCell ⟨G a, b, none⟩ (.int .i64 x)) base gm n cap G (put c a b x) := by
  refine ⟨?_, fun j hj => ?_, h.inj, h.low⟩
  · refine ((Only.refl (fun i => i = G a) w).setCell (p := ⟨G a, b, none⟩) (fun _ => rfl) _).own h.own (fun k hk e => ?_)
    simp only [Value.ownBlock, Option.some.injEq] at hk
    exact gm_ne h ha (e.symm.trans hk.symm)
  · by_cases e : j = a
    · subst e
      exact ((h.far j hj).set b x).congr (fun i _ => by unfold put; simp)
    · exact (far_other (h.far j hj) (p := ⟨G a, b, none⟩) (fun he => e (h.inj j a hj ha he.symm)) _).congr (fun i _ => by unfold put; simp [e])
/-- a frame of kinds of blocks that numbers' rows are not of -/
theorem mat_typ {w w' : World} {T : TypeId → Prop} {base gm n cap : Nat} {G : Nat → Nat} {c : Nat → Nat → Int} (h : Mat w base gm n cap G c) (ho : OnlyT T w w') (h1 : ¬ T 3) (h2 : ¬ T 35) : Mat w' base gm n cap G c :=
  ⟨ho.own h.own h2, fun j hj => ho.obj (h.far j hj) h1, h.inj, h.low⟩
theorem mat_after {w w' : World} {b0 base gm n cap : Nat} {G : Nat → Nat} {c : Nat → Nat → Int} (h : Mat w base gm n cap G c) (ho : After b0 w w') : Mat w' base gm n cap G c := mat_typ h ho.typ (by unfold netT; decide) (by unfold netT; decide)
theorem net_typ {w w' : World} {t : TypeId} {base b : Nat} {ly : Lay} {S : NetV} (h : IsNet w base b ly S) (ho : OnlyT (fun x => x = t) w w') (ht : t = 3 ∨ t = 35) : IsNet w' base b ly S := by
  rcases ht with rfl | rfl
  · exact h.only ho (by decide) (by decide) (by decide) (by decide) (by decide) (by decide)
  · exact h.only ho (by decide) (by decide) (by decide) (by decide) (by decide) (by decide)
theorem net_set {w : World} {base b g : Nat} {ly : Lay} {S : NetV} (h : IsNet w base b ly S) {cs : Array Value} {fr : Nat × Nat} (hg : w.heap[g]? = some (.cells cs 3 fr)) (i : Nat) (v : Value) : IsNet (w.setCell ⟨g, i, none⟩ v) base b ly S :=
  net_typ (t := 3) h ((OnlyT.refl (fun x => x = 3) w).setCell (p := ⟨g, i, none⟩) (fun _ => ⟨_, _, _, hg, rfl⟩) v) (.inl rfl)
theorem net_far {w : World} {base b g k : Nat} {F : Nat → Int} {ly : Lay} {S : NetV} (h : IsNet w base b ly S) (hg : Far w g k F) (i : Nat) (v : Value) : IsNet (w.setCell ⟨g, i, none⟩ v) base b ly S := net_set h (show w.heap[g]? = _ from hg) i v
/-- a link, or none -/
theorem do_one {base b : Nat} {ly : Lay} {S : NetV} (a c x : Int) (w : World) (h : IsNet w base b ly S) (hm : S.m.length ≤ 300) : Calls Try.prog 13 #[.pointer (some ⟨b, 0, none⟩), .agg #[.int .i64 1, .int .i64 a, .int .i64 c, .int .i64 x]] w fun e w' =>
    e = .returned (.int .i64 (GG.lnk S.n a c x)) ∧ IsNet w' base b ly (if GG.lnk S.n a c x = 0 then S.link a.toNat c.toNat x else S) ∧ After base w w' ∧ DoR S 1 a c x (GG.lnk S.n a c x) (if GG.lnk S.n a c x = 0 then S.link a.toNat c.toNat x else S) :=
  (do_any 1 a c x w h hm).mono fun e w' ⟨y, S', he, hd, hn, ha⟩ => by
    have hd2 := hd
    unfold DoR at hd2
    rw [if_pos rfl] at hd2
    obtain ⟨rfl, rfl⟩ := hd2
    exact ⟨he, hn, ha, hd⟩
theorem link_c {S : NetV} {i j : Nat} {x : Int} (h : GG.lnk S.n i j x = 0) : (S.link i j x).c = put (put S.c i j x) j i x := by
  show GG.lnc S.n S.c (i : Int) (j : Int) x = _
  unfold GG.lnc
  rw [if_pos h]
  rfl
theorem lnk_nat {n : Nat} {a c x : Int} (h : GG.lnk n a c x = 0) : ∃ i j : Nat, a = i ∧ c = j ∧ i < n ∧ j < n ∧ i ≠ j ∧ 0 ≤ x ∧ x ≤ 1000 := by
  unfold GG.lnk at h
  split at h
  · rename_i h1
    obtain ⟨h1, h2, h3⟩ := h1
    obtain ⟨i, rfl, hi⟩ := ok_nat h1
    obtain ⟨j, rfl, hj⟩ := ok_nat h2
    split at h
    · cases h
    · rename_i h4; exact ⟨i, j, rfl, rfl, hi, hj, fun e => h3 (by rw [e]), by omega, by omega⟩
  · cases h
theorem ialloc {w : World} {base b : Nat} {ly : Lay} {S : NetV} (h : IsNet w base b ly S) (o : Obj) : IsNet (w.alloc o) base b ly S := h.below ((Below.refl _ _).alloc (Nat.le_refl _) o)
theorem ids_of {w : World} {base b : Nat} {ly : Lay} {S : NetV} (h : IsNet w base b ly S) : Ids S := fun i hi => (h.wf i hi).2
theorem wfs_of {w : World} {base b : Nat} {ly : Lay} {S : NetV} (h : IsNet w base b ly S) : ∀ i, i < S.n → Wf (S.x i) := fun i hi => (h.wf i hi).1
/-- settled: how far each one thinks that it is -/
theorem settle_metric {S : NetV} {k : Int} (hp : Pre S k) (hk : k < 4294967295) (hi : Ids S) (hw : ∀ i, i < S.n → Wf (S.x i)) (hg : GG.Good S.c) {d : Nat} (hd : d < S.n) {D : Nat → Int} (hF : GP.IsFar S.n S.c d D) {i : Nat} (hin : i < S.n) : ((S.settle.x i).route d).2.1.1 = D i :=
  ((settled_of hp hk hi hw hg hd hF).route hF hd hin).1
/-- what stands behind settling -/
theorem pre_settle {S : NetV} {k : Int} (hp : Pre S k) (hk : k < 4294967295) (hi : Ids S) (hw : ∀ i, i < S.n → Wf (S.x i)) (hg : GG.Good S.c) : Pre S.settle (k + 1) := by
  have hn := settle_same S
  have hst : ∀ d, d < S.n → ∃ D, Settled S.n S.c d ((S.x d).seq + 1) D S.settle ∧ At S.n S.c d ((S.x d).seq + 1) D S.n S.settle := fun d hd => by
    obtain ⟨D, hD⟩ := far_ex (c := S.c) hg hd
    have ha := At.spin (run_fresh hp hk hi hw hg hd hD) hD hd S.n
    exact ⟨D, ha.settled, ha⟩
  refine ⟨ok_settle hp.ok hi, fun i j hi' hj => ?_, fun i => ?_, fun i d hi' hd hx => ?_, fun i hi' => ?_⟩
  · rw [hn.1] at hi' hj
    obtain ⟨D, h1, _⟩ := hst i hi'
    rw [hn.2.1]
    exact h1.st.cst i j hi' hj
  · rw [hn.2.1]; exact hp.diag i
  · rw [hn.1] at hi' hd
    obtain ⟨D, h1, h2⟩ := hst d hd
    rw [h1.seq]
    exact h2.run.inv.topt i hi' hx
  · rw [hn.1] at hi'
    obtain ⟨D, h1, _⟩ := hst i hi'
    rw [h1.seq]
    have := hp.seq i hi'
    omega
end Net
end Go.Proofs.Ytebkpjefdaieaaa
