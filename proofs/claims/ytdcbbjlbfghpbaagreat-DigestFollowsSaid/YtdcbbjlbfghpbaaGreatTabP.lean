/-
  Tables in plain Lean: prefixes in order, sorted lists of routes, put, drop, look up. No program. Conditions: those that each theorem names.
-/
namespace Go.Proofs.YtdcbbjlbfghpbaaGreat
set_option linter.unusedVariables false
namespace Tab
structure Pf where
  six : Bool
  addr : Vector UInt8 16
  len : Int
  deriving DecidableEq, Inhabited
structure Rt where
  to : Pf
  metric : Int
  seq : Int
  deriving DecidableEq, Inhabited
/-- of two rows of numbers, as long: which comes first -/
def cmpL : List Int → List Int → Int
  | a :: as, b :: bs => if a < b then -1 else if b < a then 1 else cmpL as bs
  | _, _ => 0
def kindOf (b : Bool) : Int := if b then 1 else 0
def Pf.nums (p : Pf) : List Int := p.addr.toList.map fun b => (b.toNat : Int)
def Pf.key (p : Pf) : List Int := kindOf p.six :: (p.nums ++ [p.len])
theorem nums_len (p : Pf) : p.nums.length = 16 := by simp [Pf.nums]
theorem key_len (p : Pf) : p.key.length = 18 := by simp [Pf.key, nums_len]
theorem map_inj {α β : Type} (f : α → β) (hf : ∀ x y, f x = f y → x = y) : ∀ a b : List α, a.map f = b.map f → a = b
  | [], [], _ => rfl
  | [], _ :: _, h => by simp at h
  | _ :: _, [], h => by simp at h
  | x :: a, y :: b, h => by
    simp only [List.map_cons, List.cons.injEq] at h
    rw [hf _ _ h.1, map_inj f hf a b h.2]
theorem key_inj {a b : Pf} (h : a.key = b.key) : a = b := by
  obtain ⟨s1, a1, l1⟩ := a
  obtain ⟨s2, a2, l2⟩ := b
  simp only [Pf.key, List.cons.injEq] at h
  obtain ⟨h1, h2⟩ := h
  have h3 := List.append_inj h2 (by simp [nums_len])
  have e1 : s1 = s2 := by cases s1 <;> cases s2 <;> simp [kindOf] at h1 <;> rfl
  have e2 : l1 = l2 := by simpa using h3.2
  have e3 : a1 = a2 := by
    have h4 := map_inj (fun b : UInt8 => (b.toNat : Int)) (fun x y h => by
      have h : (x.toNat : Int) = (y.toNat : Int) := h
      exact UInt8.toNat_inj.1 (by omega)) _ _ h3.1
    exact Vector.toList_inj.1 h4
  rw [e1, e2, e3]
theorem cmpL_self : ∀ a : List Int, cmpL a a = 0
  | [] => rfl
  | x :: a => by rw [cmpL, if_neg (by omega), if_neg (by omega)]; exact cmpL_self a
theorem cmpL_neg : ∀ a b : List Int, cmpL b a = - cmpL a b
  | [], [] => rfl
  | [], _ :: _ => rfl
  | _ :: _, [] => rfl
  | x :: a, y :: b => by
    rw [cmpL, cmpL]
    by_cases h1 : x < y
    · rw [if_pos h1, if_neg (by omega), if_pos h1]; rfl
    · by_cases h2 : y < x
      · rw [if_pos h2, if_neg h1, if_pos h2]
      · rw [if_neg h2, if_neg h1, if_neg h1, if_neg h2]; exact cmpL_neg a b
theorem cmpL_vals : ∀ a b : List Int, cmpL a b = -1 ∨ cmpL a b = 0 ∨ cmpL a b = 1
  | [], [] => .inr (.inl rfl)
  | [], _ :: _ => .inr (.inl rfl)
  | _ :: _, [] => .inr (.inl rfl)
  | x :: a, y :: b => by
    rw [cmpL]
    by_cases h1 : x < y
    · rw [if_pos h1]; exact .inl rfl
    · by_cases h2 : y < x
      · rw [if_neg h1, if_pos h2]; exact .inr (.inr rfl)
      · rw [if_neg h1, if_neg h2]; exact cmpL_vals a b
theorem cmpL_zero : ∀ a b : List Int, a.length = b.length → cmpL a b = 0 → a = b
  | [], [], _, _ => rfl
  | [], _ :: _, h, _ => by simp at h
  | _ :: _, [], h, _ => by simp at h
  | x :: a, y :: b, h, e => by
    rw [cmpL] at e
    by_cases h1 : x < y
    · rw [if_pos h1] at e; cases e
    · by_cases h2 : y < x
      · rw [if_neg h1, if_pos h2] at e; cases e
      · rw [if_neg h1, if_neg h2] at e
        rw [show x = y by omega, cmpL_zero a b (by simpa using h) e]
theorem cmpL_trans : ∀ a b c : List Int, a.length = b.length → b.length = c.length → cmpL a b < 0 → cmpL b c < 0 → cmpL a c < 0
  | [], [], [], _, _, h, _ => by cases h
  | [], _ :: _, _, h, _, _, _ => by simp at h
  | _ :: _, [], _, h, _, _, _ => by simp at h
  | _, [], _ :: _, _, h, _, _ => by simp at h
  | _, _ :: _, [], _, h, _, _ => by simp at h
  | x :: a, y :: b, z :: c, h1, h2, e1, e2 => by
    rw [cmpL] at e1 e2 ⊢
    by_cases a1 : x < y
    · by_cases a2 : y < z
      · rw [if_pos (by omega)]; omega
      · by_cases a3 : z < y
        · rw [if_neg a2, if_pos a3] at e2; omega
        · rw [if_pos (by omega)]; omega
    · by_cases b1 : y < x
      · rw [if_neg a1, if_pos b1] at e1; omega
      · rw [if_neg a1, if_neg b1] at e1
        by_cases a2 : y < z
        · rw [if_pos (by omega)]; omega
        · by_cases a3 : z < y
          · rw [if_neg a2, if_pos a3] at e2; omega
          · rw [if_neg a2, if_neg a3] at e2
            rw [if_neg (by omega), if_neg (by omega)]
            exact cmpL_trans a b c (by simpa using h1) (by simpa using h2) e1 e2
/-- which prefix comes first -/
def cmpP (a b : Pf) : Int := cmpL a.key b.key
def Lt (a b : Pf) : Prop := cmpP a b < 0
instance (a b : Pf) : Decidable (Lt a b) := by unfold Lt; infer_instance
theorem cmp_neg (a b : Pf) : cmpP b a = - cmpP a b := cmpL_neg _ _
theorem cmp_self (a : Pf) : cmpP a a = 0 := cmpL_self _
theorem cmp_zero {a b : Pf} : cmpP a b = 0 ↔ a = b := ⟨fun h => key_inj (cmpL_zero _ _ (by rw [key_len, key_len]) h), fun h => by rw [h, cmp_self]⟩
theorem lt_irrefl (a : Pf) : ¬ Lt a a := by unfold Lt; rw [cmp_self]; omega
theorem lt_trans {a b c : Pf} (h : Lt a b) (k : Lt b c) : Lt a c := cmpL_trans _ _ _ (by rw [key_len, key_len]) (by rw [key_len, key_len]) h k
theorem lt_asymm {a b : Pf} (h : Lt a b) : ¬ Lt b a := fun k => lt_irrefl a (lt_trans h k)
theorem lt_ne {a b : Pf} (h : Lt a b) : a ≠ b := fun e => by subst e; exact lt_irrefl _ h
theorem lt_tri (a b : Pf) : Lt a b ∨ a = b ∨ Lt b a := by
  unfold Lt
  rw [cmp_neg a b]
  rcases Int.lt_trichotomy (cmpP a b) 0 with h | h | h
  · exact .inl h
  · exact .inr (.inl (cmp_zero.1 h))
  · exact .inr (.inr (by omega))
theorem not_lt {a b : Pf} (h : ¬ Lt a b) : a = b ∨ Lt b a := (lt_tri a b).resolve_left h
theorem le_lt {a b c : Pf} (h : ¬ Lt b a) (k : Lt b c) : Lt a c := by
  rcases lt_tri a b with h1 | h1 | h1
  · exact lt_trans h1 k
  · rw [h1]; exact k
  · exact absurd h1 h
theorem lt_le {a b c : Pf} (h : Lt a b) (k : ¬ Lt c b) : Lt a c := by
  rcases lt_tri b c with h1 | h1 | h1
  · exact lt_trans h h1
  · rw [← h1]; exact h
  · exact absurd h1 k
theorem le_le {a b c : Pf} (h : ¬ Lt b a) (k : ¬ Lt c b) : ¬ Lt c a := fun e => k (lt_le e h)
/-! ### sorted lists -/
def Srt (T : List Rt) : Prop := T.Pairwise fun a b => Lt a.to b.to
theorem srt_nil : Srt [] := List.Pairwise.nil
theorem srt_cons {x : Rt} {T : List Rt} : Srt (x :: T) ↔ (∀ r ∈ T, Lt x.to r.to) ∧ Srt T := by unfold Srt; rw [List.pairwise_cons]
/-- the one to a prefix -/
def get (T : List Rt) (p : Pf) : Option Rt := T.find? fun r => decide (r.to = p)
def has (T : List Rt) (p : Pf) : Bool := (get T p).isSome
/-- its place, or where it would be -/
def pos (T : List Rt) (p : Pf) : Nat := T.countP fun r => decide (Lt r.to p)
theorem get_nil (p : Pf) : get [] p = none := rfl
theorem get_cons (x : Rt) (T : List Rt) (p : Pf) : get (x :: T) p = if x.to = p then some x else get T p := by
  unfold get
  rw [List.find?_cons]
  by_cases h : x.to = p
  · rw [if_pos h, decide_eq_true h]
  · rw [if_neg h, decide_eq_false h]
theorem get_to {T : List Rt} {p : Pf} {r : Rt} (h : get T p = some r) : r.to = p := by
  have := List.find?_some h
  simpa using this
theorem get_mem {T : List Rt} {p : Pf} {r : Rt} (h : get T p = some r) : r ∈ T := List.mem_of_find?_eq_some h
theorem get_none {T : List Rt} {p : Pf} : get T p = none ↔ ∀ r ∈ T, r.to ≠ p := by
  unfold get
  rw [List.find?_eq_none]
  simp
theorem has_iff {T : List Rt} {p : Pf} : has T p = true ↔ ∃ r ∈ T, r.to = p := by
  unfold has
  cases h : get T p with
  | none => simp; exact fun r hr e => get_none.1 h r hr e
  | some r => simp; exact ⟨r, get_mem h, get_to h⟩
theorem has_false {T : List Rt} {p : Pf} : has T p = false ↔ ∀ r ∈ T, r.to ≠ p := by
  rw [← get_none]
  unfold has
  cases get T p <;> simp
theorem mem_get {T : List Rt} (hs : Srt T) {r : Rt} (h : r ∈ T) : get T r.to = some r := by
  induction T with
  | nil => cases h
  | cons x T ih =>
    rw [srt_cons] at hs
    rw [get_cons]
    rcases List.mem_cons.1 h with rfl | h
    · rw [if_pos rfl]
    · rw [if_neg (lt_ne (hs.1 r h))]; exact ih hs.2 h
theorem get_iff {T : List Rt} (hs : Srt T) {p : Pf} {r : Rt} : get T p = some r ↔ r ∈ T ∧ r.to = p :=
  ⟨fun h => ⟨get_mem h, get_to h⟩, fun ⟨h, e⟩ => e ▸ mem_get hs h⟩
/-- sorted lists with the same routes are one -/
theorem srt_ext : ∀ {A B : List Rt}, Srt A → Srt B → (∀ r, r ∈ A ↔ r ∈ B) → A = B
  | [], [], _, _, _ => rfl
  | [], y :: B, _, _, h => by have := (h y).2 (List.mem_cons_self ..); cases this
  | x :: A, [], _, _, h => by have := (h x).1 (List.mem_cons_self ..); cases this
  | x :: A, y :: B, ha, hb, h => by
    rw [srt_cons] at ha hb
    have e : x = y := by
      rcases List.mem_cons.1 ((h x).1 (List.mem_cons_self ..)) with e | h1
      · exact e
      · rcases List.mem_cons.1 ((h y).2 (List.mem_cons_self ..)) with e | h2
        · exact e.symm
        · exact absurd (ha.1 y h2) (lt_asymm (hb.1 x h1))
    subst e
    rw [srt_ext ha.2 hb.2 (fun r => ?_)]
    constructor
    · intro hr
      rcases List.mem_cons.1 ((h r).1 (List.mem_cons_of_mem _ hr)) with e | h1
      · subst e; exact absurd (ha.1 _ hr) (lt_irrefl _)
      · exact h1
    · intro hr
      rcases List.mem_cons.1 ((h r).2 (List.mem_cons_of_mem _ hr)) with e | h1
      · subst e; exact absurd (hb.1 _ hr) (lt_irrefl _)
      · exact h1
theorem srt_get {A B : List Rt} (ha : Srt A) (hb : Srt B) (h : ∀ p, get A p = get B p) : A = B :=
  srt_ext ha hb fun r => ⟨fun hr => ((get_iff hb).1 ((h _) ▸ mem_get ha hr)).1, fun hr => ((get_iff ha).1 ((h _).symm ▸ mem_get hb hr)).1⟩
theorem pos_cons (x : Rt) (T : List Rt) (p : Pf) : pos (x :: T) p = pos T p + if Lt x.to p then 1 else 0 := by
  unfold pos
  rw [List.countP_cons]
  by_cases h : Lt x.to p <;> simp [h]
theorem pos_le (T : List Rt) (p : Pf) : pos T p ≤ T.length := List.countP_le_length
theorem pos_zero {T : List Rt} {p : Pf} (h : ∀ r ∈ T, ¬ Lt r.to p) : pos T p = 0 := by
  unfold pos
  rw [List.countP_eq_zero]
  simpa using h
/-- the places ahead of a prefix's are those of what comes first -/
theorem pos_lt : ∀ {T : List Rt}, Srt T → ∀ {p : Pf} {i : Nat} (hi : i < T.length), Lt T[i].to p ↔ i < pos T p
  | [], _, _, _, hi => by simp at hi
  | x :: T, hs, p, i, hi => by
    rw [srt_cons] at hs
    rw [pos_cons]
    by_cases hx : Lt x.to p
    · rw [if_pos hx]
      cases i with
      | zero => simp [hx]
      | succ i => simpa using pos_lt hs.2 (p := p) (i := i) (by simpa using hi)
    · rw [if_neg hx]
      have hz : ∀ r ∈ T, ¬ Lt r.to p := fun r hr h => hx (lt_trans (hs.1 r hr) h)
      rw [pos_zero hz]
      cases i with
      | zero => simpa using hx
      | succ i =>
        have hi' : i < T.length := by simpa using hi
        simpa using hz T[i] (List.getElem_mem hi')
theorem pos_has {T : List Rt} (hs : Srt T) (p : Pf) : has T p = true ↔ ∃ h : pos T p < T.length, T[pos T p].to = p := by
  rw [has_iff]
  constructor
  · rintro ⟨r, hr, e⟩
    obtain ⟨i, hi, rfl⟩ := List.getElem_of_mem hr
    have h1 : ¬ i < pos T p := fun h => lt_ne ((pos_lt hs hi).2 h) e
    have h2 : pos T p ≤ i := by omega
    have h3 : ¬ pos T p < i := fun h => by
      have h4 := (List.pairwise_iff_getElem.1 hs) (pos T p) i (by omega) hi h
      rw [e] at h4
      exact absurd ((pos_lt hs (by omega)).1 h4) (by omega)
    have h5 : pos T p = i := by omega
    refine ⟨by omega, ?_⟩
    simp only [h5]
    exact e
  · rintro ⟨h, e⟩
    exact ⟨_, List.getElem_mem h, e⟩
theorem pos_get {T : List Rt} (hs : Srt T) {p : Pf} (h : has T p = true) : ∃ hi : pos T p < T.length, get T p = some T[pos T p] := by
  obtain ⟨hi, e⟩ := (pos_has hs p).1 h
  exact ⟨hi, (get_iff hs).2 ⟨List.getElem_mem hi, e⟩⟩
/-- one put in, or in its like's place -/
def ins : List Rt → Rt → List Rt
  | [], r => [r]
  | x :: T, r => if Lt x.to r.to then x :: ins T r else if x.to = r.to then r :: T else r :: x :: T
def del (T : List Rt) (p : Pf) : List Rt := T.filter fun r => decide (r.to ≠ p)
theorem mem_ins {T : List Rt} (hs : Srt T) {r x : Rt} : x ∈ ins T r ↔ x = r ∨ x ∈ T ∧ x.to ≠ r.to := by
  induction T with
  | nil => simp [ins]
  | cons y T ih =>
    rw [srt_cons] at hs
    rw [ins]
    by_cases h1 : Lt y.to r.to
    · rw [if_pos h1, List.mem_cons, ih hs.2]
      constructor
      · rintro (rfl | h | h)
        · exact .inr ⟨List.mem_cons_self .., lt_ne h1⟩
        · exact .inl h
        · exact .inr ⟨List.mem_cons_of_mem _ h.1, h.2⟩
      · rintro (h | ⟨h, e⟩)
        · exact .inr (.inl h)
        · rcases List.mem_cons.1 h with rfl | h
          · exact .inl rfl
          · exact .inr (.inr ⟨h, e⟩)
    · rw [if_neg h1]
      by_cases h2 : y.to = r.to
      · rw [if_pos h2, List.mem_cons]
        constructor
        · rintro (h | h)
          · exact .inl h
          · exact .inr ⟨List.mem_cons_of_mem _ h, fun e => lt_ne (hs.1 x h) (h2.trans e.symm)⟩
        · rintro (h | ⟨h, e⟩)
          · exact .inl h
          · rcases List.mem_cons.1 h with rfl | h
            · exact absurd h2 e
            · exact .inr h
      · rw [if_neg h2, List.mem_cons]
        have h3 : Lt r.to y.to := (not_lt h1).resolve_left h2
        constructor
        · rintro (h | h)
          · exact .inl h
          · refine .inr ⟨h, fun e => ?_⟩
            rcases List.mem_cons.1 h with rfl | h
            · exact h2 e
            · have := lt_trans h3 (hs.1 x h)
              rw [e] at this
              exact lt_irrefl _ this
        · rintro (h | ⟨h, e⟩)
          · exact .inl h
          · exact .inr h
theorem srt_ins {T : List Rt} (hs : Srt T) (r : Rt) : Srt (ins T r) := by
  induction T with
  | nil => simp [ins, Srt]
  | cons y T ih =>
    have hs' := hs
    rw [srt_cons] at hs
    rw [ins]
    by_cases h1 : Lt y.to r.to
    · rw [if_pos h1, srt_cons]
      refine ⟨fun x hx => ?_, ih hs.2⟩
      rcases (mem_ins hs.2).1 hx with rfl | ⟨h, _⟩
      · exact h1
      · exact hs.1 x h
    · rw [if_neg h1]
      by_cases h2 : y.to = r.to
      · rw [if_pos h2, srt_cons]
        exact ⟨fun x hx => h2 ▸ hs.1 x hx, hs.2⟩
      · rw [if_neg h2, srt_cons]
        have h3 : Lt r.to y.to := (not_lt h1).resolve_left h2
        refine ⟨fun x hx => ?_, hs'⟩
        rcases List.mem_cons.1 hx with rfl | h
        · exact h3
        · exact lt_trans h3 (hs.1 x h)
theorem get_ins {T : List Rt} (hs : Srt T) (r : Rt) (p : Pf) : get (ins T r) p = if p = r.to then some r else get T p := by
  by_cases h : p = r.to
  · rw [if_pos h, get_iff (srt_ins hs r)]
    exact ⟨(mem_ins hs).2 (.inl rfl), h.symm⟩
  · rw [if_neg h]
    cases hg : get T p with
    | none =>
      rw [get_none] at hg ⊢
      intro x hx e
      rcases (mem_ins hs).1 hx with rfl | ⟨h1, _⟩
      · exact h e.symm
      · exact hg x h1 e
    | some x =>
      rw [get_iff hs] at hg
      rw [get_iff (srt_ins hs r)]
      exact ⟨(mem_ins hs).2 (.inr ⟨hg.1, fun e => h (hg.2.symm.trans e)⟩), hg.2⟩
theorem mem_del {T : List Rt} {p : Pf} {x : Rt} : x ∈ del T p ↔ x ∈ T ∧ x.to ≠ p := by simp [del]
theorem srt_del {T : List Rt} (hs : Srt T) (p : Pf) : Srt (del T p) := List.Pairwise.filter _ hs
theorem get_del {T : List Rt} (hs : Srt T) (p q : Pf) : get (del T p) q = if q = p then none else get T q := by
  by_cases h : q = p
  · rw [if_pos h, get_none]
    intro r hr e
    exact (mem_del.1 hr).2 (e.trans h)
  · rw [if_neg h]
    cases hg : get T q with
    | none =>
      rw [get_none] at hg ⊢
      intro x hx
      exact hg x (mem_del.1 hx).1
    | some x =>
      rw [get_iff hs] at hg
      rw [get_iff (srt_del hs p)]
      exact ⟨mem_del.2 ⟨hg.1, fun e => h (hg.2.symm.trans e)⟩, hg.2⟩
/-- by places -/
theorem ins_has : ∀ {T : List Rt}, Srt T → ∀ {r : Rt}, has T r.to = true → T.set (pos T r.to) r = ins T r
  | [], _, r, h => by simp [has, get] at h
  | y :: T, hs, r, h => by
    rw [srt_cons] at hs
    rw [ins, pos_cons]
    by_cases h1 : Lt y.to r.to
    · rw [if_pos h1, if_pos h1, List.set_cons_succ]
      have h2 : has T r.to = true := by
        unfold has at h ⊢
        rwa [get_cons, if_neg (lt_ne h1)] at h
      rw [ins_has hs.2 h2]
    · rw [if_neg h1, if_neg h1]
      have hz : ∀ x ∈ T, ¬ Lt x.to r.to := fun x hx h => h1 (lt_trans (hs.1 x hx) h)
      rw [pos_zero hz]
      by_cases h2 : y.to = r.to
      · rw [if_pos h2]; rfl
      · have h3 : Lt r.to y.to := (not_lt h1).resolve_left h2
        obtain ⟨x, hx, e⟩ := has_iff.1 h
        rcases List.mem_cons.1 hx with rfl | hx
        · exact absurd e h2
        · have := lt_trans h3 (hs.1 x hx)
          rw [e] at this
          exact absurd this (lt_irrefl _)
theorem ins_not : ∀ {T : List Rt}, Srt T → ∀ {r : Rt}, has T r.to = false → T.insertIdx (pos T r.to) r = ins T r
  | [], _, r, h => by simp [ins, pos]
  | y :: T, hs, r, h => by
    rw [srt_cons] at hs
    rw [ins, pos_cons]
    by_cases h1 : Lt y.to r.to
    · rw [if_pos h1, if_pos h1, List.insertIdx_succ_cons]
      have h2 : has T r.to = false := by
        unfold has at h ⊢
        rwa [get_cons, if_neg (lt_ne h1)] at h
      rw [ins_not hs.2 h2]
    · rw [if_neg h1, if_neg h1]
      have hz : ∀ x ∈ T, ¬ Lt x.to r.to := fun x hx h => h1 (lt_trans (hs.1 x hx) h)
      rw [pos_zero hz, if_neg (has_false.1 h y (List.mem_cons_self ..))]
      rfl
theorem del_has : ∀ {T : List Rt}, Srt T → ∀ {p : Pf}, has T p = true → T.eraseIdx (pos T p) = del T p
  | [], _, r, h => by simp [has, get] at h
  | y :: T, hs, p, h => by
    rw [srt_cons] at hs
    rw [pos_cons]
    unfold del
    rw [List.filter_cons]
    by_cases h1 : Lt y.to p
    · rw [if_pos h1, List.eraseIdx_cons_succ, if_pos (by simpa using lt_ne h1)]
      have h2 : has T p = true := by
        unfold has at h ⊢
        rwa [get_cons, if_neg (lt_ne h1)] at h
      rw [del_has hs.2 h2]
      rfl
    · rw [if_neg h1]
      have hz : ∀ x ∈ T, ¬ Lt x.to p := fun x hx h => h1 (lt_trans (hs.1 x hx) h)
      rw [pos_zero hz]
      by_cases h2 : y.to = p
      · rw [if_neg (by simpa using h2), List.eraseIdx_cons_zero]
        symm
        rw [List.filter_eq_self]
        intro x hx
        have := lt_ne (h2 ▸ hs.1 x hx)
        simpa using fun e => this e.symm
      · have h3 : Lt p y.to := (not_lt h1).resolve_left h2
        obtain ⟨x, hx, e⟩ := has_iff.1 h
        rcases List.mem_cons.1 hx with rfl | hx
        · exact absurd e h2
        · have := lt_trans h3 (hs.1 x hx)
          rw [e] at this
          exact absurd this (lt_irrefl _)
theorem del_not {T : List Rt} {p : Pf} (h : has T p = false) : del T p = T := by
  unfold del
  rw [List.filter_eq_self]
  intro x hx
  simpa using has_false.1 h x hx
theorem len_ins {T : List Rt} (hs : Srt T) (r : Rt) : (ins T r).length = T.length + if has T r.to then 0 else 1 := by
  cases h : has T r.to
  · rw [← ins_not hs h, List.length_insertIdx, if_pos (pos_le ..)]; rfl
  · rw [← ins_has hs h, List.length_set]; rfl
theorem len_del {T : List Rt} (hs : Srt T) {p : Pf} (h : has T p = true) : (del T p).length + 1 = T.length := by
  obtain ⟨hi, _⟩ := (pos_has hs p).1 h
  rw [← del_has hs h, List.length_eraseIdx, if_pos hi]
  omega
end Tab
end Go.Proofs.YtdcbbjlbfghpbaaGreat
