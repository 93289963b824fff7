/-
  What is done by the changes from one table to another, in plain Lean. Conditions: those that each theorem names.
-/
import Derived.Test.YtbeoclcnajfjcaaTd
namespace Go.Proofs.Ytbeoclcnajfjcaa
set_option linter.unusedVariables false
namespace Tab
theorem ins_app : ∀ (E : List Rt) {A : List Rt} {y : Rt}, (∀ e ∈ E, Lt e.to y.to) → ins (E ++ A) y = E ++ ins A y
  | [], A, y, _ => rfl
  | e :: E, A, y, h => by
    show ins (e :: (E ++ A)) y = _
    rw [ins, if_pos (h e (List.mem_cons_self ..)), ins_app E (fun x hx => h x (List.mem_cons_of_mem _ hx))]
    rfl
theorem del_app {E A : List Rt} {p : Pf} (h : ∀ e ∈ E, Lt e.to p) : del (E ++ A) p = E ++ del A p := by
  unfold del
  rw [List.filter_append, List.filter_eq_self.2 (fun e he => decide_eq_true (lt_ne (h e he)))]
theorem has_app : ∀ (E : List Rt) {A : List Rt} {p : Pf}, (∀ e ∈ E, Lt e.to p) → has (E ++ A) p = has A p
  | [], A, p, _ => rfl
  | e :: E, A, p, h => by
    have := has_app E (A := A) (p := p) (fun x hx => h x (List.mem_cons_of_mem _ hx))
    unfold has at this ⊢
    show (get (e :: (E ++ A)) p).isSome = _
    rw [get_cons, if_neg (lt_ne (h e (List.mem_cons_self ..))), this]
theorem ins_ahead {A : List Rt} {y : Rt} (h : ∀ a ∈ A, Lt y.to a.to) : ins A y = y :: A := by
  cases A with
  | nil => rfl
  | cons x A =>
    have hx := h x (List.mem_cons_self ..)
    rw [ins, if_neg (lt_asymm hx), if_neg (fun e => lt_ne hx e.symm)]
theorem ins_like {A : List Rt} {x y : Rt} (h : x.to = y.to) : ins (x :: A) y = y :: A := by
  rw [ins, if_neg (by rw [h]; exact lt_irrefl _), if_pos h]
theorem del_first {A : List Rt} {x : Rt} (h : ∀ a ∈ A, Lt x.to a.to) : del (x :: A) x.to = A := by
  unfold del
  rw [List.filter_cons, if_neg (by simp), List.filter_eq_self]
  exact fun a ha => decide_eq_true (fun e => lt_ne (h a ha) e.symm)
theorem has_first (A : List Rt) {x : Rt} {p : Pf} (h : x.to = p) : has (x :: A) p = true := has_iff.2 ⟨x, List.mem_cons_self .., h⟩
theorem has_ahead {A : List Rt} {p : Pf} (h : ∀ a ∈ A, Lt p a.to) : has A p = false := has_false.2 (fun r hr e => lt_ne (h r hr) e.symm)
/-- where the changes stand: what is done, what is left of the one, and of the other -/
structure Std (E A B : List Rt) : Prop where
  sA : Srt A
  sB : Srt B
  eA : ∀ e ∈ E, ∀ a ∈ A, Lt e.to a.to
  eB : ∀ e ∈ E, ∀ b ∈ B, Lt e.to b.to
  rA : ∀ a ∈ A, right a = true
  rB : ∀ b ∈ B, right b = true
  len : (E ++ A).length ≤ 300
theorem right_P {r : Rt} (h : right r = true) : rightP r.to = true := by
  unfold right at h
  simp only [Bool.and_eq_true] at h
  first | exact h.1.1 | exact h.1
theorem mem_snoc {E : List Rt} {b e : Rt} (h : e ∈ E ++ [b]) : e ∈ E ∨ e = b := by simpa using h
theorem std_gone {E A B : List Rt} {a : Rt} (h : Std E (a :: A) B) : doC (E ++ a :: A) (gone a) = 0 ∧ doT (E ++ a :: A) (gone a) = E ++ A ∧ Std E A B := by
  have hr := right_P (h.rA a (List.mem_cons_self ..))
  have he : ∀ e ∈ E, Lt e.to a.to := fun e he => h.eA e he a (List.mem_cons_self ..)
  have hs := srt_cons.1 h.sA
  have hc : (gone a).kind = 3 := rfl
  refine ⟨?_, ?_, ⟨hs.2, h.sB, fun e he x hx => h.eA e he x (List.mem_cons_of_mem _ hx), h.eB, fun x hx => h.rA x (List.mem_cons_of_mem _ hx), h.rB, ?_⟩⟩
  · unfold doC
    rw [if_pos hc, if_pos ⟨rfl, rfl, hr⟩]
    unfold dropC
    exact if_pos (show has (E ++ a :: A) a.to = true by rw [has_app E he]; exact has_first A rfl)
  · unfold doT
    rw [if_pos hc, if_pos ⟨rfl, rfl, hr⟩]
    show del (E ++ a :: A) a.to = _
    rw [del_app he, del_first hs.1]
  · have := h.len
    simp only [List.length_append, List.length_cons] at this ⊢
    omega
theorem std_snoc {E A B : List Rt} {b : Rt} (h : Std E A (b :: B)) (hA : ∀ a ∈ A, Lt b.to a.to) (hl : (E ++ A).length < 300) : Std (E ++ [b]) A B := by
  have hs := srt_cons.1 h.sB
  refine ⟨h.sA, hs.2, fun e he a ha => ?_, fun e he x hx => ?_, h.rA, fun x hx => h.rB x (List.mem_cons_of_mem _ hx), ?_⟩
  · rcases mem_snoc he with he | rfl
    · exact h.eA e he a ha
    · exact hA a ha
  · rcases mem_snoc he with he | rfl
    · exact h.eB e he x (List.mem_cons_of_mem _ hx)
    · exact hs.1 x hx
  · simp only [List.length_append, List.length_cons, List.length_nil] at hl ⊢
    omega
theorem std_add {E A B : List Rt} {b : Rt} (h : Std E A (b :: B)) (hA : ∀ a ∈ A, Lt b.to a.to) :
    (doC (E ++ A) ⟨1, b⟩ = 0 ∧ doT (E ++ A) ⟨1, b⟩ = (E ++ [b]) ++ A ∧ Std (E ++ [b]) A B) ∨ ((E ++ A).length = 300 ∧ doT (E ++ A) ⟨1, b⟩ = E ++ A ∧ Std E A B) := by
  obtain ⟨p, m, q⟩ := b
  have hr := h.rB _ (List.mem_cons_self ..)
  have he : ∀ e ∈ E, Lt e.to p := fun e he => h.eB e he _ (List.mem_cons_self ..)
  have hh : has (E ++ A) p = false := by rw [has_app E he]; exact has_ahead hA
  obtain ⟨d1, d2⟩ := do_put1 hr hh
  have hs := srt_cons.1 h.sB
  by_cases hl : (E ++ A).length < 300
  · refine .inl ⟨?_, ?_, std_snoc h hA hl⟩
    · rw [d1]; unfold putC; rw [if_pos hr, if_neg (by rw [hh]; decide), if_pos hl]
    · rw [d2]; unfold putT; rw [if_pos hr, if_neg (by rw [hh]; decide), if_pos hl, ins_app E he, ins_ahead hA, List.append_assoc]; rfl
  · refine .inr ⟨by have := h.len; omega, ?_, ⟨h.sA, hs.2, h.eA, fun e he x hx => h.eB e he x (List.mem_cons_of_mem _ hx), h.rA, fun x hx => h.rB x (List.mem_cons_of_mem _ hx), h.len⟩⟩
    rw [d2]; unfold putT; rw [if_pos hr, if_neg (by rw [hh]; decide), if_neg hl]
theorem std_turn {E A B : List Rt} {a b : Rt} (h : Std E (a :: A) (b :: B)) (e0 : a.to = b.to) : doC (E ++ a :: A) ⟨2, b⟩ = 0 ∧ doT (E ++ a :: A) ⟨2, b⟩ = (E ++ [b]) ++ A ∧ Std (E ++ [b]) A B := by
  have hr := h.rB _ (List.mem_cons_self ..)
  have he : ∀ e ∈ E, Lt e.to b.to := fun e he => h.eB e he _ (List.mem_cons_self ..)
  have hh : has (E ++ a :: A) b.to = true := by rw [has_app E he]; exact has_first A e0
  have hs := srt_cons.1 h.sB
  have hsA := srt_cons.1 h.sA
  have h2 : Std E A (b :: B) := ⟨hsA.2, h.sB, fun e he x hx => h.eA e he x (List.mem_cons_of_mem _ hx), h.eB, fun x hx => h.rA x (List.mem_cons_of_mem _ hx), h.rB, by have := h.len; simp only [List.length_append, List.length_cons] at this ⊢; omega⟩
  obtain ⟨p, m, q⟩ := b
  obtain ⟨d1, d2⟩ := do_put2 hr hh
  refine ⟨?_, ?_, std_snoc h2 (fun x hx => e0 ▸ hsA.1 x hx) (by have := h.len; simp only [List.length_append, List.length_cons] at this ⊢; omega)⟩
  · rw [d1]; unfold putC; rw [if_pos hr, if_pos hh]
  · rw [d2]; unfold putT; rw [if_pos hr, if_pos hh, ins_app E he, ins_like e0, List.append_assoc]; rfl
/-- one change -/
def StepG (E A B : List Rt) (x : In) (l : List In) : Prop := (doC (E ++ A) x = 0 ∨ 300 ≤ (doT (E ++ A) x).length) ∧ ∃ E2 A2 B2, doT (E ++ A) x = E2 ++ A2 ∧ Std E2 A2 B2 ∧ chg A2 B2 = l ∧
  (∀ F N, A.length ≤ N → N + F.length ≤ 300 → E ++ B = F → E2 ++ B2 = F ∧ A2.length ≤ N)
theorem step_gone {E A B : List Rt} {a : Rt} (h : Std E (a :: A) B) : StepG E (a :: A) B (gone a) (chg A B) := by
  obtain ⟨d1, d2, d3⟩ := std_gone h
  exact ⟨.inl d1, E, A, B, d2, d3, rfl, fun F N h1 h2 h3 => ⟨h3, by simp only [List.length_cons] at h1; omega⟩⟩
theorem step_add {E A B : List Rt} {b : Rt} (h : Std E A (b :: B)) (hA : ∀ a ∈ A, Lt b.to a.to) : StepG E A (b :: B) ⟨1, b⟩ (chg A B) := by
  rcases std_add h hA with ⟨d1, d2, d3⟩ | ⟨d1, d2, d3⟩
  · exact ⟨.inl d1, E ++ [b], A, B, d2, d3, rfl, fun F N h1 h2 h3 => ⟨by rw [← h3, List.append_assoc]; rfl, h1⟩⟩
  · refine ⟨.inr (by rw [d2]; omega), E, A, B, d2, d3, rfl, fun F N h1 h2 h3 => ?_⟩
    exfalso
    rw [← h3] at h2
    simp only [List.length_append, List.length_cons] at d1 h2
    omega
theorem chg_step : ∀ (n : Nat) (E A B : List Rt), A.length + B.length ≤ n → Std E A B → ∀ x l, chg A B = x :: l → StepG E A B x l := by
  intro n
  induction n with
  | zero =>
    intro E A B hn h x l hc
    obtain rfl : A = [] := List.length_eq_zero_iff.1 (by omega)
    obtain rfl : B = [] := List.length_eq_zero_iff.1 (by omega)
    rw [chg_nn] at hc
    cases hc
  | succ n ih =>
    intro E A B hn h x l hc
    cases A with
    | nil =>
      cases B with
      | nil => rw [chg_nn] at hc; cases hc
      | cons b B =>
        rw [chg_n] at hc
        cases hc
        exact step_add h (fun a ha => by cases ha)
    | cons a A =>
      cases B with
      | nil =>
        rw [chg_c] at hc
        cases hc
        exact step_gone h
      | cons b B =>
        have hsA := srt_cons.1 h.sA
        have hsB := srt_cons.1 h.sB
        by_cases h1 : cmpP a.to b.to < 0
        · rw [chg_cc, if_pos h1] at hc
          cases hc
          exact step_gone h
        · by_cases h2 : 0 < cmpP a.to b.to
          · have hba : Lt b.to a.to := by unfold Lt; rw [cmp_neg]; omega
            rw [chg_cc, if_neg h1, if_pos h2] at hc
            cases hc
            refine step_add h (fun x hx => ?_)
            rcases List.mem_cons.1 hx with rfl | hx
            · exact hba
            · exact lt_trans hba (hsA.1 x hx)
          · have e0 : a.to = b.to := cmp_zero.1 (by omega)
            by_cases h3 : a = b
            · subst h3
              rw [chg_cc, if_neg h1, if_neg h2, if_pos rfl] at hc
              have h4 : Std (E ++ [a]) A B := by
                refine ⟨hsA.2, hsB.2, fun e he x hx => ?_, fun e he x hx => ?_, fun x hx => h.rA x (List.mem_cons_of_mem _ hx), fun x hx => h.rB x (List.mem_cons_of_mem _ hx), by have := h.len; simp only [List.length_append, List.length_cons, List.length_nil] at this ⊢; omega⟩
                · rcases mem_snoc he with he | rfl
                  · exact h.eA e he x (List.mem_cons_of_mem _ hx)
                  · exact hsA.1 x hx
                · rcases mem_snoc he with he | rfl
                  · exact h.eB e he x (List.mem_cons_of_mem _ hx)
                  · exact hsB.1 x hx
              obtain ⟨g1, E2, A2, B2, g2, g3, g4, g5⟩ := ih (E ++ [a]) A B (by simp only [List.length_cons] at hn; omega) h4 x l hc
              rw [List.append_assoc, List.singleton_append] at g1 g2
              exact ⟨g1, E2, A2, B2, g2, g3, g4, fun F N k1 k2 k3 => g5 F N (by simp only [List.length_cons] at k1; omega) k2 (by rw [List.append_assoc]; exact k3)⟩
            · rw [chg_cc, if_neg h1, if_neg h2, if_neg h3] at hc
              cases hc
              obtain ⟨d1, d2, d3⟩ := std_turn h e0
              exact ⟨.inl d1, E ++ [b], A, B, d2, d3, rfl, fun F N k1 k2 k3 => ⟨by rw [← k3, List.append_assoc]; rfl, by simp only [List.length_cons] at k1; omega⟩⟩
theorem chg_nil : ∀ (n : Nat) (A B : List Rt), A.length + B.length ≤ n → chg A B = [] → A = B := by
  intro n
  induction n with
  | zero =>
    intro A B hn _
    rw [List.length_eq_zero_iff.1 (show A.length = 0 by omega), List.length_eq_zero_iff.1 (show B.length = 0 by omega)]
  | succ n ih =>
    intro A B hn hc
    cases A with
    | nil =>
      cases B with
      | nil => rfl
      | cons b B => rw [chg_n] at hc; cases hc
    | cons a A =>
      cases B with
      | nil => rw [chg_c] at hc; cases hc
      | cons b B =>
        rw [chg_cc] at hc
        split at hc
        · cases hc
        · split at hc
          · cases hc
          · split at hc
            · rename_i e
              rw [e, ih A B (by simp only [List.length_cons] at hn; omega) hc]
            · cases hc
theorem chg_self : ∀ A : List Rt, chg A A = []
  | [] => chg_nn
  | a :: A => by rw [chg_cc, cmp_self, if_neg (by omega), if_neg (by omega), if_pos rfl, chg_self A]
theorem std_start {A B : List Rt} (hA : Srt A) (hB : Srt B) (rA : ∀ a ∈ A, right a = true) (rB : ∀ b ∈ B, right b = true) (hl : A.length ≤ 300) : Std [] A B :=
  ⟨hA, hB, (fun e he => by cases he), (fun e he => by cases he), rA, rB, by simpa using hl⟩
end Tab
end Go.Proofs.Ytbeoclcnajfjcaa
