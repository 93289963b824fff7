/-
  How far nodes are: plain laws (the nearest node first; rounds). No program. Conditions: those that each law names.
-/
import Derived.Test.YtebkpjefdaieaaaRepeat
namespace Go.Proofs.Ytebkpjefdaieaaa
set_option linter.unusedVariables false
namespace GP

/-- how far each of n nodes is from 'tgt', by what it answers to -/
structure IsFar (n : Nat) (c : Nat → Nat → Int) (tgt : Nat) (D : Nat → Int) : Prop where
  zero : D tgt = 0
  low : ∀ i, i < n → 0 ≤ D i
  high : ∀ i, i < n → D i ≤ 65535
  pos : ∀ i, i < n → i ≠ tgt → 0 < D i
  link : ∀ i k, i < n → k < n → 0 < c i k → D i ≤ D k + c i k
  by_ : ∀ i, i < n → i ≠ tgt → D i = 65535 ∨ ∃ k, k < n ∧ 0 < c i k ∧ D i = D k + c i k

theorem IsFar.le {n c tgt D D'} (h : IsFar n c tgt D) (h' : IsFar n c tgt D') : ∀ i, i < n → D i ≤ D' i := by
  have key : ∀ (m : Nat) (i : Nat), i < n → D' i < m → D i ≤ D' i := by
    intro m
    induction m with
    | zero => intro i hi hm; have := h'.low i hi; omega
    | succ m ih =>
      intro i hi hm
      by_cases e : i = tgt
      · subst e; rw [h.zero, h'.zero]; omega
      · rcases h'.by_ i hi e with h1 | ⟨k, hk, hc, h1⟩
        · rw [h1]; exact h.high i hi
        · have := h.link i k hi hk hc
          have := ih k hk (by omega)
          omega
  intro i hi
  exact key (D' i + 1).toNat i hi (by have := h'.low i hi; omega)

theorem IsFar.unique {n c tgt D D'} (h : IsFar n c tgt D) (h' : IsFar n c tgt D') : ∀ i, i < n → D i = D' i :=
  fun i hi => Int.le_antisymm (h.le h' i hi) (h'.le h i hi)

/-- by a third node -/
theorem IsFar.third {n : Nat} {c : Nat → Nat → Int} {a b : Nat} {Da Db : Nat → Int} (hs : ∀ i k, c i k = c k i) (ha : IsFar n c a Da) (hb : IsFar n c b Db) (hbn : b < n) :
    ∀ x, x < n → Da b ≤ Da x + Db x := by
  have key : ∀ (m : Nat) (x : Nat), x < n → Db x < m → Da b ≤ Da x + Db x := by
    intro m
    induction m with
    | zero => intro i hi hm; have := hb.low i hi; omega
    | succ m ih =>
      intro x hx hm
      by_cases e : x = b
      · subst e; rw [hb.zero]; omega
      · rcases hb.by_ x hx e with h1 | ⟨k, hk, hc, h1⟩
        · have := ha.high b hbn; have := ha.low x hx; omega
        · have := ha.link k x hk hx (by rw [hs]; exact hc)
          have := ih k hk (by omega)
          have := hs x k
          omega
  intro x hx
  exact key (Db x + 1).toNat x hx (by have := hb.low x hx; omega)

theorem IsFar.sym {n : Nat} {c : Nat → Nat → Int} {a b : Nat} {Da Db : Nat → Int} (hs : ∀ i k, c i k = c k i) (ha : IsFar n c a Da) (hb : IsFar n c b Db) (han : a < n) (hbn : b < n) :
    Da b = Db a := by
  have h1 := ha.third hs hb hbn a han
  have h2 := hb.third hs ha han b hbn
  rw [ha.zero] at h1
  rw [hb.zero] at h2
  omega

/-! Dijkstra's way -/

/-- which node is taken: of the first i ones the nearest that is not done -/
def pick (done : Nat → Bool) (far : Nat → Int) : Nat → Int
  | 0 => -1
  | i + 1 => if done i = false ∧ far i < 65535 ∧ (pick done far i < 0 ∨ far i < far (pick done far i).toNat) then (i : Int) else pick done far i

theorem pick_is (done far) (n : Nat) : (pick done far n = -1 ∧ ∀ j, j < n → done j = false → 65535 ≤ far j) ∨
    ∃ a : Nat, pick done far n = (a : Int) ∧ a < n ∧ done a = false ∧ far a < 65535 ∧ ∀ j, j < n → done j = false → far a ≤ far j := by
  induction n with
  | zero => exact .inl ⟨rfl, fun j hj => by omega⟩
  | succ n ih =>
    unfold pick
    rcases ih with ⟨h1, h2⟩ | ⟨a, h1, h2, h3, h4, h5⟩
    · rw [h1]
      by_cases hc : done n = false ∧ far n < 65535
      · rw [if_pos ⟨hc.1, hc.2, .inl (by omega)⟩]
        refine .inr ⟨n, rfl, by omega, hc.1, hc.2, fun j hj hd => ?_⟩
        by_cases e : j = n
        · subst e; omega
        · have := h2 j (by omega) hd; omega
      · rw [if_neg (fun h => hc ⟨h.1, h.2.1⟩)]
        refine .inl ⟨rfl, fun j hj hd => ?_⟩
        by_cases e : j = n
        · subst e; by_cases h : far j < 65535
          · exact absurd ⟨hd, h⟩ hc
          · omega
        · exact h2 j (by omega) hd
    · rw [h1]
      by_cases hc : done n = false ∧ far n < 65535 ∧ ((a : Int) < 0 ∨ far n < far (a : Int).toNat)
      · rw [if_pos hc]
        obtain ⟨c1, c2, c3⟩ := hc
        have c4 : far n < far a := by
          rcases c3 with c3 | c3
          · omega
          · simpa using c3
        refine .inr ⟨n, rfl, by omega, c1, c2, fun j hj hd => ?_⟩
        by_cases e : j = n
        · subst e; omega
        · have := h5 j (by omega) hd; omega
      · rw [if_neg hc]
        refine .inr ⟨a, rfl, by omega, h3, h4, fun j hj hd => ?_⟩
        by_cases e : j = n
        · subst e
          apply Int.not_lt.1
          intro hlt
          exact hc ⟨hd, by omega, .inr (by simpa using hlt)⟩
        · exact h5 j (by omega) hd

/-- what is known while nodes are done one by one -/
structure Dij (n : Nat) (c : Nat → Nat → Int) (tgt : Nat) (done : Nat → Bool) (far : Nat → Int) : Prop where
  zero : far tgt = 0
  low : ∀ i, i < n → 0 ≤ far i
  high : ∀ i, i < n → far i ≤ 65535
  pos : ∀ i, i < n → i ≠ tgt → 0 < far i
  by_ : ∀ i, i < n → i ≠ tgt → far i = 65535 ∨ ∃ k, k < n ∧ done k = true ∧ 0 < c k i ∧ far i = far k + c k i
  link : ∀ k i, k < n → i < n → done k = true → 0 < c k i → far i ≤ far k + c k i
  ahead : ∀ k i, k < n → i < n → done k = true → done i = false → far k ≤ far i

def relax (c : Nat → Nat → Int) (far : Nat → Int) (a : Nat) (i : Nat) : Int := if 0 < c a i then min (far i) (far a + c a i) else far i

theorem Dij.start {n c tgt} : Dij n c tgt (fun _ => false) (fun i => if i = tgt then 0 else 65535) :=
  ⟨by simp, fun i _ => by split <;> omega, fun i _ => by split <;> omega, fun i _ h => by rw [if_neg h]; omega,
   fun i _ h => .inl (by rw [if_neg h]), fun _ _ _ _ h => (Bool.noConfusion h), fun _ _ _ _ h => (Bool.noConfusion h)⟩

theorem Dij.step {n c tgt done far} (h : Dij n c tgt done far) (htgt : tgt < n) (hc : ∀ i k, 0 ≤ c i k) {a : Nat} (ha : a < n) (hd : done a = false) (hf : far a < 65535)
    (hmin : ∀ j, j < n → done j = false → far a ≤ far j) : Dij n c tgt (fun i => if i = a then true else done i) (relax c far a) := by
  have hfa : relax c far a a = far a := by unfold relax; split <;> omega
  have hle : ∀ i, relax c far a i ≤ far i := fun i => by unfold relax; split <;> omega
  have hge : ∀ i, i < n → far i ≤ far a → relax c far a i = far i := fun i hi h' => by unfold relax; have := hc a i; split <;> omega
  have hdone : ∀ k, k < n → done k = true → relax c far a k = far k := fun k hk hdk => hge k hk (h.ahead k a hk ha hdk hd)
  have hzero : relax c far a tgt = 0 := by
    have := h.low a ha
    rw [hge tgt htgt (by rw [h.zero]; omega), h.zero]
  refine ⟨hzero, fun i hi => ?_, fun i hi => ?_, fun i hi hne => ?_, fun i hi hne => ?_, fun k i hk hi hdk hck => ?_, fun k i hk hi hdk hdi => ?_⟩
  · have := h.low i hi; have := h.low a ha; have := hc a i; unfold relax; split <;> omega
  · exact Int.le_trans (hle i) (h.high i hi)
  · have := h.pos i hi hne; have := h.low a ha; unfold relax; split <;> omega
  · by_cases hcase : relax c far a i = far i
    · rw [hcase]
      rcases h.by_ i hi hne with h1 | ⟨k, hk, hdk, hck, h1⟩
      · exact .inl h1
      · refine .inr ⟨k, hk, by split <;> simp [hdk], hck, ?_⟩
        rw [hdone k hk hdk]; exact h1
    · refine .inr ⟨a, ha, by simp, ?_, ?_⟩
      · apply Int.not_le.1; intro h'; exact hcase (by unfold relax; rw [if_neg (by omega)])
      · rw [hfa]; unfold relax at hcase ⊢; split at hcase <;> omega
  · by_cases e : k = a
    · subst e; rw [hfa]; unfold relax; rw [if_pos hck]; omega
    · have hdk' : done k = true := by simpa [e] using hdk
      rw [hdone k hk hdk']
      exact Int.le_trans (hle i) (h.link k i hk hi hdk' hck)
  · have hia : i ≠ a := fun e => by subst e; simp at hdi
    have hdi' : done i = false := by simpa [hia] using hdi
    have hmi := hmin i hi hdi'
    by_cases e : k = a
    · subst e; rw [hfa]; have := hc k i; unfold relax; split <;> omega
    · have hdk' : done k = true := by simpa [e] using hdk
      rw [hdone k hk hdk']
      have := h.ahead k i hk hi hdk' hdi'
      have := h.ahead k a hk ha hdk' hd
      have := hc a i
      unfold relax; split <;> omega

theorem Dij.isFar {n c tgt done far} (h : Dij n c tgt done far) (hs : ∀ i k, c i k = c k i) (hend : ∀ j, j < n → done j = false → 65535 ≤ far j) : IsFar n c tgt far := by
  refine ⟨h.zero, h.low, h.high, h.pos, fun i k hi hk hck => ?_, fun i hi hne => ?_⟩
  · cases hd : done k with
    | true => have := h.link k i hk hi hd (by rw [hs]; exact hck); rw [hs]; exact this
    | false => have := hend k hk hd; have := h.high i hi; omega
  · rcases h.by_ i hi hne with h1 | ⟨k, hk, _, hck, h1⟩
    · exact .inl h1
    · exact .inr ⟨k, hk, by rw [hs]; exact hck, by rw [hs]; exact h1⟩

/-! how many are done -/
def undone (done : Nat → Bool) : Nat → Nat
  | 0 => 0
  | n + 1 => undone done n + (if done n then 0 else 1)

theorem undone_congr {d d' : Nat → Bool} (n : Nat) (h : ∀ i, i < n → d i = d' i) : undone d n = undone d' n := by
  induction n with
  | zero => rfl
  | succ n ih => simp only [undone]; rw [ih (fun i hi => h i (by omega)), h n (by omega)]

theorem undone_step {d d' : Nat → Bool} (a n : Nat) (ha : a < n) (hd : d a = false) (h1 : d' a = true) (h2 : ∀ i, i ≠ a → d' i = d i) : undone d' n + 1 = undone d n := by
  induction n with
  | zero => omega
  | succ n ih =>
    simp only [undone]
    by_cases e : a = n
    · subst e
      rw [undone_congr (d := d') (d' := d) a (fun i hi => h2 i (by omega)), h1, hd]
      simp
    · have := ih (by omega)
      rw [h2 n (by omega)]
      omega

/-! the reference's rounds -/
/-- how many are nearer -/
def rank (D : Nat → Int) (v : Int) : Nat → Nat
  | 0 => 0
  | n + 1 => rank D v n + (if D n < v then 1 else 0)

theorem rank_le (D v) (n : Nat) : rank D v n ≤ n := by
  induction n with
  | zero => simp [rank]
  | succ n ih => simp only [rank]; split <;> omega

theorem rank_mono (D) {v v' : Int} (h : v ≤ v') (n : Nat) : rank D v n ≤ rank D v' n := by
  induction n with
  | zero => simp [rank]
  | succ n ih => simp only [rank]; split <;> split <;> omega

theorem rank_lt (D) {v v' : Int} (h : v < v') (n : Nat) (p : Nat) (hp : p < n) (h1 : v ≤ D p) (h2 : D p < v') : rank D v n < rank D v' n := by
  induction n with
  | zero => omega
  | succ n ih =>
    simp only [rank]
    by_cases e : p = n
    · subst e
      have := rank_mono D (Int.le_of_lt h) p
      rw [if_neg (by omega), if_pos h2]; omega
    · have := ih (by omega)
      split <;> split <;> omega

theorem rank_lt_n (D) (n i : Nat) (hi : i < n) : rank D (D i) n < n := by
  induction n with
  | zero => omega
  | succ n ih =>
    simp only [rank]
    by_cases e : i = n
    · subst e; have := rank_le D (D i) i; rw [if_neg (by omega)]; omega
    · have := ih (by omega)
      split <;> omega

/-- after k rounds: nothing is nearer than it is, and all with at most k nearer ones are right -/
structure Bell (n : Nat) (tgt : Nat) (D : Nat → Int) (k : Nat) (out : Nat → Int) : Prop where
  above : ∀ i, i < n → D i ≤ out i
  cap : ∀ i, i < n → out i ≤ 65535
  dest : out tgt = D tgt
  right : ∀ i, i < n → rank D (D i) n < k → out i = D i

/-- one step of a round -/
def bstep (c : Nat → Nat → Int) (out : Nat → Int) (a b : Nat) (i : Nat) : Int := if 0 < c a b then (if i = a then min (out a) (out b + c a b) else out i) else out i

/-- inside a round, at row a, of which b places are looked at -/
structure In (n : Nat) (c : Nat → Nat → Int) (tgt : Nat) (D : Nat → Int) (k a b : Nat) (out : Nat → Int) : Prop where
  base : Bell n tgt D k out
  rows : ∀ i, i < a → i < n → rank D (D i) n < k + 1 → out i = D i
  part : ∀ j, j < b → j < n → 0 < c a j → rank D (D j) n < k → out a ≤ D j + c a j

theorem Bell.start {n c tgt D} (h : IsFar n c tgt D) : Bell n tgt D 0 (fun i => if i = tgt then 0 else 65535) :=
  ⟨fun i hi => by
    split
    · rename_i e; subst e; rw [h.zero]; exact Int.le_refl _
    · exact h.high i hi, fun i _ => by split <;> omega, by rw [if_pos rfl, h.zero], fun i _ hr => by omega⟩

theorem Bell.begin {n c tgt D k out} (h : Bell n tgt D k out) : In n c tgt D k 0 0 out := ⟨h, fun i hi => by omega, fun j hj => by omega⟩

theorem In.step {n c tgt D k a b out} (hf : IsFar n c tgt D) (htgt : tgt < n) (h : In n c tgt D k a b out) (hb : b < n) : In n c tgt D k a (b + 1) (bstep c out a b) := by
  have habove : ∀ i, i < n → D i ≤ bstep c out a b i := fun i hi => by
    have := h.base.above i hi
    unfold bstep
    split
    · rename_i hc
      split
      · rename_i e; subst e
        have := hf.link i b hi hb hc; have := h.base.above b hb; omega
      · exact this
    · exact this
  have hle : ∀ i, bstep c out a b i ≤ out i := fun i => by
    unfold bstep
    split
    · split
      · rename_i e; subst e; omega
      · omega
    · omega
  have hkeep : ∀ i, i < n → out i = D i → bstep c out a b i = D i := fun i hi he => by
    have := habove i hi; have := hle i; omega
  refine ⟨⟨habove, fun i hi => Int.le_trans (hle i) (h.base.cap i hi), hkeep tgt htgt h.base.dest, fun i hi hr => hkeep i hi (h.base.right i hi hr)⟩, fun i hia hi hr => hkeep i hi (h.rows i hia hi hr), fun j hj hjn hc hr => ?_⟩
  by_cases e : j = b
  · subst e
    have := h.base.right j hjn hr
    unfold bstep
    rw [if_pos hc, if_pos rfl]
    omega
  · exact Int.le_trans (hle a) (h.part j (by omega) hjn hc hr)

theorem In.row {n c tgt D k a out} (hf : IsFar n c tgt D) (h : In n c tgt D k a n out) : In n c tgt D k (a + 1) 0 out := by
  refine ⟨h.base, fun i hia hi hr => ?_, fun j hj => by omega⟩
  by_cases e : i = a
  · subst e
    by_cases e2 : i = tgt
    · subst e2; exact h.base.dest
    · rcases hf.by_ i hi e2 with h1 | ⟨p, hp, hc, h1⟩
      · have := h.base.above i hi; have := h.base.cap i hi; omega
      · have hrank : rank D (D p) n < rank D (D i) n := rank_lt D (by omega) n p hp (Int.le_refl _) (by omega)
        have := h.part p hp hp hc (by omega)
        have := h.base.above i hi
        omega
  · exact h.rows i (by omega) hi hr

theorem In.round {n c tgt D k out} (h : In n c tgt D k n 0 out) : Bell n tgt D (k + 1) out :=
  ⟨h.base.above, h.base.cap, h.base.dest, fun i hi hr => h.rows i hi hi hr⟩

theorem bell_end {n c tgt D k out} (_h : IsFar n c tgt D) (hb : Bell n tgt D k out) (hk : n ≤ k) : ∀ i, i < n → out i = D i :=
  fun i hi => hb.right i hi (by have := rank_lt_n D n i hi; omega)

end GP
end Go.Proofs.Ytebkpjefdaieaaa
