/-
  With one link more, or a cheaper one: plain laws, and rows of rows. Conditions: those that each law names.
-/
import Derived.Test.YtbghebncmfjgiaaNearP
import Derived.Test.YtbghebncmfjgiaaHeld
namespace Go.Proofs.Ytbghebncmfjgiaa
open Go Go.RowKit Go.Deep Go.Joins Go.ChangeShapes Go.WideShapes
set_option linter.unusedVariables false
set_option linter.unusedSimpArgs false
namespace GG
theorem far_less {n : Nat} {c c' : Nat → Nat → Int} {t : Nat} {D D' : Nat → Int} (h : GP.IsFar n c t D) (h' : GP.IsFar n c' t D') (hcc : ∀ i k, i < n → k < n → 0 < c i k → 0 < c' i k ∧ c' i k ≤ c i k) : ∀ i, i < n → D' i ≤ D i := by
  have key : ∀ (m : Nat) (i : Nat), i < n → D i < m → D' i ≤ D i := by
    intro m
    induction m with
    | zero => intro i hi hm; have := h.low i hi; omega
    | succ m ih =>
      intro i hi hm
      by_cases e : i = t
      · subst e; rw [h.zero, h'.zero]; omega
      · rcases h.by_ i hi e with h1 | ⟨k, hk, hc, h1⟩
        · rw [h1]; exact h'.high i hi
        · obtain ⟨h2, h3⟩ := hcc i k hi hk hc
          have := h'.link i k hi hk h2
          have := ih k hk (by omega)
          omega
  intro i hi
  exact key (D i + 1).toNat i hi (by have := h.low i hi; omega)
theorem far_none {n t : Nat} {D : Nat → Int} (h : GP.IsFar n (fun _ _ => 0) t D) : ∀ i, i < n → i ≠ t → D i = 65535 := fun i hi hne => by
  rcases h.by_ i hi hne with h1 | ⟨k, _, hc, _⟩
  · exact h1
  · simp at hc
theorem lnc_less {n : Nat} {c : Nat → Nat → Int} {a b x : Int} (hg : Good c) (hl : lnk n a b x = 0) (hx : 0 < x) (hw : cst n c a b ≤ 0 ∨ x ≤ cst n c a b) :
    ∀ i k, i < n → k < n → 0 < c i k → 0 < lnc n c a b x i k ∧ lnc n c a b x i k ≤ c i k := by
  have hk : ok n a = true ∧ ok n b = true := by
    unfold lnk at hl
    split at hl
    · rename_i h1; exact ⟨h1.1, h1.2.1⟩
    · cases hl
  intro i k hi hkn hc
  have hw2 : cst n c a b = c a.toNat b.toNat := by unfold cst; rw [if_pos hk]
  rw [hw2] at hw
  have hs := hg.sym a.toNat b.toNat
  unfold lnc
  rw [if_pos hl]
  unfold put
  split
  · rename_i e; obtain ⟨rfl, rfl⟩ := e; omega
  · split
    · rename_i e; obtain ⟨rfl, rfl⟩ := e; omega
    · omega
/-- rows of n numbers -/
def rows (G : Nat → Nat) (n d : Nat) : List Value := (List.range d).map fun j => .slice (some ⟨G j, 0, none⟩) n n
theorem rows_next (G : Nat → Nat) (n d g : Nat) : rows (fun j => if j = d then g else G j) n (d + 1) = rows G n d ++ [.slice (some ⟨g, 0, none⟩) n n] := by
  unfold rows
  rw [List.range_succ, List.map_append]
  congr 1
  · refine List.map_congr_left (fun j hj => ?_)
    have : j < d := by simpa using hj
    have hne : ¬ j = d := by omega
    simp only [if_neg hne]
  · simp
theorem far_app {w w1 : World} {base size n d : Nat} {v : Value} {xs : List Value} {o : Obj} {g : Nat} {F : Nat → Int} (h : Far w g n F) (ho : w.ownsRow base 32 size v d xs) (hg : (w.alloc o).grownBy w1 v.ownBlock) : Far w1 g n F :=
  ((Only.refl (fun i => v.ownBlock = some i) w).alloc o |>.grown hg (fun k hk _ => hk)).obj h (own_ne_blk ho h (by decide))
theorem far_ne {w : World} {g g1 n : Nat} {m : Nat} {c : Nat → Nat → Int} {F : Nat → Int} (h : Far w g1 m F) (hg : IsG w g n c) : g1 ≠ g := by
  rintro rfl
  obtain ⟨cs, hb, _⟩ := hg.blk
  have : w.heap[g1]? = _ := h
  rw [hb] at this
  injection this with this
  injection this with _ ht
  exact absurd ht (by decide)
def IsL1 (W : World) (v : Value) : Prop := ∃ a b x : Int, v = .agg #[.int .i64 a, .int .i64 b, .int .i64 x]
theorem open_L1 {H : Type} {enc : TypeId × Value → H} {W : World} {base : Nat} {v : Value} {d : DataW H} {p : List MemPlace} (hv : Value.okWide Try.prog W .any base 31 v)
    (h : DataW.Trod enc Try.prog W 0 (fun _ => true) true 31 v d p) : IsL1 W v := by
  obtain ⟨c0, c1, c2, y0, y1, y2, m, rfl, rfl, rfl, hy0, hy1, hy2⟩ := open_agg3 Try.underlying31 (by kernel_rfl) cellsL hv h
  obtain ⟨a, e0, _, wa⟩ := DataW.trod_int Try.underlying3 hy0
  obtain ⟨b, e1, _, wb⟩ := DataW.trod_int Try.underlying3 hy1
  obtain ⟨c, e2, _, wc⟩ := DataW.trod_int Try.underlying3 hy2
  simp at e0 e1 e2
  subst e0 e1 e2
  exact ⟨a, b, c, rfl⟩
end GG
end Go.Proofs.Ytbghebncmfjgiaa
