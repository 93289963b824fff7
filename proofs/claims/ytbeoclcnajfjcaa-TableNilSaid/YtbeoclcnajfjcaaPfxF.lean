/-
  The document's package on prefixes: most, bit, Right, Compare. Conditions: those that each theorem names.
-/
import Derived.Test.YtbeoclcnajfjcaaPfxD
namespace Go.Proofs.Ytbeoclcnajfjcaa
open Go Go.RowKit H2
set_option linter.unusedVariables false
set_option linter.unusedSimpArgs false
namespace Tab
theorem most_any (b : Bool) (w : World) : Calls Try.prog 63 #[.bool b] w fun e w' => e = .returned (.int .i64 (most b)) ∧ w = w' := by
  cases b
  · go_enter Try.func63, Try.ntmps63
    go_wp2
    go_ret
    exact ⟨rfl, rfl⟩
  · go_enter Try.func63, Try.ntmps63
    go_wp2
    go_ret
    exact ⟨rfl, rfl⟩
/-- bit t of a byte, from the highest one on -/
def bitB (b : UInt8) (t : Nat) : Nat := b.toNat / 2 ^ (7 - t) % 2
def bitA (a : Vector UInt8 16) (i : Nat) : Nat := bitB (a.toList.getD (i / 8) 0) (i % 8)
theorem enc_getD (a : Vector UInt8 16) (j : Nat) (h : j < 16) : (encA a)[j]? = some (.int .u8 ((a.toList.getD j 0).toNat : Int)) := by
  rw [encA_get a j h, List.getD_eq_getElem?_getD, List.getElem?_eq_getElem (by simpa using h)]
  rfl
theorem ret_int {k : IntKind} {a b : Int} (h : a = b) : Ending.returned (.int k a) = .returned (.int k b) := by rw [h]
theorem bitB_val (x : UInt8) (r : Nat) : (wrap64 ((x.toNat : Int) / 2 ^ (7 - r))).tmod 2 = ((bitB x r : Nat) : Int) := by
  unfold bitB
  have h1 : (x.toNat : Int) / 2 ^ (7 - r) = ((x.toNat / 2 ^ (7 - r) : Nat) : Int) := by rw [Int.natCast_ediv, Int.natCast_pow]; rfl
  have h2 : x.toNat / 2 ^ (7 - r) ≤ 255 := Nat.le_trans (Nat.div_le_self _ _) (by have := x.toNat_lt; omega)
  rw [h1]
  generalize x.toNat / 2 ^ (7 - r) = y at h2
  have h3 : wrap64 (y : Int) = (y : Int) := by unfold wrap64; omega
  rw [h3, Int.tmod_eq_emod_of_nonneg (by omega)]
  omega
set_option maxHeartbeats 4000000 in
theorem bit_any (a : Vector UInt8 16) (i : Nat) (hi : i < 128) (w : World) : Calls Try.prog 64 #[.agg (encA a).toArray, .int .i64 i] w fun e w' => e = .returned (.int .i64 (bitA a i)) ∧ Below w.heap.size w w' := by
  have h0 : (0 : Int) ≤ (i : Int) := by omega
  have hq : IntKind.i64.wrap ((i : Int) / 8) = ((i / 8 : Nat) : Int) := by rw [IntWalk.i64_in _ (by omega)]; omega
  have hr : (i : Int).tmod 8 = ((i % 8 : Nat) : Int) := by rw [Int.tmod_eq_emod_of_nonneg h0]; omega
  have hd : (i : Int).tdiv 8 = ((i / 8 : Nat) : Int) := by rw [Int.tdiv_eq_ediv_of_nonneg h0]; omega
  have hqb : i / 8 < 16 := by omega
  have hrb : i % 8 < 8 := Nat.mod_lt _ (by omega)
  have HV := Lib.hid (show bitA a i = bitB (a.toList.getD (i / 8) 0) (i % 8) from rfl)
  go_enter Try.func64, Try.ntmps64
  go_upto_region 1 with fail
  have H := Lib.hid (at_new w (encA a) 23 (0, 0))
  have hb := Lib.hid (show Below w.heap.size w (w.alloc (.cells (encA a).toArray 23 (0, 0))) from (Below.refl _ _).alloc (Nat.le_refl _) _)
  generalize w.alloc _ = W at H hb ⊢
  have hc : W.cell? ⟨w.heap.size, i / 8, none⟩ = some (.int .u8 ((a.toList.getD (i / 8) 0).toNat : Int)) := by
    have := H.out (i / 8) _ (enc_getD a (i / 8) hqb)
    rwa [Nat.zero_add] at this
  generalize a.toList.getD (i / 8) 0 = x at hc HV
  generalize i / 8 = q at hc hq hd hqb
  generalize i % 8 = r at hr hrb HV
  have hs : IntKind.i64.wrap (7 - (r : Int)) = 7 - (r : Int) := IntWalk.i64_in _ (by omega)
  go_wp2
  go_ret
  exact ⟨ret_int (by rw [HV.out]; exact bitB_val x r), hb.out⟩
/-! ### what masks keep -/
theorem byte_law : ∀ (l : Fin 8) (x : Fin 256), ((UInt8.ofNat x.val &&& ((255 : UInt8) <<< (8 - l.val).toUInt8)) = UInt8.ofNat x.val) ↔ (l.val = 0 ∨ ∀ t : Fin 8, l.val ≤ t.val → x.val / 2 ^ (7 - t.val) % 2 = 0) := by decide +kernel
theorem byte_zero : ∀ (x : Fin 256), (0 = UInt8.ofNat x.val) ↔ (∀ t : Fin 8, x.val / 2 ^ (7 - t.val) % 2 = 0) := by decide +kernel
theorem mb_eq (n : Int) (j : Nat) (b : UInt8) : mb n j b = b ↔ ∀ t : Nat, t < 8 → n ≤ 8 * (j : Int) + t → bitB b t = 0 := by
  have hb : b = UInt8.ofNat b.toNat := by simp
  have hx : b.toNat < 256 := b.toNat_lt
  unfold mb bitB
  by_cases h0 : n - 8 * (j : Int) ≤ 0
  · rw [if_pos h0]
    have := byte_zero ⟨b.toNat, hx⟩
    rw [← hb] at this
    rw [this]
    exact ⟨fun h t ht _ => h ⟨t, ht⟩, fun h t => h t.val t.isLt (by omega)⟩
  · rw [if_neg h0]
    by_cases h8 : n - 8 * (j : Int) < 8
    · rw [if_pos h8]
      have := byte_law ⟨(n - 8 * (j : Int)).toNat, by omega⟩ ⟨b.toNat, hx⟩
      rw [← hb] at this
      simp only at this
      rw [show (8 - (n - 8 * (j : Int))).toNat = 8 - (n - 8 * (j : Int)).toNat by omega, this]
      constructor
      · rintro (h | h) t ht hle
        · omega
        · exact h ⟨t, ht⟩ (by simp only; omega)
      · intro h
        exact .inr (fun t ht => h t.val t.isLt (by omega))
    · rw [if_neg h8]
      exact ⟨fun _ t ht hle => by omega, fun _ => rfl⟩
theorem mask_eq (a : Vector UInt8 16) (n : Int) : maskA a n = a ↔ ∀ i : Nat, i < 128 → n ≤ (i : Int) → bitA a i = 0 := by
  have key : maskA a n = a ↔ ∀ j, j < 16 → mb n j (a.toList.getD j 0) = a.toList.getD j 0 := by
    constructor
    · intro h j hj
      have e : a.toList.getD j 0 = a[j] := by rw [List.getD_eq_getElem?_getD, List.getElem?_eq_getElem (by simpa using hj)]; simp
      rw [e]
      have : (maskA a n)[j] = mb n j a[j] := by simp [maskA]
      rw [← this]
      simp only [h]
    · intro h
      refine Vector.ext (fun j hj => ?_)
      have e : a.toList.getD j 0 = a[j] := by rw [List.getD_eq_getElem?_getD, List.getElem?_eq_getElem (by simpa using hj)]; simp
      have := h j hj
      rw [e] at this
      simpa [maskA] using this
  rw [key]
  constructor
  · intro h i hi hle
    have := (mb_eq n (i / 8) _).1 (h (i / 8) (by omega)) (i % 8) (Nat.mod_lt _ (by omega)) (by omega)
    exact this
  · intro h j hj
    rw [mb_eq]
    intro t ht hle
    have := h (8 * j + t) (by omega) (by omega)
    unfold bitA at this
    rwa [show (8 * j + t) / 8 = j by omega, show (8 * j + t) % 8 = t by omega] at this
end Tab
end Go.Proofs.Ytbeoclcnajfjcaa
