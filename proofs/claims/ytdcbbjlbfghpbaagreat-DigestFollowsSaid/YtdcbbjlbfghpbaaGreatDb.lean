/-
  Joined texts: PfxF PfxG PfxH PfxI PfxJ. Conditions: those that each theorem names.
-/
import Derived.Test.YtdcbbjlbfghpbaaGreatPfxD
import Derived.Test.YtdcbbjlbfghpbaaGreatDa
/-
  The document's package on prefixes: most, bit, Right, Compare. Conditions: those that each theorem names.
-/
namespace Go.Proofs.YtdcbbjlbfghpbaaGreat
open Go Go.RowKit H2
set_option linter.unusedVariables false
set_option linter.unusedSimpArgs false
namespace Tab
theorem most_any (b : Bool) (w : World) : Calls Tryz.prog 73 #[.bool b] w fun e w' => e = .returned (.int .i64 (most b)) ∧ w = w' := by
  cases b
  · go_enter Tryz.func73, Tryz.ntmps73
    go_wp2
    go_ret
    exact ⟨rfl, rfl⟩
  · go_enter Tryz.func73, Tryz.ntmps73
    go_wp2
    go_ret
    exact ⟨rfl, rfl⟩
/-- bit t of a byte, from the highest one on -/
def bitB (b : UInt8) (t : Nat) : Nat := b.toNat / 2 ^ (7 - t) % 2
def bitA (a : Vector UInt8 16) (i : Nat) : Nat := bitB (a.toList.getD (i / 8) 0) (i % 8)
theorem enc_getD (a : Vector UInt8 16) (j : Nat) (h : j < 16) : (encA a)[j]? = some (.int .u8 ((a.toList.getD j 0).toNat : Int)) := by
  rw [encA_get a j h, List.getD_eq_getElem?_getD, List.getElem?_eq_getElem (by simpa using h)]
  rfl
theorem ret_int {k : IntKind} {a b : Int} (h : a = b) : Ending.returned (.int k a) = .returned (.int k b) := by rw [h]
theorem bitB_val (x : UInt8) (r : Nat) : (wrap64 ((x.toNat : Int) / 2 ^ (7 - r))).tmod 2 = ((bitB x r : Nat) : Int) := by
  unfold bitB
  have h1 : (x.toNat : Int) / 2 ^ (7 - r) = ((x.toNat / 2 ^ (7 - r) : Nat) : Int) := by rw [Int.natCast_ediv, Int.natCast_pow]; rfl
  have h2 : x.toNat / 2 ^ (7 - r) ≤ 255 := Nat.le_trans (Nat.div_le_self _ _) (by have := x.toNat_lt; omega)
  rw [h1]
  generalize x.toNat / 2 ^ (7 - r) = y at h2
  have h3 : wrap64 (y : Int) = (y : Int) := by unfold wrap64; omega
  rw [h3, Int.tmod_eq_emod_of_nonneg (by omega)]
  omega
set_option maxHeartbeats 4000000 in
theorem bit_any (a : Vector UInt8 16) (i : Nat) (hi : i < 128) (w : World) : Calls Tryz.prog 85 #[.agg (encA a).toArray, .int .i64 i] w fun e w' => e = .returned (.int .i64 (bitA a i)) ∧ Below w.heap.size w w' := by
  have h0 : (0 : Int) ≤ (i : Int) := by omega
  have hq : IntKind.i64.wrap ((i : Int) / 8) = ((i / 8 : Nat) : Int) := by rw [IntWalk.i64_in _ (by omega)]; omega
  have hr : (i : Int).tmod 8 = ((i % 8 : Nat) : Int) := by rw [Int.tmod_eq_emod_of_nonneg h0]; omega
  have hd : (i : Int).tdiv 8 = ((i / 8 : Nat) : Int) := by rw [Int.tdiv_eq_ediv_of_nonneg h0]; omega
  have hqb : i / 8 < 16 := by omega
  have hrb : i % 8 < 8 := Nat.mod_lt _ (by omega)
  have HV := Lib.hid (show bitA a i = bitB (a.toList.getD (i / 8) 0) (i % 8) from rfl)
  go_enter Tryz.func85, Tryz.ntmps85
  go_upto_region 1 with fail
  have H := Lib.hid (at_new w (encA a) 31 (0, 0))
  have hb := Lib.hid (show Below w.heap.size w (w.alloc (.cells (encA a).toArray 31 (0, 0))) from (Below.refl _ _).alloc (Nat.le_refl _) _)
  generalize w.alloc _ = W at H hb ⊢
  have hc : W.cell? ⟨w.heap.size, i / 8, none⟩ = some (.int .u8 ((a.toList.getD (i / 8) 0).toNat : Int)) := by
    have := H.out (i / 8) _ (enc_getD a (i / 8) hqb)
    rwa [Nat.zero_add] at this
  generalize a.toList.getD (i / 8) 0 = x at hc HV
  generalize i / 8 = q at hc hq hd hqb
  generalize i % 8 = r at hr hrb HV
  have hs : IntKind.i64.wrap (7 - (r : Int)) = 7 - (r : Int) := IntWalk.i64_in _ (by omega)
  go_wp2
  go_ret
  exact ⟨ret_int (by rw [HV.out]; exact bitB_val x r), hb.out⟩
/-! ### what masks keep -/
theorem byte_law : ∀ (l : Fin 8) (x : Fin 256), ((UInt8.ofNat x.val &&& ((255 : UInt8) <<< (8 - l.val).toUInt8)) = UInt8.ofNat x.val) ↔ (l.val = 0 ∨ ∀ t : Fin 8, l.val ≤ t.val → x.val / 2 ^ (7 - t.val) % 2 = 0) := by decide +kernel
theorem byte_zero : ∀ (x : Fin 256), (0 = UInt8.ofNat x.val) ↔ (∀ t : Fin 8, x.val / 2 ^ (7 - t.val) % 2 = 0) := by decide +kernel
theorem mb_eq (n : Int) (j : Nat) (b : UInt8) : mb n j b = b ↔ ∀ t : Nat, t < 8 → n ≤ 8 * (j : Int) + t → bitB b t = 0 := by
  have hb : b = UInt8.ofNat b.toNat := by simp
  have hx : b.toNat < 256 := b.toNat_lt
  unfold mb bitB
  by_cases h0 : n - 8 * (j : Int) ≤ 0
  · rw [if_pos h0]
    have := byte_zero ⟨b.toNat, hx⟩
    rw [← hb] at this
    rw [this]
    exact ⟨fun h t ht _ => h ⟨t, ht⟩, fun h t => h t.val t.isLt (by omega)⟩
  · rw [if_neg h0]
    by_cases h8 : n - 8 * (j : Int) < 8
    · rw [if_pos h8]
      have := byte_law ⟨(n - 8 * (j : Int)).toNat, by omega⟩ ⟨b.toNat, hx⟩
      rw [← hb] at this
      simp only at this
      rw [show (8 - (n - 8 * (j : Int))).toNat = 8 - (n - 8 * (j : Int)).toNat by omega, this]
      constructor
      · rintro (h | h) t ht hle
        · omega
        · exact h ⟨t, ht⟩ (by simp only; omega)
      · intro h
        exact .inr (fun t ht => h t.val t.isLt (by omega))
    · rw [if_neg h8]
      exact ⟨fun _ t ht hle => by omega, fun _ => rfl⟩
theorem mask_eq (a : Vector UInt8 16) (n : Int) : maskA a n = a ↔ ∀ i : Nat, i < 128 → n ≤ (i : Int) → bitA a i = 0 := by
  have key : maskA a n = a ↔ ∀ j, j < 16 → mb n j (a.toList.getD j 0) = a.toList.getD j 0 := by
    constructor
    · intro h j hj
      have e : a.toList.getD j 0 = a[j] := by rw [List.getD_eq_getElem?_getD, List.getElem?_eq_getElem (by simpa using hj)]; simp
      rw [e]
      have : (maskA a n)[j] = mb n j a[j] := by simp [maskA]
      rw [← this]
      simp only [h]
    · intro h
      refine Vector.ext (fun j hj => ?_)
      have e : a.toList.getD j 0 = a[j] := by rw [List.getD_eq_getElem?_getD, List.getElem?_eq_getElem (by simpa using hj)]; simp
      have := h j hj
      rw [e] at this
      simpa [maskA] using this
  rw [key]
  constructor
  · intro h i hi hle
    have := (mb_eq n (i / 8) _).1 (h (i / 8) (by omega)) (i % 8) (Nat.mod_lt _ (by omega)) (by omega)
    exact this
  · intro h j hj
    rw [mb_eq]
    intro t ht hle
    have := h (8 * j + t) (by omega) (by omega)
    unfold bitA at this
    rwa [show (8 * j + t) / 8 = j by omega, show (8 * j + t) % 8 = t by omega] at this
end Tab
end Go.Proofs.YtdcbbjlbfghpbaaGreat

/-
  The document's package on prefixes: Right, Compare. Conditions: those that each theorem names.
-/
namespace Go.Proofs.YtdcbbjlbfghpbaaGreat
open Go Go.RowKit H2
set_option linter.unusedVariables false
set_option linter.unusedSimpArgs false
namespace Tab
theorem rightP_iff (p : Pf) : rightP p = true ↔ 0 ≤ p.len ∧ p.len ≤ most p.six ∧ ∀ i : Nat, i < 128 → p.len ≤ (i : Int) → bitA p.addr i = 0 := by
  unfold rightP
  rw [Bool.and_eq_true, Bool.and_eq_true, decide_eq_true_iff, decide_eq_true_iff, decide_eq_true_iff, mask_eq, and_assoc]
theorem rightP_no {p : Pf} (h : ¬ (0 ≤ p.len ∧ p.len ≤ most p.six)) : rightP p = false := by
  rw [← Bool.not_eq_true, rightP_iff]
  exact fun ⟨h1, h2, _⟩ => h ⟨h1, h2⟩
set_option maxRecDepth 100000 in
set_option maxHeartbeats 4000000 in
theorem refRightP_any (p : Pf) (w : World) : Calls Tryz.prog 69 #[.agg (encP p).toArray] w fun e w' => e = .returned (.bool (rightP p)) ∧ Below w.heap.size w w' := by
  by_cases h0 : 0 ≤ p.len
  · have h0' : decide (p.len < 0) = false := decide_eq_false (by omega)
    by_cases h1 : p.len ≤ most p.six
    · have h1' : decide (p.len > most p.six) = false := decide_eq_false (by omega)
      have h1'' : decide (most p.six < p.len) = false := decide_eq_false (by omega)
      have hm := most_le p.six
      obtain ⟨n, hn⟩ : ∃ n : Nat, p.len = n := ⟨p.len.toNat, by omega⟩
      have HN := Lib.hid hn
      have hn1 : n ≤ 128 := by omega
      clear h0 h1 hm hn
      go_enter Tryz.func69, Tryz.ntmps69
      go_upto_region 1 with fail
      have H := Lib.hid (PAt.mk (at_new w (encP p) 33 (0, 0))).drew
      have hb := Lib.hid (show Below w.heap.size w (w.alloc (.cells (encP p).toArray 33 (0, 0))).drew from ((Below.refl _ _).alloc (Nat.le_refl _) _).drew)
      generalize w.alloc _ = W at H hb ⊢
      generalize w.heap.size = B at H ⊢
      refine wp_region_held_drew (S := (fun w' => w' = W.drew)) (by kernel_rfl) rfl (fun _ => ?_)
      refine held_take 0 4 (v := ?_) rfl rfl (by kernel_rfl) (by kernel_rfl) (by kernel_rfl) (fun _ _ _ h => h) (by rfl) ?_ rfl ?_
      rotate_left
      · (intro w hSw; (try dsimp only at hSw); subst hSw; have c0 := H.out.six; have c2 := H.out.len;try simp only [List.getElem_toArray, List.getElem_cons_zero, List.getElem_cons_succ]; go_simp; try (with_reducible rfl))
      try simp only [List.setIfInBounds_toArray, List.set_cons_zero, List.set_cons_succ]
      refine held_take 1 5 (v := ?_) rfl rfl (by kernel_rfl) (by kernel_rfl) (by kernel_rfl) (fun _ _ _ h => h) (by rfl) ?_ rfl ?_
      rotate_left
      · (intro w hSw; (try dsimp only at hSw); subst hSw; have c0 := H.out.six; have c2 := H.out.len;try simp only [List.getElem_toArray, List.getElem_cons_zero, List.getElem_cons_succ]; go_simp; try (with_reducible rfl))
      try simp only [List.setIfInBounds_toArray, List.set_cons_zero, List.set_cons_succ]
      refine held_take 2 6 (v := ?_) rfl rfl (by kernel_rfl) (by kernel_rfl) (by kernel_rfl) (fun _ _ _ h => h) (by rfl) ?_ rfl ?_
      rotate_left
      · (intro w hSw; (try dsimp only at hSw); subst hSw; have c0 := H.out.six; have c2 := H.out.len;try simp only [List.getElem_toArray, List.getElem_cons_zero, List.getElem_cons_succ]; go_simp; try (with_reducible rfl))
      try simp only [List.setIfInBounds_toArray, List.set_cons_zero, List.set_cons_succ]
      refine held_take 3 7 (v := ?_) rfl rfl (by kernel_rfl) (by kernel_rfl) (by kernel_rfl) (fun _ _ _ h => h) (by rfl) ?_ rfl ?_
      rotate_left
      · (intro w hSw; (try dsimp only at hSw); subst hSw; have c0 := H.out.six; have c2 := H.out.len;try simp only [List.getElem_toArray, List.getElem_cons_zero, List.getElem_cons_succ]; go_simp; try (with_reducible rfl))
      try simp only [List.setIfInBounds_toArray, List.set_cons_zero, List.set_cons_succ]
      refine held_take 4 8 (v := ?_) rfl rfl (by kernel_rfl) (by kernel_rfl) (by kernel_rfl) (fun _ _ _ h => h) (by rfl) ?_ rfl ?_
      rotate_left
      · (intro w hSw; (try dsimp only at hSw); subst hSw; have c0 := H.out.six; have c2 := H.out.len;try simp only [List.getElem_toArray, List.getElem_cons_zero, List.getElem_cons_succ]; go_simp; try (with_reducible rfl))
      try simp only [List.setIfInBounds_toArray, List.set_cons_zero, List.set_cons_succ]
      refine held_take 5 9 (v := ?_) rfl rfl (by kernel_rfl) (by kernel_rfl) (by kernel_rfl) (fun _ _ _ h => h) (by rfl) ?_ rfl ?_
      rotate_left
      · (intro w hSw; (try dsimp only at hSw); subst hSw; have c0 := H.out.six; have c2 := H.out.len;try simp only [List.getElem_toArray, List.getElem_cons_zero, List.getElem_cons_succ]; go_simp; try (with_reducible rfl))
      try simp only [List.setIfInBounds_toArray, List.set_cons_zero, List.set_cons_succ]
      refine held_take 6 10 (v := ?_) rfl rfl (by kernel_rfl) (by kernel_rfl) (by kernel_rfl) (fun _ _ _ h => h) (by rfl) ?_ rfl ?_
      rotate_left
      · (intro w hSw; (try dsimp only at hSw); subst hSw; have c0 := H.out.six; have c2 := H.out.len;try simp only [List.getElem_toArray, List.getElem_cons_zero, List.getElem_cons_succ]; go_simp; try (with_reducible rfl))
      try simp only [List.setIfInBounds_toArray, List.set_cons_zero, List.set_cons_succ]
      refine held_take 7 11 (v := ?_) rfl rfl (by kernel_rfl) (by kernel_rfl) (by kernel_rfl) (fun _ _ _ h => h) (by rfl) ?_ rfl ?_
      rotate_left
      · (intro w hSw; (try dsimp only at hSw); subst hSw; have c0 := H.out.six; have c2 := H.out.len;try simp only [List.getElem_toArray, List.getElem_cons_zero, List.getElem_cons_succ]; go_simp; try (with_reducible rfl))
      try simp only [List.setIfInBounds_toArray, List.set_cons_zero, List.set_cons_succ]
      refine held_call 8 12 rfl rfl (by kernel_rfl) (by rfl) (fun K hK => ?_)
      try simp only [List.getElem_toArray, List.getElem_cons_zero, List.getElem_cons_succ]
      go_simp
      (go_at_call 73; (with_reducible refine (most_any _ _).mono ?_); rintro e w2 ⟨rfl, rfl⟩)
      try go_wp2_with fail
      try simp only [Act.put, List.setIfInBounds_toArray, List.set_cons_zero, List.set_cons_succ]
      refine hK.out _ _ _ rfl ?_
      clear hK K
      refine held_take 9 13 (v := ?_) rfl rfl (by kernel_rfl) (by kernel_rfl) (by kernel_rfl) (fun _ _ _ h => h) (by rfl) ?_ rfl ?_
      rotate_left
      · (intro w hSw; (try dsimp only at hSw); subst hSw; have c0 := H.out.six; have c2 := H.out.len;try simp only [List.getElem_toArray, List.getElem_cons_zero, List.getElem_cons_succ]; go_simp; try (with_reducible rfl))
      try simp only [List.setIfInBounds_toArray, List.set_cons_zero, List.set_cons_succ]
      refine held_take 10 14 (v := ?_) rfl rfl (by kernel_rfl) (by kernel_rfl) (by kernel_rfl) (fun _ _ _ h => h) (by rfl) ?_ rfl ?_
      rotate_left
      · (intro w hSw; (try dsimp only at hSw); subst hSw; have c0 := H.out.six; have c2 := H.out.len;try simp only [List.getElem_toArray, List.getElem_cons_zero, List.getElem_cons_succ]; go_simp; try (with_reducible rfl))
      try simp only [List.setIfInBounds_toArray, List.set_cons_zero, List.set_cons_succ]
      refine wpAnyH_done (by kernel_rfl) ?_ _
      have c2 := H.out.len
      rw [HN.out] at c2
      go_wp2
      go_loopw [3] (fun s3 wr => ∃ i : Nat, n ≤ i ∧ i ≤ 128 ∧ s3 = .int .i64 i ∧ (∀ j : Nat, j < i → n ≤ j → bitA p.addr j = 0) ∧ PAt wr B 0 p ∧ Below w.heap.size w wr) (fun s3 _ => 128 - (intOf s3).toNat)
      case atStart => exact ⟨n, by omega, hn1, rfl, fun j h1 h2 => by omega, H.out, hb.out⟩
      case round =>
        obtain ⟨i, hi1, hi2, rfl, hz, hp, hb3⟩ := hrel
        have HZ := Lib.hid hz
        have HP := Lib.hid hp
        have HB := Lib.hid hb3
        clear hz hp hb3 c2
        by_cases hlt : i < 128
        · have hlt' : (i : Int) < 128 := by omega
          have i0 : (0 : Int) ≤ (i : Int) := by omega
          have c1 := HP.out.addr.load (encA_n _) Tryz.prog
          by_cases hbit : bitA p.addr i = 0
          · have HBIT := Lib.hid hbit
            clear hbit
            go_wp2_with (go_at_call 85; (with_reducible refine (bit_any p.addr i hlt _).mono ?_); rintro e w2 ⟨rfl, hb2⟩; rw [HBIT.out]; have HP2 := Lib.hid (HP.out.below hb2); have HB2 := Lib.hid (HB.out.trans (hb2.mono HB.out.size)); clear hb2)
            go_roundw
            case rel => exact ⟨i + 1, by omega, by omega, by go_num, fun j h1 h2 => by
              rcases Nat.lt_or_eq_of_le (Nat.lt_succ_iff.1 h1) with h | h
              · exact HZ.out j h h2
              · rw [h]; exact HBIT.out, HP2.out, HB2.out⟩
            case measure => simp [intOf]; omega
          · have HR := Lib.hid (show rightP p = false by
              rw [← Bool.not_eq_true, rightP_iff]
              exact fun ⟨_, _, h⟩ => hbit (h i hlt (by rw [HN.out]; omega)))
            have hbit' : ¬ ((bitA p.addr i : Nat) : Int) = 0 := by omega
            have hbit2 : (((bitA p.addr i : Nat) : Int) != 0) = true := by simpa using hbit
            clear hbit
            go_wp2_with (go_at_call 85; (with_reducible refine (bit_any p.addr i hlt _).mono ?_); rintro e w2 ⟨rfl, hb2⟩; have HB2 := Lib.hid (HB.out.trans (hb2.mono HB.out.size)); clear hb2)
            go_ret
            rw [HR.out]
            exact ⟨rfl, HB2.out⟩
        · obtain rfl : 128 = i := by omega
          have HR := Lib.hid (show rightP p = true by
            rw [rightP_iff]
            exact ⟨by rw [HN.out]; omega, by have := of_decide_eq_false h1''; omega, fun j h1 h2 => HZ.out j h1 (by rw [HN.out] at h2; omega)⟩)
          go_wp2
          go_ret
          rw [HR.out]
          exact ⟨rfl, HB.out⟩
    · have h1' : decide (p.len > most p.six) = true := decide_eq_true (by omega)
      have h1'' : decide (most p.six < p.len) = true := decide_eq_true (by omega)
      have HR := Lib.hid (rightP_no (p := p) (fun h => h1 h.2))
      clear h0 h1
      go_enter Tryz.func69, Tryz.ntmps69
      go_upto_region 1 with fail
      have H := Lib.hid (PAt.mk (at_new w (encP p) 33 (0, 0))).drew
      have hb := Lib.hid (show Below w.heap.size w (w.alloc (.cells (encP p).toArray 33 (0, 0))).drew from ((Below.refl _ _).alloc (Nat.le_refl _) _).drew)
      generalize w.alloc _ = W at H hb ⊢
      generalize w.heap.size = B at H ⊢
      refine wp_region_held_drew (S := (fun w' => w' = W.drew)) (by kernel_rfl) rfl (fun _ => ?_)
      refine held_take 0 4 (v := ?_) rfl rfl (by kernel_rfl) (by kernel_rfl) (by kernel_rfl) (fun _ _ _ h => h) (by rfl) ?_ rfl ?_
      rotate_left
      · (intro w hSw; (try dsimp only at hSw); subst hSw; have c0 := H.out.six; have c2 := H.out.len;try simp only [List.getElem_toArray, List.getElem_cons_zero, List.getElem_cons_succ]; go_simp; try (with_reducible rfl))
      try simp only [List.setIfInBounds_toArray, List.set_cons_zero, List.set_cons_succ]
      refine held_take 1 5 (v := ?_) rfl rfl (by kernel_rfl) (by kernel_rfl) (by kernel_rfl) (fun _ _ _ h => h) (by rfl) ?_ rfl ?_
      rotate_left
      · (intro w hSw; (try dsimp only at hSw); subst hSw; have c0 := H.out.six; have c2 := H.out.len;try simp only [List.getElem_toArray, List.getElem_cons_zero, List.getElem_cons_succ]; go_simp; try (with_reducible rfl))
      try simp only [List.setIfInBounds_toArray, List.set_cons_zero, List.set_cons_succ]
      refine held_take 2 6 (v := ?_) rfl rfl (by kernel_rfl) (by kernel_rfl) (by kernel_rfl) (fun _ _ _ h => h) (by rfl) ?_ rfl ?_
      rotate_left
      · (intro w hSw; (try dsimp only at hSw); subst hSw; have c0 := H.out.six; have c2 := H.out.len;try simp only [List.getElem_toArray, List.getElem_cons_zero, List.getElem_cons_succ]; go_simp; try (with_reducible rfl))
      try simp only [List.setIfInBounds_toArray, List.set_cons_zero, List.set_cons_succ]
      refine held_take 3 7 (v := ?_) rfl rfl (by kernel_rfl) (by kernel_rfl) (by kernel_rfl) (fun _ _ _ h => h) (by rfl) ?_ rfl ?_
      rotate_left
      · (intro w hSw; (try dsimp only at hSw); subst hSw; have c0 := H.out.six; have c2 := H.out.len;try simp only [List.getElem_toArray, List.getElem_cons_zero, List.getElem_cons_succ]; go_simp; try (with_reducible rfl))
      try simp only [List.setIfInBounds_toArray, List.set_cons_zero, List.set_cons_succ]
      refine held_take 4 8 (v := ?_) rfl rfl (by kernel_rfl) (by kernel_rfl) (by kernel_rfl) (fun _ _ _ h => h) (by rfl) ?_ rfl ?_
      rotate_left
      · (intro w hSw; (try dsimp only at hSw); subst hSw; have c0 := H.out.six; have c2 := H.out.len;try simp only [List.getElem_toArray, List.getElem_cons_zero, List.getElem_cons_succ]; go_simp; try (with_reducible rfl))
      try simp only [List.setIfInBounds_toArray, List.set_cons_zero, List.set_cons_succ]
      refine held_take 5 9 (v := ?_) rfl rfl (by kernel_rfl) (by kernel_rfl) (by kernel_rfl) (fun _ _ _ h => h) (by rfl) ?_ rfl ?_
      rotate_left
      · (intro w hSw; (try dsimp only at hSw); subst hSw; have c0 := H.out.six; have c2 := H.out.len;try simp only [List.getElem_toArray, List.getElem_cons_zero, List.getElem_cons_succ]; go_simp; try (with_reducible rfl))
      try simp only [List.setIfInBounds_toArray, List.set_cons_zero, List.set_cons_succ]
      refine held_take 6 10 (v := ?_) rfl rfl (by kernel_rfl) (by kernel_rfl) (by kernel_rfl) (fun _ _ _ h => h) (by rfl) ?_ rfl ?_
      rotate_left
      · (intro w hSw; (try dsimp only at hSw); subst hSw; have c0 := H.out.six; have c2 := H.out.len;try simp only [List.getElem_toArray, List.getElem_cons_zero, List.getElem_cons_succ]; go_simp; try (with_reducible rfl))
      try simp only [List.setIfInBounds_toArray, List.set_cons_zero, List.set_cons_succ]
      refine held_take 7 11 (v := ?_) rfl rfl (by kernel_rfl) (by kernel_rfl) (by kernel_rfl) (fun _ _ _ h => h) (by rfl) ?_ rfl ?_
      rotate_left
      · (intro w hSw; (try dsimp only at hSw); subst hSw; have c0 := H.out.six; have c2 := H.out.len;try simp only [List.getElem_toArray, List.getElem_cons_zero, List.getElem_cons_succ]; go_simp; try (with_reducible rfl))
      try simp only [List.setIfInBounds_toArray, List.set_cons_zero, List.set_cons_succ]
      refine held_call 8 12 rfl rfl (by kernel_rfl) (by rfl) (fun K hK => ?_)
      try simp only [List.getElem_toArray, List.getElem_cons_zero, List.getElem_cons_succ]
      go_simp
      (go_at_call 73; (with_reducible refine (most_any _ _).mono ?_); rintro e w2 ⟨rfl, rfl⟩)
      try go_wp2_with fail
      try simp only [Act.put, List.setIfInBounds_toArray, List.set_cons_zero, List.set_cons_succ]
      refine hK.out _ _ _ rfl ?_
      clear hK K
      refine held_take 9 13 (v := ?_) rfl rfl (by kernel_rfl) (by kernel_rfl) (by kernel_rfl) (fun _ _ _ h => h) (by rfl) ?_ rfl ?_
      rotate_left
      · (intro w hSw; (try dsimp only at hSw); subst hSw; have c0 := H.out.six; have c2 := H.out.len;try simp only [List.getElem_toArray, List.getElem_cons_zero, List.getElem_cons_succ]; go_simp; try (with_reducible rfl))
      try simp only [List.setIfInBounds_toArray, List.set_cons_zero, List.set_cons_succ]
      refine held_take 10 14 (v := ?_) rfl rfl (by kernel_rfl) (by kernel_rfl) (by kernel_rfl) (fun _ _ _ h => h) (by rfl) ?_ rfl ?_
      rotate_left
      · (intro w hSw; (try dsimp only at hSw); subst hSw; have c0 := H.out.six; have c2 := H.out.len;try simp only [List.getElem_toArray, List.getElem_cons_zero, List.getElem_cons_succ]; go_simp; try (with_reducible rfl))
      try simp only [List.setIfInBounds_toArray, List.set_cons_zero, List.set_cons_succ]
      refine wpAnyH_done (by kernel_rfl) ?_ _
      go_wp2
      go_ret
      rw [HR.out]
      exact ⟨rfl, hb.out⟩
  · have h0' : decide (p.len < 0) = true := decide_eq_true (by omega)
    have HR := Lib.hid (rightP_no (p := p) (fun h => h0 h.1))
    clear h0
    go_enter Tryz.func69, Tryz.ntmps69
    go_upto_region 1 with fail
    have H := Lib.hid (PAt.mk (at_new w (encP p) 33 (0, 0))).drew
    have hb := Lib.hid (show Below w.heap.size w (w.alloc (.cells (encP p).toArray 33 (0, 0))).drew from ((Below.refl _ _).alloc (Nat.le_refl _) _).drew)
    generalize w.alloc _ = W at H hb ⊢
    generalize w.heap.size = B at H ⊢
    refine wp_region_held_drew (S := (fun w' => w' = W.drew)) (by kernel_rfl) rfl (fun _ => ?_)
    refine held_take 0 4 (v := ?_) rfl rfl (by kernel_rfl) (by kernel_rfl) (by kernel_rfl) (fun _ _ _ h => h) (by rfl) ?_ rfl ?_
    rotate_left
    · (intro w hSw; (try dsimp only at hSw); subst hSw; have c0 := H.out.six; have c2 := H.out.len;try simp only [List.getElem_toArray, List.getElem_cons_zero, List.getElem_cons_succ]; go_simp; try (with_reducible rfl))
    try simp only [List.setIfInBounds_toArray, List.set_cons_zero, List.set_cons_succ]
    refine held_take 1 5 (v := ?_) rfl rfl (by kernel_rfl) (by kernel_rfl) (by kernel_rfl) (fun _ _ _ h => h) (by rfl) ?_ rfl ?_
    rotate_left
    · (intro w hSw; (try dsimp only at hSw); subst hSw; have c0 := H.out.six; have c2 := H.out.len;try simp only [List.getElem_toArray, List.getElem_cons_zero, List.getElem_cons_succ]; go_simp; try (with_reducible rfl))
    try simp only [List.setIfInBounds_toArray, List.set_cons_zero, List.set_cons_succ]
    refine held_take 2 6 (v := ?_) rfl rfl (by kernel_rfl) (by kernel_rfl) (by kernel_rfl) (fun _ _ _ h => h) (by rfl) ?_ rfl ?_
    rotate_left
    · (intro w hSw; (try dsimp only at hSw); subst hSw; have c0 := H.out.six; have c2 := H.out.len;try simp only [List.getElem_toArray, List.getElem_cons_zero, List.getElem_cons_succ]; go_simp; try (with_reducible rfl))
    try simp only [List.setIfInBounds_toArray, List.set_cons_zero, List.set_cons_succ]
    refine held_take 3 7 (v := ?_) rfl rfl (by kernel_rfl) (by kernel_rfl) (by kernel_rfl) (fun _ _ _ h => h) (by rfl) ?_ rfl ?_
    rotate_left
    · (intro w hSw; (try dsimp only at hSw); subst hSw; have c0 := H.out.six; have c2 := H.out.len;try simp only [List.getElem_toArray, List.getElem_cons_zero, List.getElem_cons_succ]; go_simp; try (with_reducible rfl))
    try simp only [List.setIfInBounds_toArray, List.set_cons_zero, List.set_cons_succ]
    refine held_skip 4 8 rfl rfl (by kernel_rfl) (by kernel_rfl) (by kernel_rfl) (fun _ _ _ h => h) (by rfl) rfl ?_
    try simp only [List.setIfInBounds_toArray, List.set_cons_zero, List.set_cons_succ]
    refine held_skip 5 9 rfl rfl (by kernel_rfl) (by kernel_rfl) (by kernel_rfl) (fun _ _ _ h => h) (by rfl) rfl ?_
    try simp only [List.setIfInBounds_toArray, List.set_cons_zero, List.set_cons_succ]
    refine held_skip 6 10 rfl rfl (by kernel_rfl) (by kernel_rfl) (by kernel_rfl) (fun _ _ _ h => h) (by rfl) rfl ?_
    try simp only [List.setIfInBounds_toArray, List.set_cons_zero, List.set_cons_succ]
    refine held_skip 7 11 rfl rfl (by kernel_rfl) (by kernel_rfl) (by kernel_rfl) (fun _ _ _ h => h) (by rfl) rfl ?_
    try simp only [List.setIfInBounds_toArray, List.set_cons_zero, List.set_cons_succ]
    refine held_skip 8 12 rfl rfl (by kernel_rfl) (by kernel_rfl) (by kernel_rfl) (fun _ _ _ h => h) (by rfl) rfl ?_
    try simp only [List.setIfInBounds_toArray, List.set_cons_zero, List.set_cons_succ]
    refine held_skip 9 13 rfl rfl (by kernel_rfl) (by kernel_rfl) (by kernel_rfl) (fun _ _ _ h => h) (by rfl) rfl ?_
    try simp only [List.setIfInBounds_toArray, List.set_cons_zero, List.set_cons_succ]
    refine held_take 10 14 (v := ?_) rfl rfl (by kernel_rfl) (by kernel_rfl) (by kernel_rfl) (fun _ _ _ h => h) (by rfl) ?_ rfl ?_
    rotate_left
    · (intro w hSw; (try dsimp only at hSw); subst hSw; have c0 := H.out.six; have c2 := H.out.len;try simp only [List.getElem_toArray, List.getElem_cons_zero, List.getElem_cons_succ]; go_simp; try (with_reducible rfl))
    try simp only [List.setIfInBounds_toArray, List.set_cons_zero, List.set_cons_succ]
    refine wpAnyH_done (by kernel_rfl) ?_ _
    go_wp2
    go_ret
    rw [HR.out]
    exact ⟨rfl, hb.out⟩
end Tab
end Go.Proofs.YtdcbbjlbfghpbaaGreat

/-
  The document's package on prefixes: Compare. Conditions: those that each theorem names.
-/
namespace Go.Proofs.YtdcbbjlbfghpbaaGreat
open Go Go.RowKit H2
set_option linter.unusedVariables false
set_option linter.unusedSimpArgs false
namespace Tab
theorem nums_get (p : Pf) (j : Nat) (h : j < 16) : p.nums.drop j = ((p.addr.toList.getD j 0).toNat : Int) :: p.nums.drop (j + 1) := by
  have hl : j < p.nums.length := by rw [nums_len]; exact h
  rw [List.drop_eq_getElem_cons hl]
  congr 1
  have e : p.nums[j]? = some ((p.addr.toList.getD j 0).toNat : Int) := by
    unfold Pf.nums
    rw [List.getElem?_map, List.getD_eq_getElem?_getD, List.getElem?_eq_getElem (by simpa using h)]
    rfl
  exact (List.getElem?_eq_some_iff.1 e).2
theorem cmpP_six {a b : Pf} (h : a.six ≠ b.six) : cmpP a b = if b.six = true then -1 else 1 := by
  rw [cmpP_or]
  unfold or3 cmpI
  cases ha : a.six <;> cases hb : b.six <;> simp [ha, hb, kindOf] at h ⊢
theorem cmpP_same {a b : Pf} (h : a.six = b.six) : cmpP a b = if cmpL a.nums b.nums ≠ 0 then cmpL a.nums b.nums else cmpI a.len b.len := by
  rw [cmpP_or, h]
  unfold or3
  rw [if_neg]
  simp [cmpI]
theorem PAt.byte {w : World} {B : Nat} {p : Pf} (h : PAt w B 0 p) (j : Nat) (hj : j < 16) : w.cell? ⟨B, 1 + j, none⟩ = some (.int .u8 ((p.addr.toList.getD j 0).toNat : Int)) := by
  have := h.addr j _ (enc_getD p.addr j hj)
  rwa [Nat.zero_add] at this
end Tab
end Go.Proofs.YtdcbbjlbfghpbaaGreat

/-
  Prefixes and routes: zero values, values built, slices built. Conditions: those that each theorem names.
-/
namespace Go.Proofs.YtdcbbjlbfghpbaaGreat
open Go Go.RowKit
set_option linter.unusedVariables false
set_option linter.unusedSimpArgs false
namespace Tab
theorem vec16 (v : Vector UInt8 16) : ∃ a0 a1 a2 a3 a4 a5 a6 a7 a8 a9 a10 a11 a12 a13 a14 a15 : UInt8, v = #v[a0, a1, a2, a3, a4, a5, a6, a7, a8, a9, a10, a11, a12, a13, a14, a15] := by
  obtain ⟨⟨l⟩, h⟩ := v
  match l, h with
  | [a0, a1, a2, a3, a4, a5, a6, a7, a8, a9, a10, a11, a12, a13, a14, a15], h => exact ⟨a0, a1, a2, a3, a4, a5, a6, a7, a8, a9, a10, a11, a12, a13, a14, a15, rfl⟩
def zA : Vector UInt8 16 := Vector.replicate 16 0
def zP : Pf := ⟨false, zA, 0⟩
def zR : Rt := ⟨zP, 0, 0⟩
theorem zvA (w : World) : Sem.run Tryz.prog (zeroValue 31) w = .ok (.agg (encA zA).toArray) w := Tryz.zeroValue31 w
theorem zvP (w : World) : Sem.run Tryz.prog (zeroValue 33) w = .ok (.agg (encP zP).toArray) w := Tryz.zeroValue33 w
theorem zvR (w : World) : Sem.run Tryz.prog (zeroValue 36) w = .ok (.agg (encR zR).toArray) w := Tryz.zeroValue36 w
attribute [simp 10000] zvA zvP zvR
theorem build_P0 (w : World) : (Instr.build 33 #[]).run Tryz.prog w = .ok (.agg (encP zP).toArray) w := by kernel_rfl
theorem build_P2 (b : Bool) (n : Int) (w : World) : (Instr.build 33 #[(0, .bool b), (2, .int .i64 n)]).run Tryz.prog w = .ok (.agg (encP ⟨b, zA, n⟩).toArray) w := by kernel_rfl
theorem build_R0 (w : World) : (Instr.build 36 #[]).run Tryz.prog w = .ok (.agg (encR zR).toArray) w := by kernel_rfl
theorem build_R1 (p : Pf) (w : World) : (Instr.build 36 #[(0, .agg (encP p).toArray)]).run Tryz.prog w = .ok (.agg (encR ⟨p, 0, 0⟩).toArray) w := by
  obtain ⟨s, a, n⟩ := p
  obtain ⟨a0, a1, a2, a3, a4, a5, a6, a7, a8, a9, a10, a11, a12, a13, a14, a15, rfl⟩ := vec16 a
  kernel_rfl
theorem build_R2 (p : Pf) (m : Int) (w : World) : (Instr.build 36 #[(0, .agg (encP p).toArray), (1, .int .i64 m)]).run Tryz.prog w = .ok (.agg (encR ⟨p, m, 0⟩).toArray) w := by
  obtain ⟨s, a, n⟩ := p
  obtain ⟨a0, a1, a2, a3, a4, a5, a6, a7, a8, a9, a10, a11, a12, a13, a14, a15, rfl⟩ := vec16 a
  kernel_rfl
theorem build_Rm (m : Int) (w : World) : (Instr.build 36 #[(1, .int .i64 m)]).run Tryz.prog w = .ok (.agg (encR ⟨zP, m, 0⟩).toArray) w := by kernel_rfl
theorem row_R1 (r : Rt) (w : World) : (Instr.buildSlice 22 1 #[(0, .agg (encR r).toArray)]).run Tryz.prog w = .ok (.slice (some ⟨w.heap.size, 0, none⟩) 1 1) (w.alloc (.cells (encR r).toArray 36 (0, 0))) := by
  obtain ⟨⟨s, a, n⟩, m, q⟩ := r
  obtain ⟨a0, a1, a2, a3, a4, a5, a6, a7, a8, a9, a10, a11, a12, a13, a14, a15, rfl⟩ := vec16 a
  kernel_rfl
theorem row_R2 (r r2 : Rt) (w : World) : (Instr.buildSlice 22 2 #[(0, .agg (encR r).toArray), (1, .agg (encR r2).toArray)]).run Tryz.prog w = .ok (.slice (some ⟨w.heap.size, 0, none⟩) 2 2) (w.alloc (.cells (encR r ++ encR r2).toArray 36 (0, 0))) := by
  obtain ⟨⟨s, a, n⟩, m, q⟩ := r
  obtain ⟨⟨s2, b, n2⟩, m2, q2⟩ := r2
  obtain ⟨a0, a1, a2, a3, a4, a5, a6, a7, a8, a9, a10, a11, a12, a13, a14, a15, rfl⟩ := vec16 a
  obtain ⟨b0, b1, b2, b3, b4, b5, b6, b7, b8, b9, b10, b11, b12, b13, b14, b15, rfl⟩ := vec16 b
  kernel_rfl
end Tab
end Go.Proofs.YtdcbbjlbfghpbaaGreat

/-
  Routes: operations whose run is known; Right, the closures of New, by. Conditions: those that each theorem names.
-/
namespace Go.Proofs.YtdcbbjlbfghpbaaGreat
open Go Go.RowKit H2
set_option linter.unusedVariables false
set_option linter.unusedSimpArgs false
namespace Tab
variable {P : Program}
theorem wp_build_run {o : Oper} {a : Act} {w : World} {K : Act → World → Prop} {Q : Exit → Act → World → Prop} (t : TypeId) (parts : Array (Nat × Operand)) (ho : o.op = .build t parts) (vs : Array (Nat × Value)) (hv : (parts.map fun (i, x) => (i, a.eval x)) = vs) {v : Value}
    (hr : (Instr.build t vs).run P w = .ok v w) (h : K (a.put o.dst v) w) : o.wp P a w K Q := by
  unfold Oper.wp execOp
  subst hv
  simp only [ho, hr, Sem.run_bind, Result.andThen_ok, Sem.run_pure]
  exact h
theorem wpList_build_run {ops : Array Oper} {rest : List Oper} {o : Oper} {a : Act} {w : World} {Q : Exit → Act → World → Prop} (hgd : o.guard = none) (t : TypeId) (parts : Array (Nat × Operand)) (ho : o.op = .build t parts) (vs : Array (Nat × Value)) (hv : (parts.map fun (i, x) => (i, a.eval x)) = vs) {v : Value}
    (hr : (Instr.build t vs).run P w = .ok v w) (h : wpList P ops Q rest (a.put o.dst v) w) : wpList P ops Q (o :: rest) a w :=
  wpList_plain hgd fun _ hK => wp_build_run t parts ho vs hv hr (hK _ _ h)
theorem wp_row_run {o : Oper} {a : Act} {w w' : World} {K : Act → World → Prop} {Q : Exit → Act → World → Prop} (t : TypeId) (n : Nat) (parts : Array (Nat × Operand)) (ho : o.op = .buildSlice t n parts) (vs : Array (Nat × Value)) (hv : (parts.map fun (i, x) => (i, a.eval x)) = vs) {v : Value}
    (hr : (Instr.buildSlice t n vs).run P w = .ok v w') (h : K (a.put o.dst v) w') : o.wp P a w K Q := by
  unfold Oper.wp execOp
  subst hv
  simp only [ho, hr, Sem.run_bind, Result.andThen_ok, Sem.run_pure]
  exact h
theorem wpList_row_run {ops : Array Oper} {rest : List Oper} {o : Oper} {a : Act} {w w' : World} {Q : Exit → Act → World → Prop} (hgd : o.guard = none) (t : TypeId) (n : Nat) (parts : Array (Nat × Operand)) (ho : o.op = .buildSlice t n parts) (vs : Array (Nat × Value)) (hv : (parts.map fun (i, x) => (i, a.eval x)) = vs) {v : Value}
    (hr : (Instr.buildSlice t n vs).run P w = .ok v w') (h : wpList P ops Q rest (a.put o.dst v) w') : wpList P ops Q (o :: rest) a w :=
  wpList_plain hgd fun _ hK => wp_row_run t n parts ho vs hv hr (hK _ _ h)
/-- a route in memory -/
structure RAt (w : World) (B o : Nat) (r : Rt) : Prop where
  all : At w B o (encR r)
theorem RAt.below {w w' : World} {B o : Nat} {r : Rt} (h : RAt w B o r) (hb : Below w.heap.size w w') : RAt w' B o r := ⟨h.all.below hb⟩
theorem RAt.drew {w : World} {B o : Nat} {r : Rt} (h : RAt w B o r) : RAt w.drew B o r := ⟨h.all⟩
theorem RAt.drewN {w : World} {B o : Nat} {r : Rt} (h : RAt w B o r) (n : Nat) : RAt (w.drewN n) B o r := ⟨h.all⟩
theorem RAt.to {w : World} {B o : Nat} {r : Rt} (h : RAt w B o r) : PAt w B o r.to := ⟨h.all.sub.1⟩
theorem RAt.met {w : World} {B o : Nat} {r : Rt} (h : RAt w B o r) : w.cell? ⟨B, o + 18, none⟩ = some (.int .i64 r.metric) := by
  have := h.all.sub.2.cons.1
  rwa [encP_len] at this
theorem RAt.seq {w : World} {B o : Nat} {r : Rt} (h : RAt w B o r) : w.cell? ⟨B, o + 19, none⟩ = some (.int .u32 r.seq) := by
  have := h.all.sub.2.cons.2.one
  rwa [encP_len] at this
theorem rAt_new (w : World) (r : Rt) (T : TypeId) (fr : Nat × Nat) : RAt (w.alloc (.cells (encR r).toArray T fr)) w.heap.size 0 r := ⟨at_new w _ T fr⟩
/-- whether it may be a route -/
def right (r : Rt) : Bool := rightP r.to && decide (0 ≤ r.metric) && decide (r.metric < 65535)
set_option maxRecDepth 100000 in
set_option maxHeartbeats 4000000 in
theorem right_any (r : Rt) (w : World) : Calls Tryz.prog 26 #[.agg (encR r).toArray] w fun e w' => e = .returned (.bool (right r)) ∧ Below w.heap.size w w' := by
  cases hp : rightP r.to
  · have HV := Lib.hid hp
    have HR := Lib.hid (show right r = false by unfold right; rw [hp]; rfl)
    clear hp
    go_enter Tryz.func26, Tryz.ntmps26
    go_upto_region 1 with fail
    have H := Lib.hid (rAt_new w r 36 (0, 0))
    have hb := Lib.hid (show Below w.heap.size w (w.alloc (.cells (encR r).toArray 36 (0, 0))) from (Below.refl _ _).alloc (Nat.le_refl _) _)
    generalize w.alloc _ = W at H hb ⊢
    generalize w.heap.size = B at H ⊢
    have c0 := H.out.to.all.load (encP_n _) Tryz.prog
    go_wp2_with (go_at_call 33; (with_reducible refine (rightP_any _ _).mono ?_); rintro e w2 ⟨rfl, hb2⟩; rw [HV.out]; have hb := Lib.hid (hb.out.trans (hb2.mono hb.out.size)); have c1 := (H.out.below hb2).met; clear hb2 c0)
    go_ret
    rw [HR.out]
    exact ⟨rfl, hb.out⟩
  · have HV := Lib.hid hp
    by_cases h0 : 0 ≤ r.metric
    · have h0' : decide (0 ≤ r.metric) = true := decide_eq_true h0
      by_cases h1 : r.metric < 65535
      · have h1' : decide (r.metric < 65535) = true := decide_eq_true h1
        have HR := Lib.hid (show right r = true by unfold right; rw [hp, h0', h1']; rfl)
        clear hp
        go_enter Tryz.func26, Tryz.ntmps26
        go_upto_region 1 with fail
        have H := Lib.hid (rAt_new w r 36 (0, 0))
        have hb := Lib.hid (show Below w.heap.size w (w.alloc (.cells (encR r).toArray 36 (0, 0))) from (Below.refl _ _).alloc (Nat.le_refl _) _)
        generalize w.alloc _ = W at H hb ⊢
        generalize w.heap.size = B at H ⊢
        have c0 := H.out.to.all.load (encP_n _) Tryz.prog
        go_wp2_with (go_at_call 33; (with_reducible refine (rightP_any _ _).mono ?_); rintro e w2 ⟨rfl, hb2⟩; rw [HV.out]; have hb := Lib.hid (hb.out.trans (hb2.mono hb.out.size)); have c1 := (H.out.below hb2).met; clear hb2 c0)
        go_ret
        rw [HR.out]
        exact ⟨rfl, hb.out⟩
      · have h1' : decide (r.metric < 65535) = false := decide_eq_false h1
        have HR := Lib.hid (show right r = false by unfold right; rw [hp, h0', h1']; rfl)
        clear hp
        go_enter Tryz.func26, Tryz.ntmps26
        go_upto_region 1 with fail
        have H := Lib.hid (rAt_new w r 36 (0, 0))
        have hb := Lib.hid (show Below w.heap.size w (w.alloc (.cells (encR r).toArray 36 (0, 0))) from (Below.refl _ _).alloc (Nat.le_refl _) _)
        generalize w.alloc _ = W at H hb ⊢
        generalize w.heap.size = B at H ⊢
        have c0 := H.out.to.all.load (encP_n _) Tryz.prog
        go_wp2_with (go_at_call 33; (with_reducible refine (rightP_any _ _).mono ?_); rintro e w2 ⟨rfl, hb2⟩; rw [HV.out]; have hb := Lib.hid (hb.out.trans (hb2.mono hb.out.size)); have c1 := (H.out.below hb2).met; clear hb2 c0)
        go_ret
        rw [HR.out]
        exact ⟨rfl, hb.out⟩
    · have h0' : decide (0 ≤ r.metric) = false := decide_eq_false h0
      have HR := Lib.hid (show right r = false by unfold right; rw [hp, h0']; rfl)
      clear hp
      go_enter Tryz.func26, Tryz.ntmps26
      go_upto_region 1 with fail
      have H := Lib.hid (rAt_new w r 36 (0, 0))
      have hb := Lib.hid (show Below w.heap.size w (w.alloc (.cells (encR r).toArray 36 (0, 0))) from (Below.refl _ _).alloc (Nat.le_refl _) _)
      generalize w.alloc _ = W at H hb ⊢
      generalize w.heap.size = B at H ⊢
      have c0 := H.out.to.all.load (encP_n _) Tryz.prog
      go_wp2_with (go_at_call 33; (with_reducible refine (rightP_any _ _).mono ?_); rintro e w2 ⟨rfl, hb2⟩; rw [HV.out]; have hb := Lib.hid (hb.out.trans (hb2.mono hb.out.size)); have c1 := (H.out.below hb2).met; clear hb2 c0)
      go_ret
      rw [HR.out]
      exact ⟨rfl, hb.out⟩
set_option maxHeartbeats 4000000 in
theorem new1_any (r : Rt) (w : World) : Calls Tryz.prog 25 #[.agg (encR r).toArray] w fun e w' => e = .returned (.bool (!right r)) ∧ Below w.heap.size w w' := by
  go_enter Tryz.func25, Tryz.ntmps25
  go_upto_region 1 with fail
  have H := Lib.hid (rAt_new w r 36 (0, 0))
  have hb := Lib.hid (show Below w.heap.size w (w.alloc (.cells (encR r).toArray 36 (0, 0))) from (Below.refl _ _).alloc (Nat.le_refl _) _)
  generalize w.alloc _ = W at H hb ⊢
  generalize w.heap.size = B at H ⊢
  have c0 := H.out.all.load (encR_n _) Tryz.prog
  go_wp2_with (go_at_call 26; (with_reducible refine (right_any _ _).mono ?_); rintro e w2 ⟨rfl, hb2⟩; have hb := Lib.hid (hb.out.trans (hb2.mono hb.out.size)); clear hb2 c0)
  go_ret
  exact ⟨rfl, hb.out⟩
set_option maxHeartbeats 4000000 in
theorem new2_any (a b : Rt) (w : World) : Calls Tryz.prog 29 #[.agg (encR a).toArray, .agg (encR b).toArray] w fun e w' => e = .returned (.int .i64 (cmpP a.to b.to)) ∧ Grew w w' := by
  go_enter Tryz.func29, Tryz.ntmps29
  go_upto_region 1 with fail
  have H1 := Lib.hid ((rAt_new w a 36 (0, 0)).below ((Below.refl _ _).alloc (Nat.le_refl _) (.cells (encR b).toArray 36 (0, 0))))
  have H2 := Lib.hid (rAt_new (w.alloc (.cells (encR a).toArray 36 (0, 0))) b 36 (0, 0))
  rw [show (w.alloc (.cells (encR a).toArray 36 (0, 0))).heap.size = w.heap.size + 1 by simp] at H2
  have hb := Lib.hid (show Grew w ((w.alloc (.cells (encR a).toArray 36 (0, 0))).alloc (.cells (encR b).toArray 36 (0, 0))) from (((Grew.refl _).alloc _).alloc _))
  generalize (w.alloc _).alloc _ = W at H1 H2 hb ⊢
  obtain ⟨B2, hB2⟩ : ∃ b, w.heap.size + 1 = b := ⟨_, rfl⟩
  rw [hB2] at H2 ⊢
  obtain ⟨B, hB⟩ : ∃ b, w.heap.size = b := ⟨_, rfl⟩
  rw [hB] at H1 ⊢
  clear hB hB2
  have c0 := H1.out.to.all.load (encP_n _) Tryz.prog
  have d0 := H2.out.to.all.load (encP_n _) Tryz.prog
  go_wp2_with (go_at_call 30; (with_reducible refine (compare_grew _ _ _).mono ?_); rintro e w2 ⟨rfl, hb2⟩; have hb := Lib.hid (hb.out.trans hb2); clear hb2 c0 d0)
  go_ret
  exact ⟨rfl, hb.out⟩
set_option maxHeartbeats 4000000 in
theorem by_any (a : Rt) (p : Pf) (w : World) : Calls Tryz.prog 63 #[.agg (encR a).toArray, .agg (encP p).toArray] w fun e w' => e = .returned (.int .i64 (cmpP a.to p)) ∧ Below w.heap.size w w' := by
  go_enter Tryz.func63, Tryz.ntmps63
  go_upto_region 1 with fail
  have H1 := Lib.hid ((rAt_new w a 36 (0, 0)).below ((Below.refl _ _).alloc (Nat.le_refl _) (.cells (encP p).toArray 33 (0, 0))))
  have H2 := Lib.hid (PAt.mk (at_new (w.alloc (.cells (encR a).toArray 36 (0, 0))) (encP p) 33 (0, 0)))
  rw [show (w.alloc (.cells (encR a).toArray 36 (0, 0))).heap.size = w.heap.size + 1 by simp] at H2
  have hb := Lib.hid (show Below w.heap.size w ((w.alloc (.cells (encR a).toArray 36 (0, 0))).alloc (.cells (encP p).toArray 33 (0, 0))) from (((Below.refl _ _).alloc (Nat.le_refl _) _).alloc (by simp) _))
  generalize (w.alloc _).alloc _ = W at H1 H2 hb ⊢
  obtain ⟨B2, hB2⟩ : ∃ b, w.heap.size + 1 = b := ⟨_, rfl⟩
  rw [hB2] at H2 ⊢
  obtain ⟨B, hB⟩ : ∃ b, w.heap.size = b := ⟨_, rfl⟩
  rw [hB] at H1 ⊢
  clear hB hB2
  have c0 := H1.out.to.all.load (encP_n _) Tryz.prog
  have d0 := H2.out.all.load (encP_n _) Tryz.prog
  go_wp2_with (go_at_call 30; (with_reducible refine (compare_any _ _ _).mono ?_); rintro e w2 ⟨rfl, hb2⟩; have hb := Lib.hid (hb.out.trans (hb2.mono hb.out.size)); clear hb2 c0 d0)
  go_ret
  exact ⟨rfl, hb.out⟩
end Tab
end Go.Proofs.YtdcbbjlbfghpbaaGreat
