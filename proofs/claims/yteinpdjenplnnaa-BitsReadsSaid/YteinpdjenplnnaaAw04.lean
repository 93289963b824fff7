/-
  The law package's awake: it returns true. Conditions: none.
-/
import Derived.Test.YteinpdjenplnnaaRefR04
namespace Go.Proofs.Yteinpdjenplnnaa
open Go.RowKit
set_option linter.unusedVariables false
set_option linter.unusedSimpArgs false
namespace BW
theorem own_lt {w : World} {base size n : Nat} {e : TypeId} {v : Value} {xs : List Value} (h : w.ownsRow base e size v n xs) {b : Nat} (hb : v.ownBlock = some b) : base ≤ b ∧ b < w.heap.size := by
  rcases h.2 with ⟨rfl, _⟩ | ⟨g, cap, cur, rfl, hb', hh, _⟩
  · cases hb
  · simp only [Value.ownBlock, Option.some.injEq] at hb
    subst hb
    exact ⟨hb', blk_lt hh⟩
theorem IsW.keep {w w' : World} {base g : Nat} {sv : Value} {bs : List Bool} (h : IsW w base g sv bs) (hb : Below w.heap.size w w') : IsW w' base g sv bs :=
  ⟨(hb.block g (blk_lt h.blk)).trans h.blk, (Only.of_below (Only.refl (fun _ => False) _) hb).own h.own (fun _ _ h => h)⟩
theorem IsR.keep {w w' : World} {g : Nat} {s : ByteArray} {a : Nat} {e : Int} (h : IsR w g s a e) (hb : Below w.heap.size w w') : IsR w' g s a e := (hb.block g (blk_lt h)).trans h
theorem IsQ.keep {w w' : World} {g : Nat} {s : ByteArray} {a : Nat} {e : Int} (h : IsQ w g s a e) (hb : Below w.heap.size w w') : IsQ w' g s a e := (hb.block g (blk_lt h)).trans h
/-- a new writer -/
theorem new_isW (w : World) : IsW (w.alloc (.cells #[.slice none 0 0, .int .i64 0] 26)) (w.heap.size + 1) w.heap.size (.slice none 0 0) [] :=
  ⟨alloc_new w _, ⟨by simp [pk, vals], .inl ⟨rfl, rfl⟩⟩⟩
/-- what a new writer's calls turn is new -/
theorem grew_below {w W w' : World} {sv : Value} {bs : List Bool} (hB : Below w.heap.size w W) (hg : IsW W (w.heap.size + 1) w.heap.size sv bs) {sv' : Value} (h : Grew w.heap.size sv W sv' w') : Below w.heap.size w w' :=
  hB.trans (h.1.below hB.size (fun i hi hs => by
    rcases hs with rfl | hs
    · omega
    · have := own_lt hg.own hs; omega))
theorem new_isR (w : World) (s : ByteArray) : IsR (w.alloc (.cells #[.string s, .int .i64 0, .int .i64 0] 58)) w.heap.size s 0 0 := alloc_new w _
theorem only_below {w W w' : World} {g : Nat} (hB : Below w.heap.size w W) (hg : w.heap.size ≤ g) (h : Only (fun i => i = g) W w') : Below w.heap.size w w' :=
  hB.trans (h.below hB.size (fun i hi e => by omega))
theorem aw_s : strOfNums (pk ([] ++ cd 0 ++ cd 4 ++ low 5 (min (3 : Int) 64).toNat)) = ⟨#[89, 1]⟩ := by decide
theorem aw_1 : rc ⟨#[89, 1]⟩ 0 0 = (0, 1, 0) := by decide
theorem aw_2 : rc ⟨#[89, 1]⟩ 1 0 = (4, 6, 0) := by decide
theorem aw_3 : rb ⟨#[89, 1]⟩ 6 0 3 = (5, 9, 0) := by decide
theorem aw_4 : rd ⟨#[89, 1]⟩ 9 0 = 0 := by decide
theorem aw_5 : rc ⟨#[0]⟩ 0 0 = (0, 8, 3) := by decide
theorem aw_6 : rb ⟨#[97]⟩ 0 0 65 = (0, 0, 1) := by decide
theorem aw_7 : (⟨#[89, 1]⟩ : ByteArray).size = 2 := rfl
theorem aw_8 : ([] ++ cd 0 ++ cd 4 ++ low 5 (min (3 : Int) 64).toNat).length = 9 := by decide
attribute [local irreducible] cd low rc rb rd pk
set_option maxRecDepth 100000 in
set_option maxHeartbeats 4000000 in
theorem awake_any (w : World) : Calls Try.prog 9 #[] w fun e w' => e = .returned (.bool true) ∧ Below w.heap.size w w' := by
  go_enter Try.func9, Try.ntmps9
  go_upto_region 2 with fail
  have i1 := new_isW w
  have b1 : Below w.heap.size w (w.alloc (.cells #[.slice none 0 0, .int .i64 0] 26)) := (Below.refl _ _).alloc (Nat.le_refl _) _
  generalize hW : w.alloc (.cells #[.slice none 0 0, .int .i64 0] 26) = W at i1 b1
  have hz : w.heap.size + 1 ≤ W.heap.size := by rw [← hW]; simp
  clear hW
  have I1 := Lib.hid i1
  have B1 := Lib.hid b1
  clear i1 b1
  go_upto_region 3 with (go_at_call 12; refine (code_any w.heap.size (w.heap.size + 1) _ [] 0 W (by omega) (by omega) (by simp) I1.out hz).mono ?_; rintro e w1 ⟨rfl, sv1, hw1, hg1⟩; have I2 := Lib.hid hw1; have G2 := Lib.hid hg1; have hz1 := Nat.le_trans hz hg1.1.size; clear hw1 hg1)
  go_upto_region 4 with (go_at_call 12; refine (code_any w.heap.size (w.heap.size + 1) _ _ 4 w1 (by omega) (by omega) (by rw [List.nil_append, cd_len]; decide) I2.out hz1).mono ?_; rintro e w2 ⟨rfl, sv2, hw2, hg2⟩; have I3 := Lib.hid hw2; have G3 := Lib.hid (Grew.trans G2.out hg2); have hz2 := Nat.le_trans hz1 hg2.1.size; clear hw2 hg2)
  go_upto_region 5 with (go_at_call 10; refine (bits_any w.heap.size (w.heap.size + 1) _ _ 5 3 w2 (by omega) (by omega) (by rw [List.nil_append, List.length_append, cd_len, cd_len]; decide) I3.out hz2).mono ?_; rintro e w3 ⟨rfl, sv3, hw3, hg3⟩; have I4 := Lib.hid hw3; have B4 := Lib.hid (grew_below B1.out I1.out (Grew.trans G3.out hg3)); clear hw3 hg3)
  clear G2 G3 I1 I2 I3 hz hz1 hz2
  go_upto_region 6 with (go_at_call 15; refine (str_any w.heap.size (w.heap.size + 1) _ _ w3 I4.out).mono ?_; rintro e w4 ⟨rfl, rfl⟩; rw [aw_s])
  go_upto_region 7 with (go_at_call 17; refine (new_any ⟨#[89, 1]⟩ w3).mono ?_; rintro e w4 ⟨rfl, hw4⟩; have R0 := Lib.hid (show IsR w4 w3.heap.size ⟨#[89, 1]⟩ 0 0 from hw4 ▸ new_isR w3 _); have C0 := Lib.hid (show Below w3.heap.size w3 w4 from hw4 ▸ (Below.refl _ _).alloc (Nat.le_refl _) _); clear hw4)
  have hs : (⟨#[89, 1]⟩ : ByteArray).size ≤ 1000000 := by decide
  have hs0 : (0 : Nat) ≤ 8 * (⟨#[89, 1]⟩ : ByteArray).size := by decide
  have hs1 : (1 : Nat) ≤ 8 * (⟨#[89, 1]⟩ : ByteArray).size := by decide
  have hs6 : (6 : Nat) ≤ 8 * (⟨#[89, 1]⟩ : ByteArray).size := by decide
  have hs9 : (9 : Nat) ≤ 8 * (⟨#[89, 1]⟩ : ByteArray).size := by decide
  go_upto_region 8 with (first
    | (go_at_call 20; with_reducible refine (rcode_any w3.heap.size ⟨#[89, 1]⟩ 0 0 w4 R0.out hs hs0).mono ?_; rw [aw_1]; rintro e w5 ⟨rfl, hr5, ho5⟩; have R1 := Lib.hid hr5; have C1 := Lib.hid (only_below C0.out (Nat.le_refl _) ho5); clear hr5 ho5)
    | (go_at_call 20; with_reducible refine (rcode_any w3.heap.size ⟨#[89, 1]⟩ 1 0 _ R1.out hs hs1).mono ?_; rw [aw_2]; rintro e w6 ⟨rfl, hr6, ho6⟩; have R2 := Lib.hid hr6; have C2 := Lib.hid (only_below C1.out (Nat.le_refl _) ho6); clear hr6 ho6)
    | (go_at_call 18; with_reducible refine (rbits_any w3.heap.size ⟨#[89, 1]⟩ 6 0 3 _ R2.out hs hs6).mono ?_; rw [aw_3]; rintro e w7 ⟨rfl, hr7, ho7⟩; have R3 := Lib.hid hr7; have C3 := Lib.hid (only_below C2.out (Nat.le_refl _) ho7); clear hr7 ho7))
  clear R0 R1 R2 C0 C1 C2
  go_upto_region 9 with (go_at_call 21; refine (done_any w3.heap.size ⟨#[89, 1]⟩ 9 0 w7 R3.out hs hs9).mono ?_; rw [aw_4]; rintro e w8 ⟨rfl, hb8⟩; have C4 := Lib.hid (C3.out.trans (hb8.mono C3.out.size)); clear hb8)
  go_upto_region 10 with (go_at_call 17; refine (new_any ⟨#[0]⟩ w8).mono ?_; rintro e w9 ⟨rfl, hw9⟩; have X0 := Lib.hid (show IsR w9 w8.heap.size ⟨#[0]⟩ 0 0 from hw9 ▸ new_isR w8 _); have D0 := Lib.hid (show Below w8.heap.size w8 w9 from hw9 ▸ (Below.refl _ _).alloc (Nat.le_refl _) _); clear hw9)
  go_upto_region 11 with (go_at_call 20; refine (rcode_any w8.heap.size ⟨#[0]⟩ 0 0 w9 X0.out (by decide) (by decide)).mono ?_; rw [aw_5]; rintro e w10 ⟨rfl, hr10, ho10⟩; have X1 := Lib.hid hr10; have D1 := Lib.hid (only_below D0.out (Nat.le_refl _) ho10); clear hr10 ho10)
  go_upto_region 12 with (go_at_call 17; refine (new_any ⟨#[97]⟩ w10).mono ?_; rintro e w11 ⟨rfl, hw11⟩; have Y0 := Lib.hid (show IsR w11 w10.heap.size ⟨#[97]⟩ 0 0 from hw11 ▸ new_isR w10 _); have E0 := Lib.hid (show Below w10.heap.size w10 w11 from hw11 ▸ (Below.refl _ _).alloc (Nat.le_refl _) _); clear hw11)
  go_upto_region 13 with (go_at_call 18; refine (rbits_any w10.heap.size ⟨#[97]⟩ 0 0 65 w11 Y0.out (by decide) (by decide)).mono ?_; rw [aw_6]; rintro e w12 ⟨rfl, hr12, ho12⟩; have Y1 := Lib.hid hr12; have E1 := Lib.hid (only_below E0.out (Nat.le_refl _) ho12); clear hr12 ho12)
  have X2 := Lib.hid (X1.out.keep E1.out)
  have F1 := Lib.hid (C4.out.trans ((D1.out.trans (E1.out.mono D1.out.size)).mono C4.out.size))
  have I5 := Lib.hid (I4.out.keep F1.out)
  have B5 := Lib.hid (B4.out.trans (F1.out.mono B4.out.size))
  clear X1 R3 C3 C4 D0 D1 E0 E1 F1 I4 B4
  go_wp2_with (first
    | (go_at_call 14; refine (len_any w.heap.size (w.heap.size + 1) _ _ w12 I5.out).mono ?_; rintro e w4 ⟨rfl, rfl⟩; rw [aw_8])
    | (go_at_call 25; with_reducible refine (err_any w8.heap.size ⟨#[0]⟩ 8 3 w12 X2.out).mono ?_; rintro e w4 ⟨rfl, rfl⟩)
    | (go_at_call 25; with_reducible refine (err_any w10.heap.size ⟨#[97]⟩ 0 1 w12 Y1.out).mono ?_; rintro e w4 ⟨rfl, rfl⟩))
  go_ret
  exact ⟨rfl, B5.out⟩
end BW
end Go.Proofs.Yteinpdjenplnnaa
