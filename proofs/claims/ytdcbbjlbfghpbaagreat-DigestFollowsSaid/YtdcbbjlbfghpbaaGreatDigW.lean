/-
  Digest: Print, and Read of what is printed. Conditions: those that each theorem names.
-/
import Derived.Test.YtdcbbjlbfghpbaaGreatDg
import Derived.Test.YtdcbbjlbfghpbaaGreatVarU
namespace Go.Proofs.YtdcbbjlbfghpbaaGreat
open Go Go.RowKit H2
set_option linter.unusedVariables false
set_option linter.unusedSimpArgs false
namespace Dig
open Tab Byt Vr
def one2 (x : Int × Int) : List UInt8 := vb x.1.toNat ++ vb x.2.toNat
/-- the bytes of digests -/
def pbD (D : Dg) (n : Nat) : List UInt8 := (List.range n).flatMap fun i => one2 (D i)
theorem pbD_succ (D : Dg) (n : Nat) : pbD D (n + 1) = pbD D n ++ one2 (D n) := by simp [pbD, List.range_succ]
structure InD (D : Dg) (n : Nat) : Prop where
  le : ∀ i, i < n → 0 ≤ (D i).1 ∧ (D i).1 ≤ 300 ∧ 0 ≤ (D i).2 ∧ (D i).2 < 18446744073709551616
theorem one2_len {x : Int × Int} (h : 0 ≤ x.1 ∧ x.1 ≤ 300 ∧ 0 ≤ x.2 ∧ x.2 < 18446744073709551616) : 2 ≤ (one2 x).length ∧ (one2 x).length ≤ 20 := by
  obtain ⟨h1, h2⟩ := vb_len10 (n := x.1.toNat) (by omega)
  obtain ⟨h3, h4⟩ := vb_len10 (n := x.2.toNat) (by omega)
  unfold one2
  rw [List.length_append]
  omega
theorem pbD_len {D : Dg} {m : Nat} (h : InD D m) : ∀ n, n ≤ m → 2 * n ≤ (pbD D n).length ∧ (pbD D n).length ≤ 20 * n
  | 0, _ => by simp [pbD]
  | n + 1, hn => by
    have := pbD_len h n (by omega)
    have h2 := one2_len (h.le n (by omega))
    rw [pbD_succ, List.length_append]
    omega
set_option maxRecDepth 100000 in
set_option maxHeartbeats 8000000 in
theorem print_any (A : Option Addr) (n cap : Nat) (D : Dg) (h0 : 0 < n) (hn : n ≤ 40) (w : World) (hI : InD D n) (ha : RdG w A n D) :
    Calls Tryz.prog 18 #[.slice A n cap] w fun e w' => e = .returned (.string (str (pbD D n))) ∧ Below w.heap.size w w' := by
  have HA := Lib.hid ha
  have HI := Lib.hid hI
  clear ha hI
  go_enter Tryz.func18, Tryz.ntmps18
  go_upto_region 2 with fail
  have HW := Lib.hid (wrt_new w)
  have HB := Lib.hid (show Below w.heap.size w (w.alloc (.cells #[.pointer none, .slice none 0 0] TW (0, 0))) from (Below.refl _ _).alloc (Nat.le_refl _) _)
  obtain ⟨b, hb⟩ : ∃ b, w.heap.size = b := ⟨_, rfl⟩
  have HBB := Lib.hid hb
  rw [hb] at HW HB ⊢
  clear hb
  generalize w.alloc _ = W at HW HB ⊢
  go_wp2
  go_loopw [10] (fun s10 wr => ∃ i : Nat, i ≤ n ∧ s10 = .int .i64 i ∧ Wrt b b (pbD D i) wr ∧ Below b w wr) (fun s10 _ => n - (intOf s10).toNat)
  case atStart => exact ⟨0, by omega, rfl, HW.out, HB.out⟩
  case round =>
    clear HW HB
    obtain ⟨i, hi, rfl, hw, hbb⟩ := hrel
    have HW := Lib.hid hw
    have HB := Lib.hid hbb
    clear hw hbb
    by_cases hlt : i < n
    · have hlt' : (i : Int) < (n : Int) := by omega
      have i0 : (0 : Int) ≤ (i : Int) := by omega
      obtain ⟨b1, o1, rfl, x1, x2⟩ := HA.out i hlt
      have z1 := later (HBB.out ▸ HB.out) x1
      have z2 := later (HBB.out ▸ HB.out) x2
      have HII := HI.out.le i hlt
      have HT := Lib.hid (pbD_succ D i)
      have HL := Lib.hid (pbD_len HI.out i (by omega))
      obtain ⟨p, hp⟩ : ∃ p : Nat, (D i).1 = p := ⟨(D i).1.toNat, by omega⟩
      obtain ⟨q, hq⟩ : ∃ q : Nat, (D i).2 = q := ⟨(D i).2.toNat, by omega⟩
      have HO := Lib.hid (show one2 (D i) = vb p ++ vb q by unfold one2; rw [hp, hq]; rfl)
      have hp3 : p ≤ 300 := by omega
      have hq3 : q < 18446744073709551616 := by omega
      have HQ := Lib.hid hq3
      rw [hp] at z1
      rw [hq] at z2
      clear x1 x2 hp hq HII
      go_upto_region 5 with fail
      have HW4 := Lib.hid (HW.out.alloc (.cells #[.int .i64 p, .int .u64 q] 58 (0, 0)))
      have HB4 := Lib.hid (HB.out.alloc (by have := HB.out.size; have := HBB.out; omega) (.cells #[.int .i64 p, .int .u64 q] 58 (0, 0)))
      have HX := Lib.hid (heap_alloc_new wr (.cells #[.int .i64 p, .int .u64 q] 58 (0, 0)))
      have HNE := Lib.hid (show wr.heap.size ≠ b by
        rcases HW.out with h | h
        · have := h.lt; omega
        · have := h.lt; omega)
      clear z1 z2 HW HB
      generalize wr.alloc _ = W4 at HW4 HB4 HX ⊢
      generalize wr.heap.size = B4 at HX HNE ⊢
      have hB1 : W4.cell? ⟨B4, 0, none⟩ = some (.int .i64 p) := blk_cell HX.out 0
      have hpp : (0 : Int) ≤ (p : Int) := by omega
      have hmx : max (p : Int) 0 = (p : Int) := by omega
      have HC := Lib.hid (wuint_any b b (pbD D i) p (by omega) W4 HW4.out (by have := HL.out; omega) (by have := HB4.out.size; have := HBB.out; omega))
      go_upto_region 6 with (go_at_call 49; (with_reducible refine (HC.out).mono ?_); rintro e w5 ⟨rfl, h5⟩; have H5 := Lib.hid h5; clear h5)
      have HX5 := Lib.hid (H5.out.oth B4 _ HX.out (by simpa using HNE.out) (fun c fz e => by injection e with _ e2 _; revert e2; decide))
      have hB2 : w5.cell? ⟨B4, 1, none⟩ = some (.int .u64 q) := blk_cell HX5.out 1
      have HB5 := Lib.hid (HB4.out.trans H5.out.bel)
      have HC2 := Lib.hid (wuint_any b b _ q HQ.out w5 H5.out.wrt (by have h1 := HL.out; have h2 := (vb_len10 (n := p) (by omega)).2; rw [List.length_append]; omega) (by have := HB5.out.size; have := HBB.out; omega))
      clear hB1 HC
      go_wp2_with (go_at_call 49; (with_reducible refine (HC2.out).mono ?_); rintro e w6 ⟨rfl, h6⟩; have H6 := Lib.hid h6; clear h6)
      go_roundw
      case rel => exact ⟨i + 1, by omega, by go_num, by rw [HT.out, HO.out, ← List.append_assoc]; exact H6.out.wrt, HB5.out.trans H6.out.bel⟩
      case measure => simp [intOf]; omega
    · obtain rfl : i = n := by omega
      have hii : ¬ (i : Int) < (i : Int) := by omega
      have HC := Lib.hid (wtext_any b b (pbD D i) (fun e => by have := (pbD_len HI.out i (Nat.le_refl _)).1; rw [e] at this; simp at this; omega) wr HW.out)
      go_wp2_with (go_at_call 50; (with_reducible refine (HC.out).mono ?_); rintro e w6 ⟨rfl, h6, _⟩; have H6 := Lib.hid h6; clear h6)
      go_ret
      exact ⟨rfl, by have h9 := HB.out.trans H6.out; rw [← HBB.out] at h9; exact h9⟩
theorem pbD_split (D : Dg) (n i : Nat) (h : i < n) : ∃ r, pbD D n = pbD D i ++ one2 (D i) ++ r := by
  obtain ⟨k, rfl⟩ : ∃ k, n = i + 1 + k := ⟨n - i - 1, by omega⟩
  clear h
  induction k with
  | zero => exact ⟨[], by rw [Nat.add_zero, pbD_succ, List.append_nil]⟩
  | succ k ih =>
    obtain ⟨r, hr⟩ := ih
    exact ⟨r ++ one2 (D (i + 1 + k)), by rw [← Nat.add_assoc, pbD_succ, hr]; simp⟩
theorem pbD_drop (D : Dg) (n i : Nat) (h : i < n) : ∃ r, (pbD D n).drop (pbD D i).length = vb (D i).1.toNat ++ (vb (D i).2.toNat ++ r) ∧ (pbD D n).drop (pbD D (i + 1)).length = r := by
  obtain ⟨r, hr⟩ := pbD_split D n i h
  refine ⟨r, ?_, ?_⟩
  · rw [hr, List.append_assoc, List.drop_left]; simp [one2]
  · rw [pbD_succ, hr, List.drop_left]
theorem gd_ne {wl w : World} {v : Value} {D : List (Int × Int)} {b : Nat} {l : List UInt8} {e : Int} (h : Gd 58 wl w v D) (hr : Rr b l e w) (hk : v.ownBlock = some b) : False := own_ne_blk h.own hr (by decide) hk
set_option maxRecDepth 100000 in
set_option maxHeartbeats 8000000 in
theorem read_any (D : Dg) (w : World) (hI : InD D 17) :
    Calls Tryz.prog 17 #[.string (str (pbD D 17))] w fun e w' => ∃ v', e = .returned (.tuple #[v', .int .i64 0]) ∧ Gd 58 w w' v' (dl D 17) := by
  have HI := Lib.hid hI
  clear hI
  go_enter Tryz.func17, Tryz.ntmps17
  obtain ⟨S, hS⟩ : ∃ S, pbD D 17 = S := ⟨_, rfl⟩
  have HS := Lib.hid hS
  rw [hS]
  clear hS
  go_upto_region 2 with (go_at_call 45; (with_reducible refine (newReader_any _ _).mono ?_); rintro e w2 ⟨rfl, rfl⟩)
  have HR := Lib.hid (rr_new S w)
  have HG := Lib.hid (gd_nil 58 w)
  have HG := Lib.hid (HG.out.below ((Below.refl w.heap.size w).alloc (Nat.le_refl _) (.cells #[.string (str S), .int .i64 0] 120 (0, 0))))
  obtain ⟨b, hb⟩ : ∃ b, w.heap.size = b := ⟨_, rfl⟩
  have HBB := Lib.hid hb
  rw [hb] at HR ⊢
  clear hb
  generalize w.alloc _ = W at HR HG ⊢
  go_wp2
  go_loopw [2, 11] (fun s2 s11 wr => ∃ i : Nat, i ≤ 17 ∧ s11 = .int .i64 i ∧ Rr b (S.drop (pbD D i).length) 0 wr ∧ Gd 58 w wr s2 (dl D i) ∧ (∃ x y z, s2 = .slice x y z)) (fun _ s11 _ => 17 - (intOf s11).toNat)
  case atStart => exact ⟨0, by omega, rfl, HR.out, HG.out, _, _, _, rfl⟩
  case round =>
    clear HR HG
    obtain ⟨i, hi, rfl, hr, hg, x2, y2, z2, rfl⟩ := hrel
    have HR := Lib.hid hr
    have HG := Lib.hid hg
    clear hr hg
    by_cases hlt : i < 17
    · have hlt' : (i : Int) < 17 := by omega
      have HII := HI.out.le i hlt
      obtain ⟨r, hr1, hr2⟩ := pbD_drop D 17 i hlt
      have HL := Lib.hid (show (dl D i).length ≤ 10000 by rw [dl_len]; omega)
      have HT := Lib.hid (dl_succ D i)
      obtain ⟨p, hp⟩ : ∃ p : Nat, (D i).1 = p := ⟨(D i).1.toNat, by omega⟩
      obtain ⟨q, hq⟩ : ∃ q : Nat, (D i).2 = q := ⟨(D i).2.toNat, by omega⟩
      have HP := Lib.hid (show D i = ((p : Int), (q : Int)) by rw [← hp, ← hq])
      have hp3 : p ≤ 300 := by omega
      have hq3 : q < 18446744073709551616 := by omega
      rw [HS.out, hp, hq] at hr1
      rw [HS.out] at hr2
      have hr1 : S.drop (pbD D i).length = vb p ++ (vb q ++ r) := hr1
      have HD2 := Lib.hid hr2
      rw [hr1] at HR
      have HC1 := ruint_any b _ 0 wr HR.out
      rw [uintM_vb (show p < 18446744073709551616 by omega)] at HC1
      have HC1 := Lib.hid HC1
      have HQ := Lib.hid (uintM_vb hq3 r)
      have hp4 : ¬ (300 : Int) < (p : Int) := by omega
      have hp5 : IntKind.i64.wrap (p : Int) = (p : Int) := IntWalk.i64_in _ (by omega)
      have hp6 : (p : Int) ≤ 300 := by omega
      clear hr1 hr2 hp hq HII hq3
      go_upto_region 5 with (go_at_call 46; (with_reducible refine (HC1.out).mono ?_); rintro e w5 ⟨rfl, h5⟩; have H5 := Lib.hid h5; clear h5)
      have HG5 := Lib.hid (HG.out.only H5.out.only (fun k e => by have := HBB.out; omega) (fun k hk e => gd_ne HG.out HR.out (e ▸ hk)))
      clear HC1 HR HG
      have HC2 := ruint_any b _ 0 w5 H5.out.at'
      rw [HQ.out] at HC2
      have HC2 := Lib.hid HC2
      go_upto_region 7 with (go_at_call 47; (with_reducible refine (rerr_any b _ 0 _ H5.out.at').mono ?_); rintro e w6 ⟨rfl, rfl⟩)
      go_upto_region 8 with (go_at_call 46; (with_reducible refine (HC2.out).mono ?_); rintro e w7 ⟨rfl, h7⟩; have H7 := Lib.hid h7; clear h7)
      have HG7 := Lib.hid (HG5.out.only H7.out.only (fun k e => by have := HBB.out; omega) (fun k hk e => gd_ne HG5.out H5.out.at' (e ▸ hk)))
      have HR7 := Lib.hid H7.out.at'
      clear HC2 H5 HG5 H7
      go_upto_region 11 with (go_at_call 47; (with_reducible refine (rerr_any b _ 0 _ HR7.out).mono ?_); rintro e w8 ⟨rfl, rfl⟩)
      go_wp2_with (refine wpList_appG tyD rfl (.tmp 29) (.tmp 34) rfl _ _ (p : Int) (q : Int) rfl rfl HG7.out HL.out ?_; rintro v9 w9 h9 ⟨x9, y9, z9, rfl⟩ ho9; have HR9 := Lib.hid (show Rr b r 0 w9 from ho9.obj HR7.out (fun e => gd_ne HG7.out HR7.out e)); have H9 := Lib.hid h9; clear h9)
      go_roundw
      case rel =>
        exact ⟨i + 1, by omega, by go_num, by rw [HD2.out]; exact HR9.out, by rw [HT.out, HP.out]; exact H9.out, _, _, _, rfl⟩
      case measure => simp [intOf]; omega
    · obtain rfl : i = 17 := by omega
      have hd : S.drop (pbD D 17).length = [] := by rw [← HS.out]; simp
      rw [hd] at HR
      have HC := Lib.hid (rdone_any b [] 0 wr HR.out)
      rw [show doneM [] 0 = 0 from rfl] at HC
      rw [show ((17 : Nat) : Int) = 17 from rfl]
      clear hd
      go_wp2_with (go_at_call 48; (with_reducible refine (HC.out).mono ?_); rintro e w6 ⟨rfl, rfl⟩)
      go_ret2
      exact ⟨_, rfl, HG.out⟩
end Dig
end Go.Proofs.YtdcbbjlbfghpbaaGreat
