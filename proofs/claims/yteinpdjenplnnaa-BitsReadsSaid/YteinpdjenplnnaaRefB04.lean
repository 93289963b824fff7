/-
  signpostref04.Bytes: what it returns. Conditions: those that each theorem names.
-/
import Derived.Test.YteinpdjenplnnaaRefA04
namespace Go.Proofs.Yteinpdjenplnnaa
open Go.RowKit
set_option linter.unusedVariables false
set_option linter.unusedSimpArgs false
namespace BW
theorem pk0_val {B : List Bool} {M R : Nat} {x : Int} (hM : B.length / 8 = M) (hR : B.length % 8 = R) (hx : (pk0 B)[M]? = some x) : 0 ≤ x ∧ x < 2 ^ R := by
  have hxe : x = byteOf B M R := by
    rw [pk0_get B M (by omega)] at hx
    injection hx with hx
    rw [← hx]
    have := byteOf_end (bs := B) (j := M) (r := R) (by omega) (8 - R)
    rw [show R + (8 - R) = 8 from by omega] at this
    exact this
  rw [hxe]
  exact byteOf_range B M R
theorem pk_one {B : List Bool} {M R : Nat} {x : Int} (hM : B.length / 8 = M) (hR : B.length % 8 = R) (hx : (pk0 B)[M]? = some x) : pk (B ++ [true]) = (pk0 B).set M (x + 2 ^ R) := by
  have h := pk_step B true M R x 1 hM hR hx rfl
  have hv := pk0_val hM hR hx
  rw [u8_or_bit x R 1 (by omega) hv.1 hv.2 (by omega) (by omega), Int.one_mul] at h
  exact h
theorem pk_nil {B : List Bool} {M R : Nat} {x : Int} (hM : B.length / 8 = M) (hR : B.length % 8 = R) (hx : (pk0 B)[M]? = some x) : pk (B ++ [false]) = pk0 B := by
  have h := pk_step B false M R x 0 hM hR hx rfl
  have hv := pk0_val hM hR hx
  rw [u8_or_bit x R 0 (by omega) hv.1 hv.2 (by omega) (by omega), Int.zero_mul, Int.add_zero] at h
  rw [h]
  obtain ⟨hl, he⟩ := List.getElem?_eq_some_iff.1 hx
  rw [← he]
  exact List.set_getElem_self hl
theorem pow8 {R : Nat} (h : R < 8) : (1 : Int) ≤ 2 ^ R ∧ (2 : Int) ^ R ≤ 128 := by
  have : R = 0 ∨ R = 1 ∨ R = 2 ∨ R = 3 ∨ R = 4 ∨ R = 5 ∨ R = 6 ∨ R = 7 := by omega
  rcases this with rfl | rfl | rfl | rfl | rfl | rfl | rfl | rfl <;> decide
theorem conv_own {w : World} {base n : Nat} {sv : Value} {B : List Bool} (ho : w.ownsRow base 5 1 sv n (vals (pk B))) (hn : (pk B).length = n) : ∀ dst, Try.prog.underlying dst = some .string → (convert 24 dst sv).run Try.prog w = .ok (.string (strOfNums (pk B))) w := by
  rcases ho.2 with ⟨rfl, h0⟩ | ⟨b, cap, cur, rfl, hb, hh, hc, hm, hs, ht⟩
  · have e : pk B = [] := List.length_eq_zero_iff.1 (hn.trans h0)
    rw [e]
    exact run_convert_bytes_nil w _ _ Try.underlying24 Try.underlying5 _ _
  · refine run_convert_bytes_arg w _ _ Try.underlying24 Try.underlying5 _ _ _ _ _ hn (fun i hi => ?_)
    have := own_cell ho i (.int .u8 ((pk B).getD i 0)) (by rw [vals, List.getElem?_map, List.getD_eq_getElem?_getD, List.getElem?_eq_getElem (by omega)]; rfl)
    simpa using this
set_option maxRecDepth 100000 in
set_option maxHeartbeats 1600000 in
theorem refbytes_any (bs : List Bool) (w : World) (hl : bs.length ≤ 1000000) :
    Calls Try.prog 16 #[.string (str01 bs)] w fun e w' => e = .returned (.string (strOfNums (pk bs))) ∧ Below w.heap.size w w' := by
  have hz := str01_size bs
  obtain ⟨i0, hi0, hz0, hz1, hz2⟩ := info_parts u8info
  have HI := Lib.hid hi0
  clear hi0
  go_enter Try.func16, Try.ntmps16
  go_wp2
  go_loopw [3, 4] (fun s3 s4 wr => ∃ N : Nat, N ≤ bs.length ∧ s4 = .int .i64 N ∧ ∃ sv : Value, sv = s3 ∧ wr.ownsRow w.heap.size 5 1 sv ((N + 7) / 8) (vals (pk (bs.take N))) ∧ Only (fun i => w.heap.size ≤ i) w wr) (fun _ s4 _ => bs.length - (intOf s4).toNat)
  case atStart => exact ⟨0, by omega, rfl, _, rfl, ⟨by simp [pk, vals], .inl ⟨rfl, rfl⟩⟩, Only.refl _ _⟩
  case round =>
    obtain ⟨N, hN, rfl, sv, rfl, ho, hb⟩ := hrel
    have hconv : ∀ dst, Try.prog.underlying dst = some .string → (convert 24 dst sv).run Try.prog wr = .ok (.string (strOfNums (pk (bs.take N)))) wr := conv_own ho (by rw [pk_len, List.length_take, Nat.min_eq_left hN])
    have HCV := Lib.hid hconv
    have HO := Lib.hid ho
    clear ho hconv
    by_cases hlt : N < bs.length
    · clear HCV
      have h1 : (N : Int) < ((str01 bs).size : Int) := by omega
      have j00 : (0 : Int) ≤ (N : Int) := by omega
      have hks : N < (str01 bs).size := by omega
      have hg := str01_get bs N hks
      have htl : (bs.take N).length = N := by simp; omega
      have HTL := Lib.hid htl
      clear htl
      generalize hbit : bs.getD N false = b at hg
      have HB := Lib.hid hbit
      clear hbit
      cases h8 : ((N : Int) % 8 == 0)
      · have hmod : N % 8 ≠ 0 := by have h8' := h8; simp at h8'; omega
        have hdiv : (N + 7) / 8 = N / 8 + 1 := by omega
        have ho := HO.out
        rw [hdiv] at ho
        have HD := Lib.hid hdiv
        have HO2 := Lib.hid ho
        clear hdiv ho
        obtain ⟨g2, cap, rfl, hb2, hcap, hlt2⟩ := own_form HO2.out (by omega)
        go_upto_region 7 with fail
        refine wp_gen (fun W => W.ownsRow w.heap.size 5 1 (.slice (some ⟨g2, 0, none⟩) (N / 8 + 1) cap) (N / 8 + 1) (vals (pk0 (bs.take N))) ∧ Only (fun i => w.heap.size ≤ i) w W ∧ w.heap.size ≤ g2) ⟨by rw [pk0, HTL.out, if_neg hmod]; exact HO2.out, hb, hb2⟩ ?_
        intro W5 ⟨ho5, honly5, hg25⟩
        have hx : (pk0 (bs.take N)).length = N / 8 + 1 := by have := ho5.1; simpa [vals] using this
        obtain ⟨M, hM⟩ : ∃ M, N / 8 = M := ⟨_, rfl⟩
        obtain ⟨R, hR⟩ : ∃ R, N % 8 = R := ⟨_, rfl⟩
        rw [hM] at hx ho5
        obtain ⟨x, hx2⟩ : ∃ x, (pk0 (bs.take N))[M]? = some x := ⟨_, List.getElem?_eq_getElem (by omega)⟩
        have q2 : W5.cell? ⟨g2, M, none⟩ = some (.int .u8 x) := own_cell ho5 M _ (by simp [vals, hx2])
        have p2 := own_free ho5 M
        have hMl : (bs.take N).length / 8 = M := by rw [HTL.out]; exact hM
        have hRl : (bs.take N).length % 8 = R := by rw [HTL.out]; exact hR
        have hxr := pk0_val hMl hRl hx2
        have hst : pk (bs.take (N + 1)) = if b then (pk0 (bs.take N)).set M (x + 2 ^ R) else pk0 (bs.take N) := by
          have e : bs.take (N + 1) = bs.take N ++ [b] := by
            rw [List.take_add_one, List.getElem?_eq_getElem hlt]
            have : bs.getD N false = bs[N] := by simp [List.getD_eq_getElem?_getD, List.getElem?_eq_getElem hlt]
            rw [HB.out] at this
            rw [this]; rfl
          rw [e]
          cases b
          · exact pk_nil hMl hRl hx2
          · exact pk_one hMl hRl hx2
        have hdv : (N + 1 + 7) / 8 = M + 1 := by omega
        have HO5 := Lib.hid ho5
        have HON := Lib.hid honly5
        have HST := Lib.hid hst
        have HDV := Lib.hid hdv
        clear ho5 honly5 hst hdv hMl hRl
        have hR8 : R < 8 := by omega
        have hp8 := pow8 hR8
        have i1 : (0 : Int) ≤ (M : Int) := by omega
        have i2 : (M : Int) < (M : Int) + 1 := by omega
        have j1 : (N : Int) / 8 = (M : Int) := by omega
        have j2 : (N : Int) % 8 = (R : Int) := by omega
        have j3 : IntKind.i64.wrap (M : Int) = (M : Int) := IntWalk.i64_in _ (by omega)
        have j4 : IntKind.i64.wrap (R : Int) = (R : Int) := IntWalk.i64_in _ (by omega)
        have j5 : (N : Int).tmod 8 = (R : Int) := by rw [Int.tmod_eq_emod_of_nonneg (by omega)]; exact j2
        have j0 : (N : Int).tdiv 8 = (M : Int) := by rw [Int.tdiv_eq_ediv_of_nonneg (by omega)]; exact j1
        have j9 : (0 : Int) ≤ (R : Int) := by omega
        have j10 : min R 8 = R := by omega
        have hx2' := Lib.hid hx2
        clear hx2 hx
        have HMR := Lib.hid (And.intro hM hR)
        clear hM hR
        cases b
        · go_wp2
          go_roundw
          case rel =>
            refine ⟨N + 1, by omega, by go_num, _, rfl, ?_, HON.out⟩
            rw [HDV.out, HST.out, HMR.out.1]
            simp only [Bool.false_eq_true, if_false]
            exact HO5.out
          case measure => simp [intOf]; omega
        · go_wp2
          have hpx : x + 2 ^ R ≤ 255 := by
            have : (2 : Int) ^ (R + 1) ≤ 256 := by
              have : R = 0 ∨ R = 1 ∨ R = 2 ∨ R = 3 ∨ R = 4 ∨ R = 5 ∨ R = 6 ∨ R = 7 := by omega
              rcases this with rfl | rfl | rfl | rfl | rfl | rfl | rfl | rfl <;> decide
            rw [Int.pow_succ] at this
            omega
          generalize hpe : (2 : Int) ^ R = q at hxr hpx hp8 HST
          have k1 : IntKind.u8.wrap q = q := by simp [IntKind.wrap, IntKind.bits, IntKind.signed]; omega
          have k2 : IntKind.u8.wrap (x + q) = x + q := by simp [IntKind.wrap, IntKind.bits, IntKind.signed]; omega
          refine wp_region_still_tail 9 (by kernel_rfl) (by kernel_rfl) ?_
          simp only [List.take_succ_cons, List.take_zero, List.drop_succ_cons, List.drop_zero]
          change wpStill _ _ W5.drew _ _ _
          repeat still_step
          refine wpStill_nil ?_
          change wpList _ _ _ _ _ W5.drew
          go_wp2
          go_roundw
          case rel =>
            refine ⟨N + 1, by omega, by go_num, _, rfl, ?_, Only.drew (HON.out.setCell (fun hlt => hg25) _)⟩
            rw [HDV.out, HST.out, HMR.out.1]
            simp only [if_true]
            rw [vals_set]
            exact own_set HO5.out M (by omega) _
          case measure => simp [intOf]; omega
      · have hmod : N % 8 = 0 := by have h8' := h8; simp at h8'; omega
        go_upto_region 7 with (at_builtin; refine wpList_append_lies _ rfl (.tmp 14) (.tmp 15) 24 rfl w.heap.size 5 i0 _ 1 1 Try.underlying24 HI.out hz0 hz1 hz2 rfl (by omega) sv ((N + 7) / 8) _ rfl (HO.out.alloc _) ⟨wr.heap.size, 0, none⟩ 1 1 [.int .u8 0] rfl rfl (cell_one_new _ _ _) (by simp [Value.oneCell']) (by omega) (by unfold maxLen; omega) (by omega) (by have := hb.size; simp; omega) (wr.heap.size + 1) (by simp) ?_; intro g2 cap w1 hown1 hgrow1 hat1 hlt1; have HO1 := Lib.hid hown1; have HA1 := Lib.hid hat1; have HR1 := Lib.hid hgrow1; clear hown1 hat1 hgrow1)
        have hd : (N + 7) / 8 = N / 8 := by omega
        rw [hd]
        have HD8 := Lib.hid hd
        clear hd
        refine wp_gen (fun W => W.ownsRow w.heap.size 5 1 (.slice (some ⟨g2, 0, none⟩) (N / 8 + 1) cap) (N / 8 + 1) (vals (pk0 (bs.take N))) ∧ Only (fun i => w.heap.size ≤ i) w W ∧ w.heap.size ≤ g2) ⟨?_, ?_, ?_⟩ ?_
        · have ev : vals (pk0 (bs.take N)) = vals (pk (bs.take N)) ++ [.int .u8 0] := by rw [pk0, HTL.out, if_pos hmod]; simp [vals]
          have := HO1.out
          rw [HD8.out] at this
          rw [ev]; exact this
        · refine (hb.alloc _).grown HR1.out (fun q hq hlt => ?_)
          rcases HO.out.2 with ⟨rfl, _⟩ | ⟨b', _, _, rfl, hb', _⟩
          · cases hq
          · simp only [Value.ownBlock, Option.some.injEq] at hq; omega
        · obtain ⟨_, _, he, hb', _⟩ := own_form HO1.out (by omega)
          simp only [Value.slice.injEq, Option.some.injEq, Addr.mk.injEq] at he
          omega
        intro W5 ⟨ho5, honly5, hg25⟩
        have hx : (pk0 (bs.take N)).length = N / 8 + 1 := by have := ho5.1; simpa [vals] using this
        obtain ⟨M, hM⟩ : ∃ M, N / 8 = M := ⟨_, rfl⟩
        obtain ⟨R, hR⟩ : ∃ R, N % 8 = R := ⟨_, rfl⟩
        rw [hM] at hx ho5
        obtain ⟨x, hx2⟩ : ∃ x, (pk0 (bs.take N))[M]? = some x := ⟨_, List.getElem?_eq_getElem (by omega)⟩
        have q2 : W5.cell? ⟨g2, M, none⟩ = some (.int .u8 x) := own_cell ho5 M _ (by simp [vals, hx2])
        have p2 := own_free ho5 M
        have hMl : (bs.take N).length / 8 = M := by rw [HTL.out]; exact hM
        have hRl : (bs.take N).length % 8 = R := by rw [HTL.out]; exact hR
        have hxr := pk0_val hMl hRl hx2
        have hst : pk (bs.take (N + 1)) = if b then (pk0 (bs.take N)).set M (x + 2 ^ R) else pk0 (bs.take N) := by
          have e : bs.take (N + 1) = bs.take N ++ [b] := by
            rw [List.take_add_one, List.getElem?_eq_getElem hlt]
            have : bs.getD N false = bs[N] := by simp [List.getD_eq_getElem?_getD, List.getElem?_eq_getElem hlt]
            rw [HB.out] at this
            rw [this]; rfl
          rw [e]
          cases b
          · exact pk_nil hMl hRl hx2
          · exact pk_one hMl hRl hx2
        have hdv : (N + 1 + 7) / 8 = M + 1 := by omega
        have HO5 := Lib.hid ho5
        have HON := Lib.hid honly5
        have HST := Lib.hid hst
        have HDV := Lib.hid hdv
        clear ho5 honly5 hst hdv hMl hRl
        have hR8 : R < 8 := by omega
        have hp8 := pow8 hR8
        have i1 : (0 : Int) ≤ (M : Int) := by omega
        have i2 : (M : Int) < (M : Int) + 1 := by omega
        have j1 : (N : Int) / 8 = (M : Int) := by omega
        have j2 : (N : Int) % 8 = (R : Int) := by omega
        have j3 : IntKind.i64.wrap (M : Int) = (M : Int) := IntWalk.i64_in _ (by omega)
        have j4 : IntKind.i64.wrap (R : Int) = (R : Int) := IntWalk.i64_in _ (by omega)
        have j5 : (N : Int).tmod 8 = (R : Int) := by rw [Int.tmod_eq_emod_of_nonneg (by omega)]; exact j2
        have j0 : (N : Int).tdiv 8 = (M : Int) := by rw [Int.tdiv_eq_ediv_of_nonneg (by omega)]; exact j1
        have j9 : (0 : Int) ≤ (R : Int) := by omega
        have j10 : min R 8 = R := by omega
        have hx2' := Lib.hid hx2
        clear hx2 hx
        have HMR := Lib.hid (And.intro hM hR)
        clear hM hR
        cases b
        · go_wp2
          go_roundw
          case rel =>
            refine ⟨N + 1, by omega, by go_num, _, rfl, ?_, HON.out⟩
            rw [HDV.out, HST.out, HMR.out.1]
            simp only [Bool.false_eq_true, if_false]
            exact HO5.out
          case measure => simp [intOf]; omega
        · go_wp2
          have hpx : x + 2 ^ R ≤ 255 := by
            have : (2 : Int) ^ (R + 1) ≤ 256 := by
              have : R = 0 ∨ R = 1 ∨ R = 2 ∨ R = 3 ∨ R = 4 ∨ R = 5 ∨ R = 6 ∨ R = 7 := by omega
              rcases this with rfl | rfl | rfl | rfl | rfl | rfl | rfl | rfl <;> decide
            rw [Int.pow_succ] at this
            omega
          generalize hpe : (2 : Int) ^ R = q at hxr hpx hp8 HST
          have k1 : IntKind.u8.wrap q = q := by simp [IntKind.wrap, IntKind.bits, IntKind.signed]; omega
          have k2 : IntKind.u8.wrap (x + q) = x + q := by simp [IntKind.wrap, IntKind.bits, IntKind.signed]; omega
          refine wp_region_still_tail 9 (by kernel_rfl) (by kernel_rfl) ?_
          simp only [List.take_succ_cons, List.take_zero, List.drop_succ_cons, List.drop_zero]
          change wpStill _ _ W5.drew _ _ _
          repeat still_step
          refine wpStill_nil ?_
          change wpList _ _ _ _ _ W5.drew
          go_wp2
          go_roundw
          case rel =>
            refine ⟨N + 1, by omega, by go_num, _, rfl, ?_, Only.drew (HON.out.setCell (fun hlt => hg25) _)⟩
            rw [HDV.out, HST.out, HMR.out.1]
            simp only [if_true]
            rw [vals_set]
            exact own_set HO5.out M (by omega) _
          case measure => simp [intOf]; omega
    · obtain rfl : N = bs.length := by omega
      have h1 : ¬ ((bs.length : Nat) : Int) < ((str01 bs).size : Int) := by omega
      have hcv := HCV.out 9 Try.underlying9
      rw [List.take_length] at hcv
      go_wp2
      go_ret
      exact ⟨rfl, hb.below (Nat.le_refl _) (fun i hi h => by omega)⟩
end BW
end Go.Proofs.Yteinpdjenplnnaa
