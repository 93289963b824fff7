/-
  The writer of package bits: what its methods do to its memory. Conditions: those that each theorem names.
-/
import Derived.Test.YteinpdjenplnnaaProg
import Derived.WalkKit
import Derived.WalkLawsBesides
import Derived.KernelRfl
import Derived.Lib.Hide
import Derived.Outline
import Derived.Deep.RegionWith
import Derived.Deep.AppendLies
import Derived.StillTailTactics
import Derived.Below
import Derived.Laws.OwnMore
import Derived.Maps.AppendAt
import Derived.Deep.DeepMust
import Derived.Test.YteinpdjenplnnaaFrame
import Derived.Test.YteinpdjenplnnaaGen
import Derived.Test.YteinpdjenplnnaaBitsP
namespace Go.Proofs.Yteinpdjenplnnaa
open Go.RowKit
set_option linter.unusedVariables false
set_option linter.unusedSimpArgs false
namespace BW
/-- a writer in block g: its slice's block is its own, from base on -/
structure IsW (w : World) (base g : Nat) (sv : Value) (bs : List Bool) : Prop where
  blk : w.heap[g]? = some (.cells #[sv, .int .i64 bs.length] 26 (0, 0))
  own : w.ownsRow base 5 1 sv ((bs.length + 7) / 8) (vals (pk bs))
/-- what a writer's blocks are -/
def Ws (g : Nat) (sv : Value) (i : Nat) : Prop := i = g ∨ sv.ownBlock = some i
theorem u8info : (Try.prog.info? 5).map (fun i => (i.zero, i.size, i.bytes)) = some (some (.int .u8 0), 1, 1) := by kernel_rfl
theorem step_isW {W5 : World} {base g g2 M cap N R : Nat} {B : List Bool} {b : Bool} {x bt : Int} (hg5 : W5.heap[g]? = some (.cells #[.slice (some ⟨g2, 0, none⟩) (M + 1) cap, .int .i64 N] 26 (0, 0)))
    (ho5 : W5.ownsRow base 5 1 (.slice (some ⟨g2, 0, none⟩) (M + 1) cap) (M + 1) (vals (pk0 B))) (hN : B.length = N) (hM : N / 8 = M) (hR : N % 8 = R) (hx : (pk0 B)[M]? = some x) (hbt : bt = if b then 1 else 0) (hne : g2 ≠ g) :
    IsW ((W5.setCell ⟨g2, M, none⟩ (.int .u8 (bits .or .u8 x (bt * 2 ^ R % 256)))).setCell ⟨g, 1, none⟩ (.int .i64 ((N : Int) + 1))).drew base g (.slice (some ⟨g2, 0, none⟩) (M + 1) cap) (B ++ [b]) := by
  subst hN
  have h1 := own_set ho5 M (by omega) (.int .u8 (bits .or .u8 x (bt * 2 ^ R % 256)))
  have h2 : (W5.setCell ⟨g2, M, none⟩ (.int .u8 (bits .or .u8 x (bt * 2 ^ R % 256)))).heap[g]? = some (.cells #[.slice (some ⟨g2, 0, none⟩) (M + 1) cap, .int .i64 B.length] 26 (0, 0)) :=
    (Below.heap_setCell _ _ _ g (fun e => hne e.symm)).trans hg5
  have e : (B ++ [b]).length = B.length + 1 := by simp
  have e2 : (B.length + 1 + 7) / 8 = M + 1 := by omega
  constructor
  · have := blk_set h2 1 (.int .i64 ((B.length : Int) + 1))
    rw [e]
    simp at this
    exact this
  · rw [e, e2, pk_step B b M R x bt hM hR hx hbt, vals_set]
    have h3 : Only (fun i => i = g) (W5.setCell ⟨g2, M, none⟩ (.int .u8 (bits .or .u8 x (bt * 2 ^ R % 256)))) ((W5.setCell ⟨g2, M, none⟩ (.int .u8 (bits .or .u8 x (bt * 2 ^ R % 256)))).setCell ⟨g, 1, none⟩ (.int .i64 ((B.length : Int) + 1))) :=
      Only.setCell (S := fun i => i = g) (p := ⟨g, 1, none⟩) (Only.refl _ _) (fun _ => rfl) _
    exact h3.own h1 (fun k hk => by simp only [Value.ownBlock, Option.some.injEq] at hk; rw [← hk]; exact hne)
theorem min_ite64 (n : Int) : (if 64 < n then (64 : Int) else n) = min n 64 := by split <;> omega
attribute [local go_sem] min_ite64
set_option maxRecDepth 100000 in
set_option maxHeartbeats 800000 in
theorem bits_any (g base : Nat) (sv : Value) (bs : List Bool) (v : Int) (n : Int) (w : World) (hv0 : 0 ≤ v) (hv1 : v ≤ 18446744073709551615) (hl : bs.length ≤ 1000000) (hw : IsW w base g sv bs) (hb : base ≤ w.heap.size) :
    Calls Try.prog 10 #[.pointer (some ⟨g, 0, none⟩), .int .u64 v, .int .i64 n] w fun e w' => e = .returned (.tuple #[]) ∧
      ∃ sv', IsW w' base g sv' (bs ++ low v (min n 64).toNat) ∧ Only (Ws g sv) w w' ∧ (sv'.ownBlock = sv.ownBlock ∨ ∃ b, sv'.ownBlock = some b ∧ w.heap.size ≤ b) := by
  obtain ⟨i0, hi0, hz0, hz1, hz2⟩ := info_parts u8info
  have HI := Lib.hid hi0
  have HW := Lib.hid hw
  clear hi0 hw
  go_enter Try.func10, Try.ntmps10
  go_wp2
  go_loopw [1, 10] (fun s1 s10 wr => ∃ (k : Nat) (svk : Value), (k : Int) ≤ max (min n 64) 0 ∧ s10 = .int .i64 k ∧ s1 = .int .u64 (v / 2 ^ k) ∧ IsW wr base g svk (bs ++ low v k) ∧ Only (Ws g sv) w wr ∧ (svk.ownBlock = sv.ownBlock ∨ ∃ b, svk.ownBlock = some b ∧ w.heap.size ≤ b)) (fun _ s10 _ => 64 - (intOf s10).toNat)
  case atStart => exact ⟨0, sv, by omega, rfl, by simp, by simpa [low] using HW.out, Only.refl _ _, .inl rfl⟩
  case round =>
    obtain ⟨k, svk, hk, rfl, rfl, hwk, honly, hsv⟩ := hrel
    have hln : (bs ++ low v k).length = bs.length + k := by simp [low_len]
    have hg := hwk.blk
    have ho := hwk.own
    rw [hln] at hg ho
    generalize hN : bs.length + k = N at hg ho
    have HN := Lib.hid hN
    have hNl : N ≤ 1000100 := by omega
    clear hN hln hwk
    have c0 := blk_cell hg 0
    have c1 := blk_cell hg 1
    have z0 := blk_free hg 0
    have z1 := blk_free hg 1
    have hne := own_ne_blk ho hg (by decide)
    have hgl := blk_lt hg
    have HO := Lib.hid ho
    have HG := Lib.hid hg
    simp at c0 c1
    clear ho hg
    have hBl : (bs ++ low v k).length = N := by rw [← HN.out]; simp [low_len]
    have HB := Lib.hid hBl
    clear hBl
    by_cases hlt : (k : Int) < min n 64
    · cases h8 : ((N : Int) % 8 == 0)
      · have hmod : N % 8 ≠ 0 := by have h8' := h8; simp at h8'; omega
        have hdiv : (N + 7) / 8 = N / 8 + 1 := by omega
        have ho := HO.out
        rw [hdiv] at ho
        have HD := Lib.hid hdiv
        have HO2 := Lib.hid ho
        clear hdiv ho
        obtain ⟨g2, cap, rfl, hb2, hcap, hlt2⟩ := own_form HO2.out (by omega)
        go_wp2_with fail
        refine wp_gen (fun W => ∃ g2 cap : Nat, W.heap[g]? = some (.cells #[.slice (some ⟨g2, 0, none⟩) (N / 8 + 1) cap, .int .i64 N] 26 (0, 0)) ∧ W.ownsRow base 5 1 (.slice (some ⟨g2, 0, none⟩) (N / 8 + 1) cap) (N / 8 + 1) (vals (pk0 (bs ++ low v k))) ∧ Only (Ws g sv) w W ∧ (sv.ownBlock = some g2 ∨ w.heap.size ≤ g2)) ⟨g2, cap, HG.out, by rw [pk0, HB.out, if_neg hmod]; exact HO2.out, honly, ?_⟩ ?_
        · rcases hsv with h | ⟨b, h, h'⟩
          · exact .inl (by rw [← h]; rfl)
          · simp only [Value.ownBlock, Option.some.injEq] at h; subst h; exact .inr h'
        intro W5 ⟨g2, cap, hg5, ho5, honly5, hsv5⟩
        have q0 := blk_cell hg5 0
        have q1 := blk_cell hg5 1
        have p0 := blk_free hg5 0
        have p1 := blk_free hg5 1
        simp at q0 q1
        have hx : (pk0 (bs ++ low v k)).length = N / 8 + 1 := by have := ho5.1; simpa [vals] using this
        obtain ⟨M, hM⟩ : ∃ M, N / 8 = M := ⟨_, rfl⟩
        obtain ⟨R, hR⟩ : ∃ R, N % 8 = R := ⟨_, rfl⟩
        rw [hM] at hx ho5 hg5 q0
        obtain ⟨x, hx2⟩ : ∃ x, (pk0 (bs ++ low v k))[M]? = some x := ⟨_, List.getElem?_eq_getElem (by omega)⟩
        have q2 : W5.cell? ⟨g2, M, none⟩ = some (.int .u8 x) := own_cell ho5 M _ (by simp [vals, hx2])
        have p2 := own_free ho5 M
        have i1 : (0 : Int) ≤ (M : Int) := by omega
        have i2 : (M : Int) < (M : Int) + 1 := by omega
        have j1 : (N : Int) / 8 = (M : Int) := by omega
        have j2 : (N : Int) % 8 = (R : Int) := by omega
        have j3 : IntKind.i64.wrap (M : Int) = (M : Int) := IntWalk.i64_in _ (by omega)
        have j4 : IntKind.i64.wrap (R : Int) = (R : Int) := IntWalk.i64_in _ (by omega)
        have hR8 : R < 8 := by omega
        have vb0 : 0 ≤ v / 2 ^ k := Int.ediv_nonneg hv0 (by have := Int.pow_pos (n := 2) (m := k) (by omega); omega)
        have vb1 : v / 2 ^ k ≤ 18446744073709551615 := Int.le_trans (Int.ediv_le_self _ hv0) hv1
        have va := and_one_u64 (v / 2 ^ k) vb0 vb1
        have hbt : 0 ≤ v / 2 ^ k % 2 ∧ v / 2 ^ k % 2 ≤ 1 := by omega
        generalize hbv : v / 2 ^ k % 2 = bt at va hbt
        have HBV := Lib.hid hbv
        clear hbv
        have j5 : (N : Int).tmod 8 = (R : Int) := by rw [Int.tmod_eq_emod_of_nonneg (by omega)]; exact j2
        have j6 : IntKind.u8.wrap bt = bt := by simp [IntKind.wrap, IntKind.bits, IntKind.signed]; omega
        have j9 : (0 : Int) ≤ (R : Int) := by omega
        obtain ⟨sh, hsh⟩ : ∃ sh, IntKind.u8.wrap (bt * 2 ^ min R 8) = sh := ⟨_, rfl⟩
        obtain ⟨x', hx'⟩ : ∃ x', bits .or .u8 x sh = x' := ⟨_, rfl⟩
        have HM := Lib.hid hM
        have HR := Lib.hid hR
        clear hM hR
        have hng : g2 ≠ g := by have := own_ne_blk ho5 hg5 (by decide); simpa [Value.ownBlock] using this
        have hng2 : g ≠ g2 := fun e => hng e.symm
        have HG5 := Lib.hid hg5
        have HO5 := Lib.hid ho5
        have HX := Lib.hid hx2
        clear hg5 ho5 hx hx2
        refine wp_region_still_tail 22 (by kernel_rfl) (by kernel_rfl) ?_
        simp only [List.take_succ_cons, List.take_zero, List.drop_succ_cons, List.drop_zero]
        change wpStill _ _ W5.drew _ _ _
        repeat still_step
        refine wpStill_nil ?_
        change wpList _ _ _ _ _ W5.drew
        go_wp2
        go_roundw
        case rel =>
          refine ⟨k + 1, .slice (some ⟨g2, 0, none⟩) (M + 1) cap, by omega, by go_num, by rw [Int.pow_succ, Int.ediv_ediv_of_nonneg (Int.le_of_lt (Int.pow_pos (by omega)))], ?_, ?_, ?_⟩
          · have h := step_isW (b := decide (v / 2 ^ k % 2 = 1)) HG5.out HO5.out HB.out HM.out HR.out HX.out (bt := bt) (by rw [← HBV.out]; simp; omega) hng
            simpa [low] using h
          · refine Only.drew ((honly5.setCell (fun hlt => ?_) _).setCell (fun hlt => .inl rfl) _)
            rcases hsv5 with h | h
            · exact .inr h
            · dsimp only at hlt; omega
          · rcases hsv5 with h | h
            · exact .inl h.symm
            · exact .inr ⟨g2, rfl, h⟩
        case measure => simp [intOf]; omega
      · have hmod : N % 8 = 0 := by have h8' := h8; simp at h8'; omega
        go_wp2_with (at_builtin; refine wpList_append_lies _ rfl (.tmp 22) (.tmp 23) 24 rfl base 5 i0 _ 1 1 Try.underlying24 HI.out hz0 hz1 hz2 rfl (by omega) svk ((N + 7) / 8) _ rfl (HO.out.alloc _) ⟨wr.heap.size, 0, none⟩ 1 1 [.int .u8 0] rfl rfl (cell_one_new _ _ _) (by simp [Value.oneCell']) (by omega) (by unfold maxLen; omega) (by omega) (by have := honly.size; simp; omega) (wr.heap.size + 1) (by simp) ?_; intro g2 cap w1 hown1 hgrow1 hat1 hlt1; have hg1 := (hgrow1.block g (by simp; omega) (fun e => hne e.symm)).trans ((Below.heap_alloc wr _ g hgl).trans HG.out); have d0 := blk_cell hg1 0; have d1 := blk_cell hg1 1; have y0 := blk_free hg1 0; have y1 := blk_free hg1 1; simp at d0 d1; have HG1 := Lib.hid hg1; have HO1 := Lib.hid hown1; have HA1 := Lib.hid hat1; have HR1 := Lib.hid hgrow1; clear hg1 hown1 hat1 hgrow1)
        have hd : (N + 7) / 8 = N / 8 := by omega
        refine wp_gen (fun W => ∃ g2 cap : Nat, W.heap[g]? = some (.cells #[.slice (some ⟨g2, 0, none⟩) (N / 8 + 1) cap, .int .i64 N] 26 (0, 0)) ∧ W.ownsRow base 5 1 (.slice (some ⟨g2, 0, none⟩) (N / 8 + 1) cap) (N / 8 + 1) (vals (pk0 (bs ++ low v k))) ∧ Only (Ws g sv) w W ∧ (sv.ownBlock = some g2 ∨ w.heap.size ≤ g2)) ?_ ?_
        · have hng := own_ne_blk HO1.out HG1.out (by decide)
          have hb1 := blk_set HG1.out 0 (.slice (some ⟨g2, 0, none⟩) ((N + 7) / 8 + 1) cap)
          have ho1 : (w1.setCell ⟨g, 0, none⟩ (.slice (some ⟨g2, 0, none⟩) ((N + 7) / 8 + 1) cap)).ownsRow base 5 1 (.slice (some ⟨g2, 0, none⟩) ((N + 7) / 8 + 1) cap) ((N + 7) / 8 + 1) (vals (pk (bs ++ low v k)) ++ [.int .u8 0]) :=
            (Only.setCell (S := fun i => i = g) (p := ⟨g, 0, none⟩) (Only.refl _ _) (fun _ => rfl) _).own HO1.out (fun q hq e => hng (by rw [hq, e]))
          have ev : vals (pk0 (bs ++ low v k)) = vals (pk (bs ++ low v k)) ++ [.int .u8 0] := by rw [pk0, HB.out, if_pos hmod]; simp [vals]
          rw [hd] at hb1 ho1
          refine ⟨g2, cap, ?_, ?_, ?_, ?_⟩
          · rw [hd]
            simp at hb1
            exact hb1
          · rw [hd, ev]; exact ho1
          · rw [hd]
            refine ((honly.alloc _).grown HR1.out (fun q hq hlt => ?_)).setCell (fun _ => .inl rfl) _
            rcases hsv with h | ⟨b, h, h'⟩
            · exact .inr (by rw [← h]; exact hq)
            · rw [h] at hq; injection hq with hq; omega
          · have hs := honly.size
            rcases HA1.out with h | h
            · rcases hsv with h2 | ⟨b, h2, h3⟩
              · exact .inl (by rw [← h2]; exact h)
              · rw [h] at h2; injection h2 with h2; exact .inr (by omega)
            · exact .inr (by omega)
        intro W5 ⟨g2, cap, hg5, ho5, honly5, hsv5⟩
        have q0 := blk_cell hg5 0
        have q1 := blk_cell hg5 1
        have p0 := blk_free hg5 0
        have p1 := blk_free hg5 1
        simp at q0 q1
        have hx : (pk0 (bs ++ low v k)).length = N / 8 + 1 := by have := ho5.1; simpa [vals] using this
        obtain ⟨M, hM⟩ : ∃ M, N / 8 = M := ⟨_, rfl⟩
        obtain ⟨R, hR⟩ : ∃ R, N % 8 = R := ⟨_, rfl⟩
        rw [hM] at hx ho5 hg5 q0
        obtain ⟨x, hx2⟩ : ∃ x, (pk0 (bs ++ low v k))[M]? = some x := ⟨_, List.getElem?_eq_getElem (by omega)⟩
        have q2 : W5.cell? ⟨g2, M, none⟩ = some (.int .u8 x) := own_cell ho5 M _ (by simp [vals, hx2])
        have p2 := own_free ho5 M
        have i1 : (0 : Int) ≤ (M : Int) := by omega
        have i2 : (M : Int) < (M : Int) + 1 := by omega
        have j1 : (N : Int) / 8 = (M : Int) := by omega
        have j2 : (N : Int) % 8 = (R : Int) := by omega
        have j3 : IntKind.i64.wrap (M : Int) = (M : Int) := IntWalk.i64_in _ (by omega)
        have j4 : IntKind.i64.wrap (R : Int) = (R : Int) := IntWalk.i64_in _ (by omega)
        have hR8 : R < 8 := by omega
        have vb0 : 0 ≤ v / 2 ^ k := Int.ediv_nonneg hv0 (by have := Int.pow_pos (n := 2) (m := k) (by omega); omega)
        have vb1 : v / 2 ^ k ≤ 18446744073709551615 := Int.le_trans (Int.ediv_le_self _ hv0) hv1
        have va := and_one_u64 (v / 2 ^ k) vb0 vb1
        have hbt : 0 ≤ v / 2 ^ k % 2 ∧ v / 2 ^ k % 2 ≤ 1 := by omega
        generalize hbv : v / 2 ^ k % 2 = bt at va hbt
        have HBV := Lib.hid hbv
        clear hbv
        have j5 : (N : Int).tmod 8 = (R : Int) := by rw [Int.tmod_eq_emod_of_nonneg (by omega)]; exact j2
        have j6 : IntKind.u8.wrap bt = bt := by simp [IntKind.wrap, IntKind.bits, IntKind.signed]; omega
        have j9 : (0 : Int) ≤ (R : Int) := by omega
        obtain ⟨sh, hsh⟩ : ∃ sh, IntKind.u8.wrap (bt * 2 ^ min R 8) = sh := ⟨_, rfl⟩
        obtain ⟨x', hx'⟩ : ∃ x', bits .or .u8 x sh = x' := ⟨_, rfl⟩
        have HM := Lib.hid hM
        have HR := Lib.hid hR
        clear hM hR
        have hng : g2 ≠ g := by have := own_ne_blk ho5 hg5 (by decide); simpa [Value.ownBlock] using this
        have hng2 : g ≠ g2 := fun e => hng e.symm
        have HG5 := Lib.hid hg5
        have HO5 := Lib.hid ho5
        have HX := Lib.hid hx2
        clear hg5 ho5 hx hx2
        refine wp_region_still_tail 22 (by kernel_rfl) (by kernel_rfl) ?_
        simp only [List.take_succ_cons, List.take_zero, List.drop_succ_cons, List.drop_zero]
        change wpStill _ _ W5.drew _ _ _
        repeat still_step
        refine wpStill_nil ?_
        change wpList _ _ _ _ _ W5.drew
        go_wp2
        go_roundw
        case rel =>
          refine ⟨k + 1, .slice (some ⟨g2, 0, none⟩) (M + 1) cap, by omega, by go_num, by rw [Int.pow_succ, Int.ediv_ediv_of_nonneg (Int.le_of_lt (Int.pow_pos (by omega)))], ?_, ?_, ?_⟩
          · have h := step_isW (b := decide (v / 2 ^ k % 2 = 1)) HG5.out HO5.out HB.out HM.out HR.out HX.out (bt := bt) (by rw [← HBV.out]; simp; omega) hng
            simpa [low] using h
          · refine Only.drew ((honly5.setCell (fun hlt => ?_) _).setCell (fun hlt => .inl rfl) _)
            rcases hsv5 with h | h
            · exact .inr h
            · dsimp only at hlt; omega
          · rcases hsv5 with h | h
            · exact .inl h.symm
            · exact .inr ⟨g2, rfl, h⟩
        case measure => simp [intOf]; omega
    · have hkn : (min n 64).toNat = k := by omega
      have HK := Lib.hid hkn
      clear hkn
      go_wp2
      go_end0
      refine ⟨rfl, svk, ⟨?_, ?_⟩, honly, hsv⟩
      · rw [HK.out, HB.out]; exact HG.out
      · rw [HK.out, HB.out]; exact HO.out
end BW
end Go.Proofs.Yteinpdjenplnnaa
