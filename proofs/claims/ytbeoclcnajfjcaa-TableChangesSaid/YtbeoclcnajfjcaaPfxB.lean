/-
  Package prefix: masked, Right. Conditions: those that each theorem names.
-/
import Derived.Test.YtbeoclcnajfjcaaTa
import Derived.Laws.BitsAllLaws
import Derived.StillTailTactics
namespace Go.Proofs.Ytbeoclcnajfjcaa
open Go Go.RowKit H2
set_option linter.unusedVariables false
set_option linter.unusedSimpArgs false
namespace Tab
/-- byte j of an address of which n bits are kept -/
def mb (n : Int) (j : Nat) (b : UInt8) : UInt8 := if n - 8 * j ≤ 0 then 0 else if n - 8 * j < 8 then b &&& ((255 : UInt8) <<< (8 - (n - 8 * j)).toNat.toUInt8) else b
def maskA (a : Vector UInt8 16) (n : Int) : Vector UInt8 16 := Vector.ofFn fun j => mb n j.val a[j]
/-- the cells behind k rounds -/
def Msk (w : World) (B : Nat) (a : Vector UInt8 16) (n : Int) (k : Nat) : Prop :=
  ∃ cur, w.heap[B]? = some (.cells cur 23 (0, 0)) ∧ cur.size = 16 ∧ ∀ j, (h : j < 16) → cur[j]? = some (.int .u8 ((if j < k then mb n j a[j] else a[j]).toNat : Int))
theorem encA_get (a : Vector UInt8 16) (j : Nat) (h : j < 16) : (encA a)[j]? = some (.int .u8 ((a[j]).toNat : Int)) := by
  unfold encA
  rw [List.getElem?_map, Vector.getElem?_toList, Vector.getElem?_eq_getElem h]
  rfl
theorem msk_new (w : World) (a : Vector UInt8 16) (n : Int) : Msk (w.alloc (.cells (encA a).toArray 23 (0, 0))) w.heap.size a n 0 :=
  ⟨_, heap_alloc_new w _, by simp [encA_len], fun j h => by
    rw [if_neg (by omega)]
    have := encA_get a j h
    simpa using this⟩
theorem Msk.cell {w : World} {B : Nat} {a : Vector UInt8 16} {n : Int} {k : Nat} (h : Msk w B a n k) {j : Nat} (hj : j < 16) (hk : k ≤ j) : w.cell? ⟨B, j, none⟩ = some (.int .u8 ((a[j]).toNat : Int)) := by
  obtain ⟨cur, h1, h2, h3⟩ := h
  rw [blk_cell h1, h3 j hj, if_neg (by omega)]
theorem Msk.free {w : World} {B : Nat} {a : Vector UInt8 16} {n : Int} {k : Nat} (h : Msk w B a n k) (j : Nat) : w.frozen? ⟨B, j, none⟩ = false := by
  obtain ⟨cur, h1, h2, h3⟩ := h
  exact blk_free h1 j
theorem Msk.put {w : World} {B : Nat} {a : Vector UInt8 16} {n : Int} {k : Nat} (h : Msk w B a n k) (hk : k < 16) {v : Int} (hv : v = ((mb n k a[k]).toNat : Int)) : Msk (w.setCell ⟨B, k, none⟩ (.int .u8 v)) B a n (k + 1) := by
  obtain ⟨cur, h1, h2, h3⟩ := h
  refine ⟨_, blk_set h1 k _, by simpa using h2, fun j hj => ?_⟩
  rw [Array.getElem?_setIfInBounds]
  by_cases e : k = j
  · subst e
    rw [if_pos rfl, if_pos (by omega), if_pos (by omega), hv]
  · rw [if_neg e, h3 j hj]
    by_cases hl : j < k
    · rw [if_pos hl, if_pos (by omega)]
    · rw [if_neg hl, if_neg (by omega)]
theorem Msk.same {w : World} {B : Nat} {a : Vector UInt8 16} {n : Int} {k : Nat} (h : Msk w B a n k) (hk : k < 16) (hm : mb n k a[k] = a[k]) : Msk w B a n (k + 1) := by
  obtain ⟨cur, h1, h2, h3⟩ := h
  refine ⟨cur, h1, h2, fun j hj => ?_⟩
  rw [h3 j hj]
  by_cases e : k = j
  · subst e
    rw [if_neg (by omega), if_pos (by omega), hm]
  · by_cases hl : j < k
    · rw [if_pos hl, if_pos (by omega)]
    · rw [if_neg hl, if_neg (by omega)]
theorem Msk.below {w w' : World} {B : Nat} {a : Vector UInt8 16} {n : Int} {k : Nat} (h : Msk w B a n k) (hb : Below w.heap.size w w') : Msk w' B a n k := by
  obtain ⟨cur, h1, h2, h3⟩ := h
  exact ⟨cur, (hb.block B (blk_lt h1)).trans h1, h2, h3⟩
theorem Msk.drew {w : World} {B : Nat} {a : Vector UInt8 16} {n : Int} {k : Nat} (h : Msk w B a n k) : Msk w.drew B a n k := h
theorem Msk.done {w : World} {B : Nat} {a : Vector UInt8 16} {n : Int} (h : Msk w B a n 16) : At w B 0 (encA (maskA a n)) := by
  obtain ⟨cur, h1, h2, h3⟩ := h
  intro j u hj
  have hj16 : j < 16 := by
    have := (List.getElem?_eq_some_iff.1 hj).1
    rwa [encA_len] at this
  rw [encA_get _ j hj16] at hj
  rw [Nat.zero_add, blk_cell h1, h3 j hj16, if_pos hj16, ← hj]
  simp [maskA]
theorem mb_val (x : UInt8) (s : Int) (h0 : 0 < s) (h8 : s < 8) : bits .and .u8 (x.toNat : Int) (IntKind.u8.wrap (255 * 2 ^ s.toNat)) = ((x &&& ((255 : UInt8) <<< s.toNat.toUInt8)).toNat : Int) := by
  have key : ∀ y : UInt8, bits .and .u8 (x.toNat : Int) ((y.toNat : Nat) : Int) = ((x &&& y).toNat : Int) := fun y => by
    rw [u8_and_nat _ _ x.toNat_lt y.toNat_lt, UInt8.toNat_and]
  rcases (show s = 1 ∨ s = 2 ∨ s = 3 ∨ s = 4 ∨ s = 5 ∨ s = 6 ∨ s = 7 by omega) with rfl | rfl | rfl | rfl | rfl | rfl | rfl
  · exact key 254
  · exact key 252
  · exact key 248
  · exact key 240
  · exact key 224
  · exact key 192
  · exact key 128
set_option maxRecDepth 100000 in
set_option maxHeartbeats 4000000 in
theorem masked_any (a : Vector UInt8 16) (n : Int) (w : World) (h0 : -1000 ≤ n) (h1 : n ≤ 1000) : Calls Try.prog 62 #[.agg (encA a).toArray, .int .i64 n] w fun e w' => e = .returned (.agg (encA (maskA a n)).toArray) ∧ Below w.heap.size w w' := by
  go_enter Try.func62, Try.ntmps62
  go_upto_region 1 with fail
  have HM := Lib.hid ((msk_new w a n))
  have hbw := Lib.hid (show Below w.heap.size w (w.alloc (.cells (encA a).toArray 23 (0, 0))) from (Below.refl _ _).alloc (Nat.le_refl _) _)
  have hB2 := Lib.hid (heap_alloc_new (w.alloc (.cells (encA a).toArray 23 (0, 0))) (.cells #[.int .u8 0, .int .u8 0, .int .u8 0, .int .u8 0, .int .u8 0, .int .u8 0, .int .u8 0, .int .u8 0, .int .u8 0, .int .u8 0, .int .u8 0, .int .u8 0, .int .u8 0, .int .u8 0, .int .u8 0, .int .u8 0] 23 (0, 0)))
  have hbx := Lib.hid (show Below w.heap.size w ((w.alloc (.cells (encA a).toArray 23 (0, 0))).alloc (.cells #[.int .u8 0, .int .u8 0, .int .u8 0, .int .u8 0, .int .u8 0, .int .u8 0, .int .u8 0, .int .u8 0, .int .u8 0, .int .u8 0, .int .u8 0, .int .u8 0, .int .u8 0, .int .u8 0, .int .u8 0, .int .u8 0] 23 (0, 0))) from hbw.out.alloc hbw.out.size _)
  have HM2 := Lib.hid (show Msk ((w.alloc (.cells (encA a).toArray 23 (0, 0))).alloc (.cells #[.int .u8 0, .int .u8 0, .int .u8 0, .int .u8 0, .int .u8 0, .int .u8 0, .int .u8 0, .int .u8 0, .int .u8 0, .int .u8 0, .int .u8 0, .int .u8 0, .int .u8 0, .int .u8 0, .int .u8 0, .int .u8 0] 23 (0, 0))) w.heap.size a n 0 from HM.out.below ((Below.refl _ _).alloc (Nat.le_refl _) _))
  clear HM
  generalize (w.alloc (.cells (encA a).toArray 23 (0, 0))).alloc _ = W at HM2 hB2 hbx ⊢
  have hsz : (w.alloc (.cells (encA a).toArray 23 (0, 0))).heap.size = w.heap.size + 1 := by simp
  rw [hsz] at hB2
  clear hsz hbw
  obtain ⟨B2, hB2e⟩ : ∃ b, w.heap.size + 1 = b := ⟨_, rfl⟩
  rw [hB2e] at hB2 ⊢
  obtain ⟨B, hBe⟩ : ∃ b, w.heap.size = b := ⟨_, rfl⟩
  rw [hBe] at HM2 ⊢
  have HN := Lib.hid (show w.heap.size ≤ B ∧ B < B2 from by omega)
  clear hB2e hBe
  go_wp2
  go_loopw [7] (fun s7 wr => ∃ k : Nat, k ≤ 16 ∧ s7 = .int .i64 k ∧ Msk wr B a n k ∧ wr.heap[B2]? = W.heap[B2]? ∧ Below w.heap.size w wr) (fun s7 _ => 16 - (intOf s7).toNat)
  case atStart => exact ⟨0, by omega, rfl, HM2.out, rfl, hbx.out⟩
  case round =>
    obtain ⟨k, hk, rfl, hm, h2, hb⟩ := hrel
    have M := Lib.hid hm
    have H2 := Lib.hid (h2.trans hB2.out)
    have HB := Lib.hid hb
    clear hm h2 hb HM2 hbx
    by_cases hlt : k < 16
    · have hlt' : (k : Int) < 16 := by omega
      have k0 : (0 : Int) ≤ (k : Int) := by omega
      have ew : IntKind.i64.wrap (8 * (k : Int)) = 8 * (k : Int) := IntWalk.i64_in _ (by omega)
      have es : IntKind.i64.wrap (n - 8 * (k : Int)) = n - 8 * (k : Int) := IntWalk.i64_in _ (by omega)
      have hc := M.out.cell hlt (Nat.le_refl _)
      have hf := M.out.free k
      by_cases hl0 : n - 8 * (k : Int) ≤ 0
      · have M1 := Lib.hid (M.out.put hlt (v := 0) (by unfold mb; rw [if_pos hl0]; rfl))
        go_wp2
        go_roundw
        case rel => exact ⟨k + 1, by omega, by go_num, M1.out, (Below.heap_setCell wr ⟨B, k, none⟩ _ B2 (by simp; have := HN.out; omega)).trans (H2.out.trans hB2.out.symm), HB.out.setCell HN.out.1 _⟩
        case measure => simp [intOf]; omega
      · have hl0' : ¬ n - 8 * (k : Int) ≤ 0 := hl0
        by_cases hl8 : n - 8 * (k : Int) < 8
        · have M1 := Lib.hid (M.out.drew.put hlt (v := bits .and .u8 ((a[k]).toNat : Int) (IntKind.u8.wrap (255 * 2 ^ (8 - (n - 8 * (k : Int))).toNat))) (by unfold mb; rw [if_neg hl0, if_pos hl8]; exact mb_val _ _ (by omega) (by omega)))
          have e8 : IntKind.i64.wrap (8 - (n - 8 * (k : Int))) = 8 - (n - 8 * (k : Int)) := IntWalk.i64_in _ (by omega)
          go_upto_region 8 with fail
          refine wp_region_still_tail 8 (by kernel_rfl) (by kernel_rfl) ?_
          simp only [List.take_succ_cons, List.take_zero, List.drop_succ_cons, List.drop_zero]
          change wpStill _ _ wr.drew _ _ _
          repeat still_step
          refine wpStill_nil ?_
          change wpList _ _ _ _ _ wr.drew
          go_wp2
          go_roundw
          case rel => exact ⟨k + 1, by omega, by go_num, M1.out, (Below.heap_setCell wr ⟨B, k, none⟩ _ B2 (by simp; have := HN.out; omega)).trans (H2.out.trans hB2.out.symm), HB.out.drew.setCell HN.out.1 _⟩
          case measure => simp [intOf]; omega
        · have M1 := Lib.hid (M.out.same hlt (by unfold mb; rw [if_neg hl0, if_neg hl8]))
          go_wp2
          go_roundw
          case rel => exact ⟨k + 1, by omega, by go_num, M1.out, H2.out.trans hB2.out.symm, HB.out⟩
          case measure => simp [intOf]; omega
    · obtain rfl : k = 16 := by omega
      have hld := M.out.done.load (encA_n _) Try.prog
      have hst := store_row (o := 0) (vs := encA (maskA a n)) H2.out (by simp [encA_len]) (encA_one _) Try.prog
      rw [splice_whole (by simp [encA_len])] at hst
      have hl2 := (at_row (setRow_heap wr B2 _ (encA (maskA a n)).toArray _ _ H2.out)).load (encA_n _) Try.prog
      go_wp2
      exact bodyPost_ret (v := .agg (encA (maskA a n)).toArray) (by simp [results, Try.results62, go_sem, hl2]) rfl ⟨rfl, below_setRow HB.out (by have := HN.out; omega) _⟩
end Tab
end Go.Proofs.Ytbeoclcnajfjcaa
