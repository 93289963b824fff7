/-
  slices.Delete of one message. Conditions: those that each theorem names.
-/
import Derived.Test.YtebkpjefdaieaaaNet8
import Derived.Deep.RegionLaw
import Derived.Lib.SliceRun
namespace Go.Proofs.Ytebkpjefdaieaaa
open Go.RowKit FR FP H2 OW
set_option linter.unusedVariables false
set_option linter.unusedSimpArgs false
namespace Net
open Eng GG
theorem cellsM_append (a b : List MsgV) : cellsM (a ++ b) = cellsM a ++ cellsM b := by simp [cellsM]
theorem cellsM_drop (m : List MsgV) (k : Nat) (hk : k ≤ m.length) : cellsM (m.drop k) = (cellsM m).drop (k * 3) := by
  have h : cellsM m = cellsM (m.take k) ++ cellsM (m.drop k) := by rw [← cellsM_append, List.take_append_drop]
  have hl : (cellsM (m.take k)).length = k * 3 := by rw [cellsM_len, List.length_take, Nat.min_eq_left hk]
  rw [h, List.drop_append_of_le_length (by omega), ← hl, List.drop_length, List.nil_append]
theorem cellsM_take (m : List MsgV) (k : Nat) (hk : k ≤ m.length) : cellsM (m.take k) = (cellsM m).take (k * 3) := by
  have h : cellsM m = cellsM (m.take k) ++ cellsM (m.drop k) := by rw [← cellsM_append, List.take_append_drop]
  have hl : (cellsM (m.take k)).length = k * 3 := by rw [cellsM_len, List.length_take, Nat.min_eq_left hk]
  rw [h, List.take_append_of_le_length (by omega), ← hl, List.take_length]
def zeroM : List Value := [.int .i64 0, .int .i64 0, .slice none 0 0]
theorem run_clear_one {P : Program} (w : World) (t e ty : TypeId) (z : Value) (ht : P.underlying t = some (.slice e)) (hv : ∀ w, (zeroValue e).run P w = .ok z w) (b o c : Nat)
    (h1 : ∀ v ∈ z.cells.toList, v.oneCell' = true) (hc : ∀ j, j < z.cells.toList.length → (w.cell? ⟨b, o + j, none⟩).isSome = true) (hf : ∀ j, j < z.cells.toList.length → w.frozen? ⟨b, o + j, none⟩ = false) :
    (Builtin.clear_ #[t] ty #[.slice (some ⟨b, o, none⟩) 1 c]).run P w = .ok (.tuple #[]) (w.setCells b o z.cells.toList) := by
  have hzc : (Builtin.zeroCells z.cells 1).toList = z.cells.toList := by
    simp [Builtin.zeroCells]
    apply List.ext_getElem
    · simp
    · intro i h1 h2
      have : i % z.cells.size = i := Nat.mod_eq_of_lt (by simpa using h2)
      simp only [List.getElem_map, List.getElem_range, this, Array.getElem_toList]
      exact getElem!_pos z.cells i (by simpa using h2)
  have hst := run_storeCells_cells (P := P) b o z.cells.toList 0 w (by simpa using hc) (by simpa using hf) h1
  simp only [Nat.add_zero] at hst
  simp [Builtin.clear_, run_underlying ht, hv, hzc, hst]
theorem oneCell_M (m : List MsgV) : ∀ u ∈ cellsM m, u.oneCell' = true := by
  intro u hu
  simp only [cellsM, List.mem_flatMap, MsgV.cells] at hu
  obtain ⟨v, _, hu⟩ := hu
  simp only [List.mem_cons, List.not_mem_nil, or_false] at hu
  rcases hu with rfl | rfl | rfl <;> rfl
theorem zeroM_run (w : World) : (zeroValue 60).run Try.prog w = .ok (.agg #[.int .i64 0, .int .i64 0, .slice none 0 0]) w := Try.zeroValue60 w
set_option maxRecDepth 1000000 in
set_option maxHeartbeats 8000000 in
theorem delete_any (base g n cap : Nat) (m : List MsgV) (k : Nat) (w : World) (hn : m.length = n) (hk : k < n) (hn3 : n ≤ 300) (h : w.ownsRow base 60 3 (.slice (some ⟨g, 0, none⟩) n cap) n (cellsM m)) :
    Calls Try.prog 30 #[.slice (some ⟨g, 0, none⟩) n cap, .int .i64 k, .int .i64 (k + 1 : Nat)] w fun e w' => e = .returned (.slice (some ⟨g, 0, none⟩) (n - 1) cap) ∧ w'.ownsRow base 60 3 (.slice (some ⟨g, 0, none⟩) (n - 1) cap) (n - 1) (cellsM (m.eraseIdx k)) ∧ Only (fun i => i = g) w w' := by
  obtain ⟨i0, hi0, hz0, hz1, hz2⟩ := info_parts infoM
  obtain ⟨cur, hb, hh, hnc, hcm, hsz, htk⟩ : ∃ cur, base ≤ g ∧ w.heap[g]? = some (.cells cur 60 (0, 0)) ∧ n ≤ cap ∧ cap ≤ maxLen ∧ cur.size = cap * 3 ∧ cur.toList.take (n * 3) = cellsM m := by
    rcases h.2 with ⟨h1, _⟩ | ⟨g', cap', cur, h1, a, b, c, d, e, f⟩
    · cases h1
    · cases h1; exact ⟨cur, a, b, c, d, e, f⟩
  have hget : ∀ p, p < n * 3 → cur[p]? = (cellsM m)[p]? := fun p hp => by rw [← htk, List.getElem?_take, if_pos hp, Array.getElem?_toList]
  obtain ⟨news, hnews⟩ : ∃ news, news = cellsM (m.drop (k + 1)) := ⟨_, rfl⟩
  have hlen : news.length = (n - (k + 1)) * 3 := by rw [hnews, cellsM_len, List.length_drop, hn]
  have hnd : news = (cellsM m).drop ((k + 1) * 3) := by rw [hnews, cellsM_drop _ _ (by omega)]
  obtain ⟨A, hA, hsrc⟩ : ∃ A : Addr, (if cap = k + 1 then (some ⟨g, 0, none⟩ : Option Addr) else some ⟨g, (k + 1) * 3, none⟩) = some A ∧ Hid (∀ t u, news[t]? = some u → w.drew.cell? (A.add t) = some u) := by
    by_cases hc : cap = k + 1
    · refine ⟨⟨g, 0, none⟩, by simp [hc], fun t u hu => ?_⟩
      have h0 : news.length = 0 := by rw [hlen]; omega
      rw [List.length_eq_zero_iff.1 h0] at hu
      simp at hu
    · refine ⟨⟨g, (k + 1) * 3, none⟩, by simp [hc], fun t u hu => ?_⟩
      have ht : t < news.length := (List.getElem?_eq_some_iff.1 hu).1
      rw [Addr.add_lit]
      show w.cell? ⟨g, (k + 1) * 3 + t, none⟩ = some u
      rw [blk_cell hh, hget _ (by omega), ← hu, hnd, List.getElem?_drop]
  have s1 := Lib.hid hlen
  have s2 : Hid (∀ u ∈ news, u.oneCell' = true) := by rw [hnews]; exact oneCell_M _
  have s3 : Hid (∀ t, t < news.length → (w.drew.cell? ⟨g, 0 + k * 3 + t, none⟩).isSome = true ∧ w.drew.frozen? ⟨g, 0 + k * 3 + t, none⟩ = false) := fun t ht => by
    refine ⟨?_, blk_free hh _⟩
    show (w.cell? ⟨g, 0 + k * 3 + t, none⟩).isSome = true
    rw [blk_cell hh, Array.getElem?_eq_getElem (by omega)]
    rfl
  obtain ⟨W1, hW1⟩ : ∃ W1, W1 = w.drew.setCells g (0 + k * 3) news := ⟨_, rfl⟩
  obtain ⟨cur1, hb1, hs1, hc1⟩ := blk_cells news (0 + k * 3) (w := w.drew) hh
  rw [← hW1] at hb1
  have ho1 : Only (fun i => i = g) w W1 := by rw [hW1]; exact Only.setCells (g := g) news (0 + k * 3) ((Only.refl (fun i => i = g) w).drew) (fun _ => rfl)
  have hcl : ∀ ty, (Builtin.clear_ #[53] ty #[.slice (some ⟨g, (n - 1) * 3, none⟩) 1 (cap - (n - 1))]).run Try.prog W1 = .ok (.tuple #[]) (W1.setCells g ((n - 1) * 3) zeroM) :=
    fun ty => run_clear_one W1 _ _ ty _ Try.underlying53 zeroM_run g ((n - 1) * 3) _ (by decide) (fun j hj => by
      have hj : j < 3 := hj
      rw [blk_cell hb1, Array.getElem?_eq_getElem (by omega)]; rfl) (fun j _ => blk_free hb1 _)
  obtain ⟨cur2, hb2, hs2, hc2⟩ := blk_cells zeroM ((n - 1) * 3) hb1
  have ho2 : Only (fun i => i = g) w (W1.setCells g ((n - 1) * 3) zeroM) := Only.setCells (g := g) zeroM ((n - 1) * 3) ho1 (fun _ => rfl)
  have hfin : (W1.setCells g ((n - 1) * 3) zeroM).ownsRow base 60 3 (.slice (some ⟨g, 0, none⟩) (n - 1) cap) (n - 1) (cellsM (m.eraseIdx k)) := by
    have hel : (m.eraseIdx k).length = n - 1 := by rw [List.length_eraseIdx_of_lt (by omega), hn]
    refine ⟨by rw [cellsM_len, hel], .inr ⟨g, cap, cur2, rfl, hb, hb2, by omega, hcm, by omega, ?_⟩⟩
    apply List.ext_getElem?
    intro p
    by_cases hp : p < (n - 1) * 3
    · rw [List.getElem?_take, if_pos hp, Array.getElem?_toList, hc2 p, if_neg (by omega), hc1 p]
      rw [List.eraseIdx_eq_take_drop_succ, cellsM_append, ← hnews, cellsM_take _ _ (by omega)]
      have hl : ((cellsM m).take (k * 3)).length = k * 3 := by rw [List.length_take, cellsM_len]; omega
      by_cases hp2 : k * 3 ≤ p
      · rw [if_pos ⟨by omega, by rw [hlen]; omega, by omega⟩, List.getElem?_append_right (by omega), hl, Nat.zero_add]
      · rw [if_neg (by omega), List.getElem?_append_left (by omega), List.getElem?_take, if_pos (by omega), hget p (by omega)]
    · rw [List.getElem?_eq_none (by rw [List.length_take]; omega), List.getElem?_eq_none (by rw [cellsM_len, hel]; omega)]
  have HF := Lib.hid hfin
  have HO := Lib.hid ho2
  have hW := Lib.hid hW1
  have HA := Lib.hid hA
  have k0 : (0 : Int) ≤ (k : Int) := by omega
  have k1 : (k : Int) + 1 ≤ (n : Int) := by omega
  have k2 : (n : Int) ≤ (cap : Int) := by omega
  have hkc : k ≤ cap := by omega
  have hkc1 : k + 1 ≤ cap := by omega
  have hkn : k + 1 ≤ n := by omega
  have hcl63 : (cap : Int) ≤ 9223372036854775807 := by unfold maxLen at hcm; omega
  have hne : ((k : Int) == ((k + 1 : Nat) : Int)) = false := by simp; omega
  clear hfin ho2 hW1 hb1 hs1 hc1 ho1 hb2 hs2 hc2 hget hlen hnd hnews hh htk hsz h hA
  go_enter Try.func30, Try.ntmps30
  go_upto_region 5 with fail
  have hA2 := HA.out
  have h263 : (k : Int) + 1 ≤ (cap : Int) := by omega
  have h264 : (0 : Int) ≤ (k : Int) + 1 := by omega
  go_region_law (refine step_append_room rfl (.tmp 22) (.tmp 25) 53 rfl 60 i0 3 Try.underlying53 hi0 hz1 g 0 k cap (by simp [Act.eval, Act.put]) A (n - (k + 1)) (cap - (k + 1)) news (by simp [Act.eval, Act.put]) s1.out hsrc.out s2.out (by omega) s3.out ?_; rw [← hW.out])
  have e1 : k + (n - (k + 1)) = n - 1 := by omega
  rw [e1]
  have e2 : ((n - 1 : Nat) : Int) ≤ (n : Int) := by omega
  have e3 : (0 : Int) ≤ ((n - 1 : Nat) : Int) := by omega
  have e4 : n - (n - 1) = 1 := by omega
  have e5 : ¬ cap = n - 1 := by omega
  go_wp2
  go_ret
  exact ⟨rfl, HF.out, HO.out⟩
end Net
end Go.Proofs.Ytebkpjefdaieaaa
