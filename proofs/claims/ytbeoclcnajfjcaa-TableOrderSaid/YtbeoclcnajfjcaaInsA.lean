/-
  slices.Insert and slices.Delete at routes: rows of cells spliced, runs of copy, append, clear. Conditions: those that each theorem names.
-/
import Derived.Test.YtbeoclcnajfjcaaTabF
import Derived.Shelf.Spec.SlicesInsertGrow
namespace Go.Proofs.Ytbeoclcnajfjcaa
open Go Go.RowKit H2
set_option linter.unusedVariables false
set_option linter.unusedSimpArgs false
namespace Tab
theorem splice_list (cur : Array Value) (o : Nat) (vs : List Value) : (splice cur o vs).toList = cur.toList.take o ++ vs ++ cur.toList.drop (o + vs.length) := by simp [splice]
/-- shifted by one route, and one laid in -/
theorem splice_ins (cur : Array Value) (L : List Rt) (r : Rt) (i : Nat) (hi : i ≤ L.length) (hs : (L.length + 1) * 20 ≤ cur.size) (ht : cur.toList.take (L.length * 20) = flat L) :
    (splice (splice cur ((i + 1) * 20) (flat (L.drop i))) (i * 20) (encR r)).toList.take ((L.length + 1) * 20) = flat (L.take i ++ r :: L.drop i) := by
  have hl : cur.toList.length = cur.size := by simp
  have hd : (flat (L.drop i)).length = (L.length - i) * 20 := by rw [flat_len, List.length_drop]
  have h1 : (splice cur ((i + 1) * 20) (flat (L.drop i))).toList = cur.toList.take ((i + 1) * 20) ++ (flat (L.drop i) ++ cur.toList.drop ((L.length + 1) * 20)) := by
    rw [splice_list, List.append_assoc, hd, show (i + 1) * 20 + (L.length - i) * 20 = (L.length + 1) * 20 by omega]
  have h2 : cur.toList.take (i * 20) = flat (L.take i) := by
    rw [← flat_take, ← ht, List.take_take, show min (i * 20) (L.length * 20) = i * 20 by omega]
  have hlen1 : (cur.toList.take ((i + 1) * 20)).length = (i + 1) * 20 := by rw [List.length_take, hl]; omega
  have hA : (cur.toList.take ((i + 1) * 20) ++ (flat (L.drop i) ++ cur.toList.drop ((L.length + 1) * 20))).take (i * 20) = flat (L.take i) := by
    rw [List.take_append_of_le_length (by rw [hlen1]; omega), List.take_take, show min (i * 20) ((i + 1) * 20) = i * 20 by omega, h2]
  have hB : (cur.toList.take ((i + 1) * 20) ++ (flat (L.drop i) ++ cur.toList.drop ((L.length + 1) * 20))).drop ((i + 1) * 20) = flat (L.drop i) ++ cur.toList.drop ((L.length + 1) * 20) := by
    rw [List.drop_append, hlen1, Nat.sub_self, List.drop_zero, List.drop_of_length_le (by rw [hlen1]; exact Nat.le_refl _), List.nil_append]
  rw [splice_list, h1, encR_len, show i * 20 + 20 = (i + 1) * 20 by omega, hA, hB]
  have h3 : (flat (L.take i) ++ encR r ++ flat (L.drop i)).length = (L.length + 1) * 20 := by
    rw [List.length_append, List.length_append, flat_len, encR_len, hd, List.length_take]; omega
  rw [← List.append_assoc, ← h3, List.take_left, flat_app, flat_cons, List.append_assoc]
/-- laid behind what stands ahead, then what stands behind -/
theorem splice_grow (row : Array Value) (L : List Rt) (r : Rt) (i : Nat) (hi : i ≤ L.length) (hs : (L.length + 1) * 20 ≤ row.size) (ht : row.toList.take (i * 20) = flat (L.take i)) :
    (splice (splice row (i * 20) (encR r)) ((i + 1) * 20) (flat (L.drop i))).toList.take ((L.length + 1) * 20) = flat (L.take i ++ r :: L.drop i) := by
  have hl : row.toList.length = row.size := by simp
  have hd : (flat (L.drop i)).length = (L.length - i) * 20 := by rw [flat_len, List.length_drop]
  have h1 : (splice row (i * 20) (encR r)).toList = (flat (L.take i) ++ encR r) ++ row.toList.drop ((i + 1) * 20) := by
    rw [splice_list, ht, encR_len, show i * 20 + 20 = (i + 1) * 20 by omega]
  have h4 : (flat (L.take i) ++ encR r).length = (i + 1) * 20 := by rw [List.length_append, flat_len, encR_len, List.length_take]; omega
  rw [splice_list, h1, ← h4, List.take_left]
  have h3 : ((flat (L.take i) ++ encR r) ++ flat (L.drop i)).length = (L.length + 1) * 20 := by rw [List.length_append, h4, hd]; omega
  rw [← h3, List.take_left, flat_app, flat_cons, List.append_assoc]
/-- what stands behind laid over one that goes -/
theorem splice_del (cur : Array Value) (L : List Rt) (i : Nat) (hi : i < L.length) (hs : L.length * 20 ≤ cur.size) (ht : cur.toList.take (L.length * 20) = flat L) (z : List Value) :
    (splice (splice cur (i * 20) (flat (L.drop (i + 1)))) ((L.length - 1) * 20) z).toList.take ((L.length - 1) * 20) = flat (L.take i ++ L.drop (i + 1)) := by
  have hl : cur.toList.length = cur.size := by simp
  have hd : (flat (L.drop (i + 1))).length = (L.length - (i + 1)) * 20 := by rw [flat_len, List.length_drop]
  have h2 : cur.toList.take (i * 20) = flat (L.take i) := by
    rw [← flat_take, ← ht, List.take_take, show min (i * 20) (L.length * 20) = i * 20 by omega]
  have h1 : (splice cur (i * 20) (flat (L.drop (i + 1)))).toList = (flat (L.take i) ++ flat (L.drop (i + 1))) ++ cur.toList.drop ((L.length - 1) * 20) := by
    rw [splice_list, h2, hd, show i * 20 + (L.length - (i + 1)) * 20 = (L.length - 1) * 20 by omega]
  have h3 : (flat (L.take i) ++ flat (L.drop (i + 1))).length = (L.length - 1) * 20 := by rw [List.length_append, hd, flat_len, List.length_take]; omega
  rw [splice_list, h1, ← h3, List.take_left, List.append_assoc, List.take_left, flat_app]
theorem infoR20 : (Try.prog.info? 34).map (·.size) = some 20 := by kernel_rfl
theorem copy_run (w : World) (ty : TypeId) (g o dLen dCap : Nat) (a : Addr) (sLen sCap : Nat) (cur : Array Value) (M : List Rt)
    (hg : w.heap[g]? = some (.cells cur 34 (0, 0))) (hn : M.length = Nat.min sLen dLen) (hsrc : ∀ j v, (flat M)[j]? = some v → w.cell? (a.add j) = some v) (hfit : o + M.length * 20 ≤ cur.size) :
    (Builtin.copy_ #[31, 31] ty #[.slice (some ⟨g, o, none⟩) dLen dCap, .slice (some a) sLen sCap]).run Try.prog w = .ok (.int .i64 M.length) (w.setRow g (splice cur o (flat M))) := by
  have hl := run_loadCells_list (P := Try.prog) w a (flat M) hsrc
  rw [flat_len] at hl
  have hst := store_row (o := o) (vs := flat M) hg (by rw [flat_len]; exact hfit) (flat_one' M) Try.prog
  have hi := infoR20
  cases hq : Try.prog.info? 34 with
  | none => rw [hq] at hi; cases hi
  | some i =>
    have hs : i.size = 20 := by rw [hq] at hi; simpa using hi
    have hu : Try.prog.underlying 31 = some (.slice 34) := Try.underlying31
    rw [Builtin.copy_]
    simp [run_underlying hu, Builtin.lenOf, Builtin.firstCells, Go.sizeOf, typeInfo, hq, hs, ← hn, hl, hst, goInt, flat_len]
theorem clear_run (w : World) (ty : TypeId) (g o cap : Nat) (cur : Array Value) (hg : w.heap[g]? = some (.cells cur 34 (0, 0))) (hfit : o + 20 ≤ cur.size) :
    (Builtin.clear_ #[31] ty #[.slice (some ⟨g, o, none⟩) 1 cap]).run Try.prog w = .ok (.tuple #[]) (w.setRow g (splice cur o (encR zR))) := by
  have hst := store_row (o := o) (vs := encR zR) hg (by rw [encR_len]; exact hfit) (encR_one zR) Try.prog
  have hu : Try.prog.underlying 31 = some (.slice 34) := Try.underlying31
  have hz : (Builtin.zeroCells (encR zR).toArray 1).toList = encR zR := by kernel_rfl
  rw [Builtin.clear_]
  simp [run_underlying hu, Value.cells, hz, hst]
end Tab
end Go.Proofs.Ytbeoclcnajfjcaa
