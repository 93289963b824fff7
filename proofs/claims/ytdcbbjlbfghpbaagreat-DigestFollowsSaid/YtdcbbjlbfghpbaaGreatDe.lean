/-
  Joined texts: PByt PBytR MarkA. Conditions: those that each theorem names.
-/
import Derived.Test.YtdcbbjlbfghpbaaGreatDd
import Derived.Test.YtdcbbjlbfghpbaaGreatDb
/-
  A prefix's bytes: the program's, the document's. Conditions: those that each theorem names.
-/
namespace Go.Proofs.YtdcbbjlbfghpbaaGreat
open Go Go.RowKit H2
set_option linter.unusedVariables false
set_option linter.unusedSimpArgs false
namespace Dig
open Tab Byt
theorem right_len {p : Pf} (h : rightP p = true) : 0 ≤ p.len ∧ p.len ≤ 128 ∧ (p.six = false → p.len ≤ 32) := by
  unfold rightP at h
  simp only [Bool.and_eq_true, decide_eq_true_eq] at h
  have h2 := h.1.2
  unfold most at h2
  refine ⟨h.1.1, ?_, fun e => ?_⟩
  · split at h2 <;> omega
  · rw [e, if_neg (by decide)] at h2; exact h2
/-- the first byte -/
def hd (p : Pf) : UInt8 := UInt8.ofNat (p.len + 64 * kindOf p.six).toNat
/-- how many bytes of the address are told -/
def kb (p : Pf) : Nat := (p.len.toNat + 7) / 8
/-- a prefix's bytes -/
def pb (p : Pf) : List UInt8 := hd p :: p.addr.toList.take (kb p)
theorem kind_cases (b : Bool) : kindOf b = 0 ∨ kindOf b = 1 := by cases b <;> decide
theorem hd_nat {p : Pf} (h : rightP p = true) : ((hd p).toNat : Int) = p.len + 64 * kindOf p.six ∧ 0 ≤ p.len + 64 * kindOf p.six ∧ p.len + 64 * kindOf p.six ≤ 192 := by
  obtain ⟨h1, h2, _⟩ := right_len h
  have h3 := kind_cases p.six
  unfold hd
  rw [UInt8.toNat_ofNat']
  omega
theorem kb_le {p : Pf} (h : rightP p = true) : kb p ≤ 16 := by
  obtain ⟨h1, h2, _⟩ := right_len h
  unfold kb
  omega
theorem str_app (a b : List UInt8) : str a ++ str b = str (a ++ b) := by
  unfold str
  apply ByteArray.ext
  simp
theorem str_size (a : List UInt8) : (str a).size = a.length := by simp [str, ByteArray.size]
theorem str_nil : str [] = ByteArray.empty := rfl
/-- the first bytes of an address, read as a text -/
theorem conv_addr {w : World} {B k : Nat} {p : Pf} (h : PAt w B 0 p) (hk : k ≤ 16) : (convert 87 9 (.slice (some ⟨B, 1, none⟩) k 16)).run Tryz.prog w = .ok (.string (str (p.addr.toList.take k))) w := by
  have := run_convert_bytes_arg (P := Tryz.prog) w 87 5 Tryz.underlying87 Tryz.underlying5 B 1 k 16 ((p.addr.toList.take k).map fun c => (c.toNat : Int)) (by simp; omega) (fun i hi => by
    have e := h.addr i _ (encA_get p.addr i (by omega))
    rw [Nat.zero_add] at e
    have e2 : (p.addr.toList.take k)[i]? = some p.addr[i] := by
      rw [List.getElem?_take, if_pos hi, List.getElem?_eq_getElem (by simp; omega)]
      simp
    rw [e]
    simp only [List.getD, List.getElem?_map, e2, Option.map_some, Option.getD_some]) _ Tryz.underlying9
  rw [str_nums] at this
  exact this
set_option maxRecDepth 100000 in
set_option maxHeartbeats 4000000 in
theorem bytes_not (p : Pf) (hp : rightP p = false) (w : World) : Calls Tryz.prog 52 #[.agg (encP p).toArray] w fun e w' => e = .returned (.string (str [])) ∧ Below w.heap.size w w' := by
  have HV := Lib.hid hp
  clear hp
  go_enter Tryz.func52, Tryz.ntmps52
  go_upto_region 1 with fail
  have H := Lib.hid (PAt.mk (at_new w (encP p) 33 (0, 0)))
  have hb := Lib.hid (show Below w.heap.size w (w.alloc (.cells (encP p).toArray 33 (0, 0))) from (Below.refl _ _).alloc (Nat.le_refl _) _)
  generalize w.alloc _ = W at H hb ⊢
  generalize w.heap.size = B at H ⊢
  have c0 := H.out.all.load (k := n18) (encP_n _) Tryz.prog
  go_wp2_with (go_at_call 33; (with_reducible refine (rightP_any _ _).mono ?_); rintro e w3 ⟨rfl, hb3⟩; rw [HV.out]; have hb := Lib.hid (hb.out.trans (hb3.mono hb.out.size)); clear hb3 c0)
  go_ret
  exact ⟨rfl, hb.out⟩
set_option maxRecDepth 100000 in
set_option maxHeartbeats 8000000 in
theorem bytes_any (p : Pf) (hp : rightP p = true) (w : World) : Calls Tryz.prog 52 #[.agg (encP p).toArray] w fun e w' => e = .returned (.string (str (pb p))) ∧ Below w.heap.size w w' := by
  have HV := Lib.hid hp
  obtain ⟨l1, l2, _⟩ := right_len hp
  have hh := hd_nat hp
  have hk16 := kb_le hp
  obtain ⟨k, hk⟩ : ∃ k, kb p = k := ⟨_, rfl⟩
  have hkk : k = (p.len.toNat + 7) / 8 := hk ▸ rfl
  rw [hk] at hk16
  have HPB := Lib.hid (show pb p = [hd p] ++ p.addr.toList.take k by unfold pb; rw [hk]; rfl)
  have HKD := Lib.hid (kind_cases p.six)
  clear hp hk
  obtain ⟨n, hn⟩ : ∃ n, p.len = n := ⟨_, rfl⟩
  have HN := Lib.hid hn
  obtain ⟨q, hq⟩ : ∃ q, kindOf p.six = q := ⟨_, rfl⟩
  have HQ := Lib.hid hq
  have HKQ := HKD.out
  obtain ⟨h8, hh8⟩ : ∃ h, hd p = h := ⟨_, rfl⟩
  rw [hq] at hh HKQ
  rw [hn] at l1 l2 hkk hh
  rw [hh8] at hh HPB
  have hk1 : IntKind.i64.wrap (n + 7) = n + 7 := IntWalk.i64_in _ (by omega)
  have hk2 : (n + 7).tdiv 8 = (k : Int) := by rw [Int.tdiv_eq_ediv_of_nonneg (by omega)]; omega
  have hk3 : IntKind.i64.wrap (k : Int) = (k : Int) := IntWalk.i64_in _ (by omega)
  have hk4 : (0 : Int) ≤ (k : Int) := by omega
  have hk5 : (k : Int) ≤ 16 := by omega
  have hq1 : IntKind.i64.wrap (64 * q) = 64 * q := IntWalk.i64_in _ (by omega)
  have hq2 : IntKind.i64.wrap (n + 64 * q) = n + 64 * q := IntWalk.i64_in _ (by omega)
  have hq3 : IntKind.u8.wrap (n + 64 * q) = (h8.toNat : Int) := by rw [hh.1]; simp [IntKind.wrap, IntKind.bits, IntKind.signed]; omega
  have E8 := Lib.hid (show u8 h8 = .int .u8 (n + 64 * q) by unfold u8; rw [hh.1])
  clear hn hq hh8 hkk
  go_enter Tryz.func52, Tryz.ntmps52
  go_upto_region 1 with fail
  have H := Lib.hid (PAt.mk (at_new w (encP p) 33 (0, 0)))
  have hb := Lib.hid (show Below w.heap.size w (w.alloc (.cells (encP p).toArray 33 (0, 0))) from (Below.refl _ _).alloc (Nat.le_refl _) _)
  generalize w.alloc _ = W at H hb ⊢
  generalize w.heap.size = B at H ⊢
  have c0 := H.out.all.load (k := n18) (encP_n _) Tryz.prog
  go_upto_region 3 with (go_at_call 33; (with_reducible refine (rightP_any _ _).mono ?_); rintro e w3 ⟨rfl, hb3⟩; rw [HV.out]; have H := Lib.hid (H.out.below hb3).drew; have hb := Lib.hid (hb.out.trans (hb3.mono hb.out.size)).drew; clear hb3 c0)
  refine wp_region_held_drew (S := (fun w' => PAt w' B 0 p)) (by kernel_rfl) H.out (fun _ => ?_)
  refine held_take 0 6 (v := ?_) rfl rfl (by kernel_rfl) (by kernel_rfl) (by kernel_rfl) (fun _ _ _ h => h) (by rfl) ?_ H.out ?_
  rotate_left
  · (intro w hSw; (try dsimp only at hSw); have a0 := hSw.len; rw [HN.out] at a0; have a1 := hSw.all.load (k := n18) (encP_n _) Tryz.prog; have a2 := conv_addr hSw hk16; clear hSw;try simp only [List.getElem_toArray, List.getElem_cons_zero, List.getElem_cons_succ]; go_simp; try (with_reducible rfl))
  try simp only [List.setIfInBounds_toArray, List.set_cons_zero, List.set_cons_succ]
  refine held_take 1 7 (v := ?_) rfl rfl (by kernel_rfl) (by kernel_rfl) (by kernel_rfl) (fun _ _ _ h => h) (by rfl) ?_ H.out ?_
  rotate_left
  · (intro w hSw; (try dsimp only at hSw); have a0 := hSw.len; rw [HN.out] at a0; have a1 := hSw.all.load (k := n18) (encP_n _) Tryz.prog; have a2 := conv_addr hSw hk16; clear hSw;try simp only [List.getElem_toArray, List.getElem_cons_zero, List.getElem_cons_succ]; go_simp; try (with_reducible rfl))
  try simp only [List.setIfInBounds_toArray, List.set_cons_zero, List.set_cons_succ]
  refine held_take 2 8 (v := ?_) rfl rfl (by kernel_rfl) (by kernel_rfl) (by kernel_rfl) (fun _ _ _ h => h) (by rfl) ?_ H.out ?_
  rotate_left
  · (intro w hSw; (try dsimp only at hSw); have a0 := hSw.len; rw [HN.out] at a0; have a1 := hSw.all.load (k := n18) (encP_n _) Tryz.prog; have a2 := conv_addr hSw hk16; clear hSw;try simp only [List.getElem_toArray, List.getElem_cons_zero, List.getElem_cons_succ]; go_simp; try (with_reducible rfl))
  try simp only [List.setIfInBounds_toArray, List.set_cons_zero, List.set_cons_succ]
  refine held_take 9 15 (v := ?_) rfl rfl (by kernel_rfl) (by kernel_rfl) (by kernel_rfl) (fun _ _ _ h => h) (by rfl) ?_ H.out ?_
  rotate_left
  · (intro w hSw; (try dsimp only at hSw); have a0 := hSw.len; rw [HN.out] at a0; have a1 := hSw.all.load (k := n18) (encP_n _) Tryz.prog; have a2 := conv_addr hSw hk16; clear hSw;try simp only [List.getElem_toArray, List.getElem_cons_zero, List.getElem_cons_succ]; go_simp; try (with_reducible rfl))
  try simp only [List.setIfInBounds_toArray, List.set_cons_zero, List.set_cons_succ]
  refine held_take 10 16 (v := ?_) rfl rfl (by kernel_rfl) (by kernel_rfl) (by kernel_rfl) (fun _ _ _ h => h) (by rfl) ?_ H.out ?_
  rotate_left
  · (intro w hSw; (try dsimp only at hSw); have a0 := hSw.len; rw [HN.out] at a0; have a1 := hSw.all.load (k := n18) (encP_n _) Tryz.prog; have a2 := conv_addr hSw hk16; clear hSw;try simp only [List.getElem_toArray, List.getElem_cons_zero, List.getElem_cons_succ]; go_simp; try (with_reducible rfl))
  try simp only [List.setIfInBounds_toArray, List.set_cons_zero, List.set_cons_succ]
  refine held_take 11 17 (v := ?_) rfl rfl (by kernel_rfl) (by kernel_rfl) (by kernel_rfl) (fun _ _ _ h => h) (by rfl) ?_ H.out ?_
  rotate_left
  · (intro w hSw; (try dsimp only at hSw); have a0 := hSw.len; rw [HN.out] at a0; have a1 := hSw.all.load (k := n18) (encP_n _) Tryz.prog; have a2 := conv_addr hSw hk16; clear hSw;try simp only [List.getElem_toArray, List.getElem_cons_zero, List.getElem_cons_succ]; go_simp; try (with_reducible rfl))
  try simp only [List.setIfInBounds_toArray, List.set_cons_zero, List.set_cons_succ]
  refine held_take 12 18 (v := ?_) rfl rfl (by kernel_rfl) (by kernel_rfl) (by kernel_rfl) (fun _ _ _ h => h) (by rfl) ?_ H.out ?_
  rotate_left
  · (intro w hSw; (try dsimp only at hSw); have a0 := hSw.len; rw [HN.out] at a0; have a1 := hSw.all.load (k := n18) (encP_n _) Tryz.prog; have a2 := conv_addr hSw hk16; clear hSw;try simp only [List.getElem_toArray, List.getElem_cons_zero, List.getElem_cons_succ]; go_simp; try (with_reducible rfl))
  try simp only [List.setIfInBounds_toArray, List.set_cons_zero, List.set_cons_succ]
  refine held_take 13 19 (v := ?_) rfl rfl (by kernel_rfl) (by kernel_rfl) (by kernel_rfl) (fun _ _ _ h => h) (by rfl) ?_ H.out ?_
  rotate_left
  · (intro w hSw; (try dsimp only at hSw); have a0 := hSw.len; rw [HN.out] at a0; have a1 := hSw.all.load (k := n18) (encP_n _) Tryz.prog; have a2 := conv_addr hSw hk16; clear hSw;try simp only [List.getElem_toArray, List.getElem_cons_zero, List.getElem_cons_succ]; go_simp; try (with_reducible rfl))
  try simp only [List.setIfInBounds_toArray, List.set_cons_zero, List.set_cons_succ]
  refine held_take 14 20 (v := ?_) rfl rfl (by kernel_rfl) (by kernel_rfl) (by kernel_rfl) (fun _ _ _ h => h) (by rfl) ?_ H.out ?_
  rotate_left
  · (intro w hSw; (try dsimp only at hSw); have a0 := hSw.len; rw [HN.out] at a0; have a1 := hSw.all.load (k := n18) (encP_n _) Tryz.prog; have a2 := conv_addr hSw hk16; clear hSw;try simp only [List.getElem_toArray, List.getElem_cons_zero, List.getElem_cons_succ]; go_simp; try (with_reducible rfl))
  try simp only [List.setIfInBounds_toArray, List.set_cons_zero, List.set_cons_succ]
  refine held_take 15 21 (v := ?_) rfl rfl (by kernel_rfl) (by kernel_rfl) (by kernel_rfl) (fun _ _ _ h => h) (by rfl) ?_ H.out ?_
  rotate_left
  · (intro w hSw; (try dsimp only at hSw); have a0 := hSw.len; rw [HN.out] at a0; have a1 := hSw.all.load (k := n18) (encP_n _) Tryz.prog; have a2 := conv_addr hSw hk16; clear hSw;try simp only [List.getElem_toArray, List.getElem_cons_zero, List.getElem_cons_succ]; go_simp; try (with_reducible rfl))
  try simp only [List.setIfInBounds_toArray, List.set_cons_zero, List.set_cons_succ]
  refine held_call 3 9 rfl rfl (by kernel_rfl) (by rfl) (fun K hK => ?_)
  try simp only [List.getElem_toArray, List.getElem_cons_zero, List.getElem_cons_succ]
  go_simp
  (go_at_call 60; (with_reducible refine (kind_any _ _).mono ?_); rintro e w4 ⟨rfl, hb3⟩; rw [HQ.out]; have H := Lib.hid (H.out.below hb3.bel); have hb := Lib.hid (hb.out.trans (hb3.bel.mono hb.out.size)); clear hb3)
  try go_wp2_with fail
  try simp only [Act.put, List.setIfInBounds_toArray, List.set_cons_zero, List.set_cons_succ]
  refine hK.out _ _ _ H.out ?_
  clear hK K
  refine held_take 4 10 (v := ?_) rfl rfl (by kernel_rfl) (by kernel_rfl) (by kernel_rfl) (fun _ _ _ h => h) (by rfl) ?_ H.out ?_
  rotate_left
  · (intro w hSw; (try dsimp only at hSw); have a0 := hSw.len; rw [HN.out] at a0; have a1 := hSw.all.load (k := n18) (encP_n _) Tryz.prog; have a2 := conv_addr hSw hk16; clear hSw;try simp only [List.getElem_toArray, List.getElem_cons_zero, List.getElem_cons_succ]; go_simp; try (with_reducible rfl))
  try simp only [List.setIfInBounds_toArray, List.set_cons_zero, List.set_cons_succ]
  refine held_take 5 11 (v := ?_) rfl rfl (by kernel_rfl) (by kernel_rfl) (by kernel_rfl) (fun _ _ _ h => h) (by rfl) ?_ H.out ?_
  rotate_left
  · (intro w hSw; (try dsimp only at hSw); have a0 := hSw.len; rw [HN.out] at a0; have a1 := hSw.all.load (k := n18) (encP_n _) Tryz.prog; have a2 := conv_addr hSw hk16; clear hSw;try simp only [List.getElem_toArray, List.getElem_cons_zero, List.getElem_cons_succ]; go_simp; try (with_reducible rfl))
  try simp only [List.setIfInBounds_toArray, List.set_cons_zero, List.set_cons_succ]
  refine held_take 6 12 (v := ?_) rfl rfl (by kernel_rfl) (by kernel_rfl) (by kernel_rfl) (fun _ _ _ h => h) (by rfl) ?_ H.out ?_
  rotate_left
  · (intro w hSw; (try dsimp only at hSw); have a0 := hSw.len; rw [HN.out] at a0; have a1 := hSw.all.load (k := n18) (encP_n _) Tryz.prog; have a2 := conv_addr hSw hk16; clear hSw;try simp only [List.getElem_toArray, List.getElem_cons_zero, List.getElem_cons_succ]; go_simp; try (with_reducible rfl))
  try simp only [List.setIfInBounds_toArray, List.set_cons_zero, List.set_cons_succ]
  refine held_call 7 13 rfl rfl (by kernel_rfl) (by rfl) (fun K hK => ?_)
  try simp only [List.getElem_toArray, List.getElem_cons_zero, List.getElem_cons_succ]
  (go_simp; have HO := Lib.hid (by_one w4 h8).own; rw [E8.out] at HO; have H := Lib.hid (H.out.below ((Below.refl w4.heap.size w4).alloc (Nat.le_refl _) (.cells #[.int .u8 (n + 64 * q)] 5 (0, 0)))); have hb := Lib.hid (hb.out.alloc hb.out.size (.cells #[.int .u8 (n + 64 * q)] 5 (0, 0))))
  try simp only [Act.put, List.setIfInBounds_toArray, List.set_cons_zero, List.set_cons_succ]
  refine hK.out _ _ _ H.out ?_
  clear hK K
  generalize hW : w4.alloc _ = W5 at H hb HO ⊢
  generalize w4.heap.size = B5 at HO ⊢
  clear hW
  refine held_mono (S' := (fun w' => By B5 w' (.slice (some ⟨B5, 0, none⟩) 1 1) [h8] ∧ PAt w' B 0 p)) (fun _ h => h.2) _ _ _ _ ?_
  have hs1 : ¬ 9223372036854775807 < (str [h8]).size + (str (p.addr.toList.take k)).size := by rw [str_size, str_size, List.length_take]; simp; omega
  refine held_take 8 14 (v := ?_) rfl rfl (by kernel_rfl) (by kernel_rfl) (by kernel_rfl) (fun _ _ _ h => h) (by rfl) ?_ ⟨HO.out, H.out⟩ ?_
  rotate_left
  · (intro w hSw; (try dsimp only at hSw); have a0 := conv_by hSw.1; clear hSw;try simp only [List.getElem_toArray, List.getElem_cons_zero, List.getElem_cons_succ]; go_simp; try (with_reducible rfl))
  try simp only [List.setIfInBounds_toArray, List.set_cons_zero, List.set_cons_succ]
  refine held_take 16 22 (v := ?_) rfl rfl (by kernel_rfl) (by kernel_rfl) (by kernel_rfl) (fun _ _ _ h => h) (by rfl) ?_ ⟨HO.out, H.out⟩ ?_
  rotate_left
  · (intro w hSw; (try dsimp only at hSw); have a0 := conv_by hSw.1; clear hSw;try simp only [List.getElem_toArray, List.getElem_cons_zero, List.getElem_cons_succ]; go_simp; try (with_reducible rfl))
  try simp only [List.setIfInBounds_toArray, List.set_cons_zero, List.set_cons_succ]
  refine held_take 17 2 (v := ?_) rfl rfl (by kernel_rfl) (by kernel_rfl) (by kernel_rfl) (fun _ _ _ h => h) (by rfl) ?_ ⟨HO.out, H.out⟩ ?_
  rotate_left
  · (intro w hSw; (try dsimp only at hSw); have a0 := conv_by hSw.1; clear hSw;try simp only [List.getElem_toArray, List.getElem_cons_zero, List.getElem_cons_succ]; go_simp; try (with_reducible rfl))
  try simp only [List.setIfInBounds_toArray, List.set_cons_zero, List.set_cons_succ]
  refine wpAnyH_done (by kernel_rfl) ?_ _
  go_wp2
  go_ret
  rw [HPB.out, ← str_app]
  exact ⟨rfl, hb.out⟩
end Dig
end Go.Proofs.YtdcbbjlbfghpbaaGreat

/-
  The document's bytes of a prefix, of a number. Conditions: those that each theorem names.
-/
namespace Go.Proofs.YtdcbbjlbfghpbaaGreat
open Go Go.RowKit H2
set_option linter.unusedVariables false
set_option linter.unusedSimpArgs false
namespace Dig
open Tab Byt
set_option maxRecDepth 100000 in
set_option maxHeartbeats 8000000 in
theorem refBytes_any (p : Pf) (hp : rightP p = true) (w : World) : Calls Tryz.prog 70 #[.agg (encP p).toArray] w fun e w' => e = .returned (.string (str (pb p))) ∧ Below w.heap.size w w' := by
  obtain ⟨l1, l2, _⟩ := right_len hp
  have hh := hd_nat hp
  have hk16 := kb_le hp
  obtain ⟨k, hk⟩ : ∃ k, kb p = k := ⟨_, rfl⟩
  have hkk : k = (p.len.toNat + 7) / 8 := hk ▸ rfl
  rw [hk] at hk16
  have HPB := Lib.hid (show pb p = [hd p] ++ p.addr.toList.take k by unfold pb; rw [hk]; rfl)
  clear hp hk
  obtain ⟨n, hn⟩ : ∃ n, p.len = n := ⟨_, rfl⟩
  have HN := Lib.hid hn
  obtain ⟨b, hb6⟩ : ∃ b, p.six = b := ⟨_, rfl⟩
  have HQ := Lib.hid hb6
  obtain ⟨h8, hh8⟩ : ∃ h, hd p = h := ⟨_, rfl⟩
  rw [hb6] at hh
  rw [hn] at l1 l2 hkk hh
  rw [hh8] at hh HPB
  have HK := Lib.hid (show ∀ i : Nat, 8 * (i : Int) < n ↔ i < k from fun i => by omega)
  clear hn hb6 hh8 hkk
  cases b with
  | true =>
    have E8 := Lib.hid (show u8 h8 = .int .u8 (n + 64) by unfold u8; rw [hh.1]; first | rfl | (unfold kindOf; simp))
    have hq2 : IntKind.i64.wrap (n + 64) = n + 64 := IntWalk.i64_in _ (by omega)
    have hq3 : IntKind.u8.wrap (n + 64) = (n + 64) := by have := hh.2; unfold kindOf at this; simp at this; simp [IntKind.wrap, IntKind.bits, IntKind.signed]; omega
    clear hh
    go_enter Tryz.func70, Tryz.ntmps70
    go_upto_region 1 with fail
    have H := Lib.hid (PAt.mk (at_new w (encP p) 33 (0, 0)))
    have hb := Lib.hid (show Below w.heap.size w (w.alloc (.cells (encP p).toArray 33 (0, 0))) from (Below.refl _ _).alloc (Nat.le_refl _) _)
    generalize w.alloc _ = W at H hb ⊢
    generalize w.heap.size = B at H ⊢
    have z0 := H.out.six
    rw [HQ.out] at z0
    have z1 := H.out.len
    rw [HN.out] at z1
    go_wp2
    have HG0 := Lib.hid (by_one W h8)
    rw [E8.out] at HG0
    clear z0 z1
    go_loopw [4, 5] (fun s4 s5 wr => ∃ i : Nat, i ≤ k ∧ s5 = .int .i64 i ∧ Gb W wr s4 ([h8] ++ p.addr.toList.take i) ∧ (∃ x y z, s4 = .slice x y z)) (fun s4 s5 _ => k - (intOf s5).toNat)
    case atStart => exact ⟨0, by omega, rfl, by rw [List.take_zero, List.append_nil]; exact HG0.out, _, _, _, rfl⟩
    case round =>
      clear HG0
      obtain ⟨i, hi, rfl, hg, x4, y4, z4, rfl⟩ := hrel
      have HG := Lib.hid hg
      clear hg
      have i0 : (0 : Int) ≤ (i : Int) := by omega
      have hi8 : IntKind.i64.wrap (8 * (i : Int)) = 8 * (i : Int) := IntWalk.i64_in _ (by omega)
      have z1 := (H.out.below HG.out.bel).len
      rw [HN.out] at z1
      by_cases hlt : i < k
      · have hc := (HK.out i).2 hlt
        have hcd : decide (8 * (i : Int) < n) = true := decide_eq_true hc
        have hi16 : i < 16 := by omega
        have hi17 : (i : Int) < 16 := by omega
        have hi18 : 8 * (i : Int) < n := hc
        obtain ⟨c, hc8⟩ : ∃ c, p.addr[i] = c := ⟨_, rfl⟩
        have HT := Lib.hid (show [h8] ++ p.addr.toList.take (i + 1) = ([h8] ++ p.addr.toList.take i) ++ [c] by
          rw [List.append_assoc, ← List.take_append_getElem (show i < p.addr.toList.length by simp; omega)]
          simp [hc8])
        have z2 : wr.cell? ⟨B, 1 + i, none⟩ = some (.int .u8 (c.toNat : Int)) := by
          have := (H.out.below HG.out.bel).addr i _ (encA_get p.addr i hi16)
          rw [hc8, Nat.zero_add] at this
          exact this
        have HL := Lib.hid (show ([h8] ++ p.addr.toList.take i).length ≤ 10000 by simp; omega)
        clear hc hc8
        go_wp2_with (refine wpList_appB rfl (.tmp 22) (.tmp 27) rfl _ _ c rfl rfl HG.out HL.out ?_; rintro v7 w7 h7 ⟨x7, y7, z7, rfl⟩; have H7 := Lib.hid h7; clear h7)
        go_roundw
        case rel => exact ⟨i + 1, by omega, by go_num, by rw [HT.out]; exact H7.out, _, _, _, rfl⟩
        case measure => simp [intOf]; omega
      · obtain rfl : i = k := by omega
        have hc : ¬ 8 * (i : Int) < n := fun e => hlt ((HK.out i).1 e)
        have hcd : decide (8 * (i : Int) < n) = false := decide_eq_false hc
        have hcv := conv_by HG.out.own
        go_wp2
        go_ret
        rw [HPB.out]
        exact ⟨rfl, hb.out.trans (HG.out.bel.mono hb.out.size)⟩
  | false =>
    have E8 := Lib.hid (show u8 h8 = .int .u8 n by unfold u8; rw [hh.1]; first | rfl | (unfold kindOf; simp))
    have hq2 : IntKind.i64.wrap (n + 64) = n + 64 := IntWalk.i64_in _ (by omega)
    have hq3 : IntKind.u8.wrap n = n := by have := hh.2; unfold kindOf at this; simp at this; simp [IntKind.wrap, IntKind.bits, IntKind.signed]; omega
    clear hh
    go_enter Tryz.func70, Tryz.ntmps70
    go_upto_region 1 with fail
    have H := Lib.hid (PAt.mk (at_new w (encP p) 33 (0, 0)))
    have hb := Lib.hid (show Below w.heap.size w (w.alloc (.cells (encP p).toArray 33 (0, 0))) from (Below.refl _ _).alloc (Nat.le_refl _) _)
    generalize w.alloc _ = W at H hb ⊢
    generalize w.heap.size = B at H ⊢
    have z0 := H.out.six
    rw [HQ.out] at z0
    have z1 := H.out.len
    rw [HN.out] at z1
    go_wp2
    have HG0 := Lib.hid (by_one W h8)
    rw [E8.out] at HG0
    clear z0 z1
    go_loopw [4, 5] (fun s4 s5 wr => ∃ i : Nat, i ≤ k ∧ s5 = .int .i64 i ∧ Gb W wr s4 ([h8] ++ p.addr.toList.take i) ∧ (∃ x y z, s4 = .slice x y z)) (fun s4 s5 _ => k - (intOf s5).toNat)
    case atStart => exact ⟨0, by omega, rfl, by rw [List.take_zero, List.append_nil]; exact HG0.out, _, _, _, rfl⟩
    case round =>
      clear HG0
      obtain ⟨i, hi, rfl, hg, x4, y4, z4, rfl⟩ := hrel
      have HG := Lib.hid hg
      clear hg
      have i0 : (0 : Int) ≤ (i : Int) := by omega
      have hi8 : IntKind.i64.wrap (8 * (i : Int)) = 8 * (i : Int) := IntWalk.i64_in _ (by omega)
      have z1 := (H.out.below HG.out.bel).len
      rw [HN.out] at z1
      by_cases hlt : i < k
      · have hc := (HK.out i).2 hlt
        have hcd : decide (8 * (i : Int) < n) = true := decide_eq_true hc
        have hi16 : i < 16 := by omega
        have hi17 : (i : Int) < 16 := by omega
        have hi18 : 8 * (i : Int) < n := hc
        obtain ⟨c, hc8⟩ : ∃ c, p.addr[i] = c := ⟨_, rfl⟩
        have HT := Lib.hid (show [h8] ++ p.addr.toList.take (i + 1) = ([h8] ++ p.addr.toList.take i) ++ [c] by
          rw [List.append_assoc, ← List.take_append_getElem (show i < p.addr.toList.length by simp; omega)]
          simp [hc8])
        have z2 : wr.cell? ⟨B, 1 + i, none⟩ = some (.int .u8 (c.toNat : Int)) := by
          have := (H.out.below HG.out.bel).addr i _ (encA_get p.addr i hi16)
          rw [hc8, Nat.zero_add] at this
          exact this
        have HL := Lib.hid (show ([h8] ++ p.addr.toList.take i).length ≤ 10000 by simp; omega)
        clear hc hc8
        go_wp2_with (refine wpList_appB rfl (.tmp 22) (.tmp 27) rfl _ _ c rfl rfl HG.out HL.out ?_; rintro v7 w7 h7 ⟨x7, y7, z7, rfl⟩; have H7 := Lib.hid h7; clear h7)
        go_roundw
        case rel => exact ⟨i + 1, by omega, by go_num, by rw [HT.out]; exact H7.out, _, _, _, rfl⟩
        case measure => simp [intOf]; omega
      · obtain rfl : i = k := by omega
        have hc : ¬ 8 * (i : Int) < n := fun e => hlt ((HK.out i).1 e)
        have hcd : decide (8 * (i : Int) < n) = false := decide_eq_false hc
        have hcv := conv_by HG.out.own
        go_wp2
        go_ret
        rw [HPB.out]
        exact ⟨rfl, hb.out.trans (HG.out.bel.mono hb.out.size)⟩
/-- byte number i of a number, from the highest one on -/
def b8 (n : Int) (i : Nat) : UInt8 := UInt8.ofNat ((n / 2 ^ (8 * (7 - i))) % 256).toNat
def be8 (n : Int) : List UInt8 := (List.range 8).map (b8 n)
theorem b8_nat (n : Int) (i : Nat) : n / 2 ^ (8 * (7 - i)) % 256 = ((b8 n i).toNat : Int) := by
  unfold b8
  rw [UInt8.toNat_ofNat']
  omega
theorem be8_step (n : Int) {i : Nat} (hi : i < 8) : (be8 n).take (i + 1) = (be8 n).take i ++ [b8 n i] := by
  unfold be8
  rw [← List.take_append_getElem (show i < ((List.range 8).map (b8 n)).length by simp; omega)]
  simp
set_option maxRecDepth 100000 in
set_option maxHeartbeats 8000000 in
theorem eight_any (n : Int) (w : World) : Calls Tryz.prog 71 #[.int .u64 n] w fun e w' => e = .returned (.string (str (be8 n))) ∧ Below w.heap.size w w' := by
  have HS := Lib.hid (fun i (hi : i < 8) => be8_step n hi)
  have HZ := Lib.hid (show (be8 n).take 8 = be8 n from List.take_of_length_le (by simp [be8]))
  go_enter Tryz.func71, Tryz.ntmps71
  go_wp2
  have HG0 := Lib.hid (by_zero w)
  go_loopw [3, 4] (fun s3 s4 wr => ∃ i : Nat, i ≤ 8 ∧ s4 = .int .i64 (7 - (i : Int)) ∧ Gb w wr s3 ((be8 n).take i) ∧ (∃ x y z, s3 = .slice x y z)) (fun s3 s4 _ => (intOf s4 + 1).toNat)
  case atStart => exact ⟨0, by omega, rfl, by rw [List.take_zero]; exact HG0.out, _, _, _, rfl⟩
  case round =>
    clear HG0
    obtain ⟨i, hi, rfl, hg, x4, y4, z4, rfl⟩ := hrel
    have HG := Lib.hid hg
    have HL := Lib.hid (show ((be8 n).take i).length ≤ 10000 by rw [List.length_take]; omega)
    clear hg
    rcases i with _ | _ | _ | _ | _ | _ | _ | _ | _ | i
    · have HT := Lib.hid (HS.out 0 (by decide))
      go_wp2_with (refine wpList_appBv rfl (.tmp 10) (.tmp 16) rfl _ _ (b8 n 0) _ (by have := b8_nat n 0; simpa using this) rfl rfl HG.out HL.out ?_; rintro v7 w7 h7 ⟨x7, y7, z7, rfl⟩; have H7 := Lib.hid h7; clear h7)
      go_roundw
      case rel => exact ⟨0 + 1, by omega, by go_num, by rw [HT.out]; exact H7.out, _, _, _, rfl⟩
      case measure => simp [intOf]
    · have HT := Lib.hid (HS.out 1 (by decide))
      go_wp2_with (refine wpList_appBv rfl (.tmp 10) (.tmp 16) rfl _ _ (b8 n 1) _ (by have := b8_nat n 1; simpa using this) rfl rfl HG.out HL.out ?_; rintro v7 w7 h7 ⟨x7, y7, z7, rfl⟩; have H7 := Lib.hid h7; clear h7)
      go_roundw
      case rel => exact ⟨1 + 1, by omega, by go_num, by rw [HT.out]; exact H7.out, _, _, _, rfl⟩
      case measure => simp [intOf]
    · have HT := Lib.hid (HS.out 2 (by decide))
      go_wp2_with (refine wpList_appBv rfl (.tmp 10) (.tmp 16) rfl _ _ (b8 n 2) _ (by have := b8_nat n 2; simpa using this) rfl rfl HG.out HL.out ?_; rintro v7 w7 h7 ⟨x7, y7, z7, rfl⟩; have H7 := Lib.hid h7; clear h7)
      go_roundw
      case rel => exact ⟨2 + 1, by omega, by go_num, by rw [HT.out]; exact H7.out, _, _, _, rfl⟩
      case measure => simp [intOf]
    · have HT := Lib.hid (HS.out 3 (by decide))
      go_wp2_with (refine wpList_appBv rfl (.tmp 10) (.tmp 16) rfl _ _ (b8 n 3) _ (by have := b8_nat n 3; simpa using this) rfl rfl HG.out HL.out ?_; rintro v7 w7 h7 ⟨x7, y7, z7, rfl⟩; have H7 := Lib.hid h7; clear h7)
      go_roundw
      case rel => exact ⟨3 + 1, by omega, by go_num, by rw [HT.out]; exact H7.out, _, _, _, rfl⟩
      case measure => simp [intOf]
    · have HT := Lib.hid (HS.out 4 (by decide))
      go_wp2_with (refine wpList_appBv rfl (.tmp 10) (.tmp 16) rfl _ _ (b8 n 4) _ (by have := b8_nat n 4; simpa using this) rfl rfl HG.out HL.out ?_; rintro v7 w7 h7 ⟨x7, y7, z7, rfl⟩; have H7 := Lib.hid h7; clear h7)
      go_roundw
      case rel => exact ⟨4 + 1, by omega, by go_num, by rw [HT.out]; exact H7.out, _, _, _, rfl⟩
      case measure => simp [intOf]
    · have HT := Lib.hid (HS.out 5 (by decide))
      go_wp2_with (refine wpList_appBv rfl (.tmp 10) (.tmp 16) rfl _ _ (b8 n 5) _ (by have := b8_nat n 5; simpa using this) rfl rfl HG.out HL.out ?_; rintro v7 w7 h7 ⟨x7, y7, z7, rfl⟩; have H7 := Lib.hid h7; clear h7)
      go_roundw
      case rel => exact ⟨5 + 1, by omega, by go_num, by rw [HT.out]; exact H7.out, _, _, _, rfl⟩
      case measure => simp [intOf]
    · have HT := Lib.hid (HS.out 6 (by decide))
      go_wp2_with (refine wpList_appBv rfl (.tmp 10) (.tmp 16) rfl _ _ (b8 n 6) _ (by have := b8_nat n 6; simpa using this) rfl rfl HG.out HL.out ?_; rintro v7 w7 h7 ⟨x7, y7, z7, rfl⟩; have H7 := Lib.hid h7; clear h7)
      go_roundw
      case rel => exact ⟨6 + 1, by omega, by go_num, by rw [HT.out]; exact H7.out, _, _, _, rfl⟩
      case measure => simp [intOf]
    · have HT := Lib.hid (HS.out 7 (by decide))
      go_wp2_with (refine wpList_appBv rfl (.tmp 10) (.tmp 16) rfl _ _ (b8 n 7) _ (by have := b8_nat n 7; simpa using this) rfl rfl HG.out HL.out ?_; rintro v7 w7 h7 ⟨x7, y7, z7, rfl⟩; have H7 := Lib.hid h7; clear h7)
      go_roundw
      case rel => exact ⟨7 + 1, by omega, by go_num, by rw [HT.out]; exact H7.out, _, _, _, rfl⟩
      case measure => simp [intOf]
    · have hcv := conv_by HG.out.own
      go_wp2
      go_ret
      rw [← HZ.out]
      exact ⟨rfl, HG.out.bel⟩
    · omega
end Dig
end Go.Proofs.YtdcbbjlbfghpbaaGreat

/-
  A route's mark: the program's. Conditions: those that each theorem names.
-/
namespace Go.Proofs.YtdcbbjlbfghpbaaGreat
open Go Go.RowKit H2
set_option linter.unusedVariables false
set_option linter.unusedSimpArgs false
namespace Dig
open Tab Byt
def pbs (p : Pf) : List UInt8 := if rightP p = true then pb p else []
theorem pbs_len (p : Pf) : (pbs p).length ≤ 17 := by
  unfold pbs
  split
  · rename_i h
    have := kb_le h
    unfold pb
    simp
    omega
  · simp
def num16 (r : Rt) : List UInt8 := be8 (IntKind.u64.wrap r.metric) ++ be8 (IntKind.u64.wrap r.seq)
theorem be8_len (n : Int) : (be8 n).length = 8 := by simp [be8]
theorem num16_len (r : Rt) : (num16 r).length = 16 := by simp [num16, be8_len]
/-- what is mixed -/
def mby (r : Rt) : List UInt8 := pbs r.to ++ num16 r
def mixes (l : List UInt8) : Int := l.foldl (fun x c => mixI (bits BinOp.xor IntKind.u64 x (c.toNat : Int))) 0
/-- a route's mark -/
def mk (r : Rt) : Int := mixes (mby r)
theorem mby_len (r : Rt) : (mby r).length ≤ 33 := by have := pbs_len r.to; simp [mby, num16_len]; omega
theorem mixes_step {l : List UInt8} {i : Nat} (hi : i < l.length) : mixes (l.take (i + 1)) = mixI (bits BinOp.xor IntKind.u64 (mixes (l.take i)) (l[i].toNat : Int)) := by
  unfold mixes
  rw [← List.take_append_getElem hi, List.foldl_append]
  rfl
theorem by_conv (w : World) (bs : List UInt8) (hl : bs.length ≤ maxLen) : (convert 9 87 (.string (str bs))).run Tryz.prog w = .ok (.slice (some ⟨w.heap.size, 0, none⟩) bs.length (grownCap w bs.length 0 5)) (Lib.bytesWorld w 5 (str bs)) ∧ Gb w (Lib.bytesWorld w 5 (str bs)) (.slice (some ⟨w.heap.size, 0, none⟩) bs.length (grownCap w bs.length 0 5)) bs := by
  have h := Lib.run_convert_string_bytes (P := Tryz.prog) w 9 87 5 (str bs) Tryz.underlying9 Tryz.underlying87 Tryz.underlying5
  have hge := grownCap_ge w bs.length 0 5
  have hsz : (Lib.bytesCells w 5 (str bs)).size = grownCap w bs.length 0 5 := by
    unfold Lib.bytesCells
    rw [str_size]
    simp [str]
    omega
  rw [str_size] at h
  refine ⟨h, .inr ⟨w.heap.size, _, _, _, _, rfl, Nat.le_refl _, Lib.bytesWorld_at_new w _ _, hge, grownCap_le_maxLen w _ _ _ hl, hsz, fun j hj e => by rw [hsz] at e; omega, fun j u hj => ?_⟩, ?_⟩
  · have hjl := (List.getElem?_eq_some_iff.1 hj).1
    rw [encB_len] at hjl
    unfold Lib.bytesCells
    rw [Array.getElem?_append_left (by simp [str]; exact hjl)]
    simp [encB, u8] at hj
    obtain ⟨c, hc, rfl⟩ := hj
    simp [str, hc]
  · exact ⟨rfl, rfl, rfl, by rw [Lib.bytesWorld_size]; omega, fun k hk => Lib.bytesWorld_at_old w _ _ k hk⟩
theorem bytes_all (p : Pf) (w : World) : Calls Tryz.prog 52 #[.agg (encP p).toArray] w fun e w' => e = .returned (.string (str (pbs p))) ∧ Below w.heap.size w w' := by
  unfold pbs
  by_cases h : rightP p = true
  · rw [if_pos h]; exact bytes_any p h w
  · rw [if_neg h]; exact bytes_not p (by simpa using h) w
end Dig
end Go.Proofs.YtdcbbjlbfghpbaaGreat
