/-
  The document's node in memory: its rows, None, row, Restart. Conditions: those that each theorem names.
-/
import Derived.Test.YtcmknllefnahkaaEng9
import Derived.Test.YtcmknllefnahkaaRef18
import Derived.Test.YtcmknllefnahkaaTyp
import Derived.ProofKit
namespace Go.Proofs.Ytcmknllefnahkaa
open Go.RowKit FR FP H2 OW
set_option linter.unusedVariables false
set_option linter.unusedSimpArgs false
namespace RefN
open Eng Ref18
/-- the kinds of blocks that the document's node writes -/
def refT (t : TypeId) : Prop := t = 53 ∨ t = 3 ∨ t = 51 ∨ t = 59
def cells2 (f : Nat → Int × Int) (k : Nat) : List Value := (List.range k).flatMap fun i => [.int .i64 (f i).1, .int .i64 (f i).2]
theorem cells2_succ (f : Nat → Int × Int) (k : Nat) : cells2 f (k + 1) = cells2 f k ++ [.int .i64 (f k).1, .int .i64 (f k).2] := by simp [cells2, List.range_succ]
theorem cells2_len (f : Nat → Int × Int) : ∀ k, (cells2 f k).length = k * 2
  | 0 => rfl
  | k + 1 => by rw [cells2_succ, List.length_append, cells2_len f k]; simp; omega
theorem cells2_get (f : Nat → Int × Int) : ∀ (n i : Nat), i < n → (cells2 f n)[i * 2]? = some (.int .i64 (f i).1) ∧ (cells2 f n)[i * 2 + 1]? = some (.int .i64 (f i).2)
  | 0, i, h => by omega
  | n + 1, i, h => by
    rw [cells2_succ]
    by_cases e : i = n
    · subst e
      rw [List.getElem?_append_right (by rw [cells2_len]; omega), List.getElem?_append_right (by rw [cells2_len]; omega), cells2_len]
      simp [show i * 2 + 1 - i * 2 = 1 by omega]
    · have ih := cells2_get f n i (by omega)
      rw [List.getElem?_append_left (by rw [cells2_len]; omega), List.getElem?_append_left (by rw [cells2_len]; omega)]
      exact ih
/-- a row of distances in block g -/
def Prow (w : World) (g n : Nat) (f : Nat → Int × Int) : Prop := ∃ cur : Array Value, w.heap[g]? = some (.cells cur 59 (0, 0)) ∧ ∀ i, i < n → cur[i * 2]? = some (.int .i64 (f i).1) ∧ cur[i * 2 + 1]? = some (.int .i64 (f i).2)
theorem Prow.c0 {w : World} {g n : Nat} {f : Nat → Int × Int} (h : Prow w g n f) {i : Nat} (hi : i < n) : w.cell? ⟨g, i * 2, none⟩ = some (.int .i64 (f i).1) := by
  obtain ⟨cur, hb, hc⟩ := h
  rw [blk_cell hb]; exact (hc i hi).1
theorem Prow.c1 {w : World} {g n : Nat} {f : Nat → Int × Int} (h : Prow w g n f) {i : Nat} (hi : i < n) : w.cell? ⟨g, i * 2 + 1, none⟩ = some (.int .i64 (f i).2) := by
  obtain ⟨cur, hb, hc⟩ := h
  rw [blk_cell hb]; exact (hc i hi).2
theorem Prow.free {w : World} {g n : Nat} {f : Nat → Int × Int} (h : Prow w g n f) (i : Nat) : w.frozen? ⟨g, i, none⟩ = false := by
  obtain ⟨cur, hb, hc⟩ := h
  exact blk_free hb i
theorem Prow.lt {w : World} {g n : Nat} {f : Nat → Int × Int} (h : Prow w g n f) : g < w.heap.size := blk_lt h.choose_spec.1
theorem Prow.obj {w w' : World} {g n : Nat} {f : Nat → Int × Int} (h : Prow w g n f) (ho : w'.heap[g]? = w.heap[g]?) : Prow w' g n f := by
  obtain ⟨cur, hb, hc⟩ := h
  exact ⟨cur, ho.trans hb, hc⟩
theorem Prow.below {w w' : World} {g n : Nat} {f : Nat → Int × Int} (h : Prow w g n f) (hb : Below w.heap.size w w') : Prow w' g n f := h.obj (hb.block g h.lt)
theorem Prow.only {S : Nat → Prop} {w w' : World} {g n : Nat} {f : Nat → Int × Int} (h : Prow w g n f) (ho : Only S w w') (hS : ¬ S g) : Prow w' g n f := h.obj (ho.block g h.lt hS)
theorem Prow.congr {w : World} {g n : Nat} {f f' : Nat → Int × Int} (h : Prow w g n f) (he : ∀ i, i < n → f' i = f i) : Prow w g n f' := by
  obtain ⟨cur, hb, hc⟩ := h
  exact ⟨cur, hb, fun i hi => by rw [he i hi]; exact hc i hi⟩
theorem Prow.set {w : World} {g n : Nat} {f : Nat → Int × Int} (h : Prow w g n f) (i : Nat) (x y : Int) : Prow ((w.setCell ⟨g, i * 2, none⟩ (.int .i64 x)).setCell ⟨g, i * 2 + 1, none⟩ (.int .i64 y)) g n (fun j => if j = i then (x, y) else f j) := by
  obtain ⟨cur, hb, hc⟩ := h
  refine ⟨_, blk_set (blk_set hb _ _) _ _, fun j hj => ?_⟩
  obtain ⟨h1, h2⟩ := hc j hj
  have l1 := (Array.getElem?_eq_some_iff.1 h1).1
  have l2 := (Array.getElem?_eq_some_iff.1 h2).1
  by_cases e : j = i
  · subst e
    simp only [if_true]
    constructor
    · rw [Array.getElem?_setIfInBounds, if_neg (by omega), Array.getElem?_setIfInBounds, if_pos rfl, if_pos l1]
    · rw [Array.getElem?_setIfInBounds, if_pos rfl, if_pos (by simpa using l2)]
  · simp only [if_neg e]
    constructor
    · rw [Array.getElem?_setIfInBounds, if_neg (by omega), Array.getElem?_setIfInBounds, if_neg (by omega)]; exact h1
    · rw [Array.getElem?_setIfInBounds, if_neg (by omega), Array.getElem?_setIfInBounds, if_neg (by omega)]; exact h2
theorem prow_of_own {w : World} {base n : Nat} {v : Value} {f : Nat → Int × Int} (h : w.ownsRow base 59 2 v n (cells2 f n)) (hn : 0 < n) : ∃ g cap, v = .slice (some ⟨g, 0, none⟩) n cap ∧ base ≤ g ∧ Prow w g n f := by
  rcases h.2 with ⟨_, h0⟩ | ⟨g, cap, cur, rfl, hb, hh, hc, hm, hs, ht⟩
  · omega
  · refine ⟨g, cap, rfl, hb, cur, hh, fun i hi => ?_⟩
    have hg := cells2_get f n i hi
    rw [← ht] at hg
    constructor
    · have := hg.1
      rw [List.getElem?_take] at this
      split at this
      · rw [← Array.getElem?_toList]; exact this
      · cases this
    · have := hg.2
      rw [List.getElem?_take] at this
      split at this
      · rw [← Array.getElem?_toList]; exact this
      · cases this
theorem infoD : (Try.prog.info? 59).map (fun i => (i.zero, i.size, i.bytes)) = some (some (.agg #[.int .i64 0, .int .i64 0]), 2, 16) := by kernel_rfl
theorem infoDs : (Try.prog.info? 51).map (fun i => (i.zero, i.size, i.bytes)) = some (some (.slice none 0 0), 1, 24) := by kernel_rfl
theorem two_cells (w : World) (x y : Value) (t : TypeId) : ∀ j u, [x, y][j]? = some u → (w.alloc (.cells #[x, y] t (0, 0))).cell? ((⟨w.heap.size, 0, none⟩ : Addr).add j) = some u := by
  intro j u h
  have hb := heap_alloc_new w (.cells #[x, y] t (0, 0))
  have hadd : (⟨w.heap.size, 0, none⟩ : Addr).add j = ⟨w.heap.size, j, none⟩ := by unfold Addr.add; split <;> simp_all
  rw [hadd, blk_cell hb]
  rcases j with _ | _ | j
  · simpa using h
  · simpa using h
  · simp at h
theorem none_any (w : World) : Calls Try.prog 28 #[] w fun e w' => e = .returned (rv 65535 0) ∧ Below w.heap.size w w' := by
  go_enter Try.func28, Try.ntmps28
  go_wp2
  exact bodyPost_ret (v := rv 65535 0) (by simp [results, Try.results28, go_sem]) rfl ⟨rfl, (Below.refl _ _).alloc (Nat.le_refl _) _⟩
set_option maxRecDepth 100000 in
set_option maxHeartbeats 8000000 in
theorem row_any (n : Nat) (w : World) (hn : n ≤ 6) : Calls Try.prog 39 #[.int .i64 n] w fun e w' => (∃ v, e = .returned v ∧ w'.ownsRow w.heap.size 59 2 v n (cells2 (fun _ => (65535, 0)) n)) ∧ Below w.heap.size w w' := by
  obtain ⟨i0, hi, hz0, hz1, hz2⟩ := info_parts infoD
  have HI := Lib.hid hi
  clear hi
  go_enter Try.func39, Try.ntmps39
  go_upto_region 3 with fail
  go_loopw [3, 4] (fun s3 s4 wr => ∃ (k : Nat) (sv : Value), k ≤ n ∧ s4 = .int .i64 k ∧ sv = s3 ∧ wr.ownsRow w.heap.size 59 2 sv k (cells2 (fun _ => (65535, 0)) k) ∧ Below w.heap.size w wr) (fun _ s4 _ => n - (intOf s4).toNat)
  case atStart => exact ⟨0, _, by omega, rfl, rfl, World.ownsRow_nil _ _ _ _, Below.refl _ _⟩
  case round =>
    obtain ⟨k, sv, hk, rfl, rfl, ho, hb⟩ := hrel
    have HO := Lib.hid ho
    have HB := Lib.hid hb
    clear ho hb
    by_cases hlt : k < n
    · have hlt' : (k : Int) < (n : Int) := by omega
      have k0 : (0 : Int) ≤ (k : Int) := by omega
      have HS := Lib.hid (cells2_succ (fun _ => (65535, 0)) k)
      go_wp2_with (first
        | (go_at_call 28; (with_reducible refine (none_any wr).mono ?_); rintro e w4 ⟨rfl, hb4⟩; have HO4 := Lib.hid (OW.own_keep HO.out hb4); have HB4 := Lib.hid (HB.out.trans (hb4.mono HB.out.size)); clear hb4)
        | (at_builtin; refine wpList_append_lies _ rfl (.tmp 10) (.tmp 12) 51 rfl w.heap.size 59 i0 _ 2 16 Try.underlying51 HI.out hz0 hz1 hz2 rfl (by omega) sv k _ rfl (HO4.out.alloc _) ⟨w4.heap.size, 0, none⟩ 1 1 [.int .i64 65535, .int .i64 0] rfl rfl (two_cells _ _ _ _) (by simp [Value.oneCell']) (by omega) (by unfold maxLen; omega) (by omega) (by have := HB4.out.size; simp; omega) (w4.heap.size + 1) (by simp) ?_; intro g2 cap2 w8 hown1 hgrow1 hat1 hlt1; have HO8 := Lib.hid hown1; have HB8 := Lib.hid (OW.app_below HB4.out HO4.out hgrow1); clear hown1 hgrow1 hat1 hlt1))
      go_roundw
      case rel => exact ⟨k + 1, _, by omega, by go_num, rfl, by rw [HS.out]; exact HO8.out, HB8.out⟩
      case measure => simp [intOf]; omega
    · obtain rfl : n = k := by omega
      go_wp2
      go_ret
      exact ⟨⟨_, rfl, HO.out⟩, HB.out⟩
/-- where the parts of a node lie -/
structure RLay where
  c : Nat
  i : Nat
  ic : Nat
  f : Nat
  fc : Nat
  r : Nat → Nat
  rc : Nat → Nat
/-- a node, but for what it heard -/
structure RB (w : World) (base b : Nat) (s : St) (L : RLay) (iv : Value) : Prop where
  blk : w.heap[b]? = some (.cells #[.int .i64 s.id, .int .i64 s.n, .slice (some ⟨L.c, 0, none⟩) s.n s.n, iv, .slice (some ⟨L.f, 0, none⟩) s.n L.fc, .int .u32 s.seq] 53 (0, 0))
  cost : ∃ cur : Array Value, w.heap[L.c]? = some (.cells cur 3 (0, 0)) ∧ ∀ i, i < s.n → cur[i]? = some (.int .i64 (s.cost i).1)
  fd : Prow w L.f s.n s.told
  lo : base ≤ b ∧ base ≤ L.c ∧ base ≤ L.f ∧ base ≤ w.heap.size
  id : s.id < s.n
  n6 : s.n ≤ 6
theorem RB.lt {w : World} {base b : Nat} {s : St} {L : RLay} {iv : Value} (h : RB w base b s L iv) : b < w.heap.size := blk_lt h.blk
theorem RB.cl {w : World} {base b : Nat} {s : St} {L : RLay} {iv : Value} (h : RB w base b s L iv) : L.c < w.heap.size := blk_lt h.cost.choose_spec.1
theorem RB.only {S : Nat → Prop} {w w' : World} {base b : Nat} {s : St} {L : RLay} {iv : Value} (h : RB w base b s L iv) (ho : Only S w w') (h1 : ¬ S b) (h2 : ¬ S L.c) (h3 : ¬ S L.f) : RB w' base b s L iv := by
  obtain ⟨cur, hc, hcc⟩ := h.cost
  exact ⟨ho.obj h.blk h1, ⟨cur, ho.obj hc h2, hcc⟩, h.fd.only ho h3, ⟨h.lo.1, h.lo.2.1, h.lo.2.2.1, Nat.le_trans h.lo.2.2.2 ho.size⟩, h.id, h.n6⟩
theorem RB.below {w w' : World} {base b : Nat} {s : St} {L : RLay} {iv : Value} (h : RB w base b s L iv) (hb : Below w.heap.size w w') : RB w' base b s L iv :=
  h.only (Only.of_below (Only.refl (fun _ => False) w) hb) (fun h => h) (fun h => h) (fun h => h)
theorem RB.drew {w : World} {base b : Nat} {s : St} {L : RLay} {iv : Value} (h : RB w base b s L iv) : RB w.drew base b s L iv := h.only ((Only.refl (fun _ => False) w).drew) (fun h => h) (fun h => h) (fun h => h)
theorem RB.at {w : World} {base b : Nat} {s : St} {L : RLay} {iv : Value} (h : RB w base b s L iv) : w.cell? ⟨b, 0, none⟩ = some (.int .i64 s.id) ∧ w.cell? ⟨b, 1, none⟩ = some (.int .i64 s.n) ∧ w.cell? ⟨b, 2, none⟩ = some (.slice (some ⟨L.c, 0, none⟩) s.n s.n) ∧ w.cell? ⟨b, 3, none⟩ = some iv ∧ w.cell? ⟨b, 4, none⟩ = some (.slice (some ⟨L.f, 0, none⟩) s.n L.fc) ∧ w.cell? ⟨b, 5, none⟩ = some (.int .u32 s.seq) := by
  refine ⟨?_, ?_, ?_, ?_, ?_, ?_⟩ <;> (rw [blk_cell h.blk]; rfl)
theorem RB.free {w : World} {base b : Nat} {s : St} {L : RLay} {iv : Value} (h : RB w base b s L iv) (k : Nat) : w.frozen? ⟨b, k, none⟩ = false := blk_free h.blk k
theorem RB.cost_at {w : World} {base b : Nat} {s : St} {L : RLay} {iv : Value} (h : RB w base b s L iv) {i : Nat} (hi : i < s.n) : w.cell? ⟨L.c, i, none⟩ = some (.int .i64 (s.cost i).1) := by
  obtain ⟨cur, hc, hcc⟩ := h.cost
  rw [blk_cell hc]; exact hcc i hi
theorem RB.cost_free {w : World} {base b : Nat} {s : St} {L : RLay} {iv : Value} (h : RB w base b s L iv) (i : Nat) : w.frozen? ⟨L.c, i, none⟩ = false := blk_free h.cost.choose_spec.1 i
theorem RB.ne {w : World} {base b : Nat} {s : St} {L : RLay} {iv : Value} (h : RB w base b s L iv) : b ≠ L.c ∧ b ≠ L.f ∧ L.c ≠ L.f := by
  obtain ⟨cur, hc, _⟩ := h.cost
  obtain ⟨cu2, hf, _⟩ := h.fd
  exact ⟨blk_ne h.blk hc (by decide), blk_ne h.blk hf (by decide), blk_ne hc hf (by decide)⟩
/-- what was heard, laid elsewhere -/
theorem RB.inn {w : World} {base b : Nat} {s : St} {L : RLay} {iv : Value} (h : RB w base b s L iv) (v : Value) : RB (w.setCell ⟨b, 3, none⟩ v) base b s L v := by
  have hne := h.ne
  have ho : Only (fun k => k = b) w (w.setCell ⟨b, 3, none⟩ v) := (Only.refl (fun k => k = b) w).setCell (p := ⟨b, 3, none⟩) (fun _ => rfl) v
  obtain ⟨cur, hc, hcc⟩ := h.cost
  refine ⟨?_, ⟨cur, ho.obj hc (fun e => hne.1 e.symm), hcc⟩, h.fd.only ho (fun e => hne.2.1 e.symm), ⟨h.lo.1, h.lo.2.1, h.lo.2.2.1, Nat.le_trans h.lo.2.2.2 ho.size⟩, h.id, h.n6⟩
  have := blk_set h.blk 3 v
  exact this
/-- the same node, said otherwise -/
theorem RB.congr {w : World} {base b : Nat} {s s' : St} {L L' : RLay} {iv : Value} (h : RB w base b s L iv) (h1 : s'.id = s.id) (h2 : s'.n = s.n) (h3 : s'.cost = s.cost) (h4 : s'.told = s.told) (h5 : s'.seq = s.seq) (h6 : L'.c = L.c) (h7 : L'.f = L.f) (h8 : L'.fc = L.fc) : RB w base b s' L' iv := by
  obtain ⟨a1, a2, a3, a4, a5, a6⟩ := h
  refine ⟨?_, ?_, ?_, ?_, ?_, ?_⟩
  · rw [h1, h2, h5, h6, h7, h8]; exact a1
  · rw [h2, h3, h6]; exact a2
  · rw [h2, h4, h7]; exact a3
  · rw [h6, h7]; exact a4
  · rw [h1, h2]; exact a5
  · rw [h2]; exact a6
def rowsV (r rc : Nat → Nat) (n k : Nat) : List Value := (List.range k).map fun j => .slice (some ⟨r j, 0, none⟩) n (rc j)
theorem rowsV_next (r rc : Nat → Nat) (n k g c : Nat) : rowsV (fun j => if j = k then g else r j) (fun j => if j = k then c else rc j) n (k + 1) = rowsV r rc n k ++ [.slice (some ⟨g, 0, none⟩) n c] := by
  unfold rowsV
  rw [List.range_succ, List.map_append]
  congr 1
  · refine List.map_congr_left (fun j hj => ?_)
    have : j < k := by simpa using hj
    have hne : ¬ j = k := by omega
    simp only [if_neg hne]
  · simp
/-- the document's node -/
structure RN (w : World) (base b : Nat) (s : St) (L : RLay) : Prop where
  rb : RB w base b s L (.slice (some ⟨L.i, 0, none⟩) s.n L.ic)
  outer : ∃ cur : Array Value, w.heap[L.i]? = some (.cells cur 51 (0, 0)) ∧ ∀ d, d < s.n → cur[d]? = some (.slice (some ⟨L.r d, 0, none⟩) s.n (L.rc d))
  rows : ∀ d, d < s.n → Prow w (L.r d) s.n (s.inn d)
  inj : ∀ d e, d < s.n → e < s.n → L.r d = L.r e → d = e
  fne : ∀ d, d < s.n → L.r d ≠ L.f
  lo : base ≤ L.i ∧ ∀ d, d < s.n → base ≤ L.r d
/-- what a call on the document's node leaves -/
structure AfterR (base : Nat) (w w' : World) : Prop where
  bel : Below base w w'
  typ : OnlyT refT w w'
theorem AfterR.refl (base : Nat) (w : World) : AfterR base w w := ⟨Below.refl _ _, OnlyT.refl _ _⟩
theorem AfterR.trans {base : Nat} {a b c : World} (h : AfterR base a b) (k : AfterR base b c) : AfterR base a c := ⟨h.bel.trans k.bel, h.typ.trans k.typ⟩
theorem AfterR.of_below {base : Nat} {w w' : World} (hb : Below w.heap.size w w') (h : base ≤ w.heap.size) : AfterR base w w' := ⟨hb.mono h, (OnlyT.refl _ _).of_below hb⟩
theorem AfterR.set {base : Nat} {w w' : World} (h : AfterR base w w') {p : Addr} {cs : Array Value} {t : TypeId} {fr : Nat × Nat} (hp : w'.heap[p.block]? = some (.cells cs t fr)) (ht : refT t) (hl : base ≤ p.block) (hs : base ≤ w.heap.size) (v : Value) : AfterR base w (w'.setCell p v) :=
  ⟨h.bel.trans (((Only.refl (fun i => i = p.block) w').setCell (p := p) (fun _ => rfl) v).below (Nat.le_trans hs h.bel.size) (fun i hi e => by omega)), h.typ.setCell (fun _ => ⟨_, _, _, hp, ht⟩) v⟩
theorem prow_app {w w1 : World} {base size d g n : Nat} {v : Value} {xs : List Value} {o : Obj} {f : Nat → Int × Int} (h : Prow w g n f) (ho : w.ownsRow base 51 size v d xs) (hg : (w.alloc o).grownBy w1 v.ownBlock) : Prow w1 g n f := by
  obtain ⟨cur, hb, hc⟩ := h
  exact ⟨cur, app_obj hb (own_ne_blk ho hb (by decide)) hg, hc⟩
theorem after_app {w w1 : World} {base H size d : Nat} {v : Value} {xs : List Value} {o : Obj} (ho : w.ownsRow H 51 size v d xs) (hg : (w.alloc o).grownBy w1 v.ownBlock) (hb : base ≤ H) (hH : H ≤ w.heap.size) : AfterR base w w1 :=
  ⟨(((Only.refl (fun k => H ≤ k) w).alloc o).grown hg (fun k hk _ => (OW.own_base ho hk).1)).below (Nat.le_trans hb hH) (fun i hi e => by omega),
    ((OnlyT.refl refT w).alloc o).grown hg (fun k hk hlt => by
      obtain ⟨cs, t, fr, h1, h2⟩ := own_type ho hk (T := refT) (.inr (.inr (.inl rfl)))
      exact ⟨cs, t, fr, (Below.heap_alloc w o k (blk_lt h1)).trans h1, h2⟩)⟩
theorem rows_in {w wr w' : World} {r : Nat → Nat} {n i g5 : Nat} {f : Nat → Int × Int} (h : ∀ j, j < i → w.heap.size ≤ r j ∧ Prow wr (r j) n f) (hp : Prow w' g5 n f) (hw : ∀ j, j < i → Prow w' (r j) n f) (hg : wr.heap.size ≤ g5) (hs : w.heap.size ≤ wr.heap.size) :
    ∀ j, j < i + 1 → w.heap.size ≤ (if j = i then g5 else r j) ∧ Prow w' (if j = i then g5 else r j) n f := fun j hj => by
  split
  · exact ⟨Nat.le_trans hs hg, hp⟩
  · exact ⟨(h j (by omega)).1, hw j (by omega)⟩
theorem rows_inj {w wr : World} {r : Nat → Nat} {n i g5 : Nat} {f : Nat → Int × Int} (h : ∀ j, j < i → w.heap.size ≤ r j ∧ Prow wr (r j) n f) (hj : ∀ j k, j < i → k < i → r j = r k → j = k) (hg : wr.heap.size ≤ g5) (hl : ∀ j, j < i → r j < wr.heap.size) :
    ∀ j k, j < i + 1 → k < i + 1 → (if j = i then g5 else r j) = (if k = i then g5 else r k) → j = k := fun j k hj' hk' e => by
  by_cases e1 : j = i
  · by_cases e2 : k = i
    · omega
    · rw [if_pos e1, if_neg e2] at e
      have := hl k (by omega)
      omega
  · by_cases e2 : k = i
    · rw [if_neg e1, if_pos e2] at e
      have := hl j (by omega)
      omega
    · rw [if_neg e1, if_neg e2] at e
      exact hj j k (by omega) (by omega) e
theorem rn_mk {w wr : World} {base b n gi ci : Nat} {s : St} {L : RLay} {r rc : Nat → Nat} (hn : s.n = n) (hr : RB wr base b s L (.slice (some ⟨gi, 0, none⟩) n ci)) (ho : wr.ownsRow w.heap.size 51 1 (.slice (some ⟨gi, 0, none⟩) n ci) n (rowsV r rc n n))
    (hw : ∀ j, j < n → w.heap.size ≤ r j ∧ Prow wr (r j) n (fun _ => (65535, 0))) (hj : ∀ j k, j < n → k < n → r j = r k → j = k) (hlo : base ≤ w.heap.size) (hlt : b < w.heap.size) (hf : L.f < w.heap.size) : RN wr base b s.clear ⟨L.c, gi, ci, L.f, L.fc, r, rc⟩ := by
  have hb := hr.n6
  rcases ho.2 with ⟨h1, _⟩ | ⟨g, cap, cur, hv, hbg, hh, hcap, hm, hs, ht⟩
  · cases h1
  · simp only [Value.slice.injEq, Option.some.injEq, Addr.mk.injEq, and_true, true_and] at hv
    obtain ⟨rfl, rfl⟩ := hv
    refine ⟨hn ▸ hr.congr rfl rfl rfl rfl rfl rfl rfl rfl, ⟨cur, hh, fun d hd => ?_⟩, fun d hd => ?_, fun d e hd he => hj d e (by rw [← hn]; exact hd) (by rw [← hn]; exact he), fun d hd => ?_, Nat.le_trans hlo hbg, fun d hd => Nat.le_trans hlo (hw d (by rw [← hn]; exact hd)).1⟩
    · have hd : d < n := by rw [← hn]; exact hd
      have e : (rowsV r rc n n)[d]? = some (.slice (some ⟨r d, 0, none⟩) n (rc d)) := by unfold rowsV; simp [hd]
      rw [← ht, List.getElem?_take] at e
      split at e
      · rw [Array.getElem?_toList] at e
        rw [e, ← hn]; rfl
      · cases e
    · have hd : d < n := by rw [← hn]; exact hd
      have := (hw d hd).2
      rw [← hn] at this
      exact this
    · have := (hw d (by rw [← hn]; exact hd)).1
      show r d ≠ L.f
      omega
set_option maxRecDepth 100000 in
set_option maxHeartbeats 8000000 in
theorem restart_any {base b : Nat} {s : St} {L : RLay} {iv : Value} (w : World) (h : RB w base b s L iv) : Calls Try.prog 24 #[.pointer (some ⟨b, 0, none⟩)] w fun e w' => e = .returned (.tuple #[]) ∧ (∃ L', RN w' base b s.clear L') ∧ AfterR base w w' := by
  obtain ⟨i0, hi, hz0, hz1, hz2⟩ := info_parts infoDs
  have HI := Lib.hid hi
  have hn6 := h.n6
  have hid := h.id
  have hlo := h.lo.2.2.2
  have hbl := h.lt
  have hcl := h.cl
  have hfl := h.fd.lt
  have x3 := h.at.2.2.2.1
  have z3 := h.free 3
  have H0 := Lib.hid (h.inn (.slice none 0 0))
  have A0 := Lib.hid ((AfterR.refl base w).set (p := ⟨b, 3, none⟩) h.blk (.inl rfl) h.lo.1 hlo (.slice none 0 0))
  have O0 := Lib.hid ((Only.refl (fun k => k = b) w).setCell (p := ⟨b, 3, none⟩) (fun _ => rfl) (.slice none 0 0))
  obtain ⟨n, hn⟩ : ∃ n, s.n = n := ⟨_, rfl⟩
  have HN := Lib.hid hn
  rw [hn] at hn6
  have hn0 : 0 < n := by omega
  clear h hi hn hid
  go_enter Try.func24, Try.ntmps24
  go_upto_region 2 with fail
  clear x3 z3
  go_loopw [2] (fun s2 wr => ∃ (i : Nat) (sv : Value) (r rc : Nat → Nat), i ≤ n ∧ s2 = .int .i64 i ∧ RB wr base b s L sv ∧ wr.ownsRow w.heap.size 51 1 sv i (rowsV r rc n i) ∧ (∀ j, j < i → w.heap.size ≤ r j ∧ Prow wr (r j) n (fun _ => (65535, 0))) ∧ (∀ j k, j < i → k < i → r j = r k → j = k) ∧ Only (fun k => k = b) w wr ∧ AfterR base w wr) (fun s2 _ => n - (intOf s2).toNat)
  case atStart => exact ⟨0, _, fun _ => 0, fun _ => 0, by omega, rfl, H0.out, by unfold rowsV; exact World.ownsRow_nil _ _ _ _, fun j hj => by omega, fun j k hj => by omega, O0.out, A0.out⟩
  case round =>
    obtain ⟨i, sv, r, rc, hi, rfl, hrb, hown, hrows, hinj, ho, ha⟩ := hrel
    have HR := Lib.hid hrb
    have HO := Lib.hid hown
    have HW := Lib.hid hrows
    have HJ := Lib.hid hinj
    have HX := Lib.hid ho
    have HA := Lib.hid ha
    have HNE := Lib.hid hrb.ne
    have c1 := hrb.at.2.1
    have c3 := hrb.at.2.2.2.1
    rw [HN.out] at c1
    have hwr := ho.size
    clear hrb hown hrows hinj ho ha
    by_cases hlt : i < n
    · have hlt' : (i : Int) < (n : Int) := by omega
      have i0' : (0 : Int) ≤ (i : Int) := by omega
      go_upto_region 4 with fail
      have c1 : wr.drew.cell? ⟨b, 1, none⟩ = some (.int .i64 n) := c1
      have c3 : wr.drew.cell? ⟨b, 3, none⟩ = some sv := c3
      refine wp_region_held_drew (S := (fun w' => w'.cell? ⟨b, 1, none⟩ = some (.int .i64 n))) (by kernel_rfl) c1 (fun _ => ?_)
      refine held_take 0 14 (v := ?_) rfl rfl (by kernel_rfl) (by kernel_rfl) (by kernel_rfl) (fun _ _ _ h => h) (by rfl) ?_ c1 ?_
      rotate_left
      · (intro w hSw; (try dsimp only at hSw); try simp only [List.getElem_toArray, List.getElem_cons_zero, List.getElem_cons_succ]; go_simp; try (with_reducible rfl))
      try simp only [List.setIfInBounds_toArray, List.set_cons_zero, List.set_cons_succ]
      refine held_take 1 15 (v := ?_) rfl rfl (by kernel_rfl) (by kernel_rfl) (by kernel_rfl) (fun _ _ _ h => h) (by rfl) ?_ c1 ?_
      rotate_left
      · (intro w hSw; (try dsimp only at hSw); try simp only [List.getElem_toArray, List.getElem_cons_zero, List.getElem_cons_succ]; go_simp; try (with_reducible rfl))
      try simp only [List.setIfInBounds_toArray, List.set_cons_zero, List.set_cons_succ]
      refine held_take 2 16 (v := ?_) rfl rfl (by kernel_rfl) (by kernel_rfl) (by kernel_rfl) (fun _ _ _ h => h) (by rfl) ?_ c1 ?_
      rotate_left
      · (intro w hSw; (try dsimp only at hSw); try simp only [List.getElem_toArray, List.getElem_cons_zero, List.getElem_cons_succ]; go_simp; try (with_reducible rfl))
      try simp only [List.setIfInBounds_toArray, List.set_cons_zero, List.set_cons_succ]
      refine held_take 3 17 (v := ?_) rfl rfl (by kernel_rfl) (by kernel_rfl) (by kernel_rfl) (fun _ _ _ h => h) (by rfl) ?_ c1 ?_
      rotate_left
      · (intro w hSw; (try dsimp only at hSw); try simp only [List.getElem_toArray, List.getElem_cons_zero, List.getElem_cons_succ]; go_simp; try (with_reducible rfl))
      try simp only [List.setIfInBounds_toArray, List.set_cons_zero, List.set_cons_succ]
      refine held_take 5 19 (v := ?_) rfl rfl (by kernel_rfl) (by kernel_rfl) (by kernel_rfl) (fun _ _ _ h => h) (by rfl) ?_ c1 ?_
      rotate_left
      · (intro w hSw; (try dsimp only at hSw); try simp only [List.getElem_toArray, List.getElem_cons_zero, List.getElem_cons_succ]; go_simp; try (with_reducible rfl))
      try simp only [List.setIfInBounds_toArray, List.set_cons_zero, List.set_cons_succ]
      refine held_take 6 20 (v := ?_) rfl rfl (by kernel_rfl) (by kernel_rfl) (by kernel_rfl) (fun _ _ _ h => h) (by rfl) ?_ c1 ?_
      rotate_left
      · (intro w hSw; (try dsimp only at hSw); try simp only [List.getElem_toArray, List.getElem_cons_zero, List.getElem_cons_succ]; go_simp; try (with_reducible rfl))
      try simp only [List.setIfInBounds_toArray, List.set_cons_zero, List.set_cons_succ]
      refine held_take 7 21 (v := ?_) rfl rfl (by kernel_rfl) (by kernel_rfl) (by kernel_rfl) (fun _ _ _ h => h) (by rfl) ?_ c1 ?_
      rotate_left
      · (intro w hSw; (try dsimp only at hSw); try simp only [List.getElem_toArray, List.getElem_cons_zero, List.getElem_cons_succ]; go_simp; try (with_reducible rfl))
      try simp only [List.setIfInBounds_toArray, List.set_cons_zero, List.set_cons_succ]
      refine held_take 8 22 (v := ?_) rfl rfl (by kernel_rfl) (by kernel_rfl) (by kernel_rfl) (fun _ _ _ h => h) (by rfl) ?_ c1 ?_
      rotate_left
      · (intro w hSw; (try dsimp only at hSw); try simp only [List.getElem_toArray, List.getElem_cons_zero, List.getElem_cons_succ]; go_simp; try (with_reducible rfl))
      try simp only [List.setIfInBounds_toArray, List.set_cons_zero, List.set_cons_succ]
      refine held_two 4 9 rfl rfl (by kernel_rfl) (by rfl) (by rfl) (fun K hK => ?_) (fun K hK => ?_)
      · try simp only [List.getElem_toArray, List.getElem_cons_zero, List.getElem_cons_succ]
        go_simp
        try simp only [Act.put, List.setIfInBounds_toArray, List.set_cons_zero, List.set_cons_succ]
        refine hK.out _ _ _ c1 ?_
        clear hK K
        refine held_call 9 23 rfl rfl (by kernel_rfl) (by rfl) (fun K hK => ?_)
        try simp only [List.getElem_toArray, List.getElem_cons_zero, List.getElem_cons_succ]
        go_simp
        (go_at_call 39; (refine (row_any n _ hn6).mono ?_); rintro e w5 ⟨⟨v5, rfl, hv5⟩, hb5⟩; obtain ⟨g5, c5, rfl, hg5, hp5⟩ := prow_of_own hv5 hn0; have HP5 := Lib.hid hp5; have HG5 := Lib.hid hg5; have HR5 := Lib.hid (HR.out.drew.below hb5); have HO5 := Lib.hid (OW.own_keep (OW.own_keep HO.out (((Only.refl (fun _ => False) wr).drew).below (Nat.le_refl _) (fun _ _ h => h))) hb5); have HW5 := Lib.hid (fun j hj => (Prow.below (w := wr.drew) (HW.out j hj).2 hb5)); have HX5 := Lib.hid (HX.out.drew.of_below hb5); have HA5 := Lib.hid (HA.out.trans (AfterR.of_below ((((Only.refl (fun _ => False) wr).drew).of_below hb5).below (Nat.le_refl _) (fun _ _ h => h)) (Nat.le_trans hlo hwr))); have hs5 := hb5.size; have c1 := later hb5 c1; have c3 := later hb5 c3; clear hv5 hb5 hp5 hg5)
        try go_wp2_with fail
        try simp only [Act.put, List.setIfInBounds_toArray, List.set_cons_zero, List.set_cons_succ]
        refine hK.out _ _ _ c1 ?_
        clear hK K
        refine held_call 10 24 rfl rfl (by kernel_rfl) (by rfl) (fun K hK => ?_)
        try simp only [List.getElem_toArray, List.getElem_cons_zero, List.getElem_cons_succ]
        (go_simp; have c1 := later ((Below.refl w5.heap.size w5).alloc (Nat.le_refl _) (.cells #[.slice (some ⟨g5, 0, none⟩) n c5] 51 (0, 0))) c1; have c3 := later ((Below.refl w5.heap.size w5).alloc (Nat.le_refl _) (.cells #[.slice (some ⟨g5, 0, none⟩) n c5] 51 (0, 0))) c3)
        try simp only [Act.put, List.setIfInBounds_toArray, List.set_cons_zero, List.set_cons_succ]
        refine hK.out _ _ _ c1 ?_
        clear hK K
        refine held_call 11 25 rfl rfl (by kernel_rfl) (by rfl) (fun K hK => ?_)
        try simp only [List.getElem_toArray, List.getElem_cons_zero, List.getElem_cons_succ]
        (refine wp_append_lies _ (.tmp 18) (.tmp 24) 50 rfl w.heap.size 51 i0 _ 1 24 Try.underlying50 HI.out hz0 hz1 hz2 rfl (by omega) sv i _ rfl (HO5.out.alloc _) ⟨w5.heap.size, 0, none⟩ 1 1 [.slice (some ⟨g5, 0, none⟩) n c5] rfl rfl (cell_one_new _ _ _) (by simp [Value.oneCell']) (by omega) (by unfold maxLen; omega) (by omega) (by have := HX5.out.size; simp; omega) (w5.heap.size + 1) (by simp) ?_; intro g2 cap2 w8 hown1 hgrow1 hat1 hlt1; have HO8 := Lib.hid hown1; have o8 : Only (fun k => w.heap.size ≤ k) w5 w8 := ((Only.refl (fun k => w.heap.size ≤ k) w5).alloc _).grown hgrow1 (fun k hk _ => (OW.own_base HO5.out hk).1); have HR8 := Lib.hid (HR5.out.only o8 (by omega) (by omega) (by omega)); have HP8 := Lib.hid (prow_app HP5.out HO5.out hgrow1); have HW8 := Lib.hid (fun j hj => prow_app (HW5.out j hj) HO5.out hgrow1); have HX8 := Lib.hid (HX5.out.trans o8 (fun k hk e => absurd hk (by omega))); have HA8 := Lib.hid (HA5.out.trans (after_app HO5.out hgrow1 hlo HX5.out.size)); have c1 : w8.cell? ⟨b, 1, none⟩ = some (.int .i64 n) := (by rw [← HN.out]; exact HR8.out.at.2.1); have c3 := HR8.out.at.2.2.2.1; have z3 := HR8.out.free 3; clear hown1 hgrow1 hat1 hlt1 o8)
        try simp only [Act.put, List.setIfInBounds_toArray, List.set_cons_zero, List.set_cons_succ]
        refine hK.out _ _ _ c1 ?_
        clear hK K
        refine held_take 12 26 (v := ?_) rfl rfl (by kernel_rfl) (by kernel_rfl) (by kernel_rfl) (fun _ _ _ h => h) (by rfl) ?_ c1 ?_
        rotate_left
        · (intro w hSw; (try dsimp only at hSw); try simp only [List.getElem_toArray, List.getElem_cons_zero, List.getElem_cons_succ]; go_simp; try (with_reducible rfl))
        try simp only [List.setIfInBounds_toArray, List.set_cons_zero, List.set_cons_succ]
        refine held_take 13 27 (v := ?_) rfl rfl (by kernel_rfl) (by kernel_rfl) (by kernel_rfl) (fun _ _ _ h => h) (by rfl) ?_ c1 ?_
        rotate_left
        · (intro w hSw; (try dsimp only at hSw); try simp only [List.getElem_toArray, List.getElem_cons_zero, List.getElem_cons_succ]; go_simp; try (with_reducible rfl))
        try simp only [List.setIfInBounds_toArray, List.set_cons_zero, List.set_cons_succ]
        refine held_do 14 rfl (by kernel_rfl) (by rfl) (fun K hK => ?_)
        try simp only [List.getElem_toArray, List.getElem_cons_zero, List.getElem_cons_succ]
        (go_simp; have c1 : (w8.setCell ⟨b, 3, none⟩ (.slice (some ⟨g2, 0, none⟩) (i + 1) cap2)).cell? ⟨b, 1, none⟩ = some (.int .i64 n) := (by rw [← HN.out]; exact (HR8.out.inn _).at.2.1))
        try simp only [Act.put, List.setIfInBounds_toArray, List.set_cons_zero, List.set_cons_succ]
        refine hK.out _ _ _ c1 ?_
        clear hK K
        refine wpAnyH_done (by kernel_rfl) ?_ _
        have HRB := Lib.hid (HR8.out.inn (.slice (some ⟨g2, 0, none⟩) (i + 1) cap2))
        have oB : Only (fun k => k = b) w8 (w8.setCell ⟨b, 3, none⟩ (.slice (some ⟨g2, 0, none⟩) (i + 1) cap2)) := (Only.refl (fun k => k = b) w8).setCell (p := ⟨b, 3, none⟩) (fun _ => rfl) _
        have HOB := Lib.hid (oB.own HO8.out (fun k hk e => own_ne_blk HO8.out HR8.out.blk (by decide) (by rw [hk, e])))
        have HPB := Lib.hid (HP8.out.only oB (fun e => blk_ne HP8.out.choose_spec.1 HR8.out.blk (by decide) e))
        have HWB := Lib.hid (fun j hj => (HW8.out j hj).only oB (fun e => blk_ne (HW8.out j hj).choose_spec.1 HR8.out.blk (by decide) e))
        have HXB := Lib.hid (HX8.out.trans oB (fun k _ e => e))
        have HAB := Lib.hid (HA8.out.set (p := ⟨b, 3, none⟩) HR8.out.blk (.inl rfl) HR8.out.lo.1 hlo (.slice (some ⟨g2, 0, none⟩) (i + 1) cap2))
        clear c1 c3 z3 oB
        go_wp2
        go_roundw
        case rel => exact ⟨i + 1, _, fun j => if j = i then g5 else r j, fun j => if j = i then c5 else rc j, by omega, by go_num, HRB.out, by rw [rowsV_next]; exact HOB.out, rows_in HW.out HPB.out HWB.out HG5.out hwr, rows_inj HW.out HJ.out HG5.out (fun j hj => (HW.out j hj).2.lt), HXB.out, HAB.out⟩
        case measure => simp [intOf]; omega
      · try simp only [List.getElem_toArray, List.getElem_cons_zero, List.getElem_cons_succ]
        go_simp
        (go_at_call 39; (refine (row_any n _ hn6).mono ?_); rintro e w5 ⟨⟨v5, rfl, hv5⟩, hb5⟩; obtain ⟨g5, c5, rfl, hg5, hp5⟩ := prow_of_own hv5 hn0; have HP5 := Lib.hid hp5; have HG5 := Lib.hid hg5; have HR5 := Lib.hid (HR.out.drew.below hb5); have HO5 := Lib.hid (OW.own_keep (OW.own_keep HO.out (((Only.refl (fun _ => False) wr).drew).below (Nat.le_refl _) (fun _ _ h => h))) hb5); have HW5 := Lib.hid (fun j hj => (Prow.below (w := wr.drew) (HW.out j hj).2 hb5)); have HX5 := Lib.hid (HX.out.drew.of_below hb5); have HA5 := Lib.hid (HA.out.trans (AfterR.of_below ((((Only.refl (fun _ => False) wr).drew).of_below hb5).below (Nat.le_refl _) (fun _ _ h => h)) (Nat.le_trans hlo hwr))); have hs5 := hb5.size; have c1 := later hb5 c1; have c3 := later hb5 c3; clear hv5 hb5 hp5 hg5)
        try go_wp2_with fail
        try simp only [Act.put, List.setIfInBounds_toArray, List.set_cons_zero, List.set_cons_succ]
        refine hK.out _ _ _ c1 ?_
        clear hK K
        refine held_two 4 10 rfl rfl (by kernel_rfl) (by rfl) (by rfl) (fun K hK => ?_) (fun K hK => ?_)
        · try simp only [List.getElem_toArray, List.getElem_cons_zero, List.getElem_cons_succ]
          go_simp
          try simp only [Act.put, List.setIfInBounds_toArray, List.set_cons_zero, List.set_cons_succ]
          refine hK.out _ _ _ c1 ?_
          clear hK K
          refine held_call 10 24 rfl rfl (by kernel_rfl) (by rfl) (fun K hK => ?_)
          try simp only [List.getElem_toArray, List.getElem_cons_zero, List.getElem_cons_succ]
          (go_simp; have c1 := later ((Below.refl w5.heap.size w5).alloc (Nat.le_refl _) (.cells #[.slice (some ⟨g5, 0, none⟩) n c5] 51 (0, 0))) c1; have c3 := later ((Below.refl w5.heap.size w5).alloc (Nat.le_refl _) (.cells #[.slice (some ⟨g5, 0, none⟩) n c5] 51 (0, 0))) c3)
          try simp only [Act.put, List.setIfInBounds_toArray, List.set_cons_zero, List.set_cons_succ]
          refine hK.out _ _ _ c1 ?_
          clear hK K
          refine held_call 11 25 rfl rfl (by kernel_rfl) (by rfl) (fun K hK => ?_)
          try simp only [List.getElem_toArray, List.getElem_cons_zero, List.getElem_cons_succ]
          (refine wp_append_lies _ (.tmp 18) (.tmp 24) 50 rfl w.heap.size 51 i0 _ 1 24 Try.underlying50 HI.out hz0 hz1 hz2 rfl (by omega) sv i _ rfl (HO5.out.alloc _) ⟨w5.heap.size, 0, none⟩ 1 1 [.slice (some ⟨g5, 0, none⟩) n c5] rfl rfl (cell_one_new _ _ _) (by simp [Value.oneCell']) (by omega) (by unfold maxLen; omega) (by omega) (by have := HX5.out.size; simp; omega) (w5.heap.size + 1) (by simp) ?_; intro g2 cap2 w8 hown1 hgrow1 hat1 hlt1; have HO8 := Lib.hid hown1; have o8 : Only (fun k => w.heap.size ≤ k) w5 w8 := ((Only.refl (fun k => w.heap.size ≤ k) w5).alloc _).grown hgrow1 (fun k hk _ => (OW.own_base HO5.out hk).1); have HR8 := Lib.hid (HR5.out.only o8 (by omega) (by omega) (by omega)); have HP8 := Lib.hid (prow_app HP5.out HO5.out hgrow1); have HW8 := Lib.hid (fun j hj => prow_app (HW5.out j hj) HO5.out hgrow1); have HX8 := Lib.hid (HX5.out.trans o8 (fun k hk e => absurd hk (by omega))); have HA8 := Lib.hid (HA5.out.trans (after_app HO5.out hgrow1 hlo HX5.out.size)); have c1 : w8.cell? ⟨b, 1, none⟩ = some (.int .i64 n) := (by rw [← HN.out]; exact HR8.out.at.2.1); have c3 := HR8.out.at.2.2.2.1; have z3 := HR8.out.free 3; clear hown1 hgrow1 hat1 hlt1 o8)
          try simp only [Act.put, List.setIfInBounds_toArray, List.set_cons_zero, List.set_cons_succ]
          refine hK.out _ _ _ c1 ?_
          clear hK K
          refine held_take 12 26 (v := ?_) rfl rfl (by kernel_rfl) (by kernel_rfl) (by kernel_rfl) (fun _ _ _ h => h) (by rfl) ?_ c1 ?_
          rotate_left
          · (intro w hSw; (try dsimp only at hSw); try simp only [List.getElem_toArray, List.getElem_cons_zero, List.getElem_cons_succ]; go_simp; try (with_reducible rfl))
          try simp only [List.setIfInBounds_toArray, List.set_cons_zero, List.set_cons_succ]
          refine held_take 13 27 (v := ?_) rfl rfl (by kernel_rfl) (by kernel_rfl) (by kernel_rfl) (fun _ _ _ h => h) (by rfl) ?_ c1 ?_
          rotate_left
          · (intro w hSw; (try dsimp only at hSw); try simp only [List.getElem_toArray, List.getElem_cons_zero, List.getElem_cons_succ]; go_simp; try (with_reducible rfl))
          try simp only [List.setIfInBounds_toArray, List.set_cons_zero, List.set_cons_succ]
          refine held_do 14 rfl (by kernel_rfl) (by rfl) (fun K hK => ?_)
          try simp only [List.getElem_toArray, List.getElem_cons_zero, List.getElem_cons_succ]
          (go_simp; have c1 : (w8.setCell ⟨b, 3, none⟩ (.slice (some ⟨g2, 0, none⟩) (i + 1) cap2)).cell? ⟨b, 1, none⟩ = some (.int .i64 n) := (by rw [← HN.out]; exact (HR8.out.inn _).at.2.1))
          try simp only [Act.put, List.setIfInBounds_toArray, List.set_cons_zero, List.set_cons_succ]
          refine hK.out _ _ _ c1 ?_
          clear hK K
          refine wpAnyH_done (by kernel_rfl) ?_ _
          have HRB := Lib.hid (HR8.out.inn (.slice (some ⟨g2, 0, none⟩) (i + 1) cap2))
          have oB : Only (fun k => k = b) w8 (w8.setCell ⟨b, 3, none⟩ (.slice (some ⟨g2, 0, none⟩) (i + 1) cap2)) := (Only.refl (fun k => k = b) w8).setCell (p := ⟨b, 3, none⟩) (fun _ => rfl) _
          have HOB := Lib.hid (oB.own HO8.out (fun k hk e => own_ne_blk HO8.out HR8.out.blk (by decide) (by rw [hk, e])))
          have HPB := Lib.hid (HP8.out.only oB (fun e => blk_ne HP8.out.choose_spec.1 HR8.out.blk (by decide) e))
          have HWB := Lib.hid (fun j hj => (HW8.out j hj).only oB (fun e => blk_ne (HW8.out j hj).choose_spec.1 HR8.out.blk (by decide) e))
          have HXB := Lib.hid (HX8.out.trans oB (fun k _ e => e))
          have HAB := Lib.hid (HA8.out.set (p := ⟨b, 3, none⟩) HR8.out.blk (.inl rfl) HR8.out.lo.1 hlo (.slice (some ⟨g2, 0, none⟩) (i + 1) cap2))
          clear c1 c3 z3 oB
          go_wp2
          go_roundw
          case rel => exact ⟨i + 1, _, fun j => if j = i then g5 else r j, fun j => if j = i then c5 else rc j, by omega, by go_num, HRB.out, by rw [rowsV_next]; exact HOB.out, rows_in HW.out HPB.out HWB.out HG5.out hwr, rows_inj HW.out HJ.out HG5.out (fun j hj => (HW.out j hj).2.lt), HXB.out, HAB.out⟩
          case measure => simp [intOf]; omega
        · try simp only [List.getElem_toArray, List.getElem_cons_zero, List.getElem_cons_succ]
          (go_simp; have c1 := later ((Below.refl w5.heap.size w5).alloc (Nat.le_refl _) (.cells #[.slice (some ⟨g5, 0, none⟩) n c5] 51 (0, 0))) c1; have c3 := later ((Below.refl w5.heap.size w5).alloc (Nat.le_refl _) (.cells #[.slice (some ⟨g5, 0, none⟩) n c5] 51 (0, 0))) c3)
          try simp only [Act.put, List.setIfInBounds_toArray, List.set_cons_zero, List.set_cons_succ]
          refine hK.out _ _ _ c1 ?_
          clear hK K
          refine held_call 4 18 rfl rfl (by kernel_rfl) (by rfl) (fun K hK => ?_)
          try simp only [List.getElem_toArray, List.getElem_cons_zero, List.getElem_cons_succ]
          go_simp
          try simp only [Act.put, List.setIfInBounds_toArray, List.set_cons_zero, List.set_cons_succ]
          refine hK.out _ _ _ c1 ?_
          clear hK K
          refine held_call 11 25 rfl rfl (by kernel_rfl) (by rfl) (fun K hK => ?_)
          try simp only [List.getElem_toArray, List.getElem_cons_zero, List.getElem_cons_succ]
          (refine wp_append_lies _ (.tmp 18) (.tmp 24) 50 rfl w.heap.size 51 i0 _ 1 24 Try.underlying50 HI.out hz0 hz1 hz2 rfl (by omega) sv i _ rfl (HO5.out.alloc _) ⟨w5.heap.size, 0, none⟩ 1 1 [.slice (some ⟨g5, 0, none⟩) n c5] rfl rfl (cell_one_new _ _ _) (by simp [Value.oneCell']) (by omega) (by unfold maxLen; omega) (by omega) (by have := HX5.out.size; simp; omega) (w5.heap.size + 1) (by simp) ?_; intro g2 cap2 w8 hown1 hgrow1 hat1 hlt1; have HO8 := Lib.hid hown1; have o8 : Only (fun k => w.heap.size ≤ k) w5 w8 := ((Only.refl (fun k => w.heap.size ≤ k) w5).alloc _).grown hgrow1 (fun k hk _ => (OW.own_base HO5.out hk).1); have HR8 := Lib.hid (HR5.out.only o8 (by omega) (by omega) (by omega)); have HP8 := Lib.hid (prow_app HP5.out HO5.out hgrow1); have HW8 := Lib.hid (fun j hj => prow_app (HW5.out j hj) HO5.out hgrow1); have HX8 := Lib.hid (HX5.out.trans o8 (fun k hk e => absurd hk (by omega))); have HA8 := Lib.hid (HA5.out.trans (after_app HO5.out hgrow1 hlo HX5.out.size)); have c1 : w8.cell? ⟨b, 1, none⟩ = some (.int .i64 n) := (by rw [← HN.out]; exact HR8.out.at.2.1); have c3 := HR8.out.at.2.2.2.1; have z3 := HR8.out.free 3; clear hown1 hgrow1 hat1 hlt1 o8)
          try simp only [Act.put, List.setIfInBounds_toArray, List.set_cons_zero, List.set_cons_succ]
          refine hK.out _ _ _ c1 ?_
          clear hK K
          refine held_take 12 26 (v := ?_) rfl rfl (by kernel_rfl) (by kernel_rfl) (by kernel_rfl) (fun _ _ _ h => h) (by rfl) ?_ c1 ?_
          rotate_left
          · (intro w hSw; (try dsimp only at hSw); try simp only [List.getElem_toArray, List.getElem_cons_zero, List.getElem_cons_succ]; go_simp; try (with_reducible rfl))
          try simp only [List.setIfInBounds_toArray, List.set_cons_zero, List.set_cons_succ]
          refine held_take 13 27 (v := ?_) rfl rfl (by kernel_rfl) (by kernel_rfl) (by kernel_rfl) (fun _ _ _ h => h) (by rfl) ?_ c1 ?_
          rotate_left
          · (intro w hSw; (try dsimp only at hSw); try simp only [List.getElem_toArray, List.getElem_cons_zero, List.getElem_cons_succ]; go_simp; try (with_reducible rfl))
          try simp only [List.setIfInBounds_toArray, List.set_cons_zero, List.set_cons_succ]
          refine held_do 14 rfl (by kernel_rfl) (by rfl) (fun K hK => ?_)
          try simp only [List.getElem_toArray, List.getElem_cons_zero, List.getElem_cons_succ]
          (go_simp; have c1 : (w8.setCell ⟨b, 3, none⟩ (.slice (some ⟨g2, 0, none⟩) (i + 1) cap2)).cell? ⟨b, 1, none⟩ = some (.int .i64 n) := (by rw [← HN.out]; exact (HR8.out.inn _).at.2.1))
          try simp only [Act.put, List.setIfInBounds_toArray, List.set_cons_zero, List.set_cons_succ]
          refine hK.out _ _ _ c1 ?_
          clear hK K
          refine wpAnyH_done (by kernel_rfl) ?_ _
          have HRB := Lib.hid (HR8.out.inn (.slice (some ⟨g2, 0, none⟩) (i + 1) cap2))
          have oB : Only (fun k => k = b) w8 (w8.setCell ⟨b, 3, none⟩ (.slice (some ⟨g2, 0, none⟩) (i + 1) cap2)) := (Only.refl (fun k => k = b) w8).setCell (p := ⟨b, 3, none⟩) (fun _ => rfl) _
          have HOB := Lib.hid (oB.own HO8.out (fun k hk e => own_ne_blk HO8.out HR8.out.blk (by decide) (by rw [hk, e])))
          have HPB := Lib.hid (HP8.out.only oB (fun e => blk_ne HP8.out.choose_spec.1 HR8.out.blk (by decide) e))
          have HWB := Lib.hid (fun j hj => (HW8.out j hj).only oB (fun e => blk_ne (HW8.out j hj).choose_spec.1 HR8.out.blk (by decide) e))
          have HXB := Lib.hid (HX8.out.trans oB (fun k _ e => e))
          have HAB := Lib.hid (HA8.out.set (p := ⟨b, 3, none⟩) HR8.out.blk (.inl rfl) HR8.out.lo.1 hlo (.slice (some ⟨g2, 0, none⟩) (i + 1) cap2))
          clear c1 c3 z3 oB
          go_wp2
          go_roundw
          case rel => exact ⟨i + 1, _, fun j => if j = i then g5 else r j, fun j => if j = i then c5 else rc j, by omega, by go_num, HRB.out, by rw [rowsV_next]; exact HOB.out, rows_in HW.out HPB.out HWB.out HG5.out hwr, rows_inj HW.out HJ.out HG5.out (fun j hj => (HW.out j hj).2.lt), HXB.out, HAB.out⟩
          case measure => simp [intOf]; omega
    · obtain rfl : n = i := by omega
      obtain ⟨gi, ci, rfl, hgi, _, _⟩ := own_form HO.out hn0
      have HGI := Lib.hid hgi
      clear hgi
      go_wp2
      refine bodyPost_end (results_none rfl _ _ _) rfl ?_
      exact ⟨rfl, ⟨⟨L.c, gi, ci, L.f, L.fc, r, rc⟩, rn_mk HN.out HR.out HO.out HW.out HJ.out hlo hbl hfl⟩, HA.out⟩
end RefN
end Go.Proofs.Ytcmknllefnahkaa
