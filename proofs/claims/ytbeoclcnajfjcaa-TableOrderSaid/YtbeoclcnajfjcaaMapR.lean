/-
  The map of TableOrder: routes by their prefixes. Conditions: those that each theorem names.
-/
import Derived.Test.YtbeoclcnajfjcaaTabB
import Derived.Maps.OwnSet
import Derived.Maps.Views
import Derived.DeepKeys4
namespace Go.Proofs.Ytbeoclcnajfjcaa
open Go Go.RowKit H2
set_option linter.unusedVariables false
set_option linter.unusedSimpArgs false
namespace MapR
open Tab Go.Maps Go.WideMaps
set_option maxRecDepth 100000
abbrev RV : Value → Option (DataW Value × List MemPlace) := fun v => some (.held v, [])
def Wf (p : Pf) : Prop := (Lit.int .i64 p.len).wf = true
theorem mapM_some {α β : Type} {f : α → Option β} : ∀ l : List α, (∀ x ∈ l, ∃ y, f x = some y) → ∃ ys, l.mapM f = some ys
  | [], _ => ⟨[], rfl⟩
  | x :: l, h => by
    obtain ⟨y, hy⟩ := h x (List.mem_cons_self ..)
    obtain ⟨ys, hys⟩ := mapM_some l (fun z hz => h z (List.mem_cons_of_mem _ hz))
    exact ⟨y :: ys, by rw [List.mapM_cons, hy, hys]; rfl⟩
theorem wf8 (b : UInt8) : (Lit.int .u8 (b.toNat : Int)).wf = true := by
  have := b.toNat_lt
  simp [Lit.wf, IntKind.min, IntKind.max, IntKind.signed, IntKind.bits]
  omega
theorem key_8 (d : Nat) (b : UInt8) : Try.prog.keyLits (d + 1) 5 [.int .u8 (b.toNat : Int)] = some [.int .u8 (b.toNat : Int)] := by
  unfold Program.keyLits
  simp only [Try.underlying5]
  rw [if_pos (by simp [wf8])]
theorem key_b (d : Nat) (b : Bool) : Try.prog.keyLits (d + 1) 4 [.bool b] = some [.bool b] := by
  unfold Program.keyLits
  simp only [Try.underlying4]
theorem key_i (d : Nat) (k : Int) (h : (Lit.int .i64 k).wf = true) : Try.prog.keyLits (d + 1) 3 [.int .i64 k] = some [.int .i64 k] := by
  unfold Program.keyLits
  simp only [Try.underlying3]
  rw [if_pos (by simp [h])]
theorem ce_8 : Try.prog.cellsOf 5 = 1 := by kernel_rfl
theorem ce_b : Try.prog.cellsOf 4 = 1 := by kernel_rfl
theorem ce_i : Try.prog.cellsOf 3 = 1 := by kernel_rfl
theorem ce_A : Try.prog.cellsOf 23 = 16 := by kernel_rfl
theorem ce_P : Try.prog.cellsOf 25 = 18 := by kernel_rfl
theorem key_A (d : Nat) (a : Vector UInt8 16) : ∃ ls, Try.prog.keyLits (d + 2) 23 (encA a) = some ls := by
  unfold Program.keyLits
  simp only [Try.underlying23]
  rw [if_pos (by rw [ce_A, encA_len])]
  obtain ⟨ys, hy⟩ := mapM_some (f := fun i => Try.prog.keyLits (d + 1) 5 (((encA a).drop (i * Try.prog.cellsOf 5)).take (Try.prog.cellsOf 5))) (List.range 16) (fun i hi => by
    have hi' : i < 16 := by simpa using hi
    rw [ce_8, Nat.mul_one, List.drop_eq_getElem_cons (by rw [encA_len]; exact hi'), List.take_succ_cons, List.take_zero]
    have e : (encA a)[i]'(by rw [encA_len]; exact hi') = .int .u8 (a[i].toNat : Int) := by simp [encA]
    rw [e]
    exact ⟨_, key_8 d _⟩)
  rw [hy]
  exact ⟨_, rfl⟩
theorem key_P (d : Nat) (p : Pf) (h : Wf p) : ∃ ls, Try.prog.keyLits (d + 3) 25 (encP p) = some ls := by
  obtain ⟨la, ha⟩ := key_A d p.addr
  have k0 : Try.prog.keyLits (d + 2) 4 (((encP p).drop 0).take (Try.prog.cellsOf 4)) = some [.bool p.six] := by rw [ce_b]; exact key_b _ _
  have k1 : Try.prog.keyLits (d + 2) 23 (((encP p).drop 1).take (Try.prog.cellsOf 23)) = some la := by
    rw [ce_A, ← ha]
    congr 1
    show (encA p.addr ++ [Value.int .i64 p.len]).take 16 = _
    exact List.take_left' (encA_len _)
  have k2 : Try.prog.keyLits (d + 2) 3 (((encP p).drop 17).take (Try.prog.cellsOf 3)) = some [.int .i64 p.len] := by
    rw [ce_i]
    have e : (encP p).drop 17 = [Value.int .i64 p.len] := by
      show (encA p.addr ++ [Value.int .i64 p.len]).drop 16 = _
      exact List.drop_left' (encA_len _)
    rw [e]
    exact key_i _ _ h
  unfold Program.keyLits
  simp only [Try.underlying25]
  rw [if_pos (by rw [ce_P, encP_len]; exact ⟨rfl, by simp⟩)]
  simp only [List.mapM_cons, List.mapM_nil, k0, k1, k2]
  exact ⟨_, rfl⟩
theorem laid : laidOutB Try.prog = true := by kernel_rfl
theorem rowP : (25 : TypeId) < Try.prog.types.size := of_decide_eq_true (by kernel_rfl)
theorem wideP : (match Try.prog.underlying 25 with | some (.array _ _) | some (.struct _) => true | _ => false) = true := by rw [Try.underlying25]
theorem kK : Keyed Try.prog 25 := Keyed.of_law (deep_law_laid laid (m := 3) (by omega) rowP (by kernel_rfl) wideP)
theorem key_some (p : Pf) (h : Wf p) : ∃ l, keyOf Try.prog 25 (.agg (encP p).toArray) = some l := by
  unfold keyOf
  have hk : Try.prog.keyType 25 = true := by kernel_rfl
  have hf : Value.formed Try.prog 25 (.agg (encP p).toArray) = true := by
    unfold Value.formed
    rw [Try.underlying25, ce_P]
    simp [encP_len]
  obtain ⟨m, hm⟩ : ∃ m, Try.prog.types.size + 1 = m + 3 := ⟨Try.prog.types.size - 2, by have := rowP; have h2 : (2 : Nat) < Try.prog.types.size := of_decide_eq_true (by kernel_rfl); omega⟩
  obtain ⟨ls, hl⟩ := key_P m p h
  rw [hm, hk, hf]
  simp only [Try.underlying25, Bool.and_self, if_true, Value.cells]
  exact ⟨.string (keyBytes ls), by rw [hl]; rfl⟩
noncomputable def kp (p : Pf) : Lit := (keyOf Try.prog 25 (.agg (encP p).toArray)).getD (.bool false)
theorem kp_some {p : Pf} (h : Wf p) : keyOf Try.prog 25 (.agg (encP p).toArray) = some (kp p) := by
  obtain ⟨l, hl⟩ := key_some p h
  unfold kp
  rw [hl]
  rfl
theorem encA_inj {a b : Vector UInt8 16} (h : encA a = encA b) : a = b := by
  have h2 : a.toList = b.toList := map_inj (fun x : UInt8 => Value.int .u8 (x.toNat : Int)) (fun x y e => by
    injection e with e1 e2
    exact UInt8.toNat_inj.1 (by omega)) _ _ h
  exact Vector.toList_inj.1 h2
theorem encP_inj {p q : Pf} (h : encP p = encP q) : p = q := by
  obtain ⟨s, a, l⟩ := p
  obtain ⟨s', a', l'⟩ := q
  have h1 : Value.bool s :: (encA a ++ [Value.int .i64 l]) = Value.bool s' :: (encA a' ++ [Value.int .i64 l']) := h
  injection h1 with e1 e2
  obtain ⟨e3, e4⟩ := List.append_inj e2 (by rw [encA_len, encA_len])
  injection e1 with e1
  rw [encA_inj e3, e1]
  simp at e4
  rw [e4]
theorem kp_ne {p q : Pf} (h : Wf p) (h' : Wf q) (hne : p ≠ q) : kp p ≠ kp q := fun e => hne (by
  have h1 := kK.inj (kp_some h) (e ▸ kp_some h')
  injection h1 with h1
  exact encP_inj (by simpa using congrArg Array.toList h1))
/-- block b is the map of the routes T by their prefixes -/
def Mp (w : World) (b n : Nat) (T : List Rt) : Prop := ∃ D : DataW Value, w.ownsMap Try.prog 25 RV b n D ∧ (∀ p, Wf p → D.atKey (kp p) (.held (.agg (encR zR).toArray)) = .held (.agg (encR ((get T p).getD zR)).toArray)) ∧ (∀ p, Wf p → Maps.has D (kp p) = Tab.has T p) ∧ Maps.size D = T.length
theorem made (w : World) : Mp (w.alloc (.map #[] 0)) w.heap.size 0 [] := ⟨_, World.ownsMap_made w Try.prog _ RV, fun p _ => WideAt.atKey_none _ (by simp), fun p _ => rfl, rfl⟩
theorem Mp.lt {w : World} {b n : Nat} {T : List Rt} (h : Mp w b n T) : b < w.heap.size := h.choose_spec.1.lt
theorem Mp.obj {w w' : World} {b n : Nat} {T : List Rt} (h : Mp w b n T) (ho : w'.heap[b]? = w.heap[b]?) : Mp w' b n T := by
  obtain ⟨D, ⟨es, clock, hb, r⟩, hF⟩ := h
  exact ⟨D, ⟨es, clock, ho.trans hb, r⟩, hF⟩
theorem Mp.blk {w : World} {b n : Nat} {T : List Rt} (h : Mp w b n T) : ∃ es clock, w.heap[b]? = some (.map es clock) := by
  obtain ⟨D, ⟨es, clock, hb, r⟩, hF⟩ := h
  exact ⟨es, clock, hb⟩
theorem Mp.below {w w' : World} {b n : Nat} {T : List Rt} (h : Mp w b n T) (hb : Below w.heap.size w w') : Mp w' b n T := h.obj (hb.block b h.lt)
theorem Mp.only {S : Nat → Prop} {w w' : World} {b n : Nat} {T : List Rt} (h : Mp w b n T) (ho : Only S w w') (hS : ¬ S b) : Mp w' b n T := h.obj (ho.block b h.lt hS)
theorem Mp.look {w : World} {b n : Nat} {T : List Rt} (h : Mp w b n T) {p : Pf} (hp : Wf p) : (Instr.lookup 66 (.map (some b)) (.agg (encP p).toArray) false).run Try.prog w = .ok (.agg (encR ((get T p).getD zR)).toArray) w := by
  obtain ⟨D, hD, h1, h2, h3⟩ := h
  obtain ⟨v, ps, hrun, hv⟩ := hD.lookup kK Try.underlying66 (zvR w) (rfl : RV (.agg (encR zR).toArray) = some (.held (.agg (encR zR).toArray), [])) (kp_some hp)
  have e := h1 p hp
  simp only [Option.some.injEq, Prod.mk.injEq] at hv
  rw [← hv.1] at e
  cases e
  exact hrun
theorem Mp.look_ok {w : World} {b n : Nat} {T : List Rt} (h : Mp w b n T) {p : Pf} (hp : Wf p) : (Instr.lookup 66 (.map (some b)) (.agg (encP p).toArray) true).run Try.prog w = .ok (.tuple #[.agg (encR ((get T p).getD zR)).toArray, .bool (Tab.has T p)]) w := by
  obtain ⟨D, hD, h1, h2, h3⟩ := h
  obtain ⟨v, ps, hrun, hv⟩ := hD.look_ok kK Try.underlying66 (zvR w) (rfl : RV (.agg (encR zR).toArray) = some (.held (.agg (encR zR).toArray), [])) (kp_some hp)
  have e := h1 p hp
  simp only [Option.some.injEq, Prod.mk.injEq] at hv
  rw [← hv.1] at e
  cases e
  rw [h2 p hp] at hrun
  exact hrun
theorem Mp.len {w : World} {b n : Nat} {T : List Rt} (h : Mp w b n T) (ty : TypeId) : (Builtin.len_ #[66] ty #[.map (some b)]).run Try.prog w = .ok (.int .i64 T.length) w := by
  obtain ⟨D, hD, h1, h2, h3⟩ := h
  rw [← h3]
  exact hD.len Try.underlying66 ty
theorem Mp.put {w : World} {b n : Nat} {T : List Rt} (h : Mp w b n T) (hs : Srt T) (hn : n < maxLen) {r : Rt} (hr : Wf r.to) :
    ∃ w', (Instr.mapUpdate 66 (.map (some b)) (.agg (encP r.to).toArray) (.agg (encR r).toArray)).run Try.prog w = .ok () w' ∧ Mp w' b (n + 1) (ins T r) ∧ w.grownBy w' (some b) := by
  obtain ⟨D, hD, h1, h2, h3⟩ := h
  obtain ⟨w', hrun, g1, g2⟩ := hD.update kK Try.underlying66 hn (kp_some hr) (rfl : RV (.agg (encR r).toArray) = some (.held (.agg (encR r).toArray), []))
  refine ⟨w', hrun, ⟨_, g1, fun p hp => ?_, fun p hp => ?_, ?_⟩, g2⟩
  · by_cases e : p = r.to
    · subst e
      rw [get_ins hs, if_pos rfl, Option.getD_some]
      exact atKey_put_same hD.isMap (kK.key (kp_some hr)) _ _
    · rw [get_ins hs, if_neg e]
      exact (atKey_put_other (kp_ne hp hr e) _ _).trans (h1 p hp)
  · by_cases e : p = r.to
    · subst e
      rw [has_put_same hD.isMap (kK.key (kp_some hr))]
      unfold Tab.has
      rw [get_ins hs, if_pos rfl]
      rfl
    · rw [has_put_other (kp_ne hp hr e), h2 p hp]
      unfold Tab.has
      rw [get_ins hs, if_neg e]
  · rw [size_put (hD.tidy kK), h2 r.to hr, h3, len_ins hs]
    split <;> rfl
end MapR
end Go.Proofs.Ytbeoclcnajfjcaa
