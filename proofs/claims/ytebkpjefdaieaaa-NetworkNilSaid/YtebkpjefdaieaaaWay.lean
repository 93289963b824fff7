/-
  Following numbers: graph.Way and the document's Way. Conditions: those that each theorem names.
-/
import Derived.Test.YtebkpjefdaieaaaWayP
import Derived.Deep.DeepCutAuto
import Derived.Deep.CutBlock
import Derived.Deep.AppendLies
import Derived.OwnWalk
namespace Go.Proofs.Ytebkpjefdaieaaa
open Go.RowKit
set_option linter.unusedVariables false
set_option linter.unusedSimpArgs false
namespace GG
theorem intinfo : (Try.prog.info? 3).map (fun i => (i.zero, i.size, i.bytes)) = some (some (.int .i64 0), 1, 8) := by kernel_rfl
theorem nums_add (L : List Int) (x : Int) : nums L ++ [.int .i64 x] = nums (L ++ [x]) := by simp [nums]
theorem mem_ex {L : List Int} {n : Nat} (h : L.length = n) (f : Int) : (∃ i, i < n ∧ L.getD i 0 = f) ↔ f ∈ L := by
  subst h
  constructor
  · rintro ⟨i, hi, e⟩
    rw [List.getD_eq_getElem?_getD, List.getElem?_eq_getElem hi] at e
    exact e ▸ List.getElem_mem hi
  · intro hm
    obtain ⟨i, hi, e⟩ := List.getElem_of_mem hm
    exact ⟨i, hi, by rw [List.getD_eq_getElem?_getD, List.getElem?_eq_getElem hi]; exact e⟩
theorem contains_list (A : Option Addr) (n cap : Nat) (L : List Int) (x : Int) (w : World) (hn : n ≤ 9223372036854775807) (hL : L.length = n) (h : Ints w A n (fun i => L.getD i 0)) :
    Calls Try.prog 61 #[.slice A n cap, .int .i64 x] w fun e w' => e = .returned (.bool (decide (x ∈ L))) ∧ w = w' := by
  have e : decide (∃ i, i < n ∧ (fun i => L.getD i 0) i = x) = decide (x ∈ L) := decide_eq_decide.2 (mem_ex hL x)
  rw [← e]
  exact contains_any A n cap _ x w hn h
theorem own_base {w : World} {base size n : Nat} {e : TypeId} {v : Value} {xs : List Value} (h : w.ownsRow base e size v n xs) {b : Nat} (hb : v.ownBlock = some b) : base ≤ b := by
  rcases h.2 with ⟨rfl, _⟩ | ⟨g, cap, cur, rfl, hb', hh, _⟩
  · cases hb
  · simp only [Value.ownBlock, Option.some.injEq] at hb
    omega
/-- behind an append -/
theorem app_below {w wr w1 : World} {size n : Nat} {e : TypeId} {v : Value} {xs : List Value} {o : Obj} (hB : Below w.heap.size w wr) (ho : wr.ownsRow w.heap.size e size v n xs) (hg : (wr.alloc o).grownBy w1 v.ownBlock) : Below w.heap.size w w1 :=
  (((Only.refl (fun i => w.heap.size ≤ i) w).of_below hB).alloc o |>.grown hg (fun q hq _ => own_base ho hq)).below (Nat.le_refl _) (fun i hi h => by omega)
/-- how long a slice is -/
def lenOf : Value → Nat
  | .slice _ k _ => k
  | _ => 0
theorem way_in {n : Nat} {N : Nat → Int} {f0 : Int} {L : List Int} {F : Nat} (hw : way n N [] f0 = way n N L F) (hf : Fine n L) (hF : F < n) (hm : (F : Int) ∈ L) : way n N [] f0 = L ++ [(F : Int)] := by
  rw [hw]; exact way_back hf ⟨by omega, by omega⟩ hm
theorem way_go {n : Nat} {N : Nat → Int} {f0 : Int} {L : List Int} {F : Nat} (hw : way n N [] f0 = way n N L F) (hf : Fine n L) (hF : F < n) (hm : (F : Int) ∉ L) : way n N [] f0 = way n N (L ++ [(F : Int)]) (N F) := by
  rw [hw, way_on hf ⟨by omega, by omega⟩ hm]; rfl
set_option maxRecDepth 100000 in
set_option maxHeartbeats 8000000 in
theorem way_any (A : Option Addr) (n cap : Nat) (N : Nat → Int) (f0 : Int) (w : World) (hn : n ≤ 1000000) (hI : Ints w A n N) :
    Calls Try.prog 60 #[.slice A n cap, .int .i64 f0] w fun e w' => (∃ v, e = .returned v ∧ w'.ownsRow w.heap.size 3 1 v (way n N [] f0).length (nums (way n N [] f0)) ∧ lenOf v = (way n N [] f0).length) ∧ Below w.heap.size w w' := by
  obtain ⟨i0, hi0, hz0, hz1, hz2⟩ := info_parts intinfo
  have HI := Lib.hid hi0
  have H := Lib.hid hI
  clear hi0 hI
  go_enter Try.func60, Try.ntmps60
  go_upto_region 1 with fail
  go_loopw [1, 4] (fun s1 s4 wr => ∃ (f : Int) (L : List Int), s1 = .int .i64 f ∧ way n N [] f0 = way n N L f ∧ Fine n L ∧ wr.ownsRow w.heap.size 3 1 s4 L.length (nums L) ∧ Below w.heap.size w wr ∧ ∃ A' cap', s4 = .slice A' L.length cap') (fun _ s4 _ => n + 1 - lenOf s4)
  case atStart => exact ⟨f0, [], rfl, rfl, Fine.nil n, ⟨by simp [nums], .inl ⟨rfl, rfl⟩⟩, Below.refl _ _, none, 0, rfl⟩
  case round =>
    obtain ⟨f, L, rfl, hway, hfine, hown, hbw, A', cap', rfl⟩ := hrel
    have HWAY := Lib.hid hway
    have HF := Lib.hid hfine
    have HO := Lib.hid hown
    have HB := Lib.hid hbw
    have hLn := fine_len n L hfine
    clear hway hfine hown hbw
    by_cases hf : 0 ≤ f ∧ f < n
    · have hf0 := hf.1
      have hf1 := hf.2
      obtain ⟨F, rfl⟩ : ∃ F : Nat, f = F := ⟨f.toNat, by omega⟩
      obtain ⟨b, o, rfl, hl, hc⟩ := H.out F (by omega)
      have HII := Lib.hid (Ints.own HO.out)
      have HC := Lib.hid hc
      clear hc
      cases hm : decide ((F : Int) ∈ L)
      · have hm' : (F : Int) ∉ L := of_decide_eq_false hm
        have HG := Lib.hid (way_go HWAY.out HF.out (by omega) hm')
        have HFA := Lib.hid (HF.out.add hf hm')
        clear hm'
        have HM := Lib.hid hm
        clear hm
        go_upto_region 6 with (first
          | (go_at_call 61; refine (contains_list A' L.length cap' L F wr (by omega) rfl HII.out).mono ?_; rintro e w1 ⟨rfl, rfl⟩; rw [HM.out])
          | (at_builtin; refine wpList_append_lies _ rfl (.tmp 17) (.tmp 19) 35 rfl w.heap.size 3 i0 _ 1 8 Try.underlying35 HI.out hz0 hz1 hz2 rfl (by omega) (.slice A' L.length cap') L.length _ rfl (HO.out.alloc _) ⟨wr.heap.size, 0, none⟩ 1 1 [.int .i64 F] rfl rfl (cell_one_new _ _ _) (by simp [Value.oneCell']) (by omega) (by unfold maxLen; omega) (by omega) (by have := HB.out.size; simp; omega) (wr.heap.size + 1) (by simp) ?_; intro g2 cap2 w1 hown1 hgrow1 hat1 hlt1; have HO1 := Lib.hid hown1; have HA1 := Lib.hid hat1; have HR1 := Lib.hid hgrow1; clear hown1 hat1 hgrow1))
        have HB1 := Lib.hid (app_below HB.out HO.out HR1.out)
        have hc1 := later HB1.out HC.out
        go_wp2
        go_roundw
        case rel => exact ⟨N F, L ++ [(F : Int)], rfl, HG.out, HFA.out, by rw [← nums_add, List.length_append]; exact HO1.out, HB1.out, _, _, by rw [List.length_append]; rfl⟩
        case measure => simp [lenOf]; omega
      · have HG := Lib.hid (way_in HWAY.out HF.out (by omega) (of_decide_eq_true hm))
        have HM := Lib.hid hm
        clear hm
        go_wp2_with (first
          | (go_at_call 61; refine (contains_list A' L.length cap' L F wr (by omega) rfl HII.out).mono ?_; rintro e w1 ⟨rfl, rfl⟩; rw [HM.out])
          | (at_builtin; refine wpList_append_lies _ rfl (.tmp 17) (.tmp 19) 35 rfl w.heap.size 3 i0 _ 1 8 Try.underlying35 HI.out hz0 hz1 hz2 rfl (by omega) (.slice A' L.length cap') L.length _ rfl (HO.out.alloc _) ⟨wr.heap.size, 0, none⟩ 1 1 [.int .i64 F] rfl rfl (cell_one_new _ _ _) (by simp [Value.oneCell']) (by omega) (by unfold maxLen; omega) (by omega) (by have := HB.out.size; simp; omega) (wr.heap.size + 1) (by simp) ?_; intro g2 cap2 w1 hown1 hgrow1 hat1 hlt1; have HO1 := Lib.hid hown1; have HA1 := Lib.hid hat1; have HR1 := Lib.hid hgrow1; clear hown1 hat1 hgrow1))
        go_ret
        refine ⟨⟨_, rfl, ?_, ?_⟩, app_below HB.out HO.out HR1.out⟩
        · rw [HG.out, ← nums_add, List.length_append]; exact HO1.out
        · rw [HG.out, List.length_append]; rfl
    · have HG := Lib.hid (HWAY.out.trans (way_out HF.out hf))
      by_cases hf0 : 0 ≤ f
      · have hf1 : ¬ f < (n : Int) := fun h => hf ⟨hf0, h⟩
        go_wp2
        go_ret
        exact ⟨⟨_, rfl, by rw [HG.out]; exact HO.out, by rw [HG.out]; rfl⟩, HB.out⟩
      · go_wp2
        go_ret
        exact ⟨⟨_, rfl, by rw [HG.out]; exact HO.out, by rw [HG.out]; rfl⟩, HB.out⟩
end GG
end Go.Proofs.Ytebkpjefdaieaaa
