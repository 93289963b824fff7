/-
  The document's Way, twice, and both Acyclic. Conditions: those that each theorem names.
-/
import Derived.Test.YtebkpjefdaieaaaWay
namespace Go.Proofs.Ytebkpjefdaieaaa
open Go.RowKit
set_option linter.unusedVariables false
set_option linter.unusedSimpArgs false
namespace GG
theorem mem_of {L : List Int} {i : Nat} {x : Int} (hi : i < L.length) (e : L.getD i 0 = x) : x ∈ L := (mem_ex rfl x).1 ⟨i, hi, e⟩
theorem not_mem_of {L : List Int} {x : Int} (h : ∀ j, j < L.length → L.getD j 0 ≠ x) : x ∉ L := fun hm => by
  obtain ⟨i, hi, e⟩ := (mem_ex rfl x).2 hm
  exact h i hi e
/-- x is not among the first i ones -/
def Miss (L : List Int) (i : Nat) (x : Int) : Prop := ∀ j, j < i → L.getD j 0 ≠ x
set_option maxRecDepth 100000 in
set_option maxHeartbeats 8000000 in
theorem refway_any (A : Option Addr) (n cap : Nat) (N : Nat → Int) (f0 : Int) (w : World) (hn : n ≤ 1000000) (hI : Ints w A n N) :
    Calls Try.prog 62 #[.slice A n cap, .int .i64 f0] w fun e w' => (∃ v, e = .returned v ∧ w'.ownsRow w.heap.size 3 1 v (way n N [] f0).length (nums (way n N [] f0)) ∧ lenOf v = (way n N [] f0).length) ∧ Below w.heap.size w w' := by
  obtain ⟨i0, hi0, hz0, hz1, hz2⟩ := info_parts intinfo
  have HI := Lib.hid hi0
  have H := Lib.hid hI
  clear hi0 hI
  go_enter Try.func62, Try.ntmps62
  go_upto_region 2 with fail
  go_loopw [1, 5] (fun s1 s5 wr => ∃ (f : Int) (L : List Int), s1 = .int .i64 f ∧ way n N [] f0 = way n N L f ∧ Fine n L ∧ wr.ownsRow w.heap.size 3 1 s5 L.length (nums L) ∧ Below w.heap.size w wr ∧ ∃ A' cap', s5 = .slice A' L.length cap') (fun _ s5 _ => n + 1 - lenOf s5)
  case atStart => exact ⟨f0, [], rfl, rfl, Fine.nil n, ⟨by simp [nums], .inl ⟨rfl, rfl⟩⟩, Below.refl _ _, none, 0, rfl⟩
  case round =>
    obtain ⟨f, L, rfl, hway, hfine, hown, hbw, A', cap', rfl⟩ := hrel
    have HWAY := Lib.hid hway
    have HF := Lib.hid hfine
    have HO := Lib.hid hown
    have HB := Lib.hid hbw
    have hLn := fine_len n L hfine
    clear hway hfine hown hbw
    obtain ⟨u, hu⟩ : ∃ u, u = wr := ⟨_, rfl⟩
    subst hu
    by_cases hf : 0 ≤ f ∧ f < n
    · have hf0 := hf.1
      have hf1 := hf.2
      obtain ⟨F, rfl⟩ : ∃ F : Nat, f = F := ⟨f.toNat, by omega⟩
      obtain ⟨b, o, rfl, hl, hc⟩ := H.out F (by omega)
      have HII := Lib.hid (Ints.own HO.out)
      have HC := Lib.hid hc
      clear hc
      go_upto_region 4 with fail
      go_loopw [6] (fun s6 wr => wr = u ∧ ∃ i : Nat, i ≤ L.length ∧ s6 = .int .i64 i ∧ Miss L i F) (fun s6 _ => L.length - (intOf s6).toNat)
      case atStart => exact ⟨rfl, 0, by omega, rfl, fun j hj => by omega⟩
      case round =>
        obtain ⟨rfl, i, hi, rfl, hne⟩ := hrel
        have HNE := Lib.hid hne
        clear hne
        by_cases hlt : i < L.length
        · have hlt' : (i : Int) < (L.length : Int) := by omega
          have i00 : (0 : Int) ≤ (i : Int) := by omega
          obtain ⟨b2, o2, rfl, hl2, hc3⟩ := HII.out i hlt
          obtain ⟨x, hx⟩ : ∃ x, L.getD i 0 = x := ⟨_, rfl⟩
          have hc2 : wr.cell? ⟨b2, o2 + i, none⟩ = some (.int .i64 (L.getD i 0)) := hc3
          clear hc3
          rw [hx] at hc2
          have HX := Lib.hid hx
          clear hx
          cases hxe : (x == (F : Int))
          · go_wp2
            go_roundw
            case rel =>
              refine ⟨trivial, i + 1, by omega, by go_num, fun j hj => ?_⟩
              by_cases e : j = i
              · subst e; rw [HX.out]; simpa using hxe
              · exact HNE.out j (by omega)
            case measure => simp [intOf]; omega
          · have hxF : x = (F : Int) := by simpa using hxe
            have HG := Lib.hid (way_in HWAY.out HF.out (by omega) (mem_of hlt (HX.out.trans hxF)))
            clear hxF
            go_wp2_with (at_builtin; refine wpList_append_lies _ rfl (.tmp 27) (.tmp 29) 35 rfl w.heap.size 3 i0 _ 1 8 Try.underlying35 HI.out hz0 hz1 hz2 rfl (by omega) (.slice (some ⟨b2, o2, none⟩) L.length cap') L.length _ rfl (HO.out.alloc _) ⟨wr.heap.size, 0, none⟩ 1 1 [.int .i64 F] rfl rfl (cell_one_new _ _ _) (by simp [Value.oneCell']) (by omega) (by unfold maxLen; omega) (by omega) (by have := HB.out.size; simp; omega) (wr.heap.size + 1) (by simp) ?_; intro g2 cap2 w1 hown1 hgrow1 hat1 hlt1; have HO1 := Lib.hid hown1; have HA1 := Lib.hid hat1; have HR1 := Lib.hid hgrow1; clear hown1 hat1 hgrow1)
            go_ret
            refine ⟨⟨_, rfl, ?_, ?_⟩, app_below HB.out HO.out HR1.out⟩
            · rw [HG.out, ← nums_add, List.length_append]; exact HO1.out
            · rw [HG.out, List.length_append]; rfl
        · obtain rfl : i = L.length := by omega
          have hm' := not_mem_of HNE.out
          have HG := Lib.hid (way_go HWAY.out HF.out (by omega) hm')
          have HFA := Lib.hid (HF.out.add hf hm')
          clear hm'
          go_upto_region 9 with (at_builtin; refine wpList_append_lies _ rfl (.tmp 31) (.tmp 33) 35 rfl w.heap.size 3 i0 _ 1 8 Try.underlying35 HI.out hz0 hz1 hz2 rfl (by omega) (.slice A' L.length cap') L.length _ rfl (HO.out.alloc _) ⟨wr.heap.size, 0, none⟩ 1 1 [.int .i64 F] rfl rfl (cell_one_new _ _ _) (by simp [Value.oneCell']) (by omega) (by unfold maxLen; omega) (by omega) (by have := HB.out.size; simp; omega) (wr.heap.size + 1) (by simp) ?_; intro g2 cap2 w1 hown1 hgrow1 hat1 hlt1; have HO1 := Lib.hid hown1; have HA1 := Lib.hid hat1; have HR1 := Lib.hid hgrow1; clear hown1 hat1 hgrow1)
          have HB1 := Lib.hid (app_below HB.out HO.out HR1.out)
          have hc1 := later HB1.out HC.out
          go_wp2
          go_roundw
          case rel => exact ⟨N F, L ++ [(F : Int)], rfl, HG.out, HFA.out, by rw [← nums_add, List.length_append]; exact HO1.out, HB1.out, _, _, by rw [List.length_append]; rfl⟩
          case measure => simp [lenOf]; omega
    · have HG := Lib.hid (HWAY.out.trans (way_out HF.out hf))
      by_cases hf0 : 0 ≤ f
      · have hf1 : ¬ f < (n : Int) := fun h => hf ⟨hf0, h⟩
        go_wp2
        go_ret
        exact ⟨⟨_, rfl, by rw [HG.out]; exact HO.out, by rw [HG.out]; rfl⟩, HB.out⟩
      · go_wp2
        go_ret
        exact ⟨⟨_, rfl, by rw [HG.out]; exact HO.out, by rw [HG.out]; rfl⟩, HB.out⟩
end GG
end Go.Proofs.Ytebkpjefdaieaaa
