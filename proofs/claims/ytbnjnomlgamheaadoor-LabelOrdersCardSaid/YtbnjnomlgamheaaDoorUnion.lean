/- Sets of categories: what is in any. -/
import Derived.Test.YtbnjnomlgamheaaDoorParse
namespace Go.Proofs.YtbnjnomlgamheaaDoor
set_option linter.unusedSimpArgs false
set_option linter.unusedVariables false
open Go.RowKit
def orC (a b : Cts) : Cts := Vector.zipWith (· ||| ·) a b
/-- After k rounds of the inner loop. -/
def orK (a b : Cts) (k : Nat) : Cts := Vector.ofFn fun i => if i.val < k then a[i] ||| b[i] else a[i]
theorem orK_zero (a b : Cts) : orK a b 0 = a := by ext i h; simp [orK]
theorem orK_end (a b : Cts) : orK a b 30 = orC a b := by ext i h; simp [orK, orC, h]
theorem orK_at (a b : Cts) (k : Nat) (h : k < 30) : (orK a b k)[k] = a[k] := by simp [orK]
theorem orK_succ (a b : Cts) (k : Nat) (h : k < 30) : (encC (orK a b k)).setIfInBounds k (vb (a[k] ||| b[k])) = encC (orK a b (k + 1)) := by
  rw [encC_set _ _ h]
  refine congrArg encC (Vector.ext fun i hi => ?_)
  rw [Vector.getElem_set]
  by_cases hk : k = i
  · subst hk; simp [orK]
  · rw [if_neg hk]
    simp only [orK, Vector.getElem_ofFn]
    by_cases h1 : i < k
    · rw [if_pos h1, if_pos (by omega)]
    · rw [if_neg h1, if_neg (by omega)]
theorem bits_or88 (x y : UInt8) : bits .or .u8 (x.toNat : Int) (y.toNat : Int) = ((x ||| y).toNat : Int) := by
  rw [u8_or_nat _ _ x.toNat_lt y.toNat_lt, UInt8.toNat_or]
def unionC (bs : List Cts) : Cts := bs.foldl orC zeroC
set_option maxRecDepth 100000 in
theorem union_any (bs : List Cts) (w : World) (v : Value) (hv : SlV w 30 (bs.map fun b => (encC b).toList) v) :
  Calls Tryd.prog 28 #[v] w fun e w' => e = .returned (.agg (encC (unionC bs))) ∧ Below w.heap.size w w' := by
  obtain ⟨ad, cap, rfl, hmx, h⟩ := hv
  rw [List.length_map] at *
  have hmx := hmx.1
  have hr : ∀ (k : Nat) (b : Cts), bs[k]? = some b → ∃ g o, ad = some ⟨g, o, none⟩ ∧ w.rangeAt g (o + k * 30) (encC b).toList := fun k b hk => by
    have hlt := (List.getElem?_eq_some_iff.1 hk).1
    obtain ⟨g, o, h1, h2⟩ := h (by omega)
    exact ⟨g, o, h1, (h2 k _ (by rw [List.getElem?_map, hk]; rfl)).2⟩
  have HR := Lib.hid hr
  clear h hr
  go_enter Tryd.func28, Tryd.ntmps28
  go_wp2
  go_loopw [10] (fun i wr => ∃ k : Nat, k ≤ bs.length ∧ i = .int .i64 k ∧ Blk wr w.heap.size 30 23 ∧ wr.heap[w.heap.size + 1]? = some (.cells (encC ((bs.take k).foldl orC zeroC)) 23 (0, 0)) ∧ Below w.heap.size w wr) (fun i _ => bs.length - (intOf i).toNat)
  case atStart =>
    exact ⟨0, by omega, rfl, ⟨_, heap_alloc2_old _ _ _, size_encC zeroC⟩, heap_alloc2_new _ _ _, balloc (balloc (Below.refl _ _) _) _⟩
  case round =>
    obtain ⟨k, hk, rfl, hz, ha, hb⟩ := hrel
    have HZ := Lib.hid hz
    have HA := Lib.hid ha
    clear hz ha
    by_cases hlt : k < bs.length
    · obtain ⟨b, hbk⟩ : ∃ b, b = bs[k] := ⟨_, rfl⟩
      have hbk2 : bs[k]? = some b := by rw [hbk]; simp [hlt]
      obtain ⟨g, o, rfl, hrg⟩ := HR.out k b hbk2
      have hrg2 := rangeAt_below hb hrg
      have HRG := Lib.hid hrg2
      have htake : (bs.take (k + 1)).foldl orC zeroC = orC ((bs.take k).foldl orC zeroC) b := by
        rw [List.take_succ_eq_append_getElem hlt, ← hbk, List.foldl_append]; rfl
      have HT := Lib.hid htake
      clear hrg hrg2 htake hbk hbk2
      generalize (bs.take k).foldl orC zeroC = a at *
      have hnext : (some (Obj.cells (encC (orC a b)) 23 (0, 0)) : Option Obj) = some (.cells (encC ((bs.take (k + 1)).foldl orC zeroC)) 23 (0, 0)) := by rw [HT.out]
      have HNX := Lib.hid hnext
      clear hnext HT
      go_wp2_with (first
        | (refine wpList_load_mid rfl 23 _ rfl g _ rfl (encC b).toList _ HRG.out under_cats rfl (by simpa using info_cats) ?_)
        | (refine wpList_store_new rfl 23 _ _ rfl wr.heap.size (encC b) rfl rfl _ 23 _ rfl ?hg (infoC _) (sizeC _ (size_encC _)) (all_encC b) ?_; (case hg => simp))
        | (refine wpList_load_row rfl 23 _ rfl wr.heap.size rfl 23 (encC b) (0, 0) _ (heap_alloc_last _ _) under_cats rfl (infoC _) ?_))
      obtain ⟨wo, hwo⟩ : ∃ wo : World, wo = wr := ⟨_, rfl⟩
      subst hwo
      go_loopw [15] (fun i wr => ∃ k : Nat, k ≤ 30 ∧ i = .int .i64 k ∧ Blk wr w.heap.size 30 23 ∧ wr.heap[w.heap.size + 1]? = some (.cells (encC (orK a b k)) 23 (0, 0)) ∧ Below w.heap.size w wr) (fun i _ => 30 - (intOf i).toNat)
      case atStart =>
        refine ⟨0, by omega, rfl, blk_below (balloc (Below.refl _ _) _) HZ.out, ?_, balloc hb _⟩
        rw [orK_zero]; exact row_below (balloc (Below.refl _ _) _) HA.out
      case round =>
        obtain ⟨j, hj, rfl, hz, ha, hbi⟩ := hrel
        by_cases hjl : j < 30
        · have hidx := run_index_arr (P := Tryd.prog) 23 5 30 _ (encC b) .i64 j (vb b[j]) under_cats under_u8 rfl info_u8 (by omega) (by omega) (by rw [Int.toNat_natCast]; exact encC_get b j hjl)
          have hc := cell_heap ha (encC_get _ j hjl)
          rw [orK_at _ _ _ hjl] at hc
          have hf := frozen_of_row _ _ j _ _ ha
          have hbit := bits_or88 a[j] b[j]
          unfold vb at hidx hc
          have HZ2 := Lib.hid hz
          have HA2 := Lib.hid ha
          clear hz ha
          go_wp2
          refine ⟨⟨j + 1, by omega, by go_num, ?_, ?_, ?_⟩, by simp [intOf]; omega⟩
          · obtain ⟨z, h, hs⟩ := HZ2.out
            exact ⟨z, by rw [heap_setCell_other _ _ _ _ (by simp)]; exact h, hs⟩
          · rw [heap_setCell_same _ _ _ _ _ _ HA2.out, ← orK_succ _ _ _ hjl]
            unfold vb
            first | rfl | rw [UInt8.toNat_or]
          · exact hbi.setCell (Nat.le_succ _) _
        · obtain rfl : j = 30 := by omega
          rw [orK_end] at ha
          have HZ2 := Lib.hid hz
          have HA2 := Lib.hid ha
          clear hz ha
          go_wp2
          refine ⟨⟨k + 1, by omega, by go_num, HZ2.out, ?_, hbi⟩, by simp [intOf]; omega⟩
          rw [HA2.out]
          exact HNX.out
    · obtain rfl : k = bs.length := by omega
      rw [List.take_length] at HA
      obtain ⟨z, hz, hs⟩ := HZ.out
      have HZ2 := Lib.hid hz
      clear hz
      go_wp2_with (first
        | (refine wpList_load_row rfl 23 _ rfl (w.heap.size + 1) rfl 23 (encC _) (0, 0) _ HA.out under_cats rfl (infoC _) ?_)
        | (refine wpList_store_row rfl 23 _ _ rfl w.heap.size (encC _) rfl rfl 23 _ HZ2.out (infoC _) (sizeC _ hs) (all_encC _) ?_))
      refine bodyPost_ret (results_cell_row rfl _ _ w.heap.size 23 (encC (bs.foldl orC zeroC)) (0, 0) _ rfl (setRow_heap _ _ _ _ _ _ HZ2.out) under_cats rfl (infoC _)) rfl ⟨rfl, below_setRow hb (Nat.le_refl _) _⟩
end Go.Proofs.YtbnjnomlgamheaaDoor
