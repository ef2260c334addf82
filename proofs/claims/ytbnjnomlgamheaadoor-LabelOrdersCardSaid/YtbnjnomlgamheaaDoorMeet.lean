/- Sets of categories: what is in all. -/
import Derived.Test.YtbnjnomlgamheaaDoorProg
import Derived.Test.YtbnjnomlgamheaaDoorEq
namespace Go.Proofs.YtbnjnomlgamheaaDoor
set_option linter.unusedSimpArgs false
set_option linter.unusedVariables false
open Go.RowKit

def meetC (a b : Cts) : Cts := Vector.zipWith (· &&& ·) a b

/-- After k rounds of the inner loop. -/
def meetK (a b : Cts) (k : Nat) : Cts := Vector.ofFn fun i => if i.val < k then a[i] &&& b[i] else a[i]
theorem meetK_zero (a b : Cts) : meetK a b 0 = a := by ext i h; simp [meetK]
theorem meetK_end (a b : Cts) : meetK a b 30 = meetC a b := by ext i h; simp [meetK, meetC, h]
theorem meetK_at (a b : Cts) (k : Nat) (h : k < 30) : (meetK a b k)[k] = a[k] := by simp [meetK]
theorem meetK_succ (a b : Cts) (k : Nat) (h : k < 30) : (encC (meetK a b k)).setIfInBounds k (vb (a[k] &&& b[k])) = encC (meetK a b (k + 1)) := by
  apply Array.ext_getElem?
  intro i
  rw [Array.getElem?_setIfInBounds]
  by_cases hi : i < 30
  · rw [encC_get _ _ hi]
    by_cases hk : k = i
    · subst hk
      rw [if_pos rfl, if_pos (by simpa using h), encC_get _ _ h]
      simp [meetK]
    · rw [if_neg hk, encC_get _ _ hi]
      simp only [meetK, Vector.getElem_ofFn]
      by_cases h1 : i < k
      · rw [if_pos h1, if_pos (by omega)]
      · rw [if_neg h1, if_neg (by omega)]
  · rw [Array.getElem?_eq_none (by simp; omega : (encC (meetK a b (k+1))).size ≤ i)]
    by_cases hk : k = i
    · omega
    · rw [if_neg hk, Array.getElem?_eq_none (by simp; omega)]

theorem meet_any (a b : Cts) (w : World) (v : Value) (hv : SlV w 30 [(encC b).toList] v) :
  Calls Tryd.prog 22 #[.agg (encC a), v] w fun e w' => e = .returned (.agg (encC (meetC a b))) ∧ Below w.heap.size w w' := by
  obtain ⟨ad, cap, rfl, _, h⟩ := hv
  obtain ⟨b0, o0, rfl, h2⟩ := h (by simp)
  have hr := (h2 0 _ rfl).2
  rw [Nat.zero_mul, Nat.add_zero] at hr
  clear h h2
  go_enter Tryd.func22, Tryd.ntmps22
  go_wp2
  go_loopw [11] (fun i wr => ∃ k : Nat, k ≤ 1 ∧ i = .int .i64 k ∧ wr.heap[w.heap.size]? = some (.cells (encC (meetK a b (30 * k))) 23 (0, 0)) ∧ Blk wr (w.heap.size + 1) 30 23 ∧ Below w.heap.size w wr) (fun i _ => 1 - (intOf i).toNat)
  case atStart =>
    refine ⟨0, by omega, rfl, ?_, ⟨_, heap_alloc2_new _ _ _, rfl⟩, ((Below.refl _ _).alloc (Nat.le_refl _) _).alloc (by simp) _⟩
    rw [Nat.mul_zero, meetK_zero]; exact heap_alloc2_old _ _ _
  case round =>
    obtain ⟨k, hk, rfl, ha, hz, hb⟩ := hrel
    by_cases hlt : k < 1
    · obtain rfl : k = 0 := by omega
      rw [Nat.mul_zero, meetK_zero] at ha
      have hr2 := rangeAt_below hb hr
      have hsz : w.heap.size + 1 < wr.heap.size := by obtain ⟨z, h, _⟩ := hz; exact (Array.getElem?_eq_some_iff.1 h).1
      have HZ := Lib.hid hz
      have HA := Lib.hid ha
      have HR := Lib.hid hr2
      clear hz ha hr2
      go_wp2_with (first
        | (refine wpList_load_mid rfl 23 _ rfl b0 _ rfl (encC b).toList _ HR.out under_cats rfl (by simpa using info_cats) ?_)
        | (refine wpList_store_new rfl 23 _ _ rfl wr.heap.size (encC b) rfl rfl _ 23 _ rfl ?hg ?hi ?ho (all_encC b) ?_; (case hg => simp); (case hi => simpa using info_cats); (case ho => simp))
        | (refine wpList_load_row rfl 23 _ rfl wr.heap.size rfl 23 (encC b) (0, 0) _ ?hh under_cats rfl ?hi ?_; (case hh => exact heap_alloc_last _ _); (case hi => simpa using info_cats)))
      obtain ⟨wo, hwo⟩ : ∃ wo : World, wo = wr := ⟨_, rfl⟩
      subst hwo
      go_loopw [16] (fun i wr => ∃ k : Nat, k ≤ 30 ∧ i = .int .i64 k ∧ wr.heap[w.heap.size]? = some (.cells (encC (meetK a b k)) 23 (0, 0)) ∧ Blk wr (w.heap.size + 1) 30 23 ∧ Below w.heap.size w wr) (fun i _ => 30 - (intOf i).toNat)
      case atStart =>
        refine ⟨0, by omega, rfl, ?_, ?_, ?_⟩
        · rw [meetK_zero, heap_alloc_old _ _ (by omega)]; exact HA.out
        · obtain ⟨z, h, hs⟩ := HZ.out
          exact ⟨z, by rw [heap_alloc_old _ _ hsz]; exact h, hs⟩
        · exact hb.alloc (by omega) _
      case round =>
        obtain ⟨k, hk, rfl, ha, hz, hb⟩ := hrel
        by_cases hlt : k < 30
        · have hidx := run_index_arr (P := Tryd.prog) 23 5 30 _ (encC b) .i64 k (vb b[k]) under_cats under_u8 rfl info_u8 (by omega) (by omega) (by rw [Int.toNat_natCast]; exact encC_get b k hlt)
          have hc := cell_heap ha (encC_get _ k hlt)
          rw [meetK_at _ _ _ hlt] at hc
          have hf := frozen_of_row _ _ k _ _ ha
          have hbit := bits_and8 a[k] b[k]
          unfold vb at hidx hc
          have HZ := Lib.hid hz
          have HA := Lib.hid ha
          clear hz ha
          go_wp2
          refine ⟨⟨k + 1, by omega, by go_num, ?_, ?_, ?_⟩, by simp [intOf]; omega⟩
          · rw [heap_setCell_same _ _ _ _ _ _ HA.out, ← meetK_succ _ _ _ hlt]
            unfold vb
            rw [UInt8.toNat_and]
          · obtain ⟨z, h, hs⟩ := HZ.out
            exact ⟨z, by rw [heap_setCell_other _ _ _ _ (by simp)]; exact h, hs⟩
          · exact hb.setCell (Nat.le_refl _) _
        · obtain rfl : k = 30 := by omega
          have HZ := Lib.hid hz
          have HA := Lib.hid ha
          clear hz ha
          go_wp2
          refine ⟨⟨1, by omega, rfl, ?_, HZ.out, hb⟩, by simp [intOf]⟩
          exact HA.out
    · obtain rfl : k = 1 := by omega
      have HZ := Lib.hid hz
      have HA := Lib.hid ha
      clear hz ha
      obtain ⟨z, hz, hs⟩ := HZ.out
      have HZ2 := Lib.hid hz
      clear hz
      go_wp2_with (first
        | (refine wpList_load_row rfl 23 _ rfl w.heap.size rfl 23 _ (0, 0) _ HA.out under_cats rfl ?hi ?_; (case hi => simpa using info_cats))
        | (refine wpList_store_row rfl 23 _ _ rfl (w.heap.size + 1) _ rfl rfl 23 _ HZ2.out ?hi ?ho (all_encC _) ?_; (case hi => simpa using info_cats); (case ho => simpa using hs)))
      refine bodyPost_ret (results_cell_row rfl _ _ (w.heap.size + 1) 23 (encC (meetK a b (30 * 1))) (0, 0) _ rfl (setRow_heap _ _ _ _ _ _ HZ2.out) under_cats rfl (by simpa using info_cats)) rfl ⟨?_, below_setRow hb (by omega) _⟩
      rw [Nat.mul_one, meetK_end]
end Go.Proofs.YtbnjnomlgamheaaDoor
