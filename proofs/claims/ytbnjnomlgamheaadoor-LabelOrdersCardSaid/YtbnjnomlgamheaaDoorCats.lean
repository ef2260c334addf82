/- Sets of categories: what is in them, with some more, listed. -/
import Derived.Test.YtbnjnomlgamheaaDoorRef8
import Derived.Test.YtbnjnomlgamheaaDoorFill
import Derived.Deep.QuietTactic
import Derived.BigQuiet
import Derived.Deep.RegionWith
import Derived.Test.YtbnjnomlgamheaaDoorHeld
namespace Go.Proofs.YtbnjnomlgamheaaDoor
set_option linter.unusedSimpArgs false
set_option linter.unusedVariables false
open Go.RowKit
def isCat (k : Int) : Bool := decide (0 ≤ k) && decide (k ≤ 239)
theorem right_cat (k : Int) (w : World) : Calls Tryd.prog 47 #[.int .i64 k] w fun e w' => e = .returned (.bool (isCat k)) ∧ w' = w := by
  by_cases h : 0 ≤ k
  · go_enter Tryd.func47, Tryd.ntmps47
    go_wp2
    go_ret
    exact ⟨ret_bool (by simp [isCat, h]), rfl⟩
  · go_enter Tryd.func47, Tryd.ntmps47
    go_wp2
    go_ret
    have h' : ¬ 0 ≤ k := by omega
    exact ⟨ret_bool (by simp [isCat, h']), rfl⟩
theorem bit_any (k : Nat) (w : World) : Calls Tryd.prog 48 #[.int .i64 k] w fun e w' => e = .returned (.int .u8 ((2 ^ (7 - k % 8) : Nat) : Int)) ∧ w' = w := by
  go_enter Tryd.func48, Tryd.ntmps48
  go_wp2
  go_ret
  refine ⟨ret_int ?_, rfl⟩
  have hm : k % 8 < 8 := Nat.mod_lt _ (by omega)
  generalize k % 8 = m at hm
  have h : m = 0 ∨ m = 1 ∨ m = 2 ∨ m = 3 ∨ m = 4 ∨ m = 5 ∨ m = 6 ∨ m = 7 := by omega
  rcases h with rfl | rfl | rfl | rfl | rfl | rfl | rfl | rfl <;> rfl
theorem right_yes (k : Int) (h0 : 0 ≤ k) (h1 : k ≤ 239) (w : World) : Calls Tryd.prog 47 #[.int .i64 k] w fun e w' => e = .returned (.bool true) ∧ w' = w :=
  (right_cat k w).mono fun e w' ⟨he, hw⟩ => ⟨by rw [he]; simp [isCat, h0, h1], hw⟩
/-- A category's bit, in a byte. -/
theorem bits_at (x i : Nat) (hx : x < 256) (hi : i < 8) : bits .and .u8 (x : Int) ((2 ^ i : Nat) : Int) = ((x / 2 ^ i % 2 * 2 ^ i : Nat) : Int) := by
  rw [u8_and_nat _ _ hx (by have : 2 ^ i ≤ 2 ^ 7 := Nat.pow_le_pow_right (by omega) (by omega); omega), nat_bit]
theorem has_bits (x i : Nat) (hx : x < 256) (hi : i < 8) : (bits .and .u8 (x : Int) ((2 : Int) ^ i) != 0) = (x / 2 ^ i % 2 == 1) := by
  have e : ((2 : Int) ^ i) = ((2 ^ i : Nat) : Int) := by rw [Int.natCast_pow]; rfl
  rw [e, bits_at x i hx hi]
  have hp : 0 < 2 ^ i := Nat.pow_pos (by omega)
  have h2 : x / 2 ^ i % 2 = 0 ∨ x / 2 ^ i % 2 = 1 := by omega
  rcases h2 with h | h
  · rw [h]; simp
  · rw [h, Nat.one_mul]
    have h3 : (((2 ^ i : Nat) : Int) == 0) = false := by rw [beq_eq_false_iff_ne]; omega
    rw [bne, h3]; rfl
theorem has_any (c : Cts) (k : Nat) (hk : k < 240) (w : World) :
  Calls Tryd.prog 50 #[.agg (encC c), .int .i64 k] w fun e w' => e = .returned (.bool (hasC c k)) ∧ Below w.heap.size w w' := by
  have hc : (w.alloc (Obj.cells (encC c) 23)).cell? ⟨w.heap.size, k / 8, none⟩ = some (.int .u8 (c[k / 8].toNat : Int)) := cell_heap (heap_alloc_last _ _) (encC_get c _ (by omega))
  have h1 : (0 : Int) ≤ (k : Int) / 8 := by omega
  have h2 : (k : Int) / 8 < 30 := by omega
  have h3 : ((k : Int) / 8).toNat = k / 8 := by omega
  go_enter Tryd.func50, Tryd.ntmps50
  go_wp2
  go_quiet ((first | (go_at_call 47; exact Calls.quiet_of_same (right_yes _ (by omega) (by omega) _)) | (go_at_call 48; exact Calls.quiet_of_same (bit_any _ _))))
  go_wp2
  go_ret
  rw [has_bits _ _ c[k / 8].toNat_lt (by omega)]
  have e2 : hasC c k = (c[k / 8].toNat / 2 ^ (7 - k % 8) % 2 == 1) := by unfold hasC; rw [dif_pos hk]
  exact ⟨ret_bool e2.symm, bdrewN (balloc (Below.refl _ _) _) _⟩

/-- A set with one more. -/
def withC (c : Cts) (k : Nat) : Cts := if h : k < 240 then c.set (k / 8) (c[k / 8] ||| UInt8.ofNat (2 ^ (7 - k % 8))) else c
set_option maxRecDepth 100000 in
theorem with_any (c : Cts) (k : Nat) (hk : k < 240) (w : World) (v : Value) (hv : SlV w 1 [[.int .i64 k]] v) :
  Calls Tryd.prog 35 #[.agg (encC c), v] w fun e w' => e = .returned (.agg (encC (withC c k))) ∧ Below w.heap.size w w' := by
  rcases hv.split with ⟨h0, _⟩ | ⟨b, o, cap, rfl, hm, h0, _, h2⟩
  · cases h0
  have hr := (h2 0 _ rfl).2
  rw [Nat.zero_mul, Nat.add_zero] at hr
  have hc0 : w.cell? ⟨b, o, none⟩ = some (.int .i64 k) := hr 0 _ rfl
  clear h2 hr hm h0 hv
  have h1 : (0 : Int) ≤ (k : Int) / 8 := by omega
  have h2 : (k : Int) / 8 < 30 := by omega
  have h3 : ((k : Int) / 8).toNat = k / 8 := by omega
  go_enter Tryd.func35, Tryd.ntmps35
  go_wp2
  have hb0 : Below w.heap.size w ((w.alloc (Obj.cells (encC c) 23)).alloc (Obj.cells #[.int .i64 0] 23)) := balloc (balloc (Below.refl _ _) _) _
  clear hb0
  go_loopw [9] (fun i wr => ∃ n : Nat, n ≤ 1 ∧ i = .int .i64 n ∧ wr.heap[w.heap.size]? = some (.cells (encC (if n = 0 then c else withC c k)) 23 (0, 0)) ∧ Blk wr (w.heap.size + 1) 30 23 ∧ Below w.heap.size w wr) (fun i _ => 1 - (intOf i).toNat)
  case atStart =>
    exact ⟨0, by omega, rfl, heap_alloc2_old _ _ _, ⟨_, heap_alloc2_new _ _ _, rfl⟩, balloc (balloc (Below.refl _ _) _) _⟩
  case round =>
    obtain ⟨n, hn, rfl, ha, hz, hb⟩ := hrel
    by_cases hlt : n < 1
    · obtain rfl : n = 0 := by omega
      rw [if_pos rfl] at ha
      have hcl := cell_heap ha (encC_get c (k / 8) (by omega))
      have hfr := frozen_of_row _ _ (k / 8) _ _ ha
      have hc1 := cell_below hb hc0
      unfold vb at hcl
      have HZ := Lib.hid hz
      have HA := Lib.hid ha
      clear hz ha hc0
      go_wp2_with (go_at_call 47; refine (right_yes _ (by omega) (by omega) _).mono ?_; rintro e w1 ⟨rfl, rfl⟩)
      have hq : IntKind.i64.wrap ((k : Int) / 8) = (k : Int) / 8 := by
        exact IntWalk.i64_in _ (by omega)
      refine Till.start (S := fun w' => w'.heap[w.heap.size]? = some (.cells (encC c) 23 (0, 0)) ∧ Blk w' (w.heap.size + 1) 30 23 ∧ Below w.heap.size w w') (n := 8) (by kernel_rfl) ?_
      have hS : (fun w' : World => w'.heap[w.heap.size]? = some (.cells (encC c) 23 (0, 0)) ∧ Blk w' (w.heap.size + 1) 30 23 ∧ Below w.heap.size w w') w1.drew := ⟨HA.out, HZ.out, hb.drew⟩
      generalize w1.drew = w2 at hS
      refine Till.take (i := 0) (oi := ⟨some 15, _, _, _, _, _⟩) (v := .int .i64 k) rfl (by kernel_rfl) (by kernel_rfl) (by kernel_rfl) (by kernel_rfl) (fun _ _ _ h => h) (Or.inl ⟨by rfl, fun w _ => by go_simp⟩) hS ?_
      simp only [Act.put, List.setIfInBounds_toArray, List.set_cons_zero, List.set_cons_succ]
      refine Till.take (i := 1) (oi := ⟨some 16, _, _, _, _, _⟩) (v := .int .i64 ((k : Int) / 8)) rfl (by kernel_rfl) (by kernel_rfl) (by kernel_rfl) (by kernel_rfl) (fun _ _ _ h => h) (Or.inl ⟨by rfl, fun w _ => by go_simp⟩) hS ?_
      simp only [Act.put, List.setIfInBounds_toArray, List.set_cons_zero, List.set_cons_succ]
      refine Till.take (i := 2) (oi := ⟨some 17, _, _, _, _, _⟩) (v := .pointer (some ⟨w.heap.size, k / 8, none⟩)) rfl (by kernel_rfl) (by kernel_rfl) (by kernel_rfl) (by kernel_rfl) (fun _ _ _ h => h) (Or.inl ⟨by rfl, fun w _ => by go_simp⟩) hS ?_
      simp only [Act.put, List.setIfInBounds_toArray, List.set_cons_zero, List.set_cons_succ]
      refine Till.take (i := 3) (oi := ⟨some 18, _, _, _, _, _⟩) (v := .int .u8 (c[k / 8].toNat : Int)) rfl (by kernel_rfl) (by kernel_rfl) (by kernel_rfl) (by kernel_rfl) (fun _ _ _ h => h) (Or.inl ⟨by rfl, fun w hw => by have hw := cell_heap hw.1 (encC_get c (k / 8) (by omega)); unfold vb at hw; go_simp⟩) hS ?_
      simp only [Act.put, List.setIfInBounds_toArray, List.set_cons_zero, List.set_cons_succ]
      refine Till.take (i := 4) (oi := ⟨some 19, _, _, _, _, _⟩) (v := .int .i64 k) rfl (by kernel_rfl) (by kernel_rfl) (by kernel_rfl) (by kernel_rfl) (fun _ _ _ h => h) (Or.inl ⟨by rfl, fun w _ => by go_simp⟩) hS ?_
      simp only [Act.put, List.setIfInBounds_toArray, List.set_cons_zero, List.set_cons_succ]
      refine Till.step (i := 5) (o := ⟨some 20, _, _, _, _, none⟩) (by kernel_rfl) rfl rfl (fun K hK => ?_)
      go_wp2_with (go_at_call 48; refine (bit_any _ _).mono ?_; rintro e w3 ⟨rfl, rfl⟩)
      refine hK.out _ _ hS ?_
      have hor := bits_or8 c[k / 8] (7 - k % 8) (by omega)
      refine Till.step (i := 6) (o := ⟨some 21, _, _, _, _, none⟩) (by kernel_rfl) rfl rfl (fun K hK => ?_)
      go_wp2
      refine hK.out _ _ hS ?_
      refine Till.step (i := 7) (o := ⟨some 22, _, _, _, _, none⟩) (by kernel_rfl) rfl rfl (fun K hK => ?_)
      go_wp2
      refine hK.out _ _ hS ?_
      refine Till.last (o := ⟨none, _, _, _, _, none⟩) (by kernel_rfl) rfl rfl (by kernel_rfl) (fun K hK => ?_)
      have hcl := cell_heap hS.1 (encC_get c (k / 8) (by omega))
      have hfr := frozen_of_row _ _ (k / 8) _ _ hS.1
      unfold vb at hcl
      go_wp2
      refine hK.out _ _ ?_
      go_wp2
      refine ⟨⟨1, by omega, rfl, ?_, ?_, hS.2.2.setCell (Nat.le_refl _) _⟩, by simp [intOf]⟩
      · have e : withC c k = c.set (k / 8) (c[k / 8] ||| UInt8.ofNat (2 ^ (7 - k % 8))) := by unfold withC; rw [dif_pos hk]
        rw [heap_setCell_same _ _ _ _ _ _ hS.1, if_neg (by decide), e, ← encC_set _ _ (by omega)]
        unfold vb
        rw [UInt8.toNat_or]
        simp
      · obtain ⟨z, h, hs⟩ := hS.2.1
        exact ⟨z, by rw [heap_setCell_other _ _ _ _ (by simp)]; exact h, hs⟩
    · obtain rfl : n = 1 := by omega
      rw [if_neg (by decide)] at ha
      have HA := Lib.hid ha
      obtain ⟨z, hz, hs⟩ := hz
      have HZ2 := Lib.hid hz
      clear hz ha
      go_wp2_with (first
        | (refine wpList_load_row rfl 23 _ rfl w.heap.size rfl 23 _ (0, 0) _ HA.out under_cats rfl (infoC _) ?_)
        | (refine wpList_store_row rfl 23 _ _ rfl (w.heap.size + 1) _ rfl rfl 23 _ HZ2.out (infoC _) (sizeC _ hs) (all_encC _) ?_))
      refine bodyPost_ret (results_cell_row rfl _ _ (w.heap.size + 1) 23 (encC (withC c k)) (0, 0) _ rfl (setRow_heap _ _ _ _ _ _ HZ2.out) under_cats rfl (infoC _)) rfl ⟨rfl, below_setRow hb (by omega) _⟩
end Go.Proofs.YtbnjnomlgamheaaDoor
