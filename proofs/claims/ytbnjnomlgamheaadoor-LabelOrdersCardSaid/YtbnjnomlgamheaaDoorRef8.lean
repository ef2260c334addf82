/- The reference's sets of categories. -/
import Derived.Test.YtbnjnomlgamheaaDoorDom
namespace Go.Proofs.YtbnjnomlgamheaaDoor
set_option linter.unusedSimpArgs false
set_option linter.unusedVariables false
open Go.RowKit
/-- Has a set a category? -/
def hasC (c : Cts) (k : Nat) : Bool := if h : k < 240 then c[k / 8].toNat / 2 ^ (7 - k % 8) % 2 == 1 else false
theorem refHas_any (c : Cts) (k : Nat) (hk : k < 240) (w : World) :
  Calls Tryd.prog 29 #[.agg (encC c), .int .i64 k] w fun e w' => e = .returned (.bool (hasC c k)) ∧ Below w.heap.size w w' := by
  have hc : (w.alloc (Obj.cells (encC c) 23)).cell? ⟨w.heap.size, k / 8, none⟩ = some (.int .u8 (c[k / 8].toNat : Int)) := cell_heap (heap_alloc_last _ _) (encC_get c _ (by omega))
  have h1 : decide ((0 : Int) ≤ k) = true := by simp
  have h2 : decide ((k : Int) < 240) = true := by simp; omega
  go_enter Tryd.func29, Tryd.ntmps29
  go_wp2
  go_ret
  rw [bits_and1 _ _ c[k / 8].toNat_lt]
  have e : ∀ n : Nat, (((n : Nat) : Int) == 1) = (n == 1) := fun n => by rw [Bool.eq_iff_iff, beq_iff_eq, beq_iff_eq]; omega
  rw [e]
  have e2 : hasC c k = (c[k / 8].toNat / 2 ^ (7 - k % 8) % 2 == 1) := by unfold hasC; rw [dif_pos hk]
  rw [e2]
  exact ⟨rfl, balloc (Below.refl _ _) _⟩
def refW (a b : Cts) : Bool := (List.range 240).all fun k => !hasC a k || hasC b k
theorem refW_iff {a b : Cts} : refW a b = true ↔ ∀ k, k < 240 → hasC a k = true → hasC b k = true := by
  simp only [refW, List.all_eq_true, List.mem_range, Bool.or_eq_true, Bool.not_eq_true']
  exact ⟨fun h k hk ha => (h k hk).resolve_left (by simp [ha]), fun h k hk => by cases ha : hasC a k <;> simp [ha, h k hk]⟩

set_option maxRecDepth 100000 in
theorem refWithin_any (a b : Cts) (w : World) :
  Calls Tryd.prog 18 #[.agg (encC a), .agg (encC b)] w fun e w' => e = .returned (.bool (refW a b)) ∧ Below w.heap.size w w' := by
  have h1 : ((w.alloc (Obj.cells (encC a) 23)).alloc (Obj.cells (encC b) 23)).rangeAt w.heap.size 0 (encC a).toList := rangeAt_heap (heap_alloc2_old _ _ _)
  have h2 : ((w.alloc (Obj.cells (encC a) 23)).alloc (Obj.cells (encC b) 23)).rangeAt (w.heap.size + 1) 0 (encC b).toList := rangeAt_heap (heap_alloc2_new _ _ _)
  have H1 := Lib.hid h1
  have H2 := Lib.hid h2
  clear h1 h2
  go_enter Tryd.func18, Tryd.ntmps18
  go_wp2
  go_loopw [5] (fun i wr => ∃ k : Nat, k ≤ 240 ∧ i = .int .i64 k ∧ (∀ j, j < k → hasC a j = true → hasC b j = true) ∧ wr.rangeAt w.heap.size 0 (encC a).toList ∧ wr.rangeAt (w.heap.size + 1) 0 (encC b).toList ∧ Below w.heap.size w wr) (fun i _ => 240 - (intOf i).toNat)
  case atStart => exact ⟨0, by omega, rfl, fun j hj => by omega, H1.out, H2.out, balloc (balloc (Below.refl _ _) _) _⟩
  case round =>
    obtain ⟨k, hk, rfl, hP, h1, h2, hb⟩ := hrel
    have H1 := Lib.hid h1
    have H2 := Lib.hid h2
    have HP := Lib.hid hP
    clear h1 h2 hP
    by_cases hlt : k < 240
    · cases ha : hasC a k with
      | false =>
        go_wp2_with (first
          | (refine wpList_load_g rfl 23 _ rfl w.heap.size _ rfl (encC a).toList _ H1.out under_cats rfl (by simpa using info_cats) ?_)
          | (go_at_call 29; refine (refHas_any a k hlt _).mono ?_; rintro e w1 ⟨rfl, hb1⟩))
        refine ⟨⟨k + 1, by omega, by go_num, fun j hj hja => ?_, rangeAt_below hb1 H1.out, rangeAt_below hb1 H2.out, bstep hb hb1⟩, by simp [intOf]; omega⟩
        by_cases e : j = k
        · subst e; rw [ha] at hja; cases hja
        · exact HP.out j (by omega) hja
      | true =>
        cases hbk : hasC b k with
        | true =>
          go_wp2_with (first
            | (refine wpList_load_g rfl 23 _ rfl w.heap.size _ rfl (encC a).toList _ H1.out under_cats rfl (by simpa using info_cats) ?_)
            | (refine wpList_load_g rfl 23 _ rfl (w.heap.size + 1) _ rfl (encC b).toList _ (rangeAt_below (by assumption) H2.out) under_cats rfl (by simpa using info_cats) ?_)
            | (go_at_call 29; refine (refHas_any _ k hlt _).mono ?_; rintro e w1 ⟨rfl, hb1⟩))
          refine ⟨⟨k + 1, by omega, by go_num, fun j hj hja => ?_, rangeAt_below (by assumption) (rangeAt_below (by assumption) H1.out), rangeAt_below (by assumption) (rangeAt_below (by assumption) H2.out), ?_⟩, by simp [intOf]; omega⟩
          · by_cases e : j = k
            · subst e; exact hbk
            · exact HP.out j (by omega) hja
          · repeat (first | exact hb | refine bstep ?_ (by assumption))
        | false =>
          go_wp2_with (first
            | (refine wpList_load_g rfl 23 _ rfl w.heap.size _ rfl (encC a).toList _ H1.out under_cats rfl (by simpa using info_cats) ?_)
            | (refine wpList_load_g rfl 23 _ rfl (w.heap.size + 1) _ rfl (encC b).toList _ (rangeAt_below (by assumption) H2.out) under_cats rfl (by simpa using info_cats) ?_)
            | (go_at_call 29; refine (refHas_any _ k hlt _).mono ?_; rintro e w1 ⟨rfl, hb1⟩))
          go_ret
          have hf : refW a b = false := by
            rw [Bool.eq_false_iff]
            intro h
            have := refW_iff.1 h k hlt ha
            rw [hbk] at this; cases this
          refine ⟨ret_bool hf.symm, ?_⟩
          repeat (first | exact hb | refine bstep ?_ (by assumption))
    · obtain rfl : k = 240 := by omega
      go_wp2
      go_ret
      have hf : refW a b = true := refW_iff.2 HP.out
      exact ⟨ret_bool hf.symm, hb⟩

/-- The reference's: dominates. -/
def refDom (a b : Lab) : Bool := decide (b.level ≤ a.level) && refW b.cats a.cats
theorem refDominates_any (a b : Lab) (w : World) :
  Calls Tryd.prog 8 #[.agg (encL a), .agg (encL b)] w fun e w' => e = .returned (.bool (refDom a b)) ∧ Below w.heap.size w w' := by
  have h1 : ((w.alloc (Obj.cells (encL a) 25)).alloc (Obj.cells (encL b) 25)).rangeAt w.heap.size 1 (encC a.cats).toList := rangeAt_cats (heap_alloc2_old _ _ _)
  have h2 : ((w.alloc (Obj.cells (encL a) 25)).alloc (Obj.cells (encL b) 25)).rangeAt (w.heap.size + 1) 1 (encC b.cats).toList := rangeAt_cats (heap_alloc2_new _ _ _)
  have hb : Below w.heap.size w ((w.alloc (Obj.cells (encL a) 25)).alloc (Obj.cells (encL b) 25)) := balloc (balloc (Below.refl _ _) _) _
  have H1 := Lib.hid h1
  have H2 := Lib.hid h2
  clear h1 h2
  by_cases hd : b.level ≤ a.level
  · go_enter Tryd.func8, Tryd.ntmps8
    go_wp2_with (first
      | (refine wpList_load_g rfl 23 _ rfl w.heap.size _ rfl (encC a.cats).toList _ H1.out under_cats rfl (by simpa using info_cats) ?_)
      | (refine wpList_load_g rfl 23 _ rfl (w.heap.size + 1) _ rfl (encC b.cats).toList _ H2.out under_cats rfl (by simpa using info_cats) ?_)
      | (go_at_call 18; refine (refWithin_any b.cats a.cats _).mono ?_; rintro e w1 ⟨rfl, hb1⟩))
    go_ret
    exact ⟨ret_bool (by simp [refDom, hd]), bstep hb hb1⟩
  · go_enter Tryd.func8, Tryd.ntmps8
    go_wp2
    go_ret
    have hd' : ¬ b.level ≤ a.level := by omega
    exact ⟨ret_bool (by simp [refDom, hd']), hb⟩
end Go.Proofs.YtbnjnomlgamheaaDoor
