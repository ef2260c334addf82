/- The order of labels, turned about. -/
import Derived.Test.YtbnjnomlgamheaaDoorAwake
namespace Go.Proofs.YtbnjnomlgamheaaDoor
set_option linter.unusedSimpArgs false
set_option linter.unusedVariables false
open Go.RowKit
set_option maxRecDepth 100000 in
set_option maxHeartbeats 4000000 in
theorem turns_walk (a b c : Lab) (x y z : Int) (hx : cmpL a b = x) (hy : cmpL b c = y) (hz : cmpL a c = z) (hyx : cmpL b a = -x) (hw : IntKind.i64.wrap x = x) (q : Bool) (hq : decide (a = b) = q) (hab : (x == 0) = q)
    (hxyz : (decide (x ≤ 0) = false) ∨ (decide (x ≤ 0) = true ∧ decide (y ≤ 0) = false) ∨ (decide (x ≤ 0) = true ∧ decide (y ≤ 0) = true ∧ decide (0 < z) = false)) (daa : domL a a = true)
    (hd : domL a b = false ∨ (domL a b = true ∧ domL b a = false ∧ domL b c = false) ∨ (domL a b = true ∧ domL b a = false ∧ domL b c = true ∧ domL a c = true) ∨
      (domL a b = true ∧ domL b a = true ∧ q = true ∧ domL b c = false) ∨ (domL a b = true ∧ domL b a = true ∧ q = true ∧ domL b c = true ∧ domL a c = true)) (w : World) (hL : LibOk w) :
    Calls Tryd.prog 3 #[.agg (encL a), .agg (encL b), .agg (encL c)] w fun e w' => e = .returned (.bool true) ∧ Below w.heap.size w w' := by
  obtain ⟨W, hW⟩ : ∃ W, W = (((w.alloc (Obj.cells (encL a) 25)).alloc (Obj.cells (encL b) 25)).alloc (Obj.cells (encL c) 25)) := ⟨_, rfl⟩
  have ha : W.rangeAt w.heap.size 0 (encL a).toList := hW ▸ rangeAt_alloc (rangeAt_heap (heap_alloc2_old _ _ _)) _
  have hb : W.rangeAt (w.heap.size + 1) 0 (encL b).toList := hW ▸ rangeAt_alloc (rangeAt_heap (heap_alloc2_new _ _ _)) _
  have hc : W.rangeAt (w.heap.size + 1 + 1) 0 (encL c).toList := by
    have := rangeAt_heap (heap_alloc_last ((w.alloc (Obj.cells (encL a) 25)).alloc (Obj.cells (encL b) 25)) (Obj.cells (encL c) 25))
    rw [hW]
    simpa using this
  have hB : Below w.heap.size w W := hW ▸ balloc (balloc (balloc (Below.refl _ _) _) _) _
  have hu := Tryd.underlying25
  have hi1 := infoLl a
  have hi2 := infoLl b
  have hi3 := infoLl c
  have HX := Lib.hid hx
  have HY := Lib.hid hy
  have HZ := Lib.hid hz
  have HYX := Lib.hid hyx
  clear hx hy hz hyx
  go_enter Tryd.func3, Tryd.ntmps3
  go_wp2
  rw [← hW]
  clear hW
  refine wp_region_held_drew (S := fun w' => w'.rangeAt w.heap.size 0 (encL a).toList ∧ w'.rangeAt (w.heap.size + 1) 0 (encL b).toList ∧ w'.rangeAt (w.heap.size + 1 + 1) 0 (encL c).toList ∧ Below w.heap.size w w') (by kernel_rfl) ⟨ha, hb, hc, hB.drew⟩ (fun hS => ?_)
  generalize W.drew = W1 at hS
  refine wpAnyH_take (i := 0) (oi := ⟨some 10, _, _, _, _, _⟩) rfl (by kernel_rfl) (by kernel_rfl) (by kernel_rfl) (fun _ _ _ h => h) (yieldsIf_load_mid rfl _ _ rfl _ _ rfl _ _ (fun w h => h.1) Tryd.underlying25 rfl (infoLl a)) hS ?_
  simp only [Act.put, List.setIfInBounds_toArray, List.set_cons_zero, List.set_cons_succ, Array.toArray_toList]
  refine wpAnyH_take (i := 1) (oi := ⟨some 11, _, _, _, _, _⟩) rfl (by kernel_rfl) (by kernel_rfl) (by kernel_rfl) (fun _ _ _ h => h) (yieldsIf_load_mid rfl _ _ rfl _ _ rfl _ _ (fun w h => h.2.1) Tryd.underlying25 rfl (infoLl b)) hS ?_
  simp only [Act.put, List.setIfInBounds_toArray, List.set_cons_zero, List.set_cons_succ, Array.toArray_toList]
  refine wpAnyH_take (i := 3) (oi := ⟨some 13, _, _, _, _, _⟩) rfl (by kernel_rfl) (by kernel_rfl) (by kernel_rfl) (fun _ _ _ h => h) (yieldsIf_load_mid rfl _ _ rfl _ _ rfl _ _ (fun w h => h.2.1) Tryd.underlying25 rfl (infoLl b)) hS ?_
  simp only [Act.put, List.setIfInBounds_toArray, List.set_cons_zero, List.set_cons_succ, Array.toArray_toList]
  refine wpAnyH_take (i := 4) (oi := ⟨some 14, _, _, _, _, _⟩) rfl (by kernel_rfl) (by kernel_rfl) (by kernel_rfl) (fun _ _ _ h => h) (yieldsIf_load_mid rfl _ _ rfl _ _ rfl _ _ (fun w h => h.2.2.1) Tryd.underlying25 rfl (infoLl c)) hS ?_
  simp only [Act.put, List.setIfInBounds_toArray, List.set_cons_zero, List.set_cons_succ, Array.toArray_toList]
  refine wpAnyH_take (i := 6) (oi := ⟨some 16, _, _, _, _, _⟩) rfl (by kernel_rfl) (by kernel_rfl) (by kernel_rfl) (fun _ _ _ h => h) (yieldsIf_load_mid rfl _ _ rfl _ _ rfl _ _ (fun w h => h.1) Tryd.underlying25 rfl (infoLl a)) hS ?_
  simp only [Act.put, List.setIfInBounds_toArray, List.set_cons_zero, List.set_cons_succ, Array.toArray_toList]
  refine wpAnyH_take (i := 7) (oi := ⟨some 17, _, _, _, _, _⟩) rfl (by kernel_rfl) (by kernel_rfl) (by kernel_rfl) (fun _ _ _ h => h) (yieldsIf_load_mid rfl _ _ rfl _ _ rfl _ _ (fun w h => h.2.2.1) Tryd.underlying25 rfl (infoLl c)) hS ?_
  simp only [Act.put, List.setIfInBounds_toArray, List.set_cons_zero, List.set_cons_succ, Array.toArray_toList]
  refine heldStep (i := 2) (o := ⟨some 12, _, _, _, _, none⟩) (by kernel_rfl) rfl rfl (fun K hK => ?_)
  go_wp2_with (go_at_call 5; refine (compare_any a b _).mono ?_; rintro e w1 ⟨rfl, hb1⟩; rw [HX.out])
  have hS := And.intro (rangeAt_below hb1 hS.1) (And.intro (rangeAt_below hb1 hS.2.1) (And.intro (rangeAt_below hb1 hS.2.2.1) (bstep hS.2.2.2 hb1)))
  refine hK.out _ _ hS ?_
  refine heldStep (i := 5) (o := ⟨some 15, _, _, _, _, none⟩) (by kernel_rfl) rfl rfl (fun K hK => ?_)
  go_wp2_with (go_at_call 5; refine (compare_any b c _).mono ?_; rintro e w2 ⟨rfl, hb2⟩; rw [HY.out])
  have hS := And.intro (rangeAt_below hb2 hS.1) (And.intro (rangeAt_below hb2 hS.2.1) (And.intro (rangeAt_below hb2 hS.2.2.1) (bstep hS.2.2.2 hb2)))
  refine hK.out _ _ hS ?_
  refine heldStep (i := 8) (o := ⟨some 18, _, _, _, _, none⟩) (by kernel_rfl) rfl rfl (fun K hK => ?_)
  go_wp2_with (go_at_call 5; refine (compare_any a c _).mono ?_; rintro e w3 ⟨rfl, hb3⟩; rw [HZ.out])
  have hS := And.intro (rangeAt_below hb3 hS.1) (And.intro (rangeAt_below hb3 hS.2.1) (And.intro (rangeAt_below hb3 hS.2.2.1) (bstep hS.2.2.2 hb3)))
  refine hK.out _ _ hS ?_
  refine heldStep (i := 9) (o := ⟨some 7, _, _, _, _, none⟩) (by kernel_rfl) rfl rfl (fun K hK => ?_)
  go_wp2
  refine hK.out _ _ hS ?_
  refine heldStep (i := 10) (o := ⟨some 8, _, _, _, _, none⟩) (by kernel_rfl) rfl rfl (fun K hK => ?_)
  go_wp2
  refine hK.out _ _ hS ?_
  refine heldStep (i := 11) (o := ⟨some 9, _, _, _, _, none⟩) (by kernel_rfl) rfl rfl (fun K hK => ?_)
  go_wp2
  refine hK.out _ _ hS ?_
  refine wpAnyH_done (by kernel_rfl) ?_ _
  obtain ⟨hA, hBb, hCc, hB⟩ := hS
  have HA := Lib.hid hA
  have HB := Lib.hid hBb
  have HC := Lib.hid hCc
  have HDAA := Lib.hid daa
  have hE := Below.refl w3.heap.size w3
  clear hA hBb hCc hb1 hb2 hb3 ha hb hc hu hi1 hi2 hi3 daa
  rcases hd with h1 | ⟨h1, h2, h3⟩ | ⟨h1, h2, h3, h4⟩ | ⟨h1, h2, rfl, h3⟩ | ⟨h1, h2, rfl, h3, h4⟩
  case' inl => have H1 := Lib.hid h1; have H2 := H1; have H3 := H1; have H4 := H1; clear h1
  case' inr.inl => have H1 := Lib.hid h1; have H2 := Lib.hid h2; have H3 := Lib.hid h3; have H4 := H1; clear h1 h2 h3
  case' inr.inr.inl => have H1 := Lib.hid h1; have H2 := Lib.hid h2; have H3 := Lib.hid h3; have H4 := Lib.hid h4; clear h1 h2 h3 h4
  case' inr.inr.inr.inl => have H1 := Lib.hid h1; have H2 := Lib.hid h2; have H3 := Lib.hid h3; have H4 := H1; clear h1 h2 h3
  case' inr.inr.inr.inr => have H1 := Lib.hid h1; have H2 := Lib.hid h2; have H3 := Lib.hid h3; have H4 := Lib.hid h4; clear h1 h2 h3 h4
  all_goals
    rcases hxyz with hx0 | ⟨hx0, hy0⟩ | ⟨hx0, hy0, hz0⟩
  all_goals
    go_wp2_with (first
      | (refine wpList_load_g rfl 25 _ rfl w.heap.size _ rfl (encL a).toList _ (rangeAt_below hE HA.out) Tryd.underlying25 rfl (infoLl _) ?_; simp only [Act.put, List.setIfInBounds_toArray, List.set_cons_zero, List.set_cons_succ, Array.toArray_toList])
      | (refine wpList_load_g rfl 25 _ rfl (w.heap.size + 1) _ rfl (encL b).toList _ (rangeAt_below hE HB.out) Tryd.underlying25 rfl (infoLl _) ?_; simp only [Act.put, List.setIfInBounds_toArray, List.set_cons_zero, List.set_cons_succ, Array.toArray_toList])
      | (refine wpList_load_g rfl 25 _ rfl (w.heap.size + 1 + 1) _ rfl (encL c).toList _ (rangeAt_below hE HC.out) Tryd.underlying25 rfl (infoLl _) ?_; simp only [Act.put, List.setIfInBounds_toArray, List.set_cons_zero, List.set_cons_succ, Array.toArray_toList])
      | (go_at_call 5; (with_reducible refine (compare_any b a _).mono ?_); rintro e w4 ⟨rfl, hb4⟩; rw [HYX.out]; have hE := bstep hE hb4)
      | (go_at_call 6; (with_reducible refine (dominates_any _ _ _).mono ?_); rintro e w4 ⟨rfl, hb4⟩; (first | rw [H1.out] | rw [H2.out] | rw [H3.out] | rw [H4.out] | rw [HDAA.out]); have hE := bstep hE hb4)
      | (go_at_call 7; (with_reducible refine (awake_any _ (hL.below (bstep hB hE))).mono ?_); rintro e w4 ⟨rfl, hb4⟩; have hE := bstep hE hb4))
    go_ret
    exact ⟨by simp, bstep hB hE⟩
end Go.Proofs.YtbnjnomlgamheaaDoor
