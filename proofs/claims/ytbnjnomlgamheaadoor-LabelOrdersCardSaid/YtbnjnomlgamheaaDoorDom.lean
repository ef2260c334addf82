/- Labels: what dominates, what lies between. -/
import Derived.Test.YtbnjnomlgamheaaDoorMeet
import Derived.Test.YtbnjnomlgamheaaDoorFill
import Derived.Deep.RegionHeld3
import Derived.Deep.QuietTactic
import Derived.BigQuiet
namespace Go.Proofs.YtbnjnomlgamheaaDoor
set_option linter.unusedSimpArgs false
set_option linter.unusedVariables false
open Go.RowKit
theorem lit_cats1 : SliceLit Tryd.prog 57 23 1 30 where
  hu := by kernel_rfl
  hi := ⟨(Tryd.prog.info? 23).getD default, ((Tryd.prog.info? 23).bind (·.zero)).getD default, by kernel_rfl, by kernel_rfl, by kernel_rfl, by kernel_rfl, by kernel_rfl⟩
  hs := by decide
  hp := by decide
/-- All of a is in b. -/
def withinC (a b : Cts) : Bool := decide (meetC a b = a)
set_option maxRecDepth 100000 in
theorem within_any (a b : Cts) (w : World) :
  Calls Tryd.prog 14 #[.agg (encC a), .agg (encC b)] w fun e w' => e = .returned (.bool (withinC a b)) ∧ Below w.heap.size w w' := by
  have hu := under_cats
  have hi1 : (Tryd.prog.info? 23).map (·.size) = some (encC a).toList.length := by simpa using info_cats
  have hi2 : (Tryd.prog.info? 23).map (·.size) = some (encC b).toList.length := by simpa using info_cats
  go_enter Tryd.func14, Tryd.ntmps14
  go_wp2
  have hra : ((w.alloc (Obj.cells (encC a) 23)).alloc (Obj.cells (encC b) 23)).rangeAt w.heap.size 0 (encC a).toList := rangeAt_heap (heap_alloc2_old _ _ _)
  have hrb : ((w.alloc (Obj.cells (encC a) 23)).alloc (Obj.cells (encC b) 23)).rangeAt (w.heap.size + 1) 0 (encC b).toList := rangeAt_heap (heap_alloc2_new _ _ _)
  have hbl : Below w.heap.size w ((w.alloc (Obj.cells (encC a) 23)).alloc (Obj.cells (encC b) 23)) := ((Below.refl _ _).alloc (Nat.le_refl _) _).alloc (by simp) _
  refine wp_region_held_drew (S := fun w' => w'.rangeAt w.heap.size 0 (encC a).toList ∧ w'.rangeAt (w.heap.size + 1) 0 (encC b).toList ∧ Below w.heap.size w w') (by kernel_rfl) ⟨hra, hrb, hbl.drew⟩ (fun hS => ?_)
  generalize World.drew _ = w1 at hS
  refine wpAnyH_take (i := 0) (oi := ⟨some 5, _, _, _, _, _⟩) rfl (by kernel_rfl) (by kernel_rfl) (by kernel_rfl) (fun _ _ _ h => h) (yieldsIf_load_mid rfl _ _ rfl _ _ rfl _ _ (fun w h => h.1) under_cats rfl hi1) hS ?_
  refine wpAnyH_take (i := 1) (oi := ⟨some 6, _, _, _, _, _⟩) rfl (by kernel_rfl) (by kernel_rfl) (by kernel_rfl) (fun _ _ _ h => h) (yieldsIf_load_mid rfl _ _ rfl _ _ rfl _ _ (fun w h => h.2.1) under_cats rfl hi2) hS ?_
  refine wpAnyH_take (i := 4) (oi := ⟨some 9, _, _, _, _, _⟩) rfl (by kernel_rfl) (by kernel_rfl) (by kernel_rfl) (fun _ _ _ h => h) (yieldsIf_load_mid rfl _ _ rfl _ _ rfl _ _ (fun w h => h.1) under_cats rfl hi1) hS ?_
  simp only [Act.put, List.setIfInBounds_toArray, List.set_cons_zero, List.set_cons_succ]
  refine heldStep (i := 2) (o := ⟨some 7, _, _, _, _, none⟩) (by kernel_rfl) rfl rfl (fun K hK => ?_)
  refine wp_slice_lit lit_cats1 _ rfl [.agg (encC b)] (by kernel_rfl) rfl (by simp [Value.cells]) ?_
  simp only [Act.put, List.setIfInBounds_toArray, List.set_cons_zero, List.set_cons_succ]
  refine hK.out _ _ ⟨rangeAt_alloc hS.1 _, rangeAt_alloc hS.2.1 _, hS.2.2.alloc hS.2.2.size _⟩ ?_
  refine heldStep (i := 3) (o := ⟨some 8, _, _, _, _, none⟩) (by kernel_rfl) rfl rfl (fun K hK => ?_)
  go_wp2_with (go_at_call 22; refine (meet_any a b _ _ (SlV_one _ _ _ _ (by simp))).mono ?_; rintro e w2 ⟨rfl, hb2⟩)
  have hb1 : Below w1.heap.size w1 w2 := (Below.alloc (Below.refl _ w1) (Nat.le_refl _) _).trans (hb2.mono (by simp))
  refine hK.out _ _ ⟨rangeAt_below hb1 hS.1, rangeAt_below hb1 hS.2.1, hS.2.2.trans (hb1.mono hS.2.2.size)⟩ ?_
  refine heldStep (i := 5) (o := ⟨some 10, _, _, _, _, none⟩) (by kernel_rfl) rfl rfl (fun K hK => ?_)
  go_wp2
  refine hK.out _ _ ⟨rangeAt_below hb1 hS.1, rangeAt_below hb1 hS.2.1, hS.2.2.trans (hb1.mono hS.2.2.size)⟩ ?_
  refine heldStep (i := 6) (o := ⟨some 4, _, _, _, _, none⟩) (by kernel_rfl) rfl rfl (fun K hK => ?_)
  go_wp2
  refine hK.out _ _ ⟨rangeAt_below hb1 hS.1, rangeAt_below hb1 hS.2.1, hS.2.2.trans (hb1.mono hS.2.2.size)⟩ ?_
  refine wpAnyH_done (by kernel_rfl) ?_ _
  go_wp2
  go_ret
  exact ⟨rfl, hS.2.2.trans (hb1.mono hS.2.2.size)⟩

theorem rangeAt_cats {w : World} {g : Nat} {l : Lab} {t : TypeId} (h : w.heap[g]? = some (.cells (encL l) t (0, 0))) : w.rangeAt g 1 (encC l.cats).toList := fun j v hv => by
  rw [cell_of_row w g _ _ t (0, 0) h]
  have e := encL_cats l
  rw [← e] at hv
  have hj : j < 30 := by have := (List.getElem?_eq_some_iff.1 hv).1; simpa using this
  simp only [Array.getElem?_toList] at hv
  rw [Array.getElem?_extract, if_pos (by rw [size_encL]; omega)] at hv
  exact hv
def domL (a b : Lab) : Bool := decide (b.level ≤ a.level) && withinC b.cats a.cats
theorem dominates_any (a b : Lab) (w : World) :
  Calls Tryd.prog 6 #[.agg (encL a), .agg (encL b)] w fun e w' => e = .returned (.bool (domL a b)) ∧ Below w.heap.size w w' := by
  have h1 : ((w.alloc (Obj.cells (encL a) 25)).alloc (Obj.cells (encL b) 25)).rangeAt w.heap.size 1 (encC a.cats).toList := rangeAt_cats (heap_alloc2_old _ _ _)
  have h2 : ((w.alloc (Obj.cells (encL a) 25)).alloc (Obj.cells (encL b) 25)).rangeAt (w.heap.size + 1) 1 (encC b.cats).toList := rangeAt_cats (heap_alloc2_new _ _ _)
  have hb : Below w.heap.size w ((w.alloc (Obj.cells (encL a) 25)).alloc (Obj.cells (encL b) 25)) := ((Below.refl _ _).alloc (Nat.le_refl _) _).alloc (by simp) _
  have H1 := Lib.hid h1
  have H2 := Lib.hid h2
  clear h1 h2
  by_cases hd : b.level ≤ a.level
  · go_enter Tryd.func6, Tryd.ntmps6
    go_wp2_with (first
      | (refine wpList_load_g rfl 23 _ rfl w.heap.size _ rfl (encC a.cats).toList _ H1.out under_cats rfl (by simpa using info_cats) ?_)
      | (refine wpList_load_g rfl 23 _ rfl (w.heap.size + 1) _ rfl (encC b.cats).toList _ H2.out under_cats rfl (by simpa using info_cats) ?_)
      | (go_at_call 14; refine (within_any b.cats a.cats _).mono ?_; rintro e w1 ⟨rfl, hb1⟩))
    go_ret
    exact ⟨by simp [domL, hd], hb.trans (hb1.mono hb.size)⟩
  · go_enter Tryd.func6, Tryd.ntmps6
    go_wp2
    go_ret
    have hd' : ¬ b.level ≤ a.level := by omega
    exact ⟨by simp [domL, hd'], hb⟩

/-- l lies between lo and hi. -/
def inL (l lo hi : Lab) : Bool := domL l lo && domL hi l
theorem isRow_lab : ∃ d, Tryd.prog.underlying 25 = some d ∧ d.isRow = true := ⟨_, Tryd.underlying25, rfl⟩
set_option maxRecDepth 100000 in
theorem in_any (l lo hi : Lab) (w : World) :
  Calls Tryd.prog 9 #[.agg (encL l), .agg (encL lo), .agg (encL hi)] w fun e w' => e = .returned (.bool (inL l lo hi)) ∧ Below w.heap.size w w' := by
  obtain ⟨d, hu, hd⟩ := isRow_lab
  have h1 : (((w.alloc (Obj.cells (encL l) 25)).alloc (Obj.cells (encL lo) 25)).alloc (Obj.cells (encL hi) 25)).rangeAt w.heap.size 0 (encL l).toList := rangeAt_alloc (rangeAt_heap (heap_alloc2_old _ _ _)) _
  have h2 : (((w.alloc (Obj.cells (encL l) 25)).alloc (Obj.cells (encL lo) 25)).alloc (Obj.cells (encL hi) 25)).rangeAt (w.heap.size + 1) 0 (encL lo).toList := rangeAt_alloc (rangeAt_heap (heap_alloc2_new _ _ _)) _
  have h3 : (((w.alloc (Obj.cells (encL l) 25)).alloc (Obj.cells (encL lo) 25)).alloc (Obj.cells (encL hi) 25)).rangeAt (w.heap.size + 1 + 1) 0 (encL hi).toList := by
    have := rangeAt_heap (heap_alloc_last ((w.alloc (Obj.cells (encL l) 25)).alloc (Obj.cells (encL lo) 25)) (Obj.cells (encL hi) 25))
    simpa using this
  have hb : Below w.heap.size w (((w.alloc (Obj.cells (encL l) 25)).alloc (Obj.cells (encL lo) 25)).alloc (Obj.cells (encL hi) 25)) := (((Below.refl _ _).alloc (Nat.le_refl _) _).alloc (by simp) _).alloc (by simp; omega) _
  have H1 := Lib.hid h1
  have H2 := Lib.hid h2
  have H3 := Lib.hid h3
  have HU := Lib.hid hu
  clear h1 h2 h3 hu
  cases hdl : domL l lo with
  | false =>
    go_enter Tryd.func9, Tryd.ntmps9
    go_wp2_with (first
      | (refine wpList_load_g rfl 25 _ rfl w.heap.size _ rfl (encL l).toList _ H1.out HU.out hd (by simpa using info_lab) ?_)
      | (refine wpList_load_g rfl 25 _ rfl (w.heap.size + 1) _ rfl (encL lo).toList _ H2.out HU.out hd (by simpa using info_lab) ?_)
      | (go_at_call 6; refine (dominates_any l lo _).mono ?_; rintro e w1 ⟨rfl, hb1⟩))
    go_ret
    exact ⟨by simp [inL, hdl], hb.trans (hb1.mono hb.size)⟩
  | true =>
    go_enter Tryd.func9, Tryd.ntmps9
    go_wp2_with (first
      | (refine wpList_load_g rfl 25 _ rfl w.heap.size _ rfl (encL l).toList _ (by first | exact H1.out | exact rangeAt_below (by assumption) H1.out) HU.out hd (by simpa using info_lab) ?_)
      | (refine wpList_load_g rfl 25 _ rfl (w.heap.size + 1) _ rfl (encL lo).toList _ H2.out HU.out hd (by simpa using info_lab) ?_)
      | (refine wpList_load_g rfl 25 _ rfl (w.heap.size + 1 + 1) _ rfl (encL hi).toList _ (by exact rangeAt_below (by assumption) H3.out) HU.out hd (by simpa using info_lab) ?_)
      | (go_at_call 6; refine (dominates_any _ _ _).mono ?_; rintro e w1 ⟨rfl, hb1⟩))
    go_ret
    refine ⟨by simp [inL, hdl], ?_⟩
    repeat (first | exact hb | refine bstep ?_ (by assumption))
end Go.Proofs.YtbnjnomlgamheaaDoor

