/- Which of two labels stands first. -/
import Derived.Test.YtbnjnomlgamheaaDoorCmp
namespace Go.Proofs.YtbnjnomlgamheaaDoor
set_option linter.unusedSimpArgs false
set_option linter.unusedVariables false
open Go.RowKit
theorem lit_ints2 : SliceLit Tryd.prog 42 3 2 1 where
  hu := by kernel_rfl
  hi := ⟨(Tryd.prog.info? 3).getD default, ((Tryd.prog.info? 3).bind (·.zero)).getD default, by kernel_rfl, by kernel_rfl, by kernel_rfl, by kernel_rfl, by kernel_rfl⟩
  hs := by decide
  hp := by decide
def cmpL (a b : Lab) : Int := if a = b then 0 else orI [cmpI a.level b.level, Lib.compareBytes a.cats.toList b.cats.toList]
theorem cell_level {w : World} {g : Nat} {l : Lab} {t : TypeId} (h : w.heap[g]? = some (.cells (encL l) t (0, 0))) : w.cell? ⟨g, 0, none⟩ = some (.int .i64 l.level) := cell_heap h (encL_level l)
theorem vbs (c : Cts) : (encC c).toList = c.toList.map vb := encC_list c
set_option maxRecDepth 100000 in
theorem compare_any (a b : Lab) (w : World) :
  Calls Tryd.prog 5 #[.agg (encL a), .agg (encL b)] w fun e w' => e = .returned (.int .i64 (cmpL a b)) ∧ Below w.heap.size w w' := by
  have hb : Below w.heap.size w ((w.alloc (Obj.cells (encL a) 25)).alloc (Obj.cells (encL b) 25)) := balloc (balloc (Below.refl _ _) _) _
  have h1 := heap_alloc2_old w (Obj.cells (encL a) 25) (Obj.cells (encL b) 25)
  have h2 := heap_alloc2_new w (Obj.cells (encL a) 25) (Obj.cells (encL b) 25)
  have H1 := Lib.hid h1
  have H2 := Lib.hid h2
  clear h1 h2
  by_cases he : a = b
  · subst he
    go_enter Tryd.func5, Tryd.ntmps5
    go_wp2_with (first
      | (refine wpList_load_row rfl 25 _ rfl w.heap.size rfl 25 (encL a) (0, 0) _ H1.out Tryd.underlying25 rfl (infoL _) ?_)
      | (refine wpList_load_row rfl 25 _ rfl (w.heap.size + 1) rfl 25 (encL a) (0, 0) _ H2.out Tryd.underlying25 rfl (infoL _) ?_))
    go_ret
    exact ⟨ret_int (by simp [cmpL]), hb⟩
  · go_enter Tryd.func5, Tryd.ntmps5
    go_wp2_with (first
      | (refine wpList_load_row rfl 25 _ rfl w.heap.size rfl 25 (encL a) (0, 0) _ H1.out Tryd.underlying25 rfl (infoL _) ?_)
      | (refine wpList_load_row rfl 25 _ rfl (w.heap.size + 1) rfl 25 (encL b) (0, 0) _ H2.out Tryd.underlying25 rfl (infoL _) ?_))
    have hca := cell_level H1.out
    have hcb := cell_level H2.out
    have hra := rangeAt_cats H1.out
    have hrb := rangeAt_cats H2.out
    rw [vbs] at hra hrb
    go_region_held3 (fun w' => w'.cell? ⟨w.heap.size, 0, none⟩ = some (.int .i64 a.level) ∧ w'.cell? ⟨w.heap.size + 1, 0, none⟩ = some (.int .i64 b.level) ∧ w'.rangeAt w.heap.size 1 (a.cats.toList.map vb) ∧ w'.rangeAt (w.heap.size + 1) 1 (b.cats.toList.map vb) ∧ Below w.heap.size w w')
      (first | exact ⟨hca, hcb, hra, hrb, hb.drew⟩ | (refine ⟨?_, ?_, ?_, ?_, ?_⟩ <;> first | assumption | (refine cell_alloc ?_ _; assumption) | (refine rangeAt_alloc ?_ _; assumption) | (refine balloc ?_ _; assumption) | (refine Below.drew ?_; refine balloc ?_ _; first | assumption | exact hb) | (refine Below.drew ?_; assumption)))
      (first | (go_at_call 12; refine (cmpI_any _ _ _).mono ?_; rintro e w1 ⟨rfl, rfl⟩) | (go_at_call 13; refine (bcmp30 _ a.cats b.cats _ _ _ _ _ _ (by assumption) (by assumption)).mono ?_; rintro e w1 ⟨rfl, rfl⟩) | (go_at_call 11; refine (or_any [cmpI a.level b.level, Lib.compareBytes a.cats.toList b.cats.toList] _ _ (SlV.drew (SlV_two' (by simp)))).mono ?_; rintro e w1 ⟨rfl, rfl⟩))
    go_wp2
    go_ret
    exact ⟨ret_int (by simp [cmpL, he]), (balloc hb _).drew⟩
end Go.Proofs.YtbnjnomlgamheaaDoor
