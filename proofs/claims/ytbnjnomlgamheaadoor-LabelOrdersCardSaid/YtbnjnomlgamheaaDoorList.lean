/- A set's categories, listed. -/
import Derived.Test.YtbnjnomlgamheaaDoorCats
namespace Go.Proofs.YtbnjnomlgamheaaDoor
set_option linter.unusedSimpArgs false
set_option linter.unusedVariables false
open Go.RowKit
theorem elem_ints : ElemOf Tryd.prog 42 3 1 8 where
  hu := by kernel_rfl
  hi := ⟨(Tryd.prog.info? 3).getD default, ((Tryd.prog.info? 3).bind (·.zero)).getD default, by kernel_rfl, by kernel_rfl, by kernel_rfl, by kernel_rfl, by kernel_rfl⟩
  hp := by decide
/-- The categories below k. -/
def listK (c : Cts) (k : Nat) : List Nat := (List.range k).filter (hasC c)
def listC (c : Cts) : List Nat := listK c 240
theorem listK_len (c : Cts) (k : Nat) : (listK c k).length ≤ k := by
  have := List.length_filter_le (hasC c) (List.range k)
  rwa [List.length_range] at this
theorem listK_yes (c : Cts) (k : Nat) (h : hasC c k = true) : listK c (k + 1) = listK c k ++ [k] := by
  unfold listK; rw [List.range_succ, List.filter_append]; simp [h]
theorem listK_no (c : Cts) (k : Nat) (h : hasC c k = false) : listK c (k + 1) = listK c k := by
  unfold listK; rw [List.range_succ, List.filter_append]; simp [h]
def intv (k : Nat) : Value := .int .i64 (k : Int)
set_option maxRecDepth 100000 in
theorem list_any (c : Cts) (w : World) :
  Calls Tryd.prog 37 #[.agg (encC c)] w fun e w' => ∃ v, e = .returned v ∧ SlV w' 1 ((listC c).map fun k => [intv k]) v ∧ Below w.heap.size w w' := by
  have hbx := heap_alloc_last w (Obj.cells (encC c) 23)
  have HBX := Lib.hid hbx
  clear hbx
  go_enter Tryd.func37, Tryd.ntmps37
  go_wp2
  go_loopw [3, 5] (fun v i wr => ∃ k : Nat, k ≤ 240 ∧ i = .int .i64 k ∧ wr.ownsRow (w.heap.size + 1) 3 1 v (listK c k).length ((listK c k).map intv) ∧ Below (w.heap.size + 1) (w.alloc (Obj.cells (encC c) 23)) wr) (fun _ i _ => 240 - (intOf i).toNat)
  case atStart => exact ⟨0, by omega, rfl, own_nil _ _ _ _, Below.refl _ _⟩
  case round =>
    obtain ⟨k, hk, rfl, hown, hb⟩ := hrel
    have hbox : wr.heap[w.heap.size]? = some (.cells (encC c) 23 (0, 0)) := (hb.block _ (by omega)).trans HBX.out
    have hsz := hb.size
    rw [show (w.alloc (Obj.cells (encC c) 23)).heap.size = w.heap.size + 1 by simp] at hsz
    have HB := Lib.hid hbox
    have HO := Lib.hid hown
    have HBL := Lib.hid hb
    clear hbox hown hb
    by_cases hlt : k < 240
    · cases hh : hasC c k with
      | false =>
        have HH := Lib.hid hh
        clear hh
        go_wp2_with (first
          | (refine wpList_load_row rfl 23 _ rfl w.heap.size rfl 23 _ (0, 0) _ HB.out under_cats rfl (infoC _) ?_)
          | (go_at_call 50; refine (has_any c k hlt _).mono ?_; rintro e w1 ⟨rfl, hb1⟩; rw [HH.out]))
        refine ⟨⟨k + 1, by omega, by go_num, ?_, ?_⟩, by simp [intOf]; omega⟩
        · rw [listK_no _ _ HH.out]; exact own_below hb1 HO.out
        · exact HBL.out.trans (hb1.mono hsz)
      | true =>
        have HH := Lib.hid hh
        have hlk := listK_len c k
        clear hh
        go_wp2_with (first
          | (refine wpList_load_row rfl 23 _ rfl w.heap.size rfl 23 _ (0, 0) _ HB.out under_cats rfl (infoC _) ?_)
          | (go_at_call 50; refine (has_any c k hlt _).mono ?_; rintro e w1 ⟨rfl, hb1⟩; rw [HH.out])
          | (refine wpList_app elem_ints rfl _ _ rfl (w.heap.size + 1) _ (listK c k).length _ rfl (own_below (balloc (by assumption) _) HO.out) _ 1 1 [intv k] rfl rfl (rangeAt_heap (heap_alloc_last _ _)) (by simp [intv, Value.oneCell']) (by omega) (by omega) ?_ (fun v' w2 hown2 hgr => ?_); rotate_left))
        · have hs1 := hb1.size
          have hs2 : (w1.alloc (Obj.cells #[Value.int .i64 k] 3)).heap.size = w1.heap.size + 1 := by simp
          refine ⟨⟨k + 1, by omega, by go_num, ?_, ?_⟩, by simp [intOf]; omega⟩
          · rw [listK_yes _ _ HH.out, List.length_append, List.map_append]; exact hown2
          · exact Below.grown ((HBL.out.trans (hb1.mono hsz)).alloc (by omega) _) hgr (by omega) (own_ge HO.out)
        · have hs1 := hb1.size
          simp
          omega
    · obtain rfl : k = 240 := by omega
      go_wp2
      go_ret
      refine ⟨_, rfl, own_SlV HO.out _ ?_ (by simp) (by omega), ?_⟩
      · unfold listC
        generalize listK c 240 = l
        induction l with
        | nil => rfl
        | cons x r ih => simp [ih]
      · exact (balloc (Below.refl _ _) _).trans (HBL.out.mono (by omega))
end Go.Proofs.YtbnjnomlgamheaaDoor
