/- The document's examples. -/
import Derived.Test.YtbnjnomlgamheaaDoorLab
namespace Go.Proofs.YtbnjnomlgamheaaDoor
set_option linter.unusedSimpArgs false
set_option linter.unusedVariables false
open Go.RowKit
theorem wpList_slice_lit_g {P : Program} {ops : Array Oper} {rest : List Oper} {o : Oper} {a : Act} {w : World} {Q : Exit → Act → World → Prop} {t e : TypeId} {len size : Nat} (L : SliceLit P t e len size) (hg : Region.wanted o (yielded ops a.tmps) = true) (parts : Array (Nat × Operand)) (ho : o.op = .buildSlice t len parts)
    (vs : List Value) (hvs : (parts.map fun (i, x) => (i, a.eval x)).toList = vs.zipIdx.map fun x => (x.2, x.1)) (hlen : vs.length = len) (hsz : ∀ v ∈ vs, v.cells.size = size)
    (h : wpList P ops Q rest (a.put o.dst (.slice (some ⟨w.heap.size, 0, none⟩) len len)) (w.alloc (.cells (vs.map fun v => v.cells.toList).flatten.toArray e))) : wpList P ops Q (o :: rest) a w := by
  unfold wpList
  rw [if_pos hg]
  exact .inl (wp_slice_lit L parts ho vs hvs hlen hsz h)
theorem lit_lab1 : SliceLit Tryd.prog 40 25 1 31 where
  hu := by kernel_rfl
  hi := ⟨(Tryd.prog.info? 25).getD default, ((Tryd.prog.info? 25).bind (·.zero)).getD default, by kernel_rfl, by kernel_rfl, by kernel_rfl, by kernel_rfl, by kernel_rfl⟩
  hs := by decide
  hp := by decide
def lab31 : Lab := ⟨3, by decide, withC zeroC 1⟩
def lab22 : Lab := ⟨2, by decide, withC zeroC 2⟩
theorem read31 : parseL [51, 58, 49] = some lab31 := by kernel_rfl
theorem read22 : parseL [50, 58, 50] = some lab22 := by kernel_rfl
theorem told312 : textL (joinLs lab31 [lab22]) = [51, 58, 49, 44, 50] := by kernel_rfl
theorem dom3122 : domL lab31 lab22 = false := by kernel_rfl
theorem parse31 (w : World) (hL : LibOk w) : Calls Tryd.prog 15 #[.string ⟨#[51, 58, 49]⟩] w fun e w' => e = .returned (.tuple #[.agg (encL lab31), .bool true]) ∧ Below w.heap.size w w' := by
  have h := parseL_any [51, 58, 49] (by decide) w hL
  rw [read31] at h
  exact h
theorem parse22 (w : World) (hL : LibOk w) : Calls Tryd.prog 15 #[.string ⟨#[50, 58, 50]⟩] w fun e w' => e = .returned (.tuple #[.agg (encL lab22), .bool true]) ∧ Below w.heap.size w w' := by
  have h := parseL_any [50, 58, 50] (by decide) w hL
  rw [read22] at h
  exact h
set_option maxRecDepth 100000 in
set_option maxHeartbeats 1000000 in
theorem awake_any (w : World) (hL : LibOk w) : Calls Tryd.prog 7 #[] w fun e w' => e = .returned (.bool true) ∧ Below w.heap.size w w' := by
  have ht := told312
  have hd := dom3122
  have HT := Lib.hid ht
  have HD := Lib.hid hd
  clear ht hd
  generalize hA : lab31 = A at *
  generalize hB : lab22 = B at *
  go_enter Tryd.func7, Tryd.ntmps7
  go_wp2_with (first
    | (go_at_call 15; (with_reducible refine (parse31 _ hL).mono ?_); rintro e w1 ⟨rfl, hb1⟩; rw [hA])
    | (go_at_call 15; (with_reducible refine (parse22 _ ((hL.below hb1).below (balloc (Below.refl _ _) _))).mono ?_); rintro e w2 ⟨rfl, hb2⟩; rw [hB]; have HA3 := Lib.hid (row_below (balloc (Below.refl w2.heap.size _) (Obj.cells (encL B) 25)) (row_below hb2 (heap_alloc_last w1 (Obj.cells (encL A) 25)))); have HB3 := Lib.hid (heap_alloc_last w2 (Obj.cells (encL B) 25)); have hL3 := ((hL.below hb1).below (balloc (Below.refl _ _) (Obj.cells (encL A) 25))).below hb2)
    | (refine wpList_store_new rfl 25 _ _ rfl w1.heap.size (encL A) rfl rfl w1 25 _ rfl rfl (infoL _) (sizeL _ (size_encL _)) (all_encL _) ?_)
    | (refine wpList_store_new rfl 25 _ _ rfl w2.heap.size (encL B) rfl rfl w2 25 _ rfl rfl (infoL _) (sizeL _ (size_encL _)) (all_encL _) ?_)
    | (refine wpList_load_g rfl 25 _ rfl w1.heap.size _ rfl (encL A).toList _ (rangeAt_heap (by first | exact HA3.out | exact HA5.out)) Tryd.underlying25 rfl (infoLl _) ?_)
    | (refine wpList_load_g rfl 25 _ rfl w2.heap.size _ rfl (encL B).toList _ (rangeAt_heap (by first | exact HB3.out | exact HB5.out)) Tryd.underlying25 rfl (infoLl _) ?_)
    | (refine wpList_slice_lit_g lit_lab1 rfl _ rfl [.agg (encL B)] (by kernel_rfl) rfl (by simp [Value.cells]) ?_; simp only [Act.put, List.setIfInBounds_toArray, List.set_cons_zero, List.set_cons_succ, List.map_cons, List.map_nil, List.flatten_cons, List.flatten_nil, List.append_nil, Value.cells, Array.toArray_toList]; have hsl : SlV ((w2.alloc (Obj.cells (encL B) 25)).alloc (Obj.cells (encL B) 25)) 31 ([B].map fun l => (encL l).toList) (.slice (some ⟨w2.heap.size + 1, 0, none⟩) 1 1) := SlV_addr (SlV_one (w2.alloc (Obj.cells (encL B) 25)) (encL B) 25 31 (size_encL B)) (by simp))
    | (go_at_call 17; (with_reducible refine (join_lab A [B] _ _ hsl).mono ?_); rintro e w3 ⟨rfl, hb3⟩)
    | (go_at_call 16; (with_reducible refine (textL_any (joinLs A [B]) _ (((hL3.below (balloc (Below.refl _ _) _)).below (balloc (Below.refl _ _) _)).below hb3)).mono ?_); rintro e w4 ⟨rfl, hb4⟩; rw [HT.out]; have HA5 := Lib.hid (row_below hb4 (row_below hb3 (row_below (balloc (Below.refl _ _) _) HA3.out))); have HB5 := Lib.hid (row_below hb4 (row_below hb3 (row_below (balloc (Below.refl _ _) _) HB3.out))))
    | (go_at_call 6; (with_reducible refine (dominates_any A B _).mono ?_); rintro e w5 ⟨rfl, hb5⟩; rw [HD.out]))
  go_ret
  refine ⟨ret_bool (by decide), ?_⟩
  repeat (first | exact Below.refl _ _ | refine bstep ?_ (by assumption) | refine balloc ?_ _)
end Go.Proofs.YtbnjnomlgamheaaDoor
