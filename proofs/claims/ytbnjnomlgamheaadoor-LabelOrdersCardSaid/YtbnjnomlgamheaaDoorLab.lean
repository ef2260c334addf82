/- Labels told. -/
import Derived.Test.YtbnjnomlgamheaaDoorUnion
import Derived.Test.YtbnjnomlgamheaaDoorCompare
import Derived.Lib.AtoiAllCases
namespace Go.Proofs.YtbnjnomlgamheaaDoor
set_option linter.unusedSimpArgs false
set_option linter.unusedVariables false
open Go.RowKit
def zeroL : Lab := ⟨0, by decide, zeroC⟩
theorem lit_lab : StructLit Tryd.prog 25 [[.int .i64 0], List.replicate 30 (.int .u8 0)] where
  h := ⟨(Tryd.prog.info? 25).getD default, ((Tryd.prog.info? 25).bind (·.zero)).getD default, _, by kernel_rfl, Tryd.underlying25, by kernel_rfl, by kernel_rfl, by kernel_rfl⟩
theorem lab_parts (l : Lab) : (([(0, Value.int .i64 l.level), (1, Value.agg (encC l.cats))] : List (Nat × Value)).foldl (fun s p => s.set p.1 p.2.cells.toList) [[Value.int .i64 0], List.replicate 30 (Value.int .u8 0)]).flatten.toArray = encL l := by
  apply Array.toList_inj.1
  simp [Value.cells, encL]
theorem lab_fit (l : Lab) : ∀ p ∈ ([(0, Value.int .i64 l.level), (1, Value.agg (encC l.cats))] : List (Nat × Value)), ∃ s, ([[Value.int .i64 0], List.replicate 30 (Value.int .u8 0)] : List (List Value))[p.1]? = some s ∧ p.2.cells.size = s.length := by
  intro p hp
  simp only [List.mem_cons, List.not_mem_nil, or_false] at hp
  rcases hp with rfl | rfl
  · exact ⟨_, rfl, rfl⟩
  · exact ⟨_, rfl, by simp [Value.cells]⟩
theorem wp_build_lab {o : Oper} {a : Act} {w : World} {K : Act → World → Prop} {Q : Exit → Act → World → Prop} (l : Lab) (x y : Operand) (ho : o.op = .build 25 #[(0, x), (1, y)])
    (hx : a.eval x = .int .i64 l.level) (hy : a.eval y = .agg (encC l.cats)) (h : K (a.put o.dst (.agg (encL l))) w) : o.wp Tryd.prog a w K Q := by
  refine wp_struct_lit lit_lab #[(0, x), (1, y)] ho [(0, .int .i64 l.level), (1, .agg (encC l.cats))] (by simp [hx, hy]) (lab_fit l) ?_
  rw [lab_parts]; exact h
theorem wpList_build_lab {ops : Array Oper} {rest : List Oper} {o : Oper} {a : Act} {w : World} {Q : Exit → Act → World → Prop} (l : Lab) (hg : o.guard = none) (x y : Operand) (ho : o.op = .build 25 #[(0, x), (1, y)])
    (hx : a.eval x = .int .i64 l.level) (hy : a.eval y = .agg (encC l.cats)) (h : wpList Tryd.prog ops Q rest (a.put o.dst (.agg (encL l))) w) : wpList Tryd.prog ops Q (o :: rest) a w :=
  wpList_plain hg fun _ hK => wp_build_lab l x y ho hx hy (hK _ _ h)
@[go_sem high] theorem zero_lab : (#[.int .i64 0, .int .u8 0, .int .u8 0, .int .u8 0, .int .u8 0, .int .u8 0, .int .u8 0, .int .u8 0, .int .u8 0, .int .u8 0, .int .u8 0, .int .u8 0, .int .u8 0, .int .u8 0, .int .u8 0, .int .u8 0, .int .u8 0, .int .u8 0, .int .u8 0, .int .u8 0, .int .u8 0, .int .u8 0, .int .u8 0, .int .u8 0, .int .u8 0, .int .u8 0, .int .u8 0, .int .u8 0, .int .u8 0, .int .u8 0, .int .u8 0] : Array Value) = encL zeroL := by kernel_rfl

theorem textC_len (c : Cts) : (textC c).length ≤ 10560 := by
  obtain ⟨h1, h2⟩ := pieces_len (listC c).length (listC c) (Nat.le_refl _) (fun j hj => listK_lt hj)
  have hl : (listC c).length ≤ 240 := listK_len c 240
  have ht : textC c = if listC c = [] then [45] else Lib.join (pieces (listC c)) [44] := rfl
  rw [ht]
  split
  · simp
  · have := join_len_le 43 (pieces (listC c)) [44] h2
    simp only [List.length_cons, List.length_nil] at this
    omega
def textL (l : Lab) : List UInt8 := if rightL l then Lib.itoa l.level ++ [58] ++ textC l.cats else []
set_option maxRecDepth 100000 in
theorem textL_any (l : Lab) (w : World) (hL : LibOk w) :
    Calls Tryd.prog 16 #[.agg (encL l)] w fun e w' => e = .returned (.string ⟨(textL l).toArray⟩) ∧ Below w.heap.size w w' := by
  have HB := Lib.hid (heap_alloc_last w (Obj.cells (encL l) 25))
  cases hr : rightL l with
  | false =>
    have ht : textL l = [] := by unfold textL; rw [hr]; rfl
    have HR := Lib.hid hr
    have HT := Lib.hid ht
    clear hr ht
    go_enter Tryd.func16, Tryd.ntmps16
    go_wp2_with (first
      | (refine wpList_load_row rfl 25 _ rfl w.heap.size rfl 25 (encL l) (0, 0) _ HB.out Tryd.underlying25 rfl (infoL _) ?_)
      | (go_at_call 19; refine (right1_any l _).mono ?_; rintro e w1 ⟨rfl, hb1⟩; rw [HR.out]))
    go_ret
    exact ⟨ret_str (by rw [HT.out]), bstep (balloc (Below.refl _ _) _) hb1⟩
  | true =>
    have ht : textL l = Lib.itoa l.level ++ [58] ++ textC l.cats := by unfold textL; rw [hr]; rfl
    have HR := Lib.hid hr
    have HT := Lib.hid ht
    have HOK := Lib.hid l.ok
    have q1 := Lib.itoa_length_le l.level l.ok.1 l.ok.2
    have q2 := textC_len l.cats
    clear hr ht
    go_enter Tryd.func16, Tryd.ntmps16
    go_wp2_with (first
      | (refine wpList_load_row rfl 25 _ rfl w.heap.size rfl 25 (encL l) (0, 0) _ HB.out Tryd.underlying25 rfl (infoL _) ?_)
      | (go_at_call 19; refine (right1_any l _).mono ?_; rintro e w1 ⟨rfl, hb1⟩; rw [HR.out]))
    have hb : Below w.heap.size w w1 := bstep (balloc (Below.refl _ _) _) hb1
    have hrow := row_below hb1 HB.out
    refine wp_region_held_drew (S := fun w' => w'.heap[w.heap.size]? = some (.cells (encL l) 25 (0, 0)) ∧ Below w.heap.size w w') (by kernel_rfl) ⟨hrow, hb.drew⟩ (fun hS => ?_)
    generalize World.drew _ = w2 at hS
    refine wpAnyH_take (i := 0) (oi := ⟨some 6, _, _, _, _, _⟩) (v := .pointer (some ⟨w.heap.size, 0, none⟩)) rfl (by kernel_rfl) (by kernel_rfl) (by kernel_rfl) (fun _ _ _ h => h) (Or.inl ⟨by rfl, fun w _ => by go_simp⟩) hS ?_
    simp only [Act.put, List.setIfInBounds_toArray, List.set_cons_zero, List.set_cons_succ]
    refine wpAnyH_take (i := 1) (oi := ⟨some 7, _, _, _, _, _⟩) (v := .int .i64 l.level) rfl (by kernel_rfl) (by kernel_rfl) (by kernel_rfl) (fun _ _ _ h => h) (Or.inl ⟨by rfl, fun w hw => by have hw := cell_level hw.1; go_simp⟩) hS ?_
    simp only [Act.put, List.setIfInBounds_toArray, List.set_cons_zero, List.set_cons_succ]
    refine wpAnyH_take (i := 4) (oi := ⟨some 10, _, _, _, _, _⟩) (v := .pointer (some ⟨w.heap.size, 1, none⟩)) rfl (by kernel_rfl) (by kernel_rfl) (by kernel_rfl) (fun _ _ _ h => h) (Or.inl ⟨by rfl, fun w _ => by go_simp⟩) hS ?_
    simp only [Act.put, List.setIfInBounds_toArray, List.set_cons_zero, List.set_cons_succ]
    refine wpAnyH_take (i := 5) (oi := ⟨some 11, _, _, _, _, _⟩) rfl (by kernel_rfl) (by kernel_rfl) (by kernel_rfl) (fun _ _ _ h => h) (yieldsIf_load_mid rfl _ _ rfl _ _ rfl _ _ (fun w h => rangeAt_cats h.1) under_cats rfl (infoCl _)) hS ?_
    simp only [Act.put, List.setIfInBounds_toArray, List.set_cons_zero, List.set_cons_succ]
    refine heldStep (i := 2) (o := ⟨some 8, _, _, _, _, none⟩) (by kernel_rfl) rfl rfl (fun K hK => ?_)
    go_wp2_with (go_at_call 26; refine (itoa_any l.level HOK.out.1 HOK.out.2 _ (hL.below hS.2)).mono ?_; rintro e w3 ⟨rfl, hb3⟩)
    have hS3 : w3.heap[w.heap.size]? = some (.cells (encL l) 25 (0, 0)) ∧ Below w.heap.size w w3 := ⟨row_below hb3 hS.1, bstep hS.2 hb3⟩
    refine hK.out _ _ hS3 ?_
    refine wpAnyH_take (i := 3) (oi := ⟨some 9, _, _, _, _, _⟩) (v := .string ⟨(Lib.itoa l.level ++ [58]).toArray⟩) rfl (by kernel_rfl) (by kernel_rfl) (by kernel_rfl) (fun _ _ _ h => h) (Or.inl ⟨by rfl, fun w _ => by go_simp; rw [if_neg (by omega)]; exact congrArg (fun b => Result.ok (Next.value (Value.string b)) w) (bacat _ [58])⟩) hS3 ?_
    simp only [Act.put, List.setIfInBounds_toArray, List.set_cons_zero, List.set_cons_succ]
    refine heldStep (i := 6) (o := ⟨some 12, _, _, _, _, none⟩) (by kernel_rfl) rfl rfl (fun K hK => ?_)
    go_wp2_with (go_at_call 27; refine (text_any l.cats _ (hL.below hS3.2)).mono ?_; rintro e w4 ⟨rfl, hb4⟩)
    have hS4 : w4.heap[w.heap.size]? = some (.cells (encL l) 25 (0, 0)) ∧ Below w.heap.size w w4 := ⟨row_below hb4 hS3.1, bstep hS3.2 hb4⟩
    refine hK.out _ _ hS4 ?_
    refine heldStep (i := 7) (o := ⟨some 13, _, _, _, _, none⟩) (by kernel_rfl) rfl rfl (fun K hK => ?_)
    go_wp2
    refine hK.out _ _ hS4 ?_
    refine heldStep (i := 8) (o := ⟨some 2, _, _, _, _, none⟩) (by kernel_rfl) rfl rfl (fun K hK => ?_)
    go_wp2
    refine hK.out _ _ hS4 ?_
    refine wpAnyH_done (by kernel_rfl) ?_ _
    go_wp2
    go_ret
    exact ⟨ret_str (by rw [HT.out, bacat]), hS4.2⟩

/-! ### The join -/
def joinL (a b : Lab) : Lab := ⟨max a.level b.level, by have h1 := a.ok; have h2 := b.ok; omega, unionC [a.cats, b.cats]⟩
def joinLs (a : Lab) (bs : List Lab) : Lab := bs.foldl joinL a
theorem lit_cats2 : SliceLit Tryd.prog 57 23 2 30 where
  hu := by kernel_rfl
  hi := ⟨(Tryd.prog.info? 23).getD default, ((Tryd.prog.info? 23).bind (·.zero)).getD default, by kernel_rfl, by kernel_rfl, by kernel_rfl, by kernel_rfl, by kernel_rfl⟩
  hs := by decide
  hp := by decide
theorem SlV_pair (w : World) (x y : Array Value) (t : TypeId) (sz : Nat) (hx : x.size = sz) (hy : y.size = sz) : SlV (w.alloc (.cells (x.toList ++ y.toList).toArray t)) sz [x.toList, y.toList] (.slice (some ⟨w.heap.size, 0, none⟩) 2 2) := by
  have hr := rangeAt_heap (heap_alloc_last w (.cells (x.toList ++ y.toList).toArray t))
  refine ⟨_, 2, rfl, by simp, fun _ => ⟨_, 0, rfl, fun k e he => ?_⟩⟩
  match k with
  | 0 =>
    simp at he; subst he
    refine ⟨by simpa using hx, fun j v hv => ?_⟩
    have h1 := hr j v (by
      rw [List.getElem?_append_left (List.getElem?_eq_some_iff.1 hv).1]; exact hv)
    simpa using h1
  | 1 =>
    simp at he; subst he
    refine ⟨by simpa using hy, fun j v hv => ?_⟩
    have h1 := hr (sz + j) v (by
      rw [List.getElem?_append_right (by rw [Array.length_toList]; omega), Array.length_toList, hx, Nat.add_sub_cancel_left]; exact hv)
    rw [Nat.zero_add] at h1
    rw [Nat.zero_add, Nat.one_mul]; exact h1
  | k + 2 => simp at he
set_option maxRecDepth 100000 in
set_option maxHeartbeats 1000000 in
theorem join_lab (a : Lab) (bs : List Lab) (w : World) (v : Value) (hv : SlV w 31 (bs.map fun b => (encL b).toList) v) :
  Calls Tryd.prog 17 #[.agg (encL a), v] w fun e w' => e = .returned (.agg (encL (joinLs a bs))) ∧ Below w.heap.size w w' := by
  obtain ⟨ad, cap, rfl, hmx, h⟩ := hv
  rw [List.length_map] at *
  have hmx := hmx.1
  have hr : ∀ (k : Nat) (b : Lab), bs[k]? = some b → ∃ g o, ad = some ⟨g, o, none⟩ ∧ w.rangeAt g (o + k * 31) (encL b).toList := fun k b hk => by
    have hlt := (List.getElem?_eq_some_iff.1 hk).1
    obtain ⟨g, o, h1, h2⟩ := h (by omega)
    exact ⟨g, o, h1, (h2 k _ (by rw [List.getElem?_map, hk]; rfl)).2⟩
  have HR := Lib.hid hr
  clear h hr
  go_enter Tryd.func17, Tryd.ntmps17
  go_wp2
  go_loopw [9] (fun i wr => ∃ k : Nat, k ≤ bs.length ∧ i = .int .i64 k ∧ wr.heap[w.heap.size]? = some (.cells (encL ((bs.take k).foldl joinL a)) 25 (0, 0)) ∧ Blk wr (w.heap.size + 1) 31 25 ∧ Below w.heap.size w wr) (fun i _ => bs.length - (intOf i).toNat)
  case atStart =>
    exact ⟨0, by omega, rfl, heap_alloc2_old _ _ _, ⟨_, heap_alloc2_new _ _ _, size_encL zeroL⟩, balloc (balloc (Below.refl _ _) _) _⟩
  case round =>
    obtain ⟨k, hk, rfl, ha, hz, hb⟩ := hrel
    have HZ := Lib.hid hz
    have HA := Lib.hid ha
    clear hz ha
    by_cases hlt : k < bs.length
    · obtain ⟨b, hbk⟩ : ∃ b, b = bs[k] := ⟨_, rfl⟩
      have hbk2 : bs[k]? = some b := by rw [hbk]; simp [hlt]
      obtain ⟨g, o, rfl, hrg⟩ := HR.out k b hbk2
      have hrg2 := rangeAt_below hb hrg
      have HRG := Lib.hid hrg2
      have htake : (bs.take (k + 1)).foldl joinL a = joinL ((bs.take k).foldl joinL a) b := by
        rw [List.take_succ_eq_append_getElem hlt, ← hbk, List.foldl_append]; rfl
      have HT := Lib.hid htake
      clear hrg hrg2 htake hbk hbk2
      generalize (bs.take k).foldl joinL a = c at *
      go_wp2_with (first
        | (refine wpList_load_mid rfl 25 _ rfl g _ rfl (encL b).toList _ HRG.out Tryd.underlying25 rfl (infoLl _) ?_)
        | (refine wpList_store_new rfl 25 _ _ rfl wr.heap.size (encL b) rfl rfl _ 25 _ rfl ?hg (infoL _) (sizeL _ (size_encL _)) (all_encL b) ?_; (case hg => simp)))
      have hS : (wr.alloc (Obj.cells (encL b) 25)).heap[w.heap.size]? = some (.cells (encL c) 25 (0, 0)) ∧ Blk (wr.alloc (Obj.cells (encL b) 25)) (w.heap.size + 1) 31 25 ∧ (wr.alloc (Obj.cells (encL b) 25)).heap[wr.heap.size]? = some (.cells (encL b) 25 (0, 0)) ∧ Below w.heap.size w (wr.alloc (Obj.cells (encL b) 25)) :=
        ⟨row_below (balloc (Below.refl _ _) _) HA.out, blk_below (balloc (Below.refl _ _) _) HZ.out, heap_alloc_last _ _, balloc hb _⟩
      have hne : wr.heap.size ≠ w.heap.size := by
        have := (Array.getElem?_eq_some_iff.1 HA.out).1; omega
      refine Till.start (S := fun w' => w'.heap[w.heap.size]? = some (.cells (encL c) 25 (0, 0)) ∧ Blk w' (w.heap.size + 1) 31 25 ∧ w'.heap[wr.heap.size]? = some (.cells (encL b) 25 (0, 0)) ∧ Below w.heap.size w w') (n := 12) (by kernel_rfl) ?_
      have hS : (fun w' : World => w'.heap[w.heap.size]? = some (.cells (encL c) 25 (0, 0)) ∧ Blk w' (w.heap.size + 1) 31 25 ∧ w'.heap[wr.heap.size]? = some (.cells (encL b) 25 (0, 0)) ∧ Below w.heap.size w w') (wr.alloc (Obj.cells (encL b) 25)).drew := ⟨hS.1, hS.2.1, hS.2.2.1, hS.2.2.2.drew⟩
      generalize (wr.alloc (Obj.cells (encL b) 25)).drew = w2 at hS
      refine Till.take (i := 0) (oi := ⟨some 13, _, _, _, _, _⟩) (v := .pointer (some ⟨w.heap.size, 0, none⟩)) rfl (by kernel_rfl) (by kernel_rfl) (by kernel_rfl) (by kernel_rfl) (fun _ _ _ h => h) (Or.inl ⟨by rfl, fun w _ => by go_simp⟩) hS ?_
      simp only [Act.put, List.setIfInBounds_toArray, List.set_cons_zero, List.set_cons_succ]
      refine Till.take (i := 1) (oi := ⟨some 14, _, _, _, _, _⟩) (v := .int .i64 c.level) rfl (by kernel_rfl) (by kernel_rfl) (by kernel_rfl) (by kernel_rfl) (fun _ _ _ h => h) (Or.inl ⟨by rfl, fun w hw => by have hw := cell_level hw.1; go_simp⟩) hS ?_
      simp only [Act.put, List.setIfInBounds_toArray, List.set_cons_zero, List.set_cons_succ]
      refine Till.take (i := 2) (oi := ⟨some 15, _, _, _, _, _⟩) (v := .pointer (some ⟨wr.heap.size, 0, none⟩)) rfl (by kernel_rfl) (by kernel_rfl) (by kernel_rfl) (by kernel_rfl) (fun _ _ _ h => h) (Or.inl ⟨by rfl, fun w _ => by go_simp⟩) hS ?_
      simp only [Act.put, List.setIfInBounds_toArray, List.set_cons_zero, List.set_cons_succ]
      refine Till.take (i := 3) (oi := ⟨some 16, _, _, _, _, _⟩) (v := .int .i64 b.level) rfl (by kernel_rfl) (by kernel_rfl) (by kernel_rfl) (by kernel_rfl) (fun _ _ _ h => h) (Or.inl ⟨by rfl, fun w hw => by have hw := cell_level hw.2.2.1; go_simp⟩) hS ?_
      simp only [Act.put, List.setIfInBounds_toArray, List.set_cons_zero, List.set_cons_succ]
      refine Till.take (i := 4) (oi := ⟨some 17, _, _, _, _, _⟩) (v := .int .i64 (joinL c b).level) rfl (by kernel_rfl) (by kernel_rfl) (by kernel_rfl) (by kernel_rfl) (fun _ _ _ h => h) (Or.inl ⟨by rfl, fun w _ => by go_simp; rfl⟩) hS ?_
      simp only [Act.put, List.setIfInBounds_toArray, List.set_cons_zero, List.set_cons_succ]
      refine Till.take (i := 5) (oi := ⟨some 18, _, _, _, _, _⟩) (v := .pointer (some ⟨w.heap.size, 1, none⟩)) rfl (by kernel_rfl) (by kernel_rfl) (by kernel_rfl) (by kernel_rfl) (fun _ _ _ h => h) (Or.inl ⟨by rfl, fun w _ => by go_simp⟩) hS ?_
      simp only [Act.put, List.setIfInBounds_toArray, List.set_cons_zero, List.set_cons_succ]
      refine Till.take (i := 6) (oi := ⟨some 19, _, _, _, _, _⟩) rfl (by kernel_rfl) (by kernel_rfl) (by kernel_rfl) (by kernel_rfl) (fun _ _ _ h => h) (yieldsIf_load_mid rfl _ _ rfl _ _ rfl _ _ (fun w h => rangeAt_cats h.1) under_cats rfl (infoCl _)) hS ?_
      simp only [Act.put, List.setIfInBounds_toArray, List.set_cons_zero, List.set_cons_succ]
      refine Till.take (i := 7) (oi := ⟨some 20, _, _, _, _, _⟩) (v := .pointer (some ⟨wr.heap.size, 1, none⟩)) rfl (by kernel_rfl) (by kernel_rfl) (by kernel_rfl) (by kernel_rfl) (fun _ _ _ h => h) (Or.inl ⟨by rfl, fun w _ => by go_simp⟩) hS ?_
      simp only [Act.put, List.setIfInBounds_toArray, List.set_cons_zero, List.set_cons_succ]
      refine Till.take (i := 8) (oi := ⟨some 21, _, _, _, _, _⟩) rfl (by kernel_rfl) (by kernel_rfl) (by kernel_rfl) (by kernel_rfl) (fun _ _ _ h => h) (yieldsIf_load_mid rfl _ _ rfl _ _ rfl _ _ (fun w h => rangeAt_cats h.2.2.1) under_cats rfl (infoCl _)) hS ?_
      simp only [Act.put, List.setIfInBounds_toArray, List.set_cons_zero, List.set_cons_succ]
      refine Till.step (i := 9) (o := ⟨some 22, _, _, _, _, none⟩) (by kernel_rfl) rfl rfl (fun K hK => ?_)
      refine wp_slice_lit lit_cats2 _ rfl [.agg (encC c.cats), .agg (encC b.cats)] (by kernel_rfl) rfl (by simp [Value.cells]) ?_
      simp only [Act.put, List.setIfInBounds_toArray, List.set_cons_zero, List.set_cons_succ, List.map_cons, List.map_nil, List.flatten_cons, List.flatten_nil, List.append_nil]
      have hba : Below w2.heap.size w2 (w2.alloc (Obj.cells ((encC c.cats).toList ++ (encC b.cats).toList).toArray 23)) := balloc (Below.refl _ _) _
      have hsl : SlV (w2.alloc (Obj.cells ((encC c.cats).toList ++ (encC b.cats).toList).toArray 23)) 30 ([c.cats, b.cats].map fun b => (encC b).toList) (.slice (some ⟨w2.heap.size, 0, none⟩) 2 2) := SlV_pair w2 _ _ _ 30 (size_encC _) (size_encC _)
      have hS3 := And.intro (row_below hba hS.1) (And.intro (blk_below hba hS.2.1) (And.intro (row_below hba hS.2.2.1) (bstep hS.2.2.2 hba)))
      refine hK.out _ _ hS3 ?_
      refine Till.step (i := 10) (o := ⟨some 23, _, _, _, _, none⟩) (by kernel_rfl) rfl rfl (fun K hK => ?_)
      go_wp2_with (go_at_call 28; refine (union_any [c.cats, b.cats] _ _ hsl).mono ?_; rintro e w3 ⟨rfl, hb3⟩)
      have hS4 := And.intro (row_below hb3 hS3.1) (And.intro (blk_below hb3 hS3.2.1) (And.intro (row_below hb3 hS3.2.2.1) (bstep hS3.2.2.2 hb3)))
      refine hK.out _ _ hS4 ?_
      refine Till.step (i := 11) (o := ⟨some 24, _, _, _, _, none⟩) (by kernel_rfl) rfl rfl (fun K hK => ?_)
      refine wp_build_lab (joinL c b) _ _ rfl rfl rfl ?_
      simp only [Act.put, List.setIfInBounds_toArray, List.set_cons_zero, List.set_cons_succ]
      refine hK.out _ _ hS4 ?_
      refine Till.last (o := ⟨none, _, _, _, _, none⟩) (by kernel_rfl) rfl rfl (by kernel_rfl) (fun K hK => ?_)
      refine wp_store_row 25 _ _ rfl w.heap.size (encL (joinL c b)) rfl rfl 25 _ hS4.1 (infoL _) (sizeL _ (size_encL _)) (all_encL _) ?_
      simp only [Act.put, List.setIfInBounds_toArray, List.set_cons_zero, List.set_cons_succ]
      refine hK.out _ _ ?_
      go_wp2
      refine ⟨⟨k + 1, by omega, by go_num, ?_, ?_, below_setRow hS4.2.2.2 (Nat.le_refl _) _⟩, by simp [intOf]; omega⟩
      · rw [setRow_heap _ _ _ _ _ _ hS4.1, HT.out]
      · obtain ⟨z, h, hs⟩ := hS4.2.1
        exact ⟨z, by rw [setRow_other _ _ _ _ (by omega)]; exact h, hs⟩
    · obtain rfl : k = bs.length := by omega
      rw [List.take_length] at HA
      obtain ⟨z, hz, hs⟩ := HZ.out
      have HZ2 := Lib.hid hz
      clear hz
      go_wp2_with (first
        | (refine wpList_load_row rfl 25 _ rfl w.heap.size rfl 25 (encL _) (0, 0) _ HA.out Tryd.underlying25 rfl (infoL _) ?_)
        | (refine wpList_store_row rfl 25 _ _ rfl (w.heap.size + 1) (encL _) rfl rfl 25 _ HZ2.out (infoL _) (sizeL _ hs) (all_encL _) ?_))
      refine bodyPost_ret (results_cell_row rfl _ _ (w.heap.size + 1) 25 (encL (bs.foldl joinL a)) (0, 0) _ rfl (setRow_heap _ _ _ _ _ _ HZ2.out) Tryd.underlying25 rfl (infoL _)) rfl ⟨rfl, below_setRow hb (by omega) _⟩

/-! ### A label read -/
theorem atoiV_in (s : List UInt8) : -9223372036854775808 ≤ atoiV s ∧ atoiV s ≤ 9223372036854775807 := by
  unfold atoiV
  split
  · rename_i v hv; exact Lib.atoiAll_bounds hv
  · unfold Lib.atoiSat; split <;> decide
  · decide
def readL (s : List UInt8) : Lab := ⟨atoiV (cutB s 58).1, atoiV_in _, optC (parseC (cutB s 58).2.1)⟩
def parseL (s : List UInt8) : Option Lab := if atoiOk (cutB s 58).1 && (parseC (cutB s 58).2.1).isSome && decide (textL (readL s) = s) then some (readL s) else none
def optL (o : Option Lab) : Lab := o.getD zeroL
theorem results_lab_tmp {fn : Func} {p u : Tmp} {c : Lab} {v : Value} (h : fn.results = #[.cell p 25, .tmp u]) (tmps : Array Value) (w : World) (g : Nat) (t : TypeId) (fr : Nat × Nat)
    (hp : tmps.getD p undef = .pointer (some ⟨g, 0, none⟩)) (hv : tmps.getD u undef = v) (hg : w.heap[g]? = some (.cells (encL c) t fr)) :
    (results fn tmps).run Tryd.prog w = .ok (.tuple #[.agg (encL c), v]) w := by
  rw [results_cell_tmp h, hp, hv]
  simp [asAddr, run_loadVar_row w g t 25 (encL c) fr _ hg Tryd.underlying25 rfl (infoL _), Result.andThen]
set_option maxRecDepth 100000 in
set_option maxHeartbeats 1000000 in
theorem parseL_any (s : List UInt8) (hs : s.length < 4294967281) (w : World) (hL : LibOk w) :
    Calls Tryd.prog 15 #[.string ⟨s.toArray⟩] w fun e w' => e = .returned (.tuple #[.agg (encL (optL (parseL s))), .bool (parseL s).isSome]) ∧ Below w.heap.size w w' := by
  obtain ⟨hc1, hc2⟩ := cut_len s [58]
  have hL1 : LibOk (w.alloc (Obj.cells (encL zeroL) 25)) := hL.below (balloc (Below.refl _ _) _)
  have hcut := cut_any ⟨s.toArray⟩ ⟨#[58]⟩ (by show s.toArray.size < _; simpa using hs) _ hL1
  have HCUT := Lib.hid hcut
  clear hcut
  have e4 : (⟨s.toArray⟩ : ByteArray).data.toList = s := rfl
  have e5 : (⟨#[58]⟩ : ByteArray).data.toList = [58] := rfl
  simp only [e4, e5] at HCUT
  have hpl : parseL s = if atoiOk (cutB s 58).1 && (parseC (cutB s 58).2.1).isSome && decide (textL (readL s) = s) then some (readL s) else none := rfl
  have hrd : readL s = ⟨atoiV (cutB s 58).1, atoiV_in _, optC (parseC (cutB s 58).2.1)⟩ := rfl
  unfold cutB at hpl hrd
  generalize readL s = l at *
  have hlv : l.level = atoiV (Lib.cut s [58]).1 := by rw [hrd]
  have hlc : l.cats = optC (parseC (Lib.cut s [58]).2.1) := by rw [hrd]
  clear hrd e4 e5
  generalize Lib.cut s [58] = q at *
  obtain ⟨hd, tl, two⟩ := q
  dsimp only at *
  have hs1 : (⟨hd.toArray⟩ : ByteArray).size ≤ 281474976710656 := by show hd.toArray.size ≤ _; simp; omega
  have hs2 : tl.length < 4294967281 := by omega
  obtain ⟨pc, hpc⟩ : ∃ pc, pc = parseC tl := ⟨_, rfl⟩
  rw [← hpc] at hpl hlc
  have HLV := Lib.hid hlv
  have HLC := Lib.hid hlc
  have HPC := Lib.hid hpc
  have HPL := Lib.hid hpl
  clear hlv hlc hpc hpl
  have HZ0 := Lib.hid (heap_alloc_last w (Obj.cells (encL zeroL) 25))
  cases h1 : atoiOk hd with
  | false =>
    have H1 := Lib.hid h1
    clear h1
    go_enter Tryd.func15, Tryd.ntmps15
    go_wp2_with (first
      | (go_at_call 23; refine HCUT.out.mono ?_; rintro e w1 ⟨rfl, hb1⟩)
      | (go_at_call 24; (with_reducible refine (atoi_no ⟨hd.toArray⟩ hs1 H1.out _ (hL1.below (by assumption))).mono ?_); rintro e w2 ⟨⟨t1, p1, rfl⟩, hb2⟩)
      | (go_at_call 25; refine (parse_any tl hs2 _ ((hL1.below (by assumption)).below (by assumption))).mono ?_; rintro e w3 ⟨rfl, hb3⟩; rw [← HPC.out]; have hz3 := row_below (balloc (balloc (Below.refl w3.heap.size _) (Obj.cells (encC (optC pc)) 23)) (Obj.cells (encL l) 25)) (row_below hb3 (row_below hb2 (row_below hb1 HZ0.out))); have HZ3 := Lib.hid hz3; clear hz3)
      | (refine wpList_store_new rfl 23 _ _ rfl w3.heap.size (encC (optC pc)) rfl rfl w3 23 _ rfl rfl (infoC _) (sizeC _ (size_encC _)) (all_encC _) ?_)
      | (refine wpList_load_row rfl 23 _ rfl w3.heap.size rfl 23 (encC (optC pc)) (0, 0) _ (heap_alloc_last _ _) under_cats rfl (infoC _) ?_)
      | (refine wpList_build_lab l rfl _ _ rfl (by rw [HLV.out]; rfl) (by rw [HLC.out]; rfl) ?_)
      | (refine wpList_store_new rfl 25 _ _ rfl (w3.heap.size + 1) (encL l) rfl rfl (w3.alloc (Obj.cells (encC (optC pc)) 23)) 25 _ rfl (by simp) (infoL _) (sizeL _ (size_encL _)) (all_encL _) ?_)
      | (refine wpList_store_row rfl 25 _ _ rfl w.heap.size (encL zeroL) rfl rfl 25 _ HZ3.out (infoL _) (sizeL _ (size_encL _)) (all_encL _) ?_))
    refine bodyPost_ret (results_lab_tmp rfl _ _ w.heap.size 25 (0, 0) rfl rfl (setRow_heap _ _ _ _ _ _ HZ3.out)) rfl ⟨?_, below_setRow (balloc (balloc (bstep (bstep (bstep (balloc (Below.refl _ _) _) hb1) hb2) hb3) _) _) (Nat.le_refl _) _⟩
    have e : parseL s = none := by rw [HPL.out, if_neg (by rw [H1.out]; simp)]
    rw [e]; rfl
  | true =>
    have H1 := Lib.hid h1
    clear h1
    cases pc with
    | none =>
      go_enter Tryd.func15, Tryd.ntmps15
      go_wp2_with (first
        | (go_at_call 23; refine HCUT.out.mono ?_; rintro e w1 ⟨rfl, hb1⟩)
        | (go_at_call 24; (with_reducible refine (atoi_yes ⟨hd.toArray⟩ hs1 H1.out _).mono ?_); rintro e w2 ⟨rfl, hb2⟩)
        | (go_at_call 25; refine (parse_any tl hs2 _ ((hL1.below (by assumption)).below (by assumption))).mono ?_; rintro e w3 ⟨rfl, hb3⟩; rw [← HPC.out]; have hz3 := row_below (balloc (balloc (Below.refl w3.heap.size _) (Obj.cells (encC (optC none)) 23)) (Obj.cells (encL l) 25)) (row_below hb3 (row_below hb2 (row_below hb1 HZ0.out))); have HZ3 := Lib.hid hz3; clear hz3)
        | (refine wpList_store_new rfl 23 _ _ rfl w3.heap.size (encC (optC none)) rfl rfl w3 23 _ rfl rfl (infoC _) (sizeC _ (size_encC _)) (all_encC _) ?_)
        | (refine wpList_load_row rfl 23 _ rfl w3.heap.size rfl 23 (encC (optC none)) (0, 0) _ (heap_alloc_last _ _) under_cats rfl (infoC _) ?_)
        | (refine wpList_build_lab l rfl _ _ rfl (by rw [HLV.out]; rfl) (by rw [HLC.out]; rfl) ?_)
        | (refine wpList_store_new rfl 25 _ _ rfl (w3.heap.size + 1) (encL l) rfl rfl (w3.alloc (Obj.cells (encC (optC none)) 23)) 25 _ rfl (by simp) (infoL _) (sizeL _ (size_encL _)) (all_encL _) ?_)
        | (refine wpList_store_row rfl 25 _ _ rfl w.heap.size (encL zeroL) rfl rfl 25 _ HZ3.out (infoL _) (sizeL _ (size_encL _)) (all_encL _) ?_))
      refine bodyPost_ret (results_lab_tmp rfl _ _ w.heap.size 25 (0, 0) rfl rfl (setRow_heap _ _ _ _ _ _ HZ3.out)) rfl ⟨?_, below_setRow (balloc (balloc (bstep (bstep (bstep (balloc (Below.refl _ _) _) hb1) hb2) hb3) _) _) (Nat.le_refl _) _⟩
      have e : parseL s = none := by rw [HPL.out, if_neg (by simp)]
      rw [e]; rfl
    | some pcs =>
      by_cases htx : textL l = s
      · have hd2 : (!textL l == s) = false := by simp [htx]
        have HTX := Lib.hid htx
        clear htx
        go_enter Tryd.func15, Tryd.ntmps15
        go_wp2_with (first
          | (go_at_call 23; refine HCUT.out.mono ?_; rintro e w1 ⟨rfl, hb1⟩)
          | (go_at_call 24; (with_reducible refine (atoi_yes ⟨hd.toArray⟩ hs1 H1.out _).mono ?_); rintro e w2 ⟨rfl, hb2⟩)
          | (go_at_call 25; refine (parse_any tl hs2 _ ((hL1.below (by assumption)).below (by assumption))).mono ?_; rintro e w3 ⟨rfl, hb3⟩; rw [← HPC.out]; have hz3 := row_below (balloc (balloc (Below.refl w3.heap.size _) (Obj.cells (encC (optC (some pcs))) 23)) (Obj.cells (encL l) 25)) (row_below hb3 (row_below hb2 (row_below hb1 HZ0.out))); have HZ3 := Lib.hid hz3; clear hz3; have HLR := Lib.hid (heap_alloc2_new w3 (Obj.cells (encC (optC (some pcs))) 23) (Obj.cells (encL l) 25)))
          | (refine wpList_store_new rfl 23 _ _ rfl w3.heap.size (encC (optC (some pcs))) rfl rfl w3 23 _ rfl rfl (infoC _) (sizeC _ (size_encC _)) (all_encC _) ?_)
          | (refine wpList_load_row rfl 23 _ rfl w3.heap.size rfl 23 (encC (optC (some pcs))) (0, 0) _ (heap_alloc_last _ _) under_cats rfl (infoC _) ?_)
          | (refine wpList_build_lab l rfl _ _ rfl (by rw [HLV.out]; rfl) (by rw [HLC.out]; rfl) ?_)
          | (refine wpList_store_new rfl 25 _ _ rfl (w3.heap.size + 1) (encL l) rfl rfl (w3.alloc (Obj.cells (encC (optC (some pcs))) 23)) 25 _ rfl (by simp) (infoL _) (sizeL _ (size_encL _)) (all_encL _) ?_)
          | (refine wpList_load_g rfl 25 _ rfl (w3.heap.size + 1) _ rfl (encL l).toList _ (rangeAt_heap HLR.out) Tryd.underlying25 rfl (infoLl _) ?_)
          | (go_at_call 16; refine (textL_any l _ (((((hL1.below hb1).below hb2).below hb3).below (balloc (Below.refl _ _) _)).below (balloc (Below.refl _ _) _))).mono ?_; rintro e w4 ⟨rfl, hb4⟩; have HZ4 := Lib.hid (row_below hb4 HZ3.out); have HL4 := Lib.hid (row_below hb4 HLR.out))
          | (refine wpList_store_row rfl 25 _ _ rfl w.heap.size (encL l) rfl rfl 25 _ HZ4.out (infoL _) (sizeL _ (size_encL _)) (all_encL _) ?_)
          | (refine wpList_load_row rfl 25 _ rfl (w3.heap.size + 1) rfl 25 (encL l) (0, 0) _ HL4.out Tryd.underlying25 rfl (infoL _) ?_))
        refine bodyPost_ret (results_lab_tmp rfl _ _ w.heap.size 25 (0, 0) rfl rfl (setRow_heap _ _ _ _ _ _ HZ4.out)) rfl ⟨?_, below_setRow (bstep (balloc (balloc (bstep (bstep (bstep (balloc (Below.refl _ _) _) hb1) hb2) hb3) _) _) hb4) (Nat.le_refl _) _⟩
        have e : parseL s = some l := by rw [HPL.out, if_pos (by rw [H1.out, HTX.out]; simp)]
        rw [e]; rfl
      · have hd2 : (!textL l == s) = true := by simp [htx]
        have HTX := Lib.hid htx
        clear htx
        go_enter Tryd.func15, Tryd.ntmps15
        go_wp2_with (first
          | (go_at_call 23; refine HCUT.out.mono ?_; rintro e w1 ⟨rfl, hb1⟩)
          | (go_at_call 24; (with_reducible refine (atoi_yes ⟨hd.toArray⟩ hs1 H1.out _).mono ?_); rintro e w2 ⟨rfl, hb2⟩)
          | (go_at_call 25; refine (parse_any tl hs2 _ ((hL1.below (by assumption)).below (by assumption))).mono ?_; rintro e w3 ⟨rfl, hb3⟩; rw [← HPC.out]; have hz3 := row_below (balloc (balloc (Below.refl w3.heap.size _) (Obj.cells (encC (optC (some pcs))) 23)) (Obj.cells (encL l) 25)) (row_below hb3 (row_below hb2 (row_below hb1 HZ0.out))); have HZ3 := Lib.hid hz3; clear hz3; have HLR := Lib.hid (heap_alloc2_new w3 (Obj.cells (encC (optC (some pcs))) 23) (Obj.cells (encL l) 25)))
          | (refine wpList_store_new rfl 23 _ _ rfl w3.heap.size (encC (optC (some pcs))) rfl rfl w3 23 _ rfl rfl (infoC _) (sizeC _ (size_encC _)) (all_encC _) ?_)
          | (refine wpList_load_row rfl 23 _ rfl w3.heap.size rfl 23 (encC (optC (some pcs))) (0, 0) _ (heap_alloc_last _ _) under_cats rfl (infoC _) ?_)
          | (refine wpList_build_lab l rfl _ _ rfl (by rw [HLV.out]; rfl) (by rw [HLC.out]; rfl) ?_)
          | (refine wpList_store_new rfl 25 _ _ rfl (w3.heap.size + 1) (encL l) rfl rfl (w3.alloc (Obj.cells (encC (optC (some pcs))) 23)) 25 _ rfl (by simp) (infoL _) (sizeL _ (size_encL _)) (all_encL _) ?_)
          | (refine wpList_load_g rfl 25 _ rfl (w3.heap.size + 1) _ rfl (encL l).toList _ (rangeAt_heap HLR.out) Tryd.underlying25 rfl (infoLl _) ?_)
          | (go_at_call 16; refine (textL_any l _ (((((hL1.below hb1).below hb2).below hb3).below (balloc (Below.refl _ _) _)).below (balloc (Below.refl _ _) _))).mono ?_; rintro e w4 ⟨rfl, hb4⟩; have HZ4 := Lib.hid (row_below hb4 HZ3.out); have HL4 := Lib.hid (row_below hb4 HLR.out))
          | (refine wpList_store_row rfl 25 _ _ rfl w.heap.size (encL zeroL) rfl rfl 25 _ HZ4.out (infoL _) (sizeL _ (size_encL _)) (all_encL _) ?_))
        refine bodyPost_ret (results_lab_tmp rfl _ _ w.heap.size 25 (0, 0) rfl rfl (setRow_heap _ _ _ _ _ _ HZ4.out)) rfl ⟨?_, below_setRow (bstep (balloc (balloc (bstep (bstep (bstep (balloc (Below.refl _ _) _) hb1) hb2) hb3) _) _) hb4) (Nat.le_refl _) _⟩
        have e : parseL s = none := by rw [HPL.out, if_neg (by simp [HTX.out])]
        rw [e]; rfl
end Go.Proofs.YtbnjnomlgamheaaDoor
