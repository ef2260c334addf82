/- Whether a label dominates, which stands first, whether one lies between. -/
import Derived.Test.YtbnjnomlgamheaaDoorAwake
import Derived.Test.YtbnjnomlgamheaaDoorPlain
import Derived.Deep.CutRange
import Derived.Deep.CutBlock
namespace Go.Proofs.YtbnjnomlgamheaaDoor
set_option linter.unusedSimpArgs false
set_option linter.unusedVariables false
open Go.RowKit
open Lib (compareBytes)
/-- The first k bytes are alike. -/
def alike (a b : Cts) (k : Nat) : Prop := ∀ i (h : i < 30), i < k → a[i] = b[i]
def cbC (a b : Cts) : Int := compareBytes a.toList b.toList
theorem cb_cons (x y : UInt8) (r s : List UInt8) : compareBytes (x :: r) (y :: s) = if x < y then -1 else if y < x then 1 else compareBytes r s := rfl
theorem cb_drop : ∀ (k : Nat) (a b : List UInt8), a.take k = b.take k → compareBytes a b = compareBytes (a.drop k) (b.drop k)
  | 0, a, b, _ => rfl
  | k + 1, [], [], _ => rfl
  | k + 1, [], y :: s, h => by simp at h
  | k + 1, x :: r, [], h => by simp at h
  | k + 1, x :: r, y :: s, h => by
    simp only [List.take_succ_cons, List.cons.injEq] at h
    obtain ⟨rfl, h⟩ := h
    have h1 : ¬ x < x := by rw [UInt8.lt_iff_toNat_lt]; omega
    rw [List.drop_succ_cons, List.drop_succ_cons, ← cb_drop k r s h, cb_cons, if_neg h1, if_neg h1]
theorem alike_take {a b : Cts} {k : Nat} (h : alike a b k) : a.toList.take k = b.toList.take k := by
  apply List.ext_getElem?
  intro i
  rw [List.getElem?_take, List.getElem?_take]
  by_cases hk : i < k
  · rw [if_pos hk, if_pos hk]
    by_cases hi : i < 30
    · rw [List.getElem?_eq_getElem (by simpa using hi), List.getElem?_eq_getElem (by simpa using hi)]
      have := h i hi hk
      simpa using this
    · rw [List.getElem?_eq_none (by simpa using hi), List.getElem?_eq_none (by simpa using hi)]
  · rw [if_neg hk, if_neg hk]
theorem cb_at {a b : Cts} {k : Nat} (h : alike a b k) (hk : k < 30) : cbC a b = if a[k] < b[k] then -1 else if b[k] < a[k] then 1 else compareBytes (a.toList.drop (k + 1)) (b.toList.drop (k + 1)) := by
  have hd : ∀ v : Cts, v.toList.drop k = v[k] :: v.toList.drop (k + 1) := fun v => by
    rw [List.drop_eq_getElem_cons (by simpa using hk)]; simp
  unfold cbC
  rw [cb_drop k _ _ (alike_take h), hd a, hd b, cb_cons]
theorem cb_end {a b : Cts} (h : alike a b 30) : cbC a b = 0 := by
  unfold cbC
  have := alike_take h
  rw [List.take_of_length_le (by simp), List.take_of_length_le (by simp)] at this
  exact (cb_zero _ _).2 this
theorem cb_lt {a b : Cts} {k : Nat} (h : alike a b k) (hk : k < 30) (hl : a[k].toNat < b[k].toNat) : cbC a b = -1 := by
  rw [cb_at h hk, if_pos (UInt8.lt_iff_toNat_lt.2 hl)]
theorem cb_gt {a b : Cts} {k : Nat} (h : alike a b k) (hk : k < 30) (hl : b[k].toNat < a[k].toNat) : cbC a b = 1 := by
  rw [cb_at h hk, if_neg (by rw [UInt8.lt_iff_toNat_lt]; omega), if_pos (UInt8.lt_iff_toNat_lt.2 hl)]
theorem alike_succ {a b : Cts} {k : Nat} (h : alike a b k) (hk : k < 30) (he : a[k].toNat = b[k].toNat) : alike a b (k + 1) := fun i hi hik => by
  by_cases e : i = k
  · subst e
    exact UInt8.toNat_inj.1 he
  · exact h i hi (by omega)
theorem refDom_eq (a b : Lab) : refDom a b = domL a b := by unfold refDom domL; rw [refW_within]
theorem lit_lab2 : SliceLit Tryd.prog 40 25 2 31 where
  hu := by kernel_rfl
  hi := ⟨(Tryd.prog.info? 25).getD default, ((Tryd.prog.info? 25).bind (·.zero)).getD default, by kernel_rfl, by kernel_rfl, by kernel_rfl, by kernel_rfl, by kernel_rfl⟩
  hs := by decide
  hp := by decide
theorem slv_labels (w : World) (a b : Lab) : SlV (w.alloc (.cells ((encL a).toList ++ (encL b).toList).toArray 25)) 31 ([a, b].map fun l => (encL l).toList) (.slice (some ⟨w.heap.size, 0, none⟩) 2 2) := SlV_pair w _ _ _ 31 (size_encL a) (size_encL b)
theorem right_none (w : World) : Calls Tryd.prog 10 #[.slice none 0 0] w fun e w' => e = .returned (.bool true) ∧ Below w.heap.size w w' :=
  right_any [] w (.slice none 0 0) ⟨none, 0, rfl, ⟨by simp, by simp⟩, fun h => absurd h (by simp)⟩
theorem cell_catsL {w : World} {g k : Nat} {l : Lab} {t : TypeId} (h : w.heap[g]? = some (.cells (encL l) t (0, 0))) (hk : k < 30) : w.cell? ⟨g, 1 + k, none⟩ = some (.int .u8 (l.cats[k].toNat : Int)) :=
  rangeAt_cats h k _ (by rw [Array.getElem?_toList, encC_get _ _ hk]; rfl)
set_option maxRecDepth 100000 in
set_option maxHeartbeats 1000000 in
theorem orders_walk (a b c : Lab) (w : World) (hL : LibOk w) :
    Calls Tryd.prog 4 #[.agg (encL a), .agg (encL b), .agg (encL c)] w fun e w' => e = .returned (.bool true) ∧ Below w.heap.size w w' := by
  obtain ⟨W, hW⟩ : ∃ W, W = (((w.alloc (Obj.cells (encL a) 25)).alloc (Obj.cells (encL b) 25)).alloc (Obj.cells (encL c) 25)) := ⟨_, rfl⟩
  have ha : W.heap[w.heap.size]? = some (.cells (encL a) 25 (0, 0)) := hW ▸ row_below (balloc (Below.refl _ _) _) (heap_alloc2_old _ _ _)
  have hb : W.heap[w.heap.size + 1]? = some (.cells (encL b) 25 (0, 0)) := hW ▸ row_below (balloc (Below.refl _ _) _) (heap_alloc2_new _ _ _)
  have hc : W.heap[w.heap.size + 1 + 1]? = some (.cells (encL c) 25 (0, 0)) := by
    have := heap_alloc_last ((w.alloc (Obj.cells (encL a) 25)).alloc (Obj.cells (encL b) 25)) (Obj.cells (encL c) 25)
    rw [hW]
    simpa using this
  have hB : Below w.heap.size w W := hW ▸ balloc (balloc (balloc (Below.refl _ _) _) _) _
  have HA := Lib.hid ha
  have HB := Lib.hid hb
  have HC := Lib.hid hc
  clear ha hb hc
  go_enter Tryd.func4, Tryd.ntmps4
  go_upto_block 0 with fail
  rw [← hW]
  clear hW
  go_cut [7] from 10 to 35 (fun s7 wx => s7 = .int .i64 (cbC a.cats b.cats) ∧ Below W.heap.size W wx)
  case first =>
    go_wp2_with fail
    go_loopw [7, 8] (fun s7 s8 wr => ∃ (k : Nat) (n : Int), k ≤ 30 ∧ s8 = .int .i64 k ∧ s7 = .int .i64 n ∧ ((n = 0 ∧ alike a.cats b.cats k) ∨ (n ≠ 0 ∧ n = cbC a.cats b.cats)) ∧ Below W.heap.size W wr) (fun _ s8 _ => 30 - (intOf s8).toNat)
    case atStart => exact ⟨0, 0, by omega, rfl, rfl, .inl ⟨rfl, fun i h hi => by omega⟩, Below.refl _ _⟩
    case round =>
      obtain ⟨k, n, hk, rfl, rfl, hst, hbr⟩ := hrel
      have HBR := Lib.hid hbr
      by_cases hgo : n = 0 ∧ k < 30
      · obtain ⟨rfl, hlt⟩ := hgo
        have hal : alike a.cats b.cats k := by
          rcases hst with ⟨_, h⟩ | ⟨h, _⟩
          · exact h
          · exact absurd rfl h
        have hca := cell_catsL (row_below hbr HA.out) hlt
        have hcb := cell_catsL (row_below hbr HB.out) hlt
        have h1 := fun h => cb_lt hal hlt h
        have h2 := fun h => cb_gt hal hlt h
        have h3 := fun h => alike_succ hal hlt h
        have H1 := Lib.hid h1
        have H2 := Lib.hid h2
        have H3 := Lib.hid h3
        clear hbr hst hal h1 h2 h3
        generalize a.cats[k].toNat = x at *
        generalize b.cats[k].toNat = y at *
        have i0 : (0 : Int) ≤ (k : Int) := by omega
        have i1 : (k : Int) < 30 := by omega
        have i2 : decide ((k : Int) < 30) = true := by simp; omega
        rcases Nat.lt_trichotomy x y with h | h | h
        · have d1 : decide ((x : Int) < (y : Int)) = true := by simp; omega
          have d1' : decide (x < y) = true := by simp; omega
          have d2 : decide ((y : Int) < (x : Int)) = false := by simp; omega
          have d2' : decide (y < x) = false := by simp; omega
          have e := H1.out h
          have HE := Lib.hid e
          clear h e
          go_wp2
          go_quiet (fail)
          go_wp2
          go_quiet (fail)
          go_wp2
          exact ⟨⟨k + 1, -1, by omega, by go_num, rfl, .inr ⟨by decide, HE.out.symm⟩, bdrewN HBR.out _⟩, by simp [intOf]; omega⟩
        · have d1 : decide ((x : Int) < (y : Int)) = false := by simp; omega
          have d1' : decide (x < y) = false := by simp; omega
          have d2 : decide ((y : Int) < (x : Int)) = false := by simp; omega
          have d2' : decide (y < x) = false := by simp; omega
          have e := H3.out h
          have HE := Lib.hid e
          clear h e
          go_wp2
          go_quiet (fail)
          go_wp2
          go_quiet (fail)
          go_wp2
          exact ⟨⟨k + 1, 0, by omega, by go_num, rfl, .inl ⟨rfl, HE.out⟩, bdrewN HBR.out _⟩, by simp [intOf]; omega⟩
        · have d1 : decide ((x : Int) < (y : Int)) = false := by simp; omega
          have d1' : decide (x < y) = false := by simp; omega
          have d2 : decide ((y : Int) < (x : Int)) = true := by simp; omega
          have d2' : decide (y < x) = true := by simp; omega
          have e := H2.out h
          have HE := Lib.hid e
          clear h e
          go_wp2
          go_quiet (fail)
          go_wp2
          go_quiet (fail)
          go_wp2
          exact ⟨⟨k + 1, 1, by omega, by go_num, rfl, .inr ⟨by decide, HE.out.symm⟩, bdrewN HBR.out _⟩, by simp [intOf]; omega⟩
      · clear hbr
        have hn : n = cbC a.cats b.cats := by
          rcases hst with ⟨h0, h⟩ | ⟨_, h⟩
          · have : k = 30 := by
              rcases Nat.lt_or_ge k 30 with h' | h'
              · exact absurd ⟨h0, h'⟩ hgo
              · omega
            subst this
            rw [h0, cb_end h]
          · exact h
        have HN := Lib.hid hn
        by_cases hk30 : k < 30
        · have hn0 : (n == 0) = false := by
            rw [beq_eq_false_iff_ne]
            intro h
            exact hgo ⟨h, hk30⟩
          have i2 : decide ((k : Int) < 30) = true := by simp; omega
          clear hst hgo hn
          go_wp2
          go_meet
          exact ⟨by rw [HN.out], HBR.out⟩
        · obtain rfl : k = 30 := by omega
          clear hst hgo hn
          go_wp2
          go_meet
          exact ⟨by rw [HN.out], HBR.out⟩
  case rest =>
    obtain ⟨rfl, hbc⟩ := hcut
    have hla := cell_level (row_below hbc HA.out)
    have hlb := cell_level (row_below hbc HB.out)
    have HLA := Lib.hid hla
    have HLB := Lib.hid hlb
    obtain ⟨n1, hn1⟩ : ∃ n1, n1 = if a.level < b.level then -1 else cbC a.cats b.cats := ⟨_, rfl⟩
    have HN1 := Lib.hid hn1
    clear hn1
    obtain ⟨n0, hn0⟩ : ∃ n0, n0 = cbC a.cats b.cats := ⟨_, rfl⟩
    rw [← hn0] at HN1 ⊢
    have HN0 := Lib.hid hn0
    clear hn0
    go_upto_if 40 with fail
    go_cut [7] from 36 to 40 (fun s7 wx => s7 = .int .i64 n1 ∧ wx = wc)
    case first =>
      by_cases h : a.level < b.level
      · have e : n1 = -1 := by rw [HN1.out, if_pos h]
        subst e
        go_wp2_with fail
        go_meet
        exact ⟨rfl, rfl⟩
      · have hd : decide (a.level < b.level) = false := decide_eq_false h
        have e : n1 = n0 := by rw [HN1.out, if_neg h]
        subst e
        go_wp2_with fail
        go_meet
        exact ⟨rfl, rfl⟩
    case rest =>
    obtain ⟨rfl, rfl⟩ := hcut
    have hla := HLA.out
    have hlb := HLB.out
    go_upto_if 45 with fail
    go_cut [7] from 41 to 45 (fun s7 wx => s7 = .int .i64 (cmpL a b) ∧ wx = wc)
    case first =>
      have hq : cmpL a b = if b.level < a.level then 1 else n1 := by
        rw [cmpL_eq, HN1.out, HN0.out]
        by_cases h1 : a.level < b.level
        · rw [if_pos h1, if_pos h1, if_neg (by omega)]
        · rw [if_neg h1, if_neg h1]; rfl
      have HQ := Lib.hid hq
      clear hq
      by_cases h : b.level < a.level
      · have e : cmpL a b = 1 := by rw [HQ.out, if_pos h]
        have HE := Lib.hid e
        clear e
        go_wp2_with fail
        go_meet
        exact ⟨by rw [HE.out], rfl⟩
      · have hd : decide (b.level < a.level) = false := decide_eq_false h
        have e : cmpL a b = n1 := by rw [HQ.out, if_neg h]
        have HE := Lib.hid e
        clear e
        go_wp2_with fail
        go_meet
        exact ⟨by rw [HE.out], rfl⟩
    case rest =>
    obtain ⟨rfl, rfl⟩ := hcut
    have hla := HLA.out
    have hlb := HLB.out
    go_upto_region 13 with fail
    go_cut [9] from 46 to 63 (fun s9 wx => s9 = .bool (rightL a && rightL b) ∧ wx = wc)
    case first =>
      by_cases h1 : 0 ≤ a.level
      · by_cases h2 : a.level ≤ 255
        · by_cases h3 : 0 ≤ b.level
          · by_cases h4 : b.level ≤ 255
            · have d4 : decide (b.level ≤ 255) = true := decide_eq_true h4
              have e : (rightL a && rightL b) = true := by simp [rightL, h1, h2, h3, h4]
              have HE := Lib.hid e
              clear e
              go_wp2_with fail
              go_meet
              exact ⟨by rw [HE.out], rfl⟩
            · have d4 : decide (b.level ≤ 255) = false := decide_eq_false h4
              have e : (rightL a && rightL b) = false := by simp [rightL, h1, h2, h3, h4]
              have HE := Lib.hid e
              clear e
              go_wp2_with fail
              go_meet
              exact ⟨by rw [HE.out], rfl⟩
          · have d4 : decide (0 ≤ b.level) = false := decide_eq_false h3
            have e : (rightL a && rightL b) = false := by simp [rightL, h1, h2, h3]
            have HE := Lib.hid e
            clear e
            go_wp2_with fail
            go_meet
            exact ⟨by rw [HE.out], rfl⟩
        · have d4 : decide (a.level ≤ 255) = false := decide_eq_false h2
          have e : (rightL a && rightL b) = false := by simp [rightL, h1, h2]
          have HE := Lib.hid e
          clear e
          go_wp2_with fail
          go_meet
          exact ⟨by rw [HE.out], rfl⟩
      · have d4 : decide (0 ≤ a.level) = false := decide_eq_false h1
        have e : (rightL a && rightL b) = false := by simp [rightL, h1]
        have HE := Lib.hid e
        clear e
        go_wp2_with fail
        go_meet
        exact ⟨by rw [HE.out], rfl⟩
    case rest =>
    obtain ⟨rfl, rfl⟩ := hcut
    have hSa := rangeAt_heap (row_below hbc HA.out)
    have hSb := rangeAt_heap (row_below hbc HB.out)
    have hSc := rangeAt_heap (row_below hbc HC.out)
    have hB2 : Below w.heap.size w wc := bstep hB hbc
    have hin : inL b a c = (domL b a && domL c b) := rfl
    have r1 := refDom_eq a b
    have r2 := refDom_eq b a
    have r3 := refDom_eq c b
    have hri : [a, b].all rightL = (rightL a && rightL b) := by simp
    obtain ⟨x1, hx1⟩ : ∃ x, x = domL a b := ⟨_, rfl⟩
    obtain ⟨x2, hx2⟩ : ∃ x, x = domL b a := ⟨_, rfl⟩
    obtain ⟨x3, hx3⟩ : ∃ x, x = domL c b := ⟨_, rfl⟩
    rw [← hx1] at r1
    rw [← hx2] at r2 hin
    rw [← hx3] at r3 hin
    have X1 := Lib.hid hx1.symm
    have R1 := Lib.hid r1
    have R2 := Lib.hid r2
    have R3 := Lib.hid r3
    have XI := Lib.hid hin
    obtain ⟨r, hr⟩ : ∃ r, r = (rightL a && rightL b) := ⟨_, rfl⟩
    rw [← hr] at hri ⊢
    have XR := Lib.hid hri
    obtain ⟨n, hn⟩ : ∃ n, n = cmpL a b := ⟨_, rfl⟩
    rw [← hn]
    have XN := Lib.hid hn.symm
    clear hx1 hx2 hx3 r1 r2 r3 hin hri hr hn HLA HLB hla hlb HN0 HN1
    go_upto_region 14 with fail
    refine wp_region_held_drew (S := fun w' => w'.rangeAt w.heap.size 0 (encL a).toList ∧ w'.rangeAt (w.heap.size + 1) 0 (encL b).toList ∧ w'.rangeAt (w.heap.size + 1 + 1) 0 (encL c).toList ∧ Below w.heap.size w w') (by kernel_rfl) ⟨hSa, hSb, hSc, hB2.drew⟩ (fun hS => ?_)
    generalize World.drew _ = W1 at hS
    clear hSa hSb hSc hB2
    cases x2 with
    | false =>
      -- way F begins
      refine wpAnyH_take (i := 0) (oi := ⟨some 64, _, _, _, _, _⟩) rfl (by kernel_rfl) (by kernel_rfl) (by kernel_rfl) (fun _ _ _ h => h) (yieldsIf_load_mid rfl _ _ rfl _ _ rfl _ _ (fun w h => h.1) Tryd.underlying25 rfl (infoLl a)) hS ?_
      simp only [Act.put, List.setIfInBounds_toArray, List.set_cons_zero, List.set_cons_succ, Array.toArray_toList]
      refine wpAnyH_take (i := 1) (oi := ⟨some 65, _, _, _, _, _⟩) rfl (by kernel_rfl) (by kernel_rfl) (by kernel_rfl) (fun _ _ _ h => h) (yieldsIf_load_mid rfl _ _ rfl _ _ rfl _ _ (fun w h => h.2.1) Tryd.underlying25 rfl (infoLl b)) hS ?_
      simp only [Act.put, List.setIfInBounds_toArray, List.set_cons_zero, List.set_cons_succ, Array.toArray_toList]
      refine wpAnyH_take (i := 3) (oi := ⟨some 67, _, _, _, _, _⟩) rfl (by kernel_rfl) (by kernel_rfl) (by kernel_rfl) (fun _ _ _ h => h) (yieldsIf_load_mid rfl _ _ rfl _ _ rfl _ _ (fun w h => h.1) Tryd.underlying25 rfl (infoLl a)) hS ?_
      simp only [Act.put, List.setIfInBounds_toArray, List.set_cons_zero, List.set_cons_succ, Array.toArray_toList]
      refine wpAnyH_take (i := 4) (oi := ⟨some 68, _, _, _, _, _⟩) rfl (by kernel_rfl) (by kernel_rfl) (by kernel_rfl) (fun _ _ _ h => h) (yieldsIf_load_mid rfl _ _ rfl _ _ rfl _ _ (fun w h => h.2.1) Tryd.underlying25 rfl (infoLl b)) hS ?_
      simp only [Act.put, List.setIfInBounds_toArray, List.set_cons_zero, List.set_cons_succ, Array.toArray_toList]
      refine heldStep (i := 2) (o := ⟨some 66, _, _, _, _, _⟩) (by kernel_rfl) rfl rfl (fun K hK => ?_)
      go_wp2_with (go_at_call 6; (with_reducible refine (dominates_any a b _).mono ?_); rintro e w2 ⟨rfl, hb2⟩; rw [X1.out])
      have hS := And.intro (rangeAt_below hb2 hS.1) (And.intro (rangeAt_below hb2 hS.2.1) (And.intro (rangeAt_below hb2 hS.2.2.1) (bstep hS.2.2.2 hb2)))
      refine hK.out _ _ hS ?_
      refine heldStep (i := 5) (o := ⟨some 69, _, _, _, _, _⟩) (by kernel_rfl) rfl rfl (fun K hK => ?_)
      go_wp2_with (go_at_call 8; (with_reducible refine (refDominates_any a b _).mono ?_); rintro e w5 ⟨rfl, hb5⟩; rw [R1.out])
      have hS := And.intro (rangeAt_below hb5 hS.1) (And.intro (rangeAt_below hb5 hS.2.1) (And.intro (rangeAt_below hb5 hS.2.2.1) (bstep hS.2.2.2 hb5)))
      refine hK.out _ _ hS ?_
      refine wpAnyH_take (i := 6) (oi := ⟨some 70, _, _, _, _, _⟩) (v := ?_) rfl (by kernel_rfl) (by kernel_rfl) (by kernel_rfl) (fun _ _ _ h => h) (Or.inl ⟨by rfl, ?_⟩) hS ?_
      rotate_left
      · intro w hw; clear hw; go_simp; first | done | with_reducible rfl
      simp only [Act.put, List.setIfInBounds_toArray, List.set_cons_zero, List.set_cons_succ]
      refine wpAnyH_take (i := 7) (oi := ⟨some 71, _, _, _, _, _⟩) (v := ?_) rfl (by kernel_rfl) (by kernel_rfl) (by kernel_rfl) (fun _ _ _ h => h) (Or.inl ⟨by rfl, ?_⟩) hS ?_
      rotate_left
      · intro w hw; clear hw; go_simp; first | done | with_reducible rfl
      simp only [Act.put, List.setIfInBounds_toArray, List.set_cons_zero, List.set_cons_succ]
      refine wpAnyH_take (i := 8) (oi := ⟨some 72, _, _, _, _, _⟩) rfl (by kernel_rfl) (by kernel_rfl) (by kernel_rfl) (fun _ _ _ h => h) (yieldsIf_load_mid rfl _ _ rfl _ _ rfl _ _ (fun w h => h.1) Tryd.underlying25 rfl (infoLl a)) hS ?_
      simp only [Act.put, List.setIfInBounds_toArray, List.set_cons_zero, List.set_cons_succ, Array.toArray_toList]
      refine wpAnyH_take (i := 9) (oi := ⟨some 73, _, _, _, _, _⟩) rfl (by kernel_rfl) (by kernel_rfl) (by kernel_rfl) (fun _ _ _ h => h) (yieldsIf_load_mid rfl _ _ rfl _ _ rfl _ _ (fun w h => h.2.1) Tryd.underlying25 rfl (infoLl b)) hS ?_
      simp only [Act.put, List.setIfInBounds_toArray, List.set_cons_zero, List.set_cons_succ, Array.toArray_toList]
      refine wpAnyH_take (i := 11) (oi := ⟨some 75, _, _, _, _, _⟩) (v := ?_) rfl (by kernel_rfl) (by kernel_rfl) (by kernel_rfl) (fun _ _ _ h => h) (Or.inl ⟨by rfl, ?_⟩) hS ?_
      rotate_left
      · intro w hw; clear hw; go_simp; first | done | with_reducible rfl
      simp only [Act.put, List.setIfInBounds_toArray, List.set_cons_zero, List.set_cons_succ]
      refine heldStep (i := 10) (o := ⟨some 74, _, _, _, _, _⟩) (by kernel_rfl) rfl rfl (fun K hK => ?_)
      go_wp2_with (go_at_call 5; (with_reducible refine (compare_any a b _).mono ?_); rintro e w10 ⟨rfl, hb10⟩; rw [XN.out])
      have hS := And.intro (rangeAt_below hb10 hS.1) (And.intro (rangeAt_below hb10 hS.2.1) (And.intro (rangeAt_below hb10 hS.2.2.1) (bstep hS.2.2.2 hb10)))
      refine hK.out _ _ hS ?_
      refine wpAnyH_take (i := 12) (oi := ⟨some 76, _, _, _, _, _⟩) (v := ?_) rfl (by kernel_rfl) (by kernel_rfl) (by kernel_rfl) (fun _ _ _ h => h) (Or.inl ⟨by rfl, ?_⟩) hS ?_
      rotate_left
      · intro w hw; clear hw; go_simp; first | done | with_reducible rfl
      simp only [Act.put, List.setIfInBounds_toArray, List.set_cons_zero, List.set_cons_succ]
      refine wpAnyH_take (i := 13) (oi := ⟨some 77, _, _, _, _, _⟩) (v := ?_) rfl (by kernel_rfl) (by kernel_rfl) (by kernel_rfl) (fun _ _ _ h => h) (Or.inl ⟨by rfl, ?_⟩) hS ?_
      rotate_left
      · intro w hw; clear hw; go_simp; first | done | with_reducible rfl
      simp only [Act.put, List.setIfInBounds_toArray, List.set_cons_zero, List.set_cons_succ]
      refine wpAnyH_take (i := 14) (oi := ⟨some 78, _, _, _, _, _⟩) (v := ?_) rfl (by kernel_rfl) (by kernel_rfl) (by kernel_rfl) (fun _ _ _ h => h) (Or.inl ⟨by rfl, ?_⟩) hS ?_
      rotate_left
      · intro w hw; clear hw; go_simp; first | done | with_reducible rfl
      simp only [Act.put, List.setIfInBounds_toArray, List.set_cons_zero, List.set_cons_succ]
      refine wpAnyH_take (i := 15) (oi := ⟨some 79, _, _, _, _, _⟩) rfl (by kernel_rfl) (by kernel_rfl) (by kernel_rfl) (fun _ _ _ h => h) (yieldsIf_load_mid rfl _ _ rfl _ _ rfl _ _ (fun w h => h.2.1) Tryd.underlying25 rfl (infoLl b)) hS ?_
      simp only [Act.put, List.setIfInBounds_toArray, List.set_cons_zero, List.set_cons_succ, Array.toArray_toList]
      refine wpAnyH_take (i := 16) (oi := ⟨some 80, _, _, _, _, _⟩) rfl (by kernel_rfl) (by kernel_rfl) (by kernel_rfl) (fun _ _ _ h => h) (yieldsIf_load_mid rfl _ _ rfl _ _ rfl _ _ (fun w h => h.1) Tryd.underlying25 rfl (infoLl a)) hS ?_
      simp only [Act.put, List.setIfInBounds_toArray, List.set_cons_zero, List.set_cons_succ, Array.toArray_toList]
      refine wpAnyH_take (i := 17) (oi := ⟨some 81, _, _, _, _, _⟩) rfl (by kernel_rfl) (by kernel_rfl) (by kernel_rfl) (fun _ _ _ h => h) (yieldsIf_load_mid rfl _ _ rfl _ _ rfl _ _ (fun w h => h.2.2.1) Tryd.underlying25 rfl (infoLl c)) hS ?_
      simp only [Act.put, List.setIfInBounds_toArray, List.set_cons_zero, List.set_cons_succ, Array.toArray_toList]
      refine wpAnyH_take (i := 19) (oi := ⟨some 83, _, _, _, _, _⟩) rfl (by kernel_rfl) (by kernel_rfl) (by kernel_rfl) (fun _ _ _ h => h) (yieldsIf_load_mid rfl _ _ rfl _ _ rfl _ _ (fun w h => h.2.1) Tryd.underlying25 rfl (infoLl b)) hS ?_
      simp only [Act.put, List.setIfInBounds_toArray, List.set_cons_zero, List.set_cons_succ, Array.toArray_toList]
      refine wpAnyH_take (i := 20) (oi := ⟨some 84, _, _, _, _, _⟩) rfl (by kernel_rfl) (by kernel_rfl) (by kernel_rfl) (fun _ _ _ h => h) (yieldsIf_load_mid rfl _ _ rfl _ _ rfl _ _ (fun w h => h.1) Tryd.underlying25 rfl (infoLl a)) hS ?_
      simp only [Act.put, List.setIfInBounds_toArray, List.set_cons_zero, List.set_cons_succ, Array.toArray_toList]
      refine heldStep (i := 18) (o := ⟨some 82, _, _, _, _, _⟩) (by kernel_rfl) rfl rfl (fun K hK => ?_)
      go_wp2_with (go_at_call 9; (with_reducible refine (in_any b a c _).mono ?_); rintro e w18 ⟨rfl, hb18⟩; rw [XI.out])
      have hS := And.intro (rangeAt_below hb18 hS.1) (And.intro (rangeAt_below hb18 hS.2.1) (And.intro (rangeAt_below hb18 hS.2.2.1) (bstep hS.2.2.2 hb18)))
      refine hK.out _ _ hS ?_
      refine heldStep (i := 21) (o := ⟨some 85, _, _, _, _, _⟩) (by kernel_rfl) rfl rfl (fun K hK => ?_)
      go_wp2_with (go_at_call 8; (with_reducible refine (refDominates_any b a _).mono ?_); rintro e w21 ⟨rfl, hb21⟩; rw [R2.out])
      have hS := And.intro (rangeAt_below hb21 hS.1) (And.intro (rangeAt_below hb21 hS.2.1) (And.intro (rangeAt_below hb21 hS.2.2.1) (bstep hS.2.2.2 hb21)))
      refine hK.out _ _ hS ?_
      refine wpAnyH_take (i := 22) (oi := ⟨some 86, _, _, _, _, _⟩) (v := ?_) rfl (by kernel_rfl) (by kernel_rfl) (by kernel_rfl) (fun _ _ _ h => h) (Or.inl ⟨by rfl, ?_⟩) hS ?_
      rotate_left
      · intro w hw; clear hw; go_simp; first | done | with_reducible rfl
      simp only [Act.put, List.setIfInBounds_toArray, List.set_cons_zero, List.set_cons_succ]
      refine wpAnyH_take (i := 23) (oi := ⟨some 87, _, _, _, _, _⟩) (v := undef) rfl (by kernel_rfl) (by kernel_rfl) (by kernel_rfl) (fun _ _ _ h => h) (Or.inr ⟨by rfl, rfl⟩) hS ?_
      simp only [Act.put, List.setIfInBounds_toArray, List.set_cons_zero, List.set_cons_succ]
      refine wpAnyH_take (i := 24) (oi := ⟨some 88, _, _, _, _, _⟩) (v := undef) rfl (by kernel_rfl) (by kernel_rfl) (by kernel_rfl) (fun _ _ _ h => h) (Or.inr ⟨by rfl, rfl⟩) hS ?_
      simp only [Act.put, List.setIfInBounds_toArray, List.set_cons_zero, List.set_cons_succ]
      refine wpAnyH_take (i := 25) (oi := ⟨some 89, _, _, _, _, _⟩) (v := undef) rfl (by kernel_rfl) (by kernel_rfl) (by kernel_rfl) (fun _ _ _ h => h) (Or.inr ⟨by rfl, rfl⟩) hS ?_
      simp only [Act.put, List.setIfInBounds_toArray, List.set_cons_zero, List.set_cons_succ]
      refine wpAnyH_take (i := 26) (oi := ⟨some 90, _, _, _, _, _⟩) (v := ?_) rfl (by kernel_rfl) (by kernel_rfl) (by kernel_rfl) (fun _ _ _ h => h) (Or.inl ⟨by rfl, ?_⟩) hS ?_
      rotate_left
      · intro w hw; clear hw; go_simp; first | done | with_reducible rfl
      simp only [Act.put, List.setIfInBounds_toArray, List.set_cons_zero, List.set_cons_succ]
      refine wpAnyH_take (i := 27) (oi := ⟨some 91, _, _, _, _, _⟩) (v := ?_) rfl (by kernel_rfl) (by kernel_rfl) (by kernel_rfl) (fun _ _ _ h => h) (Or.inl ⟨by rfl, ?_⟩) hS ?_
      rotate_left
      · intro w hw; clear hw; go_simp; first | done | with_reducible rfl
      simp only [Act.put, List.setIfInBounds_toArray, List.set_cons_zero, List.set_cons_succ]
      refine wpAnyH_take (i := 28) (oi := ⟨some 92, _, _, _, _, _⟩) (v := ?_) rfl (by kernel_rfl) (by kernel_rfl) (by kernel_rfl) (fun _ _ _ h => h) (Or.inl ⟨by rfl, ?_⟩) hS ?_
      rotate_left
      · intro w hw; clear hw; go_simp; first | done | with_reducible rfl
      simp only [Act.put, List.setIfInBounds_toArray, List.set_cons_zero, List.set_cons_succ]
      refine wpAnyH_take (i := 29) (oi := ⟨some 93, _, _, _, _, _⟩) (v := ?_) rfl (by kernel_rfl) (by kernel_rfl) (by kernel_rfl) (fun _ _ _ h => h) (Or.inl ⟨by rfl, ?_⟩) hS ?_
      rotate_left
      · intro w hw; clear hw; go_simp; first | done | with_reducible rfl
      simp only [Act.put, List.setIfInBounds_toArray, List.set_cons_zero, List.set_cons_succ]
      refine wpAnyH_take (i := 30) (oi := ⟨some 94, _, _, _, _, _⟩) rfl (by kernel_rfl) (by kernel_rfl) (by kernel_rfl) (fun _ _ _ h => h) (yieldsIf_load_mid rfl _ _ rfl _ _ rfl _ _ (fun w h => h.1) Tryd.underlying25 rfl (infoLl a)) hS ?_
      simp only [Act.put, List.setIfInBounds_toArray, List.set_cons_zero, List.set_cons_succ, Array.toArray_toList]
      refine wpAnyH_take (i := 31) (oi := ⟨some 95, _, _, _, _, _⟩) rfl (by kernel_rfl) (by kernel_rfl) (by kernel_rfl) (fun _ _ _ h => h) (yieldsIf_load_mid rfl _ _ rfl _ _ rfl _ _ (fun w h => h.2.1) Tryd.underlying25 rfl (infoLl b)) hS ?_
      simp only [Act.put, List.setIfInBounds_toArray, List.set_cons_zero, List.set_cons_succ, Array.toArray_toList]
      refine wpAnyH_take (i := 34) (oi := ⟨some 98, _, _, _, _, _⟩) (v := ?_) rfl (by kernel_rfl) (by kernel_rfl) (by kernel_rfl) (fun _ _ _ h => h) (Or.inl ⟨by rfl, ?_⟩) hS ?_
      rotate_left
      · intro w hw; clear hw; go_simp; first | done | with_reducible rfl
      simp only [Act.put, List.setIfInBounds_toArray, List.set_cons_zero, List.set_cons_succ]
      refine heldStep (i := 32) (o := ⟨some 96, _, _, _, _, _⟩) (by kernel_rfl) rfl rfl (fun K hK => ?_)
      refine wp_slice_lit lit_lab2 _ rfl [.agg (encL a), .agg (encL b)] (by kernel_rfl) rfl (by simp [Value.cells]) ?_
      simp only [Act.put, List.setIfInBounds_toArray, List.set_cons_zero, List.set_cons_succ, List.map_cons, List.map_nil, List.flatten_cons, List.flatten_nil, List.append_nil, Value.cells]
      have hsl := slv_labels w21 a b
      have hb32 : Below _ _ _ := balloc (Below.refl w21.heap.size w21) (Obj.cells ((encL a).toList ++ (encL b).toList).toArray 25)
      have hS := And.intro (rangeAt_below hb32 hS.1) (And.intro (rangeAt_below hb32 hS.2.1) (And.intro (rangeAt_below hb32 hS.2.2.1) (bstep hS.2.2.2 hb32)))
      refine hK.out _ _ hS ?_
      refine heldStep (i := 33) (o := ⟨some 97, _, _, _, _, _⟩) (by kernel_rfl) rfl rfl (fun K hK => ?_)
      go_wp2_with (go_at_call 10; (with_reducible refine (right_any [a, b] _ _ hsl).mono ?_); rintro e w33 ⟨rfl, hb33⟩; rw [XR.out])
      have hS := And.intro (rangeAt_below hb33 hS.1) (And.intro (rangeAt_below hb33 hS.2.1) (And.intro (rangeAt_below hb33 hS.2.2.1) (bstep hS.2.2.2 hb33)))
      refine hK.out _ _ hS ?_
      refine wpAnyH_take (i := 35) (oi := ⟨some 99, _, _, _, _, _⟩) (v := ?_) rfl (by kernel_rfl) (by kernel_rfl) (by kernel_rfl) (fun _ _ _ h => h) (Or.inl ⟨by rfl, ?_⟩) hS ?_
      rotate_left
      · intro w hw; clear hw; go_simp; first | done | with_reducible rfl
      simp only [Act.put, List.setIfInBounds_toArray, List.set_cons_zero, List.set_cons_succ]
      refine wpAnyH_take (i := 36) (oi := ⟨some 100, _, _, _, _, _⟩) (v := ?_) rfl (by kernel_rfl) (by kernel_rfl) (by kernel_rfl) (fun _ _ _ h => h) (Or.inl ⟨by rfl, ?_⟩) hS ?_
      rotate_left
      · intro w hw; clear hw; go_simp; first | done | with_reducible rfl
      simp only [Act.put, List.setIfInBounds_toArray, List.set_cons_zero, List.set_cons_succ]
      refine wpAnyH_take (i := 37) (oi := ⟨some 101, _, _, _, _, _⟩) (v := ?_) rfl (by kernel_rfl) (by kernel_rfl) (by kernel_rfl) (fun _ _ _ h => h) (Or.inl ⟨by rfl, ?_⟩) hS ?_
      rotate_left
      · intro w hw; clear hw; go_simp; first | done | with_reducible rfl
      simp only [Act.put, List.setIfInBounds_toArray, List.set_cons_zero, List.set_cons_succ]
      refine heldStep (i := 38) (o := ⟨some 102, _, _, _, _, _⟩) (by kernel_rfl) rfl rfl (fun K hK => ?_)
      go_wp2_with (go_at_call 10; (with_reducible refine (right_none _).mono ?_); rintro e w38 ⟨rfl, hb38⟩)
      have hS := And.intro (rangeAt_below hb38 hS.1) (And.intro (rangeAt_below hb38 hS.2.1) (And.intro (rangeAt_below hb38 hS.2.2.1) (bstep hS.2.2.2 hb38)))
      refine hK.out _ _ hS ?_
      refine wpAnyH_take (i := 39) (oi := ⟨some 103, _, _, _, _, _⟩) (v := ?_) rfl (by kernel_rfl) (by kernel_rfl) (by kernel_rfl) (fun _ _ _ h => h) (Or.inl ⟨by rfl, ?_⟩) hS ?_
      rotate_left
      · intro w hw; clear hw; go_simp; first | done | with_reducible rfl
      simp only [Act.put, List.setIfInBounds_toArray, List.set_cons_zero, List.set_cons_succ]
      refine wpAnyH_take (i := 40) (oi := ⟨some 104, _, _, _, _, _⟩) (v := ?_) rfl (by kernel_rfl) (by kernel_rfl) (by kernel_rfl) (fun _ _ _ h => h) (Or.inl ⟨by rfl, ?_⟩) hS ?_
      rotate_left
      · intro w hw; clear hw; go_simp; first | done | with_reducible rfl
      simp only [Act.put, List.setIfInBounds_toArray, List.set_cons_zero, List.set_cons_succ]
      refine heldStep (i := 41) (o := ⟨some 105, _, _, _, _, _⟩) (by kernel_rfl) rfl rfl (fun K hK => ?_)
      go_wp2_with (go_at_call 7; (with_reducible refine (awake_any _ (hL.below hS.2.2.2)).mono ?_); rintro e w41 ⟨rfl, hb41⟩)
      have hS := And.intro (rangeAt_below hb41 hS.1) (And.intro (rangeAt_below hb41 hS.2.1) (And.intro (rangeAt_below hb41 hS.2.2.1) (bstep hS.2.2.2 hb41)))
      refine hK.out _ _ hS ?_
      refine wpAnyH_take (i := 42) (oi := ⟨some 106, _, _, _, _, _⟩) (v := ?_) rfl (by kernel_rfl) (by kernel_rfl) (by kernel_rfl) (fun _ _ _ h => h) (Or.inl ⟨by rfl, ?_⟩) hS ?_
      rotate_left
      · intro w hw; clear hw; go_simp; first | done | with_reducible rfl
      simp only [Act.put, List.setIfInBounds_toArray, List.set_cons_zero, List.set_cons_succ]
      refine wpAnyH_take (i := 43) (oi := ⟨some 6, _, _, _, _, _⟩) (v := ?_) rfl (by kernel_rfl) (by kernel_rfl) (by kernel_rfl) (fun _ _ _ h => h) (Or.inl ⟨by rfl, ?_⟩) hS ?_
      rotate_left
      · intro w hw; clear hw; go_simp; first | done | with_reducible rfl
      simp only [Act.put, List.setIfInBounds_toArray, List.set_cons_zero, List.set_cons_succ]
      refine wpAnyH_done (by kernel_rfl) ?_ _
      -- way F ends
      go_wp2
      go_ret
      exact ⟨rfl, hS.2.2.2⟩
    | true =>
      -- way T begins
      refine wpAnyH_take (i := 0) (oi := ⟨some 64, _, _, _, _, _⟩) rfl (by kernel_rfl) (by kernel_rfl) (by kernel_rfl) (fun _ _ _ h => h) (yieldsIf_load_mid rfl _ _ rfl _ _ rfl _ _ (fun w h => h.1) Tryd.underlying25 rfl (infoLl a)) hS ?_
      simp only [Act.put, List.setIfInBounds_toArray, List.set_cons_zero, List.set_cons_succ, Array.toArray_toList]
      refine wpAnyH_take (i := 1) (oi := ⟨some 65, _, _, _, _, _⟩) rfl (by kernel_rfl) (by kernel_rfl) (by kernel_rfl) (fun _ _ _ h => h) (yieldsIf_load_mid rfl _ _ rfl _ _ rfl _ _ (fun w h => h.2.1) Tryd.underlying25 rfl (infoLl b)) hS ?_
      simp only [Act.put, List.setIfInBounds_toArray, List.set_cons_zero, List.set_cons_succ, Array.toArray_toList]
      refine wpAnyH_take (i := 3) (oi := ⟨some 67, _, _, _, _, _⟩) rfl (by kernel_rfl) (by kernel_rfl) (by kernel_rfl) (fun _ _ _ h => h) (yieldsIf_load_mid rfl _ _ rfl _ _ rfl _ _ (fun w h => h.1) Tryd.underlying25 rfl (infoLl a)) hS ?_
      simp only [Act.put, List.setIfInBounds_toArray, List.set_cons_zero, List.set_cons_succ, Array.toArray_toList]
      refine wpAnyH_take (i := 4) (oi := ⟨some 68, _, _, _, _, _⟩) rfl (by kernel_rfl) (by kernel_rfl) (by kernel_rfl) (fun _ _ _ h => h) (yieldsIf_load_mid rfl _ _ rfl _ _ rfl _ _ (fun w h => h.2.1) Tryd.underlying25 rfl (infoLl b)) hS ?_
      simp only [Act.put, List.setIfInBounds_toArray, List.set_cons_zero, List.set_cons_succ, Array.toArray_toList]
      refine heldStep (i := 2) (o := ⟨some 66, _, _, _, _, _⟩) (by kernel_rfl) rfl rfl (fun K hK => ?_)
      go_wp2_with (go_at_call 6; (with_reducible refine (dominates_any a b _).mono ?_); rintro e w2 ⟨rfl, hb2⟩; rw [X1.out])
      have hS := And.intro (rangeAt_below hb2 hS.1) (And.intro (rangeAt_below hb2 hS.2.1) (And.intro (rangeAt_below hb2 hS.2.2.1) (bstep hS.2.2.2 hb2)))
      refine hK.out _ _ hS ?_
      refine heldStep (i := 5) (o := ⟨some 69, _, _, _, _, _⟩) (by kernel_rfl) rfl rfl (fun K hK => ?_)
      go_wp2_with (go_at_call 8; (with_reducible refine (refDominates_any a b _).mono ?_); rintro e w5 ⟨rfl, hb5⟩; rw [R1.out])
      have hS := And.intro (rangeAt_below hb5 hS.1) (And.intro (rangeAt_below hb5 hS.2.1) (And.intro (rangeAt_below hb5 hS.2.2.1) (bstep hS.2.2.2 hb5)))
      refine hK.out _ _ hS ?_
      refine wpAnyH_take (i := 6) (oi := ⟨some 70, _, _, _, _, _⟩) (v := ?_) rfl (by kernel_rfl) (by kernel_rfl) (by kernel_rfl) (fun _ _ _ h => h) (Or.inl ⟨by rfl, ?_⟩) hS ?_
      rotate_left
      · intro w hw; clear hw; go_simp; first | done | with_reducible rfl
      simp only [Act.put, List.setIfInBounds_toArray, List.set_cons_zero, List.set_cons_succ]
      refine wpAnyH_take (i := 7) (oi := ⟨some 71, _, _, _, _, _⟩) (v := ?_) rfl (by kernel_rfl) (by kernel_rfl) (by kernel_rfl) (fun _ _ _ h => h) (Or.inl ⟨by rfl, ?_⟩) hS ?_
      rotate_left
      · intro w hw; clear hw; go_simp; first | done | with_reducible rfl
      simp only [Act.put, List.setIfInBounds_toArray, List.set_cons_zero, List.set_cons_succ]
      refine wpAnyH_take (i := 8) (oi := ⟨some 72, _, _, _, _, _⟩) rfl (by kernel_rfl) (by kernel_rfl) (by kernel_rfl) (fun _ _ _ h => h) (yieldsIf_load_mid rfl _ _ rfl _ _ rfl _ _ (fun w h => h.1) Tryd.underlying25 rfl (infoLl a)) hS ?_
      simp only [Act.put, List.setIfInBounds_toArray, List.set_cons_zero, List.set_cons_succ, Array.toArray_toList]
      refine wpAnyH_take (i := 9) (oi := ⟨some 73, _, _, _, _, _⟩) rfl (by kernel_rfl) (by kernel_rfl) (by kernel_rfl) (fun _ _ _ h => h) (yieldsIf_load_mid rfl _ _ rfl _ _ rfl _ _ (fun w h => h.2.1) Tryd.underlying25 rfl (infoLl b)) hS ?_
      simp only [Act.put, List.setIfInBounds_toArray, List.set_cons_zero, List.set_cons_succ, Array.toArray_toList]
      refine wpAnyH_take (i := 11) (oi := ⟨some 75, _, _, _, _, _⟩) (v := ?_) rfl (by kernel_rfl) (by kernel_rfl) (by kernel_rfl) (fun _ _ _ h => h) (Or.inl ⟨by rfl, ?_⟩) hS ?_
      rotate_left
      · intro w hw; clear hw; go_simp; first | done | with_reducible rfl
      simp only [Act.put, List.setIfInBounds_toArray, List.set_cons_zero, List.set_cons_succ]
      refine heldStep (i := 10) (o := ⟨some 74, _, _, _, _, _⟩) (by kernel_rfl) rfl rfl (fun K hK => ?_)
      go_wp2_with (go_at_call 5; (with_reducible refine (compare_any a b _).mono ?_); rintro e w10 ⟨rfl, hb10⟩; rw [XN.out])
      have hS := And.intro (rangeAt_below hb10 hS.1) (And.intro (rangeAt_below hb10 hS.2.1) (And.intro (rangeAt_below hb10 hS.2.2.1) (bstep hS.2.2.2 hb10)))
      refine hK.out _ _ hS ?_
      refine wpAnyH_take (i := 12) (oi := ⟨some 76, _, _, _, _, _⟩) (v := ?_) rfl (by kernel_rfl) (by kernel_rfl) (by kernel_rfl) (fun _ _ _ h => h) (Or.inl ⟨by rfl, ?_⟩) hS ?_
      rotate_left
      · intro w hw; clear hw; go_simp; first | done | with_reducible rfl
      simp only [Act.put, List.setIfInBounds_toArray, List.set_cons_zero, List.set_cons_succ]
      refine wpAnyH_take (i := 13) (oi := ⟨some 77, _, _, _, _, _⟩) (v := ?_) rfl (by kernel_rfl) (by kernel_rfl) (by kernel_rfl) (fun _ _ _ h => h) (Or.inl ⟨by rfl, ?_⟩) hS ?_
      rotate_left
      · intro w hw; clear hw; go_simp; first | done | with_reducible rfl
      simp only [Act.put, List.setIfInBounds_toArray, List.set_cons_zero, List.set_cons_succ]
      refine wpAnyH_take (i := 14) (oi := ⟨some 78, _, _, _, _, _⟩) (v := ?_) rfl (by kernel_rfl) (by kernel_rfl) (by kernel_rfl) (fun _ _ _ h => h) (Or.inl ⟨by rfl, ?_⟩) hS ?_
      rotate_left
      · intro w hw; clear hw; go_simp; first | done | with_reducible rfl
      simp only [Act.put, List.setIfInBounds_toArray, List.set_cons_zero, List.set_cons_succ]
      refine wpAnyH_take (i := 15) (oi := ⟨some 79, _, _, _, _, _⟩) rfl (by kernel_rfl) (by kernel_rfl) (by kernel_rfl) (fun _ _ _ h => h) (yieldsIf_load_mid rfl _ _ rfl _ _ rfl _ _ (fun w h => h.2.1) Tryd.underlying25 rfl (infoLl b)) hS ?_
      simp only [Act.put, List.setIfInBounds_toArray, List.set_cons_zero, List.set_cons_succ, Array.toArray_toList]
      refine wpAnyH_take (i := 16) (oi := ⟨some 80, _, _, _, _, _⟩) rfl (by kernel_rfl) (by kernel_rfl) (by kernel_rfl) (fun _ _ _ h => h) (yieldsIf_load_mid rfl _ _ rfl _ _ rfl _ _ (fun w h => h.1) Tryd.underlying25 rfl (infoLl a)) hS ?_
      simp only [Act.put, List.setIfInBounds_toArray, List.set_cons_zero, List.set_cons_succ, Array.toArray_toList]
      refine wpAnyH_take (i := 17) (oi := ⟨some 81, _, _, _, _, _⟩) rfl (by kernel_rfl) (by kernel_rfl) (by kernel_rfl) (fun _ _ _ h => h) (yieldsIf_load_mid rfl _ _ rfl _ _ rfl _ _ (fun w h => h.2.2.1) Tryd.underlying25 rfl (infoLl c)) hS ?_
      simp only [Act.put, List.setIfInBounds_toArray, List.set_cons_zero, List.set_cons_succ, Array.toArray_toList]
      refine wpAnyH_take (i := 19) (oi := ⟨some 83, _, _, _, _, _⟩) rfl (by kernel_rfl) (by kernel_rfl) (by kernel_rfl) (fun _ _ _ h => h) (yieldsIf_load_mid rfl _ _ rfl _ _ rfl _ _ (fun w h => h.2.1) Tryd.underlying25 rfl (infoLl b)) hS ?_
      simp only [Act.put, List.setIfInBounds_toArray, List.set_cons_zero, List.set_cons_succ, Array.toArray_toList]
      refine wpAnyH_take (i := 20) (oi := ⟨some 84, _, _, _, _, _⟩) rfl (by kernel_rfl) (by kernel_rfl) (by kernel_rfl) (fun _ _ _ h => h) (yieldsIf_load_mid rfl _ _ rfl _ _ rfl _ _ (fun w h => h.1) Tryd.underlying25 rfl (infoLl a)) hS ?_
      simp only [Act.put, List.setIfInBounds_toArray, List.set_cons_zero, List.set_cons_succ, Array.toArray_toList]
      refine heldStep (i := 18) (o := ⟨some 82, _, _, _, _, _⟩) (by kernel_rfl) rfl rfl (fun K hK => ?_)
      go_wp2_with (go_at_call 9; (with_reducible refine (in_any b a c _).mono ?_); rintro e w18 ⟨rfl, hb18⟩; rw [XI.out])
      have hS := And.intro (rangeAt_below hb18 hS.1) (And.intro (rangeAt_below hb18 hS.2.1) (And.intro (rangeAt_below hb18 hS.2.2.1) (bstep hS.2.2.2 hb18)))
      refine hK.out _ _ hS ?_
      refine heldStep (i := 21) (o := ⟨some 85, _, _, _, _, _⟩) (by kernel_rfl) rfl rfl (fun K hK => ?_)
      go_wp2_with (go_at_call 8; (with_reducible refine (refDominates_any b a _).mono ?_); rintro e w21 ⟨rfl, hb21⟩; rw [R2.out])
      have hS := And.intro (rangeAt_below hb21 hS.1) (And.intro (rangeAt_below hb21 hS.2.1) (And.intro (rangeAt_below hb21 hS.2.2.1) (bstep hS.2.2.2 hb21)))
      refine hK.out _ _ hS ?_
      refine wpAnyH_take (i := 22) (oi := ⟨some 86, _, _, _, _, _⟩) (v := ?_) rfl (by kernel_rfl) (by kernel_rfl) (by kernel_rfl) (fun _ _ _ h => h) (Or.inl ⟨by rfl, ?_⟩) hS ?_
      rotate_left
      · intro w hw; clear hw; go_simp; first | done | with_reducible rfl
      simp only [Act.put, List.setIfInBounds_toArray, List.set_cons_zero, List.set_cons_succ]
      refine wpAnyH_take (i := 23) (oi := ⟨some 87, _, _, _, _, _⟩) rfl (by kernel_rfl) (by kernel_rfl) (by kernel_rfl) (fun _ _ _ h => h) (yieldsIf_load_mid rfl _ _ rfl _ _ rfl _ _ (fun w h => h.2.2.1) Tryd.underlying25 rfl (infoLl c)) hS ?_
      simp only [Act.put, List.setIfInBounds_toArray, List.set_cons_zero, List.set_cons_succ, Array.toArray_toList]
      refine wpAnyH_take (i := 24) (oi := ⟨some 88, _, _, _, _, _⟩) rfl (by kernel_rfl) (by kernel_rfl) (by kernel_rfl) (fun _ _ _ h => h) (yieldsIf_load_mid rfl _ _ rfl _ _ rfl _ _ (fun w h => h.2.1) Tryd.underlying25 rfl (infoLl b)) hS ?_
      simp only [Act.put, List.setIfInBounds_toArray, List.set_cons_zero, List.set_cons_succ, Array.toArray_toList]
      refine heldStep (i := 25) (o := ⟨some 89, _, _, _, _, _⟩) (by kernel_rfl) rfl rfl (fun K hK => ?_)
      go_wp2_with (go_at_call 8; (with_reducible refine (refDominates_any c b _).mono ?_); rintro e w25 ⟨rfl, hb25⟩; rw [R3.out])
      have hS := And.intro (rangeAt_below hb25 hS.1) (And.intro (rangeAt_below hb25 hS.2.1) (And.intro (rangeAt_below hb25 hS.2.2.1) (bstep hS.2.2.2 hb25)))
      refine hK.out _ _ hS ?_
      refine wpAnyH_take (i := 26) (oi := ⟨some 90, _, _, _, _, _⟩) (v := ?_) rfl (by kernel_rfl) (by kernel_rfl) (by kernel_rfl) (fun _ _ _ h => h) (Or.inl ⟨by rfl, ?_⟩) hS ?_
      rotate_left
      · intro w hw; clear hw; go_simp; first | done | with_reducible rfl
      simp only [Act.put, List.setIfInBounds_toArray, List.set_cons_zero, List.set_cons_succ]
      refine wpAnyH_take (i := 27) (oi := ⟨some 91, _, _, _, _, _⟩) (v := ?_) rfl (by kernel_rfl) (by kernel_rfl) (by kernel_rfl) (fun _ _ _ h => h) (Or.inl ⟨by rfl, ?_⟩) hS ?_
      rotate_left
      · intro w hw; clear hw; go_simp; first | done | with_reducible rfl
      simp only [Act.put, List.setIfInBounds_toArray, List.set_cons_zero, List.set_cons_succ]
      refine wpAnyH_take (i := 28) (oi := ⟨some 92, _, _, _, _, _⟩) (v := ?_) rfl (by kernel_rfl) (by kernel_rfl) (by kernel_rfl) (fun _ _ _ h => h) (Or.inl ⟨by rfl, ?_⟩) hS ?_
      rotate_left
      · intro w hw; clear hw; go_simp; first | done | with_reducible rfl
      simp only [Act.put, List.setIfInBounds_toArray, List.set_cons_zero, List.set_cons_succ]
      refine wpAnyH_take (i := 29) (oi := ⟨some 93, _, _, _, _, _⟩) (v := ?_) rfl (by kernel_rfl) (by kernel_rfl) (by kernel_rfl) (fun _ _ _ h => h) (Or.inl ⟨by rfl, ?_⟩) hS ?_
      rotate_left
      · intro w hw; clear hw; go_simp; first | done | with_reducible rfl
      simp only [Act.put, List.setIfInBounds_toArray, List.set_cons_zero, List.set_cons_succ]
      refine wpAnyH_take (i := 30) (oi := ⟨some 94, _, _, _, _, _⟩) rfl (by kernel_rfl) (by kernel_rfl) (by kernel_rfl) (fun _ _ _ h => h) (yieldsIf_load_mid rfl _ _ rfl _ _ rfl _ _ (fun w h => h.1) Tryd.underlying25 rfl (infoLl a)) hS ?_
      simp only [Act.put, List.setIfInBounds_toArray, List.set_cons_zero, List.set_cons_succ, Array.toArray_toList]
      refine wpAnyH_take (i := 31) (oi := ⟨some 95, _, _, _, _, _⟩) rfl (by kernel_rfl) (by kernel_rfl) (by kernel_rfl) (fun _ _ _ h => h) (yieldsIf_load_mid rfl _ _ rfl _ _ rfl _ _ (fun w h => h.2.1) Tryd.underlying25 rfl (infoLl b)) hS ?_
      simp only [Act.put, List.setIfInBounds_toArray, List.set_cons_zero, List.set_cons_succ, Array.toArray_toList]
      refine wpAnyH_take (i := 34) (oi := ⟨some 98, _, _, _, _, _⟩) (v := ?_) rfl (by kernel_rfl) (by kernel_rfl) (by kernel_rfl) (fun _ _ _ h => h) (Or.inl ⟨by rfl, ?_⟩) hS ?_
      rotate_left
      · intro w hw; clear hw; go_simp; first | done | with_reducible rfl
      simp only [Act.put, List.setIfInBounds_toArray, List.set_cons_zero, List.set_cons_succ]
      refine heldStep (i := 32) (o := ⟨some 96, _, _, _, _, _⟩) (by kernel_rfl) rfl rfl (fun K hK => ?_)
      refine wp_slice_lit lit_lab2 _ rfl [.agg (encL a), .agg (encL b)] (by kernel_rfl) rfl (by simp [Value.cells]) ?_
      simp only [Act.put, List.setIfInBounds_toArray, List.set_cons_zero, List.set_cons_succ, List.map_cons, List.map_nil, List.flatten_cons, List.flatten_nil, List.append_nil, Value.cells]
      have hsl := slv_labels w25 a b
      have hb32 : Below _ _ _ := balloc (Below.refl w25.heap.size w25) (Obj.cells ((encL a).toList ++ (encL b).toList).toArray 25)
      have hS := And.intro (rangeAt_below hb32 hS.1) (And.intro (rangeAt_below hb32 hS.2.1) (And.intro (rangeAt_below hb32 hS.2.2.1) (bstep hS.2.2.2 hb32)))
      refine hK.out _ _ hS ?_
      refine heldStep (i := 33) (o := ⟨some 97, _, _, _, _, _⟩) (by kernel_rfl) rfl rfl (fun K hK => ?_)
      go_wp2_with (go_at_call 10; (with_reducible refine (right_any [a, b] _ _ hsl).mono ?_); rintro e w33 ⟨rfl, hb33⟩; rw [XR.out])
      have hS := And.intro (rangeAt_below hb33 hS.1) (And.intro (rangeAt_below hb33 hS.2.1) (And.intro (rangeAt_below hb33 hS.2.2.1) (bstep hS.2.2.2 hb33)))
      refine hK.out _ _ hS ?_
      refine wpAnyH_take (i := 35) (oi := ⟨some 99, _, _, _, _, _⟩) (v := ?_) rfl (by kernel_rfl) (by kernel_rfl) (by kernel_rfl) (fun _ _ _ h => h) (Or.inl ⟨by rfl, ?_⟩) hS ?_
      rotate_left
      · intro w hw; clear hw; go_simp; first | done | with_reducible rfl
      simp only [Act.put, List.setIfInBounds_toArray, List.set_cons_zero, List.set_cons_succ]
      refine wpAnyH_take (i := 36) (oi := ⟨some 100, _, _, _, _, _⟩) (v := ?_) rfl (by kernel_rfl) (by kernel_rfl) (by kernel_rfl) (fun _ _ _ h => h) (Or.inl ⟨by rfl, ?_⟩) hS ?_
      rotate_left
      · intro w hw; clear hw; go_simp; first | done | with_reducible rfl
      simp only [Act.put, List.setIfInBounds_toArray, List.set_cons_zero, List.set_cons_succ]
      refine wpAnyH_take (i := 37) (oi := ⟨some 101, _, _, _, _, _⟩) (v := ?_) rfl (by kernel_rfl) (by kernel_rfl) (by kernel_rfl) (fun _ _ _ h => h) (Or.inl ⟨by rfl, ?_⟩) hS ?_
      rotate_left
      · intro w hw; clear hw; go_simp; first | done | with_reducible rfl
      simp only [Act.put, List.setIfInBounds_toArray, List.set_cons_zero, List.set_cons_succ]
      refine heldStep (i := 38) (o := ⟨some 102, _, _, _, _, _⟩) (by kernel_rfl) rfl rfl (fun K hK => ?_)
      go_wp2_with (go_at_call 10; (with_reducible refine (right_none _).mono ?_); rintro e w38 ⟨rfl, hb38⟩)
      have hS := And.intro (rangeAt_below hb38 hS.1) (And.intro (rangeAt_below hb38 hS.2.1) (And.intro (rangeAt_below hb38 hS.2.2.1) (bstep hS.2.2.2 hb38)))
      refine hK.out _ _ hS ?_
      refine wpAnyH_take (i := 39) (oi := ⟨some 103, _, _, _, _, _⟩) (v := ?_) rfl (by kernel_rfl) (by kernel_rfl) (by kernel_rfl) (fun _ _ _ h => h) (Or.inl ⟨by rfl, ?_⟩) hS ?_
      rotate_left
      · intro w hw; clear hw; go_simp; first | done | with_reducible rfl
      simp only [Act.put, List.setIfInBounds_toArray, List.set_cons_zero, List.set_cons_succ]
      refine wpAnyH_take (i := 40) (oi := ⟨some 104, _, _, _, _, _⟩) (v := ?_) rfl (by kernel_rfl) (by kernel_rfl) (by kernel_rfl) (fun _ _ _ h => h) (Or.inl ⟨by rfl, ?_⟩) hS ?_
      rotate_left
      · intro w hw; clear hw; go_simp; first | done | with_reducible rfl
      simp only [Act.put, List.setIfInBounds_toArray, List.set_cons_zero, List.set_cons_succ]
      refine heldStep (i := 41) (o := ⟨some 105, _, _, _, _, _⟩) (by kernel_rfl) rfl rfl (fun K hK => ?_)
      go_wp2_with (go_at_call 7; (with_reducible refine (awake_any _ (hL.below hS.2.2.2)).mono ?_); rintro e w41 ⟨rfl, hb41⟩)
      have hS := And.intro (rangeAt_below hb41 hS.1) (And.intro (rangeAt_below hb41 hS.2.1) (And.intro (rangeAt_below hb41 hS.2.2.1) (bstep hS.2.2.2 hb41)))
      refine hK.out _ _ hS ?_
      refine wpAnyH_take (i := 42) (oi := ⟨some 106, _, _, _, _, _⟩) (v := ?_) rfl (by kernel_rfl) (by kernel_rfl) (by kernel_rfl) (fun _ _ _ h => h) (Or.inl ⟨by rfl, ?_⟩) hS ?_
      rotate_left
      · intro w hw; clear hw; go_simp; first | done | with_reducible rfl
      simp only [Act.put, List.setIfInBounds_toArray, List.set_cons_zero, List.set_cons_succ]
      refine wpAnyH_take (i := 43) (oi := ⟨some 6, _, _, _, _, _⟩) (v := ?_) rfl (by kernel_rfl) (by kernel_rfl) (by kernel_rfl) (fun _ _ _ h => h) (Or.inl ⟨by rfl, ?_⟩) hS ?_
      rotate_left
      · intro w hw; clear hw; go_simp; first | done | with_reducible rfl
      simp only [Act.put, List.setIfInBounds_toArray, List.set_cons_zero, List.set_cons_succ]
      refine wpAnyH_done (by kernel_rfl) ?_ _
      -- way T ends
      go_wp2
      go_ret
      exact ⟨rfl, hS.2.2.2⟩
end Go.Proofs.YtbnjnomlgamheaaDoor
