/- A set of categories, told: the walk. -/
import Derived.Test.YtbnjnomlgamheaaDoorText
namespace Go.Proofs.YtbnjnomlgamheaaDoor
set_option linter.unusedSimpArgs false
set_option linter.unusedVariables false
open Go.RowKit
theorem elem_strs : ElemOf Tryd.prog 59 9 1 16 where
  hu := by kernel_rfl
  hi := ⟨(Tryd.prog.info? 9).getD default, ((Tryd.prog.info? 9).bind (·.zero)).getD default, by kernel_rfl, by kernel_rfl, by kernel_rfl, by kernel_rfl, by kernel_rfl⟩
  hp := by decide
theorem runEnd_ge : ∀ (k : Nat) (l : List Nat), k ≤ (runEnd k l).1
  | k, [] => Nat.le_refl _
  | k, y :: r => by
    unfold runEnd
    split
    · rename_i h; have := runEnd_ge y r; omega
    · exact Nat.le_refl _
theorem listK_lt {c : Cts} {k j : Nat} (h : j ∈ listK c k) : j < k := List.mem_range.1 (List.mem_filter.1 h).1
def strv (l : List UInt8) : Value := .string ⟨l.toArray⟩
set_option maxRecDepth 100000 in
set_option maxHeartbeats 1000000 in
theorem text_any (c : Cts) (w : World) (hL : LibOk w) :
    Calls Tryd.prog 27 #[.agg (encC c)] w fun e w' => e = .returned (.string ⟨(textC c).toArray⟩) ∧ Below w.heap.size w w' := by
  have hmem : ∀ j, j ∈ listC c → j < 240 := fun j hj => listK_lt hj
  have hlen : (listC c).length ≤ 240 := listK_len c 240
  have HM := Lib.hid hmem
  clear hmem
  have hbx := heap_alloc_last w (Obj.cells (encC c) 23)
  have HBX := Lib.hid hbx
  clear hbx
  go_enter Tryd.func27, Tryd.ntmps27
  go_wp2_with (first
    | (refine wpList_load_row rfl 23 _ rfl w.heap.size rfl 23 _ (0, 0) _ HBX.out under_cats rfl (infoC _) ?_)
    | (go_at_call 37; refine (list_any c _).mono ?_; rintro e w2 ⟨vl, rfl, hv, hb2⟩; obtain ⟨av, cv, hve, ⟨_, _⟩, hcells⟩ := hv; rw [hve]))
  have hb : Below w.heap.size w w2 := bstep (balloc (Below.refl _ _) _) hb2
  have hL2 := hL.below hb
  have ht : textC c = if listC c = [] then [45] else Lib.join (pieces (listC c)) [44] := rfl
  have HT := Lib.hid ht
  have HC := Lib.hid hcells
  have HB := Lib.hid hb
  clear hve ht hcells hb
  generalize listC c = l at *
  go_loopw [3, 5] (fun v i wr => ∃ (k : Nat) (ps : List (List UInt8)), k ≤ l.length ∧ i = .int .i64 k ∧ ps.length ≤ k ∧ pieces l = ps ++ pieces (l.drop k) ∧ wr.ownsRow w2.heap.size 9 1 v ps.length (ps.map strv) ∧ Below w2.heap.size w2 wr) (fun _ i _ => l.length - (intOf i).toNat)
  case atStart => exact ⟨0, [], by omega, rfl, by simp, by simp, own_nil _ _ _ _, Below.refl _ _⟩
  case round =>
    obtain ⟨k, ps, hk, rfl, hpl, hpieces, hown, hbr⟩ := hrel
    have HP := Lib.hid hpieces
    have HO := Lib.hid hown
    have HR := Lib.hid hbr
    clear hpieces hown hbr
    by_cases hlt : k < l.length
    · obtain ⟨b, o, hav, hcell⟩ := HC.out (by simpa using Nat.lt_of_le_of_lt (Nat.zero_le _) hlt)
      subst hav
      have hc2 : ∀ j, j < l.length → w2.cell? ⟨b, o + j, none⟩ = some (.int .i64 (l.getD j 0 : Nat)) := fun j hj => by
        have := (hcell j [intv l[j]] (by simp [hj])).2 0 _ rfl
        rw [Nat.mul_one, Nat.add_zero] at this
        rw [this]
        simp [intv, hj]
      have HC2 := Lib.hid hc2
      clear hc2
      have hce : ∀ j, j < l.length → wr.cell? ⟨b, o + j, none⟩ = some (.int .i64 (l.getD j 0 : Nat)) := fun j hj => by
        have := (hcell j [intv l[j]] (by simp [hj])).2 0 _ rfl
        rw [Nat.mul_one, Nat.add_zero] at this
        rw [cell_below HR.out this]
        simp [intv, hj]
      have HCE := Lib.hid hce
      clear hce hcell
      go_wp2
      obtain ⟨wo, hwo⟩ : ∃ wo : World, wo = wr := ⟨_, rfl⟩
      subst hwo
      go_loopw [6] (fun v wi => ∃ j : Nat, k ≤ j ∧ j < l.length ∧ v = .int .i64 j ∧ runEnd (l.getD k 0) (l.drop (k + 1)) = runEnd (l.getD j 0) (l.drop (j + 1)) ∧ Below wo.heap.size wo wi) (fun v _ => l.length - (intOf v).toNat)
      case atStart => exact ⟨k, by omega, hlt, rfl, rfl, Below.refl _ _⟩
      case round =>
        obtain ⟨j, hkj, hjl, rfl, hrun, hbi⟩ := hrel
        have HRUN := Lib.hid hrun
        have HBI := Lib.hid hbi
        have hcj := cell_below hbi (HCE.out j hjl)
        clear hrun hbi
        have hx : l.getD j 0 < 240 := by
          have := HM.out l[j] (List.getElem_mem hjl)
          simpa [hjl] using this
        obtain ⟨x, hgx⟩ : ∃ x, x = l.getD j 0 := ⟨_, rfl⟩
        rw [← hgx] at hcj hx
        have HX := Lib.hid hgx
        clear hgx
        have hw1 : IntKind.i64.wrap ((j : Int) + 1) = (j : Int) + 1 := IntWalk.i64_in _ (by omega)
        have hw2 : IntKind.i64.wrap ((x : Int) + 1) = (x : Int) + 1 := IntWalk.i64_in _ (by omega)
        by_cases hst : j + 1 < l.length ∧ l.getD (j + 1) 0 = x + 1
        · obtain ⟨hj1, heq⟩ := hst
          have hcj1 := cell_below HBI.out (HCE.out (j + 1) hj1)
          have hd : decide ((j : Int) + 1 < (l.length : Int)) = true := by simp; omega
          have hi0 : (0 : Int) ≤ (j : Int) + 1 := by omega
          have hi1 : (j : Int) + 1 < (l.length : Int) := by omega
          have hi2 : ((j : Int) + 1).toNat = j + 1 := by omega
          obtain ⟨y, hgy⟩ : ∃ y, y = l.getD (j + 1) 0 := ⟨_, rfl⟩
          rw [← hgy] at hcj1 heq
          have HY := Lib.hid hgy
          clear hgy
          have he : ((y : Int) == (x : Int) + 1) = true := by rw [beq_iff_eq]; omega
          have HEQ := Lib.hid heq
          clear heq
          go_wp2
          go_quiet (fail)
          go_wp2
          refine ⟨⟨j + 1, by omega, hj1, by go_num, ?_, bdrewN HBI.out _⟩, by simp [intOf]; omega⟩
          rw [HRUN.out, ← HX.out, ← HY.out, HEQ.out]
          have hdr : l.drop (j + 1) = y :: l.drop (j + 1 + 1) := by
            rw [List.drop_eq_getElem_cons hj1]
            congr 1
            rw [HY.out]; simp [hj1]
          rw [hdr, HEQ.out]
          simp [runEnd]
        · have hend : runEnd (l.getD k 0) (l.drop (k + 1)) = (x, l.drop (j + 1)) := by
            rw [HRUN.out, ← HX.out]
            by_cases hj1 : j + 1 < l.length
            · have hdr : l.drop (j + 1) = l.getD (j + 1) 0 :: l.drop (j + 1 + 1) := by
                rw [List.drop_eq_getElem_cons hj1]
                congr 1
                simp [hj1]
              rw [hdr, runEnd, if_neg (fun h => hst ⟨hj1, h⟩)]
            · rw [List.drop_eq_nil_of_le (by omega)]; rfl
          have HEND := Lib.hid hend
          clear hend
          have hout : ((j : Int) + 1 < (l.length : Int)) = (j + 1 < l.length) := by rw [eq_iff_iff]; omega
          by_cases hj1 : j + 1 < l.length
          case' pos =>
            have hcj1 := cell_below HBI.out (HCE.out (j + 1) hj1)
            have hd : decide ((j : Int) + 1 < (l.length : Int)) = true := by simp; omega
            have hi0 : (0 : Int) ≤ (j : Int) + 1 := by omega
            have hi1 : (j : Int) + 1 < (l.length : Int) := by omega
            have hi2 : ((j : Int) + 1).toNat = j + 1 := by omega
            obtain ⟨y, hgy⟩ : ∃ y, y = l.getD (j + 1) 0 := ⟨_, rfl⟩
            rw [← hgy] at hcj1 hst
            have he : ((y : Int) == (x : Int) + 1) = false := by rw [beq_eq_false_iff_ne]; intro h; exact hst ⟨hj1, by omega⟩
            clear hst hgy hout
            go_wp2
            go_quiet (fail)
            go_wp2
          case' neg =>
            have hd : decide ((j : Int) + 1 < (l.length : Int)) = false := by simp; omega
            clear hst hout
            go_wp2
            go_quiet (fail)
            go_wp2
          all_goals
            obtain ⟨x0, hg0⟩ : ∃ x, x = l.getD k 0 := ⟨_, rfl⟩
            have HX0 := Lib.hid hg0
            have hcx0 := HC2.out k hlt
            rw [← hg0] at hcx0
            have hcx := HC2.out j hjl
            rw [← HX.out] at hcx
            clear hg0 hcj
            refine wp_region_held_drew (S := fun w' => Below w2.heap.size w2 w') (by kernel_rfl) (bdrewN (bstep HR.out HBI.out) _).drew (fun hS => ?_)
            have hbo : ∀ n, Below wo.heap.size wo ((wr.drewN n).drew) := fun n => (bdrewN HBI.out n).drew
            have hle : x0 ≤ x := by
              have h1 := runEnd_ge x0 (l.drop (k + 1))
              have h2 := HEND.out
              rw [← HX0.out] at h2
              rw [h2] at h1
              exact h1
            have hk0 : (0 : Int) ≤ (k : Int) := by omega
            have hk1 : (k : Int) < (l.length : Int) := by omega
            have hj0 : (0 : Int) ≤ (j : Int) := by omega
            have hj2 : (j : Int) < (l.length : Int) := by omega
            refine wpAnyH_take (i := 0) (oi := ⟨some 34, _, _, _, _, _⟩) (v := u3) rfl (by kernel_rfl) (by kernel_rfl) (by kernel_rfl) (fun _ _ _ h => h) (Or.inl ⟨by rfl, fun w _ => by go_simp⟩) hS ?_
            simp only [Act.put, List.setIfInBounds_toArray, List.set_cons_zero, List.set_cons_succ]
            refine wpAnyH_take (i := 1) (oi := ⟨some 35, _, _, _, _, _⟩) (v := .slice (some ⟨b, o, none⟩) l.length cv) rfl (by kernel_rfl) (by kernel_rfl) (by kernel_rfl) (fun _ _ _ h => h) (Or.inl ⟨by rfl, fun w _ => by go_simp⟩) hS ?_
            simp only [Act.put, List.setIfInBounds_toArray, List.set_cons_zero, List.set_cons_succ]
            refine wpAnyH_take (i := 2) (oi := ⟨some 36, _, _, _, _, _⟩) (v := .int .i64 k) rfl (by kernel_rfl) (by kernel_rfl) (by kernel_rfl) (fun _ _ _ h => h) (Or.inl ⟨by rfl, fun w _ => by go_simp⟩) hS ?_
            simp only [Act.put, List.setIfInBounds_toArray, List.set_cons_zero, List.set_cons_succ]
            refine wpAnyH_take (i := 3) (oi := ⟨some 37, _, _, _, _, _⟩) (v := .pointer (some ⟨b, o + k, none⟩)) rfl (by kernel_rfl) (by kernel_rfl) (by kernel_rfl) (fun _ _ _ h => h) (Or.inl ⟨by rfl, fun w _ => by go_simp⟩) hS ?_
            simp only [Act.put, List.setIfInBounds_toArray, List.set_cons_zero, List.set_cons_succ]
            refine wpAnyH_take (i := 4) (oi := ⟨some 38, _, _, _, _, _⟩) (v := .int .i64 x0) rfl (by kernel_rfl) (by kernel_rfl) (by kernel_rfl) (fun _ _ _ h => h) (Or.inl ⟨by rfl, fun w hw => by have hc := cell_below hw hcx0; go_simp⟩) hS ?_
            simp only [Act.put, List.setIfInBounds_toArray, List.set_cons_zero, List.set_cons_succ]
            refine wpAnyH_take (i := 5) (oi := ⟨some 39, _, _, _, _, _⟩) (v := .slice (some ⟨b, o, none⟩) l.length cv) rfl (by kernel_rfl) (by kernel_rfl) (by kernel_rfl) (fun _ _ _ h => h) (Or.inl ⟨by rfl, fun w _ => by go_simp⟩) hS ?_
            simp only [Act.put, List.setIfInBounds_toArray, List.set_cons_zero, List.set_cons_succ]
            refine wpAnyH_take (i := 6) (oi := ⟨some 40, _, _, _, _, _⟩) (v := .int .i64 j) rfl (by kernel_rfl) (by kernel_rfl) (by kernel_rfl) (fun _ _ _ h => h) (Or.inl ⟨by rfl, fun w _ => by go_simp⟩) hS ?_
            simp only [Act.put, List.setIfInBounds_toArray, List.set_cons_zero, List.set_cons_succ]
            refine wpAnyH_take (i := 7) (oi := ⟨some 41, _, _, _, _, _⟩) (v := .pointer (some ⟨b, o + j, none⟩)) rfl (by kernel_rfl) (by kernel_rfl) (by kernel_rfl) (fun _ _ _ h => h) (Or.inl ⟨by rfl, fun w _ => by go_simp⟩) hS ?_
            simp only [Act.put, List.setIfInBounds_toArray, List.set_cons_zero, List.set_cons_succ]
            refine wpAnyH_take (i := 8) (oi := ⟨some 42, _, _, _, _, _⟩) (v := .int .i64 x) rfl (by kernel_rfl) (by kernel_rfl) (by kernel_rfl) (fun _ _ _ h => h) (Or.inl ⟨by rfl, fun w hw => by have hc := cell_below hw hcx; go_simp⟩) hS ?_
            simp only [Act.put, List.setIfInBounds_toArray, List.set_cons_zero, List.set_cons_succ]
            refine heldStep (i := 9) (o := ⟨some 43, _, _, _, _, none⟩) (by kernel_rfl) rfl rfl (fun K hK => ?_)
            go_wp2_with (go_at_call 38; refine (run_any x0 x hle hx _ (hL2.below hS)).mono ?_; rintro e w5 ⟨rfl, hb5⟩)
            have hS5 : Below w2.heap.size w2 w5 := bstep hS hb5
            have ho5 := own_below (bstep (hbo _) hb5) HO.out
            refine hK.out _ _ hS5 ?_
            refine heldStep (i := 10) (o := ⟨some 44, _, _, _, _, none⟩) (by kernel_rfl) rfl rfl (fun K hK => ?_)
            go_wp2
            refine hK.out _ _ (balloc hS5 _) ?_
            refine heldStep (i := 11) (o := ⟨some 45, _, _, _, _, none⟩) (by kernel_rfl) rfl rfl (fun K hK => ?_)
            have hs5 := hS5.size
            refine wp_app elem_strs _ _ rfl w2.heap.size _ ps.length _ rfl (own_below (balloc (Below.refl _ _) _) ho5) w5.heap.size 1 1 [strv (runT x0 x)] rfl rfl (rangeAt_heap (heap_alloc_last _ _)) (by simp [strv, Value.oneCell']) (by omega) (by omega) (by simp; omega) (fun v' w6 hown6 hgr => ?_)
            simp only [Act.put, List.setIfInBounds_toArray, List.set_cons_zero, List.set_cons_succ]
            have hS6 : Below w2.heap.size w2 w6 := Below.grown (balloc hS5 _) hgr (by simp; omega) (own_ge ho5)
            refine hK.out _ _ hS6 ?_
            refine heldStep (i := 12) (o := ⟨some 3, _, _, _, _, none⟩) (by kernel_rfl) rfl rfl (fun K hK => ?_)
            go_wp2
            refine hK.out _ _ hS6 ?_
            refine wpAnyH_done (by kernel_rfl) ?_ _
            go_wp2
            refine ⟨⟨j + 1, ps ++ [runT x0 x], by omega, by go_num, by simp; omega, ?_, ?_, hS6⟩, by simp [intOf]; omega⟩
            · have hd0 : l.drop k = x0 :: l.drop (k + 1) := by
                rw [List.drop_eq_getElem_cons hlt]
                congr 1
                rw [HX0.out]; simp [hlt]
              have he := HEND.out
              rw [← HX0.out] at he
              rw [HP.out, hd0, pieces, he, List.append_assoc]
              rfl
            · rw [List.length_append, List.map_append]; exact hown6
    · obtain rfl : k = l.length := by omega
      have hps : ps = pieces l := by
        have h := HP.out
        rw [List.drop_length, pieces, List.append_nil] at h
        exact h.symm
      have HPS := Lib.hid hps
      clear hps
      have hbe : Below w.heap.size w wr := bstep HB.out HR.out
      have HBE := Lib.hid hbe
      clear hbe
      obtain ⟨A, cc, rfl⟩ := own_form HO.out
      by_cases hl0 : l = []
      · subst hl0
        have hp0 : ps = [] := by rw [HPS.out, pieces]
        subst hp0
        go_wp2
        go_ret
        exact ⟨ret_str (by rw [HT.out]; simp), HBE.out⟩
      · have hlen0 : ((ps.length : Int) == 0) = false := by
          rw [beq_eq_false_iff_ne]
          have := pieces_ne hl0
          rw [← HPS.out] at this
          have : ps.length ≠ 0 := fun h => this (List.length_eq_zero_iff.1 h)
          omega
        obtain ⟨hq1, hq2⟩ := pieces_len l.length l (Nat.le_refl _) HM.out
        rw [← HPS.out] at hq1 hq2
        have hxm : (ps.map fun x => (⟨x.toArray⟩ : ByteArray)).map (fun x => x.data.toList) = ps := by simp [List.map_map, Function.comp_def]
        have hjl := join_len_le 43 ps [44] hq2
        have hsv : SlV wr 1 ((ps.map fun x => (⟨x.toArray⟩ : ByteArray)).map fun x => [.string x]) (.slice A ps.length cc) := own_SlV HO.out _ (by
          rw [List.map_map]
          generalize ps = q
          induction q with
          | nil => rfl
          | cons x r ih => simp [strv]; exact ih) (by simp) (by omega)
        have hj := join_any (ps.map fun x => ⟨x.toArray⟩) ⟨#[44]⟩ wr _ hsv (by rw [hxm]; simp at hjl ⊢; omega) (by simp; omega)
        rw [hxm] at hj
        have HJ := Lib.hid hj
        clear hj hsv hxm hjl
        go_wp2_with (go_at_call 39; refine HJ.out.mono ?_; rintro e w7 ⟨rfl, hb7⟩)
        go_ret
        exact ⟨ret_str (by rw [HT.out, if_neg hl0, ← HPS.out]), bstep HBE.out hb7⟩
end Go.Proofs.YtbnjnomlgamheaaDoor
