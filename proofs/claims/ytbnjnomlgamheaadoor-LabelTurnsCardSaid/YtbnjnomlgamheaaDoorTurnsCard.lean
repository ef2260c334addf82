/- LabelTurns: the law, its row, its card. -/
import Derived.Test.YtbnjnomlgamheaaDoorTurns
import Derived.Test.YtbnjnomlgamheaaDoorPlain
import Derived.Test.YtbnjnomlgamheaaDoorFrame
import Derived.Test.YtbnjnomlgamheaaDoorCards
import Derived.Test.YtbnjnomlgamheaaDoorTie
namespace Go.Proofs.YtbnjnomlgamheaaDoor
set_option linter.unusedSimpArgs false
set_option linter.unusedVariables false
open Go.ChangeShapes Go.WideShapes Go.ChangeAt Go.RowKit
theorem turns_any (a b c : Lab) (w : World) (hL : LibOk w) :
    Calls Tryd.prog 3 #[.agg (encL a), .agg (encL b), .agg (encL c)] w fun e w' => e = .returned (.bool true) ∧ Below w.heap.size w w' := by
  refine turns_walk a b c (cmpL a b) (cmpL b c) (cmpL a c) rfl rfl rfl (cmpL_anti a b) ?_ (decide (a = b)) rfl ?_ ?_ (dom_refl a) ?_ w hL
  · have h := cmpL_range a b
    exact IntWalk.i64_in _ (by omega)
  · rw [Bool.eq_iff_iff, beq_iff_eq, decide_eq_true_eq]
    exact cmpL_zero a b
  · by_cases h1 : cmpL a b ≤ 0
    · by_cases h2 : cmpL b c ≤ 0
      · have h3 := cmpL_trans a b c h1 h2
        exact .inr (.inr ⟨decide_eq_true h1, decide_eq_true h2, decide_eq_false (by omega)⟩)
      · exact .inr (.inl ⟨decide_eq_true h1, decide_eq_false h2⟩)
    · exact .inl (decide_eq_false h1)
  · cases h1 : domL a b with
    | false => exact .inl rfl
    | true =>
      cases h2 : domL b a with
      | false =>
        cases h3 : domL b c with
        | false => exact .inr (.inl ⟨rfl, rfl, rfl⟩)
        | true => exact .inr (.inr (.inl ⟨rfl, rfl, rfl, dom_trans h1 h3⟩))
      | true =>
        have he : decide (a = b) = true := decide_eq_true (dom_anti h1 h2)
        cases h3 : domL b c with
        | false => exact .inr (.inr (.inr (.inl ⟨rfl, rfl, he, rfl⟩)))
        | true => exact .inr (.inr (.inr (.inr ⟨rfl, rfl, he, rfl, dom_trans h1 h3⟩)))

theorem libOk_of_laid {W : World} (hsh : W.ShapedOpen Tryd.prog) (h : laidMetH Tryd.prog Rows.labelTurnsRow.laid W) : LibOk W := by
  rw [MakeChecks.laidMetH_plain _ _ _ (by kernel_rfl)] at h
  have h2 := h.tail.tail
  have h5 := h2.tail.tail
  exact ⟨MaxLen_cell W hsh, tab_of_laid h2, sentinel_of_laid h5.tail (g := 1) (by kernel_rfl) (by kernel_rfl), sentinel_of_laid h5 (g := 2) (by kernel_rfl) (by kernel_rfl)⟩
set_option maxRecDepth 100000 in
theorem lifted (os : Os) (started : os.Started) (H : Type) (enc : TypeId × Value → H) (F : Stop.Interp) :
    ReturnsInHanded {} Tryd.checked os 3 .any ((OpenSpec.ofChange Rows.labelTurnsSpec).preRow enc Tryd.prog Tryd.f3 Rows.labelTurnsRow.domain false Rows.labelTurnsRow.laid)
      (((OpenSpec.ofChange Rows.labelTurnsSpec).at F).post enc Tryd.prog Tryd.f3 false true false false) := by
  refine returnsInHanded_of_row (C := Tryd.checked) own started (by kernel_rfl) Tryd.func3
    (ChangeSpec.witness_shaped (enc := enc) (C := Tryd.checked) (os := os) (X := fun w _ => laidMetH Tryd.prog Rows.labelTurnsRow.laid w) false (World.laidAll Tryd.prog os Rows.labelTurnsRow.laid) #[.agg (encL zeroL), .agg (encL zeroL), .agg (encL zeroL)] 8 (World.laidAll_os _ _ _)
      (World.shaped_of_ZipB (by kernel_rfl) (by kernel_rfl)) (by kernel_rfl) (by kernel_rfl) (by kernel_rfl)
      (by rw [MakeChecks.laidMetH_plain _ _ _ (by kernel_rfl)]; exact laidMet_laidAll _ (by kernel_rfl) (by kernel_rfl))) ?_
  intro W base args ds gs before hval0 hW _ _ _ hL hsh _
  have hval : ∀ (j : Nat) t v, Tryd.f3.params[j]? = some t → args[j]? = some v → Value.okWide Tryd.prog W .any base t v := hval0
  have hW' := hW
  obtain ⟨p, q, hA0, hV, rfl, _, _⟩ := hW
  have hA : DataW.TrodAll enc Tryd.prog W 0 (fun _ => true) true Tryd.f3.params.toList args.toList ds p := hA0
  rw [Tryd.params3] at hA hval
  obtain ⟨v0, v1, v2, d0, d1, d2, p0, p1, p2, rfl, rfl, rfl, h0, h1, h2⟩ := trodAll_three hA
  obtain ⟨rfl, rfl⟩ := trodVars_none hV
  obtain ⟨a, rfl, rfl⟩ := open_label (hval 0 25 v0 rfl rfl) h0
  obtain ⟨b, rfl, rfl⟩ := open_label (hval 1 25 v1 rfl rfl) h1
  obtain ⟨c, rfl, rfl⟩ := open_label (hval 2 25 v2 rfl rfl) h2
  have harg : ∀ (W' : World) (l : Lab) (d : DataW H), Below W.heap.size W W' → DataW.Trod enc Tryd.prog W 0 (fun _ => true) true 25 (.agg (encL l)) d [] → DataW.Trod enc Tryd.prog W' 0 (fun b => decide (b < W.heap.size)) true 25 (.agg (encL l)) d [] :=
    fun W' l d hn h => Below.trod laidOut (by kernel_rfl) (of_decide_eq_true (by kernel_rfl)) h hn (fun x hx => by cases hx)
  clear hA0 hval0
  simp only [List.append_nil] at hW'
  refine (turns_any a b c W (libOk_of_laid hsh hL)).mono fun e W' ⟨he, hnx⟩ => ?_
  subst he
  refine ⟨_, rfl, _, _, _, [], [], [], hW', ?_, ?_, rfl, hnx.frame _, fun h => by cases h⟩
  · exact trodAll_mk1 (shut_bool Tryd.underlying4 true)
  · exact trodAll_mk3 (harg W' a d0 hnx h0) (harg W' b d1 hnx h1) (harg W' c d2 hnx h2)
theorem turns_row : Rows.LabelTurnsSaid :=
  OpenClaim.holds_of_cond 3 Tryd.f3 rfl rfl rfl rfl rfl rfl rfl ⟨rfl, rfl, rfl, rfl, rfl⟩ rfl rfl rfl rfl rfl (by kernel_rfl) Tryd.func3 (by kernel_rfl)
    (of_decide_eq_true (by kernel_rfl)) (by unfold Func.isWrapper; first | (rw [if_pos (by decide +kernel)]; kernel_rfl) | (rw [if_neg (by decide +kernel)]; exact ⟨rfl, rfl⟩))
    (fun os started H enc _ F => by rw [OpenClaim.pre_eq_preRow]; exact lifted os started H enc F)
theorem labelTurns_card : Rows.LabelTurnsCardSaid :=
  Claim7.holds_tied_plain_at .later [] [.data, .data, .data, .data, .sentinel, .sentinel, .pinned] true Rows.labelTurnsCard.stood.harness true
    turns_row (fun _ h => by cases h) (by kernel_rfl) (fun _ h => by cases h) labelTurns_row_tie rfl ⟨rfl, rfl⟩ (by kernel_rfl) rfl
    (fun f fn hf hfn => by
      obtain rfl : f = 3 := Option.some.inj ((show Tryd.prog.funcNamed "guerite/gueritelaw09.LabelTurns" = some 3 by kernel_rfl).symm.trans hf) |>.symm
      obtain rfl : fn = Tryd.f3 := (Option.some.inj (Tryd.func3.symm.trans hfn)).symm
      exact ⟨by kernel_rfl, fun j t ht => by
        rw [Tryd.params3] at ht
        have hm : t ∈ [25, 25, 25] := by simpa using Array.mem_of_getElem? ht
        have hall : ([25, 25, 25].all fun u => !Tryd.prog.wantsStandIn u) = true := by kernel_rfl
        exact (show Tryd.prog.wantsStandIn t = false by simpa using List.all_eq_true.1 hall t hm)⟩)
    (by kernel_rfl)
end Go.Proofs.YtbnjnomlgamheaaDoor
