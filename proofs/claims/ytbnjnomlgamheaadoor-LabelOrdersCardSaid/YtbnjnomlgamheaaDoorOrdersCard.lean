/- LabelOrders: the law, its row, its card. -/
import Derived.Test.YtbnjnomlgamheaaDoorOrders
import Derived.Test.YtbnjnomlgamheaaDoorPlain
import Derived.Test.YtbnjnomlgamheaaDoorFrame
import Derived.Test.YtbnjnomlgamheaaDoorCards
import Derived.Test.YtbnjnomlgamheaaDoorTie
namespace Go.Proofs.YtbnjnomlgamheaaDoor
set_option linter.unusedSimpArgs false
set_option linter.unusedVariables false
open Go.ChangeShapes Go.WideShapes Go.ChangeAt Go.RowKit
theorem libOk_of_laidO {W : World} (hsh : W.ShapedOpen Tryd.prog) (h : laidMetH Tryd.prog Rows.labelOrdersRow.laid W) : LibOk W := by
  rw [MakeChecks.laidMetH_plain _ _ _ (by kernel_rfl)] at h
  have h2 := h.tail.tail
  have h5 := h2.tail.tail
  exact ⟨MaxLen_cell W hsh, tab_of_laid h2, sentinel_of_laid h5.tail (g := 1) (by kernel_rfl) (by kernel_rfl), sentinel_of_laid h5 (g := 2) (by kernel_rfl) (by kernel_rfl)⟩
set_option maxRecDepth 100000 in
theorem liftedO (os : Os) (started : os.Started) (H : Type) (enc : TypeId × Value → H) (F : Stop.Interp) :
    ReturnsInHanded {} Tryd.checked os 4 .any ((OpenSpec.ofChange Rows.labelOrdersSpec).preRow enc Tryd.prog Tryd.f4 Rows.labelOrdersRow.domain false Rows.labelOrdersRow.laid)
      (((OpenSpec.ofChange Rows.labelOrdersSpec).at F).post enc Tryd.prog Tryd.f4 false true false false) := by
  refine returnsInHanded_of_row (C := Tryd.checked) own started (by kernel_rfl) Tryd.func4
    (ChangeSpec.witness_shaped (enc := enc) (C := Tryd.checked) (os := os) (X := fun w _ => laidMetH Tryd.prog Rows.labelOrdersRow.laid w) false (World.laidAll Tryd.prog os Rows.labelOrdersRow.laid) #[.agg (encL zeroL), .agg (encL zeroL), .agg (encL zeroL)] 8 (World.laidAll_os _ _ _)
      (World.shaped_of_ZipB (by kernel_rfl) (by kernel_rfl)) (by kernel_rfl) (by kernel_rfl) (by kernel_rfl)
      (by rw [MakeChecks.laidMetH_plain _ _ _ (by kernel_rfl)]; exact laidMet_laidAll _ (by kernel_rfl) (by kernel_rfl))) ?_
  intro W base args ds gs before hval0 hW _ _ _ hL hsh _
  have hval : ∀ (j : Nat) t v, Tryd.f4.params[j]? = some t → args[j]? = some v → Value.okWide Tryd.prog W .any base t v := hval0
  have hW' := hW
  obtain ⟨p, q, hA0, hV, rfl, _, _⟩ := hW
  have hA : DataW.TrodAll enc Tryd.prog W 0 (fun _ => true) true Tryd.f4.params.toList args.toList ds p := hA0
  rw [Tryd.params4] at hA hval
  obtain ⟨v0, v1, v2, d0, d1, d2, p0, p1, p2, rfl, rfl, rfl, h0, h1, h2⟩ := trodAll_three hA
  obtain ⟨rfl, rfl⟩ := trodVars_none hV
  obtain ⟨a, rfl, rfl⟩ := open_label (hval 0 25 v0 rfl rfl) h0
  obtain ⟨b, rfl, rfl⟩ := open_label (hval 1 25 v1 rfl rfl) h1
  obtain ⟨c, rfl, rfl⟩ := open_label (hval 2 25 v2 rfl rfl) h2
  have harg : ∀ (W' : World) (l : Lab) (d : DataW H), Below W.heap.size W W' → DataW.Trod enc Tryd.prog W 0 (fun _ => true) true 25 (.agg (encL l)) d [] → DataW.Trod enc Tryd.prog W' 0 (fun b => decide (b < W.heap.size)) true 25 (.agg (encL l)) d [] :=
    fun W' l d hn h => Below.trod laidOut (by kernel_rfl) (of_decide_eq_true (by kernel_rfl)) h hn (fun x hx => by cases hx)
  clear hA0 hval0
  simp only [List.append_nil] at hW'
  refine (orders_walk a b c W (libOk_of_laidO hsh hL)).mono fun e W' ⟨he, hnx⟩ => ?_
  subst he
  refine ⟨_, rfl, _, _, _, [], [], [], hW', ?_, ?_, rfl, hnx.frame _, fun h => by cases h⟩
  · exact trodAll_mk1 (shut_bool Tryd.underlying4 true)
  · exact trodAll_mk3 (harg W' a d0 hnx h0) (harg W' b d1 hnx h1) (harg W' c d2 hnx h2)
theorem orders_row : Rows.LabelOrdersSaid :=
  OpenClaim.holds_of_cond 4 Tryd.f4 rfl rfl rfl rfl rfl rfl rfl ⟨rfl, rfl, rfl, rfl, rfl⟩ rfl rfl rfl rfl rfl (by kernel_rfl) Tryd.func4 (by kernel_rfl)
    (of_decide_eq_true (by kernel_rfl)) (by unfold Func.isWrapper; first | (rw [if_pos (by decide +kernel)]; kernel_rfl) | (rw [if_neg (by decide +kernel)]; exact ⟨rfl, rfl⟩))
    (fun os started H enc _ F => by rw [OpenClaim.pre_eq_preRow]; exact liftedO os started H enc F)
theorem labelOrders_card : Rows.LabelOrdersCardSaid :=
  Claim7.holds_tied_plain_at .later [] [.data, .data, .data, .data, .sentinel, .sentinel, .pinned] true Rows.labelOrdersCard.stood.harness true
    orders_row (fun _ h => by cases h) (by kernel_rfl) (fun _ h => by cases h) labelOrders_row_tie rfl ⟨rfl, rfl⟩ (by kernel_rfl) rfl
    (fun f fn hf hfn => by
      obtain rfl : f = 4 := Option.some.inj ((show Tryd.prog.funcNamed "guerite/gueritelaw09.LabelOrders" = some 4 by kernel_rfl).symm.trans hf) |>.symm
      obtain rfl : fn = Tryd.f4 := (Option.some.inj (Tryd.func4.symm.trans hfn)).symm
      exact ⟨by kernel_rfl, fun j t ht => by
        rw [Tryd.params4] at ht
        have hm : t ∈ [25, 25, 25] := by simpa using Array.mem_of_getElem? ht
        have hall : ([25, 25, 25].all fun u => !Tryd.prog.wantsStandIn u) = true := by kernel_rfl
        exact (show Tryd.prog.wantsStandIn t = false by simpa using List.all_eq_true.1 hall t hm)⟩)
    (by kernel_rfl)
end Go.Proofs.YtbnjnomlgamheaaDoor
