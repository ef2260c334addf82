/- Labels: right ones; which of two stands first. -/
import Derived.Test.YtbnjnomlgamheaaDoorDom
import Derived.Lib.BytesEntry
import Derived.Lib.Bytealg
import Derived.Laws.Externs
namespace Go.Proofs.YtbnjnomlgamheaaDoor
set_option linter.unusedSimpArgs false
set_option linter.unusedVariables false
open Go.RowKit
def rightL (l : Lab) : Bool := decide (0 ≤ l.level) && decide (l.level ≤ 255)
theorem right1_any (l : Lab) (w : World) :
  Calls Tryd.prog 19 #[.agg (encL l)] w fun e w' => e = .returned (.bool (rightL l)) ∧ Below w.heap.size w w' := by
  by_cases h0 : 0 ≤ l.level
  · go_enter Tryd.func19, Tryd.ntmps19
    go_wp2
    go_ret
    exact ⟨ret_bool (by simp [rightL, h0]), balloc (Below.refl _ _) _⟩
  · go_enter Tryd.func19, Tryd.ntmps19
    go_wp2
    go_ret
    have h0' : ¬ 0 ≤ l.level := by omega
    exact ⟨ret_bool (by simp [rightL, h0']), balloc (Below.refl _ _) _⟩
set_option maxRecDepth 100000 in
theorem right_any (ls : List Lab) (w : World) (v : Value) (hv : SlV w 31 (ls.map fun l => (encL l).toList) v) :
  Calls Tryd.prog 10 #[v] w fun e w' => e = .returned (.bool (ls.all rightL)) ∧ Below w.heap.size w w' := by
  rcases hv.split with ⟨h0, a, cap, rfl⟩ | ⟨b, o, cap, rfl, hm, h0, _, h2⟩
  · have : ls = [] := by simpa using h0
    subst this
    clear h0 hv
    go_enter Tryd.func10, Tryd.ntmps10
    go_wp2
    refine wp_loop_rounds 1 ?_
    rw [rounds_succ]
    go_wp2
    go_ret
    exact ⟨rfl, Below.refl _ _⟩
  · rw [List.length_map] at hm h0
    simp only [List.length_map]
    have H2 := Lib.hid h2
    clear h2 hv
    go_enter Tryd.func10, Tryd.ntmps10
    go_wp2
    go_loopw [7] (fun i wr => ∃ k : Nat, k ≤ ls.length ∧ i = .int .i64 k ∧ (ls.take k).all rightL = true ∧ Below w.heap.size w wr) (fun i _ => ls.length - (intOf i).toNat)
    case atStart => exact ⟨0, by omega, rfl, rfl, Below.refl _ _⟩
    case round =>
      obtain ⟨k, hk, rfl, hP, hb⟩ := hrel
      have HP := Lib.hid hP
      clear hP
      by_cases hlt : k < ls.length
      · have hr := (H2.out k (encL ls[k]).toList (by simp [hlt])).2
        have HR := Lib.hid (rangeAt_below hb hr)
        clear hr
        cases hq : rightL ls[k] with
        | true =>
          have HQ := Lib.hid hq
          clear hq
          go_wp2_with (first
            | (refine wpList_load_g rfl 25 _ rfl b _ rfl (encL ls[k]).toList _ HR.out Tryd.underlying25 rfl (infoLl _) ?_)
            | (refine wpList_store_new rfl 25 _ _ rfl wr.heap.size (encL ls[k]) rfl rfl wr 25 _ rfl rfl (infoL _) (sizeL _ rfl) (all_encL _) ?_)
            | (refine wpList_load_row rfl 25 _ rfl wr.heap.size rfl 25 (encL ls[k]) (0, 0) _ (heap_alloc_last wr _) Tryd.underlying25 rfl (infoL _) ?_)
            | (go_at_call 19; refine (right1_any ls[k] _).mono ?_; rintro e w1 ⟨rfl, hb1⟩; rw [HQ.out]))
          refine ⟨⟨k + 1, by omega, by go_num, ?_, bstep hb (bstep (balloc (Below.refl _ _) _) hb1)⟩, by simp [intOf]; omega⟩
          rw [List.take_succ_eq_append_getElem hlt, List.all_append, HP.out]
          simp [HQ.out]
        | false =>
          have HQ := Lib.hid hq
          clear hq
          go_wp2_with (first
            | (refine wpList_load_g rfl 25 _ rfl b _ rfl (encL ls[k]).toList _ HR.out Tryd.underlying25 rfl (infoLl _) ?_)
            | (refine wpList_store_new rfl 25 _ _ rfl wr.heap.size (encL ls[k]) rfl rfl wr 25 _ rfl rfl (infoL _) (sizeL _ rfl) (all_encL _) ?_)
            | (refine wpList_load_row rfl 25 _ rfl wr.heap.size rfl 25 (encL ls[k]) (0, 0) _ (heap_alloc_last wr _) Tryd.underlying25 rfl (infoL _) ?_)
            | (go_at_call 19; refine (right1_any ls[k] _).mono ?_; rintro e w1 ⟨rfl, hb1⟩; rw [HQ.out]))
          go_ret
          refine ⟨ret_bool ?_, bstep hb (bstep (balloc (Below.refl _ _) _) hb1)⟩
          symm
          rw [Bool.eq_false_iff]
          intro h
          have := List.all_eq_true.1 h ls[k] (List.getElem_mem hlt)
          rw [HQ.out] at this; cases this
      · obtain rfl : k = ls.length := by omega
        go_wp2
        go_ret
        exact ⟨ret_bool (by rw [← HP.out, List.take_length]), hb⟩

theorem isNaN_any (x : Int) (w : World) : Calls Tryd.prog 20 #[.int .i64 x] w fun e w' => e = .returned (.bool false) ∧ w = w' := by
  go_enter Tryd.func20, Tryd.ntmps20
  go_wp2
  go_ret
  exact ⟨rfl, rfl⟩
/-- -1, 0, 1. -/
def cmpI (x y : Int) : Int := if x < y then -1 else if y < x then 1 else 0
theorem cmpI_any (x y : Int) (w : World) : Calls Tryd.prog 12 #[.int .i64 x, .int .i64 y] w fun e w' => e = .returned (.int .i64 (cmpI x y)) ∧ w = w' := by
  go_enter Tryd.func12, Tryd.ntmps12
  go_wp2_with (go_at_call 20; refine (isNaN_any _ _).mono ?_; rintro e w1 ⟨rfl, rfl⟩)
  all_goals
    go_ret
    exact ⟨ret_int (by unfold cmpI; (repeat' split) <;> omega), rfl⟩

/-- The first that is not 0. -/
def orI : List Int → Int
  | [] => 0
  | x :: r => if x = 0 then orI r else x
theorem orI_drop (zs : List Int) (k : Nat) (h : ∀ j, j < k → zs.getD j 0 = 0) : orI zs = orI (zs.drop k) := by
  induction k generalizing zs with
  | zero => rfl
  | succ k ih =>
    cases zs with
    | nil => rfl
    | cons x r =>
      have h0 : x = 0 := by simpa using h 0 (by omega)
      rw [List.drop_succ_cons, ← ih r (fun j hj => by simpa using h (j + 1) (by omega))]
      simp [orI, h0]
theorem or_any (zs : List Int) (w : World) (v : Value) (hv : SlV w 1 (zs.map fun z => [.int .i64 z]) v) :
  Calls Tryd.prog 11 #[v] w fun e w' => e = .returned (.int .i64 (orI zs)) ∧ w = w' := by
  rcases hv.split with ⟨h0, a, cap, rfl⟩ | ⟨b, o, cap, rfl, hm, h0, _, h2⟩
  · have : zs = [] := by simpa using h0
    subst this
    clear h0 hv
    go_enter Tryd.func11, Tryd.ntmps11
    go_wp2
    refine wp_loop_rounds 1 ?_
    rw [rounds_succ]
    go_wp2
    go_ret
    exact ⟨rfl, rfl⟩
  · rw [List.length_map] at hm h0
    simp only [List.length_map]
    have H2 := Lib.hid h2
    clear h2 hv
    go_enter Tryd.func11, Tryd.ntmps11
    go_wp2
    go_loop [8] (fun i => ∃ k : Nat, k ≤ zs.length ∧ i = .int .i64 k ∧ (∀ j, j < k → zs.getD j 0 = 0)) (fun i => zs.length - (intOf i).toNat)
    case atStart => exact ⟨0, by omega, rfl, fun j hj => by omega⟩
    case round =>
      obtain ⟨k, hk, rfl, hP⟩ := hrel
      have HP := Lib.hid hP
      clear hP
      by_cases hlt : k < zs.length
      · have hc : w.cell? ⟨b, o + k, none⟩ = some (.int .i64 zs[k]) := by
          have := (H2.out k [.int .i64 zs[k]] (by simp [hlt])).2 0 _ rfl
          simpa using this
        by_cases hz : zs[k] = 0
        · rw [hz] at hc
          go_wp2
          refine ⟨⟨k + 1, by omega, by go_num, fun j hj => ?_⟩, by simp [intOf]; omega⟩
          by_cases e : j = k
          · subst e; simp [hlt, hz]
          · exact HP.out j (by omega)
        · have hz' : (zs[k] == 0) = false := by simpa using hz
          have hr : zs[k] = orI zs := by
            rw [orI_drop zs k HP.out, List.drop_eq_getElem_cons hlt]
            simp [orI, hz]
          have HR := Lib.hid hr
          clear hr
          go_wp2
          go_ret
          exact ⟨ret_int HR.out, rfl⟩
      · obtain rfl : k = zs.length := by omega
        have hr : (0 : Int) = orI zs := by
          rw [orI_drop zs zs.length HP.out, List.drop_length]
          rfl
        have HR := Lib.hid hr
        clear hr
        go_wp2
        go_ret
        exact ⟨ret_int HR.out, rfl⟩

theorem run_loadB (w : World) (l : List UInt8) (b o : Nat) (h : w.rangeAt b o (l.map vb)) : (Extern.Bytes.loadBytes ⟨b, o, none⟩ l.length .empty).run Tryd.prog w = .ok ⟨l.toArray⟩ w := by
  have := Lib.run_loadBytesX (P := Tryd.prog) w (l.map fun x => (x.toNat : Int)) ⟨b, o, none⟩ .empty (fun j x hx => by
    rw [Addr.add_mid]
    rw [List.getElem?_map] at hx
    obtain ⟨y, hy, rfl⟩ := Option.map_eq_some_iff.1 hx
    exact h j _ (by rw [List.getElem?_map, hy]; rfl))
  rw [List.length_map] at this
  rw [this]
  congr 2
  simp only [Lib.bytesOf, List.map_map]
  have e : ((fun n : Int => UInt8.ofNat n.toNat) ∘ fun x : UInt8 => (x.toNat : Int)) = id := by
    funext x
    simp
  rw [e, List.map_id]
  simp
theorem run_bcmp (w : World) (la lb : List UInt8) (b o c b' o' c' : Nat) (h1 : w.rangeAt b o (la.map vb)) (h2 : w.rangeAt b' o' (lb.map vb)) :
    (callFunc 21 #[.slice (some ⟨b, o, none⟩) la.length c, .slice (some ⟨b', o', none⟩) lb.length c']).run Tryd.prog w = .ok (.value (.int .i64 (Lib.compareBytes la lb))) w := by
  rw [run_callFunc_extern (P := Tryd.prog) (fn := Tryd.f21) (e := Extern.BytealgCompare.compare) (by kernel_rfl) (by kernel_rfl) (by kernel_rfl) (by kernel_rfl) (by kernel_rfl)]
  have : (Extern.BytealgCompare.compare #[.slice (some ⟨b, o, none⟩) la.length c, .slice (some ⟨b', o', none⟩) lb.length c']).run Tryd.prog w = .ok (.int .i64 (Lib.compareBytes la lb)) w := by
    change Sem.run Tryd.prog (do pure (goInt (Extern.BytealgCompare.cmp (← Extern.Bytes.loadBytes ⟨b, o, none⟩ la.length .empty) (← Extern.Bytes.loadBytes ⟨b', o', none⟩ lb.length .empty)))) w = _
    simp only [Sem.run_bind, Sem.run_pure, Result.andThen, run_loadB w la b o h1, run_loadB w lb b' o' h2]
    rw [Lib.cmp_eq]
    rfl
  rw [this]
  rfl
theorem bcmp_any (w : World) (la lb : List UInt8) (b o c b' o' c' : Nat) (h1 : w.rangeAt b o (la.map vb)) (h2 : w.rangeAt b' o' (lb.map vb)) :
    Calls Tryd.prog 13 #[.slice (some ⟨b, o, none⟩) la.length c, .slice (some ⟨b', o', none⟩) lb.length c'] w fun e w' => e = .returned (.int .i64 (Lib.compareBytes la lb)) ∧ w = w' := by
  have hr := run_bcmp w la lb b o c b' o' c' h1 h2
  go_enter Tryd.func13, Tryd.ntmps13
  go_wp2
  go_ret
  exact ⟨rfl, rfl⟩
theorem bcmp30 (w : World) (x y : Cts) (b o c b' o' c' : Nat) (h1 : w.rangeAt b o (x.toList.map vb)) (h2 : w.rangeAt b' o' (y.toList.map vb)) :
    Calls Tryd.prog 13 #[.slice (some ⟨b, o, none⟩) 30 c, .slice (some ⟨b', o', none⟩) 30 c'] w fun e w' => e = .returned (.int .i64 (Lib.compareBytes x.toList y.toList)) ∧ w = w' := by
  have := bcmp_any w x.toList y.toList b o c b' o' c' h1 h2
  rw [Vector.length_toList, Vector.length_toList] at this
  exact this
end Go.Proofs.YtbnjnomlgamheaaDoor
