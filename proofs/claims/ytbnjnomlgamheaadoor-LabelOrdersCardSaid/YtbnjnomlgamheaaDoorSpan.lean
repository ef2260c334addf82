/- A piece of a text that tells categories. -/
import Derived.Test.YtbnjnomlgamheaaDoorTextC
namespace Go.Proofs.YtbnjnomlgamheaaDoor
set_option linter.unusedSimpArgs false
set_option linter.unusedVariables false
open Go.RowKit
def cutB (s : List UInt8) (c : UInt8) : List UInt8 × List UInt8 × Bool := Lib.cut s [c]
def spanLo (s : List UInt8) : Int := atoiV (cutB s 45).1
def spanHi (s : List UInt8) : Int := if (cutB s 45).2.2 then atoiV (cutB s 45).2.1 else spanLo s
def spanOk (s : List UInt8) : Bool := if (cutB s 45).2.2 then atoiOk (cutB s 45).1 && atoiOk (cutB s 45).2.1 && isCat (spanLo s) && isCat (spanHi s) else atoiOk (cutB s 45).1 && isCat (spanLo s)
theorem cut_len (s sep : List UInt8) : (Lib.cut s sep).1.length ≤ s.length ∧ (Lib.cut s sep).2.1.length ≤ s.length := by
  unfold Lib.cut
  split
  · simp only [List.length_take, List.length_drop]; omega
  · simp
set_option maxRecDepth 100000 in
theorem span_any (s : List UInt8) (hs : s.length < 4294967281) (w : World) (hL : LibOk w) :
    Calls Tryd.prog 34 #[.string ⟨s.toArray⟩] w fun e w' => e = .returned (.tuple #[.int .i64 (spanLo s), .int .i64 (spanHi s), .bool (spanOk s)]) ∧ Below w.heap.size w w' := by
  obtain ⟨hc1, hc2⟩ := cut_len s [45]
  have hcut := cut_any ⟨s.toArray⟩ ⟨#[45]⟩ hs
  have HCUT := Lib.hid hcut
  clear hcut
  have e1 : spanLo s = atoiV (Lib.cut s [45]).1 := rfl
  have e2 : spanHi s = if (Lib.cut s [45]).2.2 then atoiV (Lib.cut s [45]).2.1 else atoiV (Lib.cut s [45]).1 := rfl
  have e3 : spanOk s = if (Lib.cut s [45]).2.2 then atoiOk (Lib.cut s [45]).1 && atoiOk (Lib.cut s [45]).2.1 && isCat (atoiV (Lib.cut s [45]).1) && isCat (spanHi s) else atoiOk (Lib.cut s [45]).1 && isCat (atoiV (Lib.cut s [45]).1) := rfl
  rw [e2] at e3
  rw [e1, e2, e3]
  clear e1 e2 e3
  have e4 : (⟨s.toArray⟩ : ByteArray).data.toList = s := rfl
  have e5 : (⟨#[45]⟩ : ByteArray).data.toList = [45] := rfl
  simp only [e4, e5] at HCUT
  generalize Lib.cut s [45] = q at *
  obtain ⟨hd, tl, two⟩ := q
  dsimp only at *
  have hs1 : (⟨hd.toArray⟩ : ByteArray).size ≤ 281474976710656 := by show hd.toArray.size ≤ _; simp; omega
  have hs2 : (⟨tl.toArray⟩ : ByteArray).size ≤ 281474976710656 := by show tl.toArray.size ≤ _; simp; omega
  cases two with
  | false =>
    cases h1 : atoiOk hd with
    | false =>
      have H1 := Lib.hid h1
      clear h1
      go_enter Tryd.func34, Tryd.ntmps34
      go_wp2_with (first
        | (go_at_call 23; refine (HCUT.out _ hL).mono ?_; rintro e w1 ⟨rfl, hb1⟩)
        | (go_at_call 24; (with_reducible refine (atoi_no ⟨hd.toArray⟩ hs1 H1.out _ (hL.below (by assumption))).mono ?_); rintro e w2 ⟨⟨t1, p1, rfl⟩, hb2⟩)
        | (go_at_call 47; refine (right_cat _ _).mono ?_; rintro e w4 ⟨rfl, rfl⟩))
      go_ret3
      refine ⟨by simp [H1.out], ?_⟩
      repeat (first | exact Below.refl _ _ | refine bstep ?_ (by assumption))
    | true =>
      have H1 := Lib.hid h1
      clear h1
      cases c1 : isCat (atoiV hd) with
      | false =>
        go_enter Tryd.func34, Tryd.ntmps34
        go_wp2_with (first
          | (go_at_call 23; refine (HCUT.out _ hL).mono ?_; rintro e w1 ⟨rfl, hb1⟩)
          | (go_at_call 24; (with_reducible refine (atoi_yes ⟨hd.toArray⟩ hs1 H1.out _).mono ?_); rintro e w2 ⟨rfl, hb2⟩)
          | (go_at_call 47; refine (right_cat _ _).mono ?_; rintro e w4 ⟨rfl, rfl⟩))
        go_ret3
        refine ⟨by simp [H1.out], ?_⟩
        repeat (first | exact Below.refl _ _ | refine bstep ?_ (by assumption))
      | true =>
        go_enter Tryd.func34, Tryd.ntmps34
        go_wp2_with (first
          | (go_at_call 23; refine (HCUT.out _ hL).mono ?_; rintro e w1 ⟨rfl, hb1⟩)
          | (go_at_call 24; (with_reducible refine (atoi_yes ⟨hd.toArray⟩ hs1 H1.out _).mono ?_); rintro e w2 ⟨rfl, hb2⟩)
          | (go_at_call 47; refine (right_cat _ _).mono ?_; rintro e w4 ⟨rfl, rfl⟩))
        go_ret3
        refine ⟨by simp [H1.out], ?_⟩
        repeat (first | exact Below.refl _ _ | refine bstep ?_ (by assumption))
  | true =>
    cases h1 : atoiOk hd with
    | false =>
      have H1 := Lib.hid h1
      clear h1
      cases h2 : atoiOk tl with
      | false =>
        have H2 := Lib.hid h2
        clear h2
        go_enter Tryd.func34, Tryd.ntmps34
        go_wp2_with (first
          | (go_at_call 23; refine (HCUT.out _ hL).mono ?_; rintro e w1 ⟨rfl, hb1⟩)
          | (go_at_call 24; (with_reducible refine (atoi_no ⟨hd.toArray⟩ hs1 H1.out _ (hL.below (by assumption))).mono ?_); rintro e w2 ⟨⟨t1, p1, rfl⟩, hb2⟩)
          | (go_at_call 24; (with_reducible refine (atoi_no ⟨tl.toArray⟩ hs2 H2.out _ ((hL.below (by assumption)).below (by assumption))).mono ?_); rintro e w3 ⟨⟨t2, p2, rfl⟩, hb3⟩)
          | (go_at_call 47; refine (right_cat _ _).mono ?_; rintro e w4 ⟨rfl, rfl⟩))
        go_ret3
        refine ⟨by simp [H1.out, H2.out], ?_⟩
        repeat (first | exact Below.refl _ _ | refine bstep ?_ (by assumption))
      | true =>
        have H2 := Lib.hid h2
        clear h2
        go_enter Tryd.func34, Tryd.ntmps34
        go_wp2_with (first
          | (go_at_call 23; refine (HCUT.out _ hL).mono ?_; rintro e w1 ⟨rfl, hb1⟩)
          | (go_at_call 24; (with_reducible refine (atoi_no ⟨hd.toArray⟩ hs1 H1.out _ (hL.below (by assumption))).mono ?_); rintro e w2 ⟨⟨t1, p1, rfl⟩, hb2⟩)
          | (go_at_call 24; (with_reducible refine (atoi_yes ⟨tl.toArray⟩ hs2 H2.out _).mono ?_); rintro e w3 ⟨rfl, hb3⟩)
          | (go_at_call 47; refine (right_cat _ _).mono ?_; rintro e w4 ⟨rfl, rfl⟩))
        go_ret3
        refine ⟨by simp [H1.out, H2.out], ?_⟩
        repeat (first | exact Below.refl _ _ | refine bstep ?_ (by assumption))
    | true =>
      have H1 := Lib.hid h1
      clear h1
      cases h2 : atoiOk tl with
      | false =>
        have H2 := Lib.hid h2
        clear h2
        go_enter Tryd.func34, Tryd.ntmps34
        go_wp2_with (first
          | (go_at_call 23; refine (HCUT.out _ hL).mono ?_; rintro e w1 ⟨rfl, hb1⟩)
          | (go_at_call 24; (with_reducible refine (atoi_yes ⟨hd.toArray⟩ hs1 H1.out _).mono ?_); rintro e w2 ⟨rfl, hb2⟩)
          | (go_at_call 24; (with_reducible refine (atoi_no ⟨tl.toArray⟩ hs2 H2.out _ ((hL.below (by assumption)).below (by assumption))).mono ?_); rintro e w3 ⟨⟨t2, p2, rfl⟩, hb3⟩)
          | (go_at_call 47; refine (right_cat _ _).mono ?_; rintro e w4 ⟨rfl, rfl⟩))
        go_ret3
        refine ⟨by simp [H1.out, H2.out], ?_⟩
        repeat (first | exact Below.refl _ _ | refine bstep ?_ (by assumption))
      | true =>
        have H2 := Lib.hid h2
        clear h2
        cases c1 : isCat (atoiV hd) with
        | false =>
          go_enter Tryd.func34, Tryd.ntmps34
          go_wp2_with (first
            | (go_at_call 23; refine (HCUT.out _ hL).mono ?_; rintro e w1 ⟨rfl, hb1⟩)
            | (go_at_call 24; (with_reducible refine (atoi_yes ⟨hd.toArray⟩ hs1 H1.out _).mono ?_); rintro e w2 ⟨rfl, hb2⟩)
            | (go_at_call 24; (with_reducible refine (atoi_yes ⟨tl.toArray⟩ hs2 H2.out _).mono ?_); rintro e w3 ⟨rfl, hb3⟩)
            | (go_at_call 47; refine (right_cat _ _).mono ?_; rintro e w4 ⟨rfl, rfl⟩))
          go_ret3
          refine ⟨by simp [H1.out, H2.out], ?_⟩
          repeat (first | exact Below.refl _ _ | refine bstep ?_ (by assumption))
        | true =>
          cases c2 : isCat (atoiV tl) with
          | false =>
            go_enter Tryd.func34, Tryd.ntmps34
            go_wp2_with (first
              | (go_at_call 23; refine (HCUT.out _ hL).mono ?_; rintro e w1 ⟨rfl, hb1⟩)
              | (go_at_call 24; (with_reducible refine (atoi_yes ⟨hd.toArray⟩ hs1 H1.out _).mono ?_); rintro e w2 ⟨rfl, hb2⟩)
              | (go_at_call 24; (with_reducible refine (atoi_yes ⟨tl.toArray⟩ hs2 H2.out _).mono ?_); rintro e w3 ⟨rfl, hb3⟩)
              | (go_at_call 47; refine (right_cat _ _).mono ?_; rintro e w4 ⟨rfl, rfl⟩))
            go_ret3
            refine ⟨by simp [H1.out, H2.out], ?_⟩
            repeat (first | exact Below.refl _ _ | refine bstep ?_ (by assumption))
          | true =>
            go_enter Tryd.func34, Tryd.ntmps34
            go_wp2_with (first
              | (go_at_call 23; refine (HCUT.out _ hL).mono ?_; rintro e w1 ⟨rfl, hb1⟩)
              | (go_at_call 24; (with_reducible refine (atoi_yes ⟨hd.toArray⟩ hs1 H1.out _).mono ?_); rintro e w2 ⟨rfl, hb2⟩)
              | (go_at_call 24; (with_reducible refine (atoi_yes ⟨tl.toArray⟩ hs2 H2.out _).mono ?_); rintro e w3 ⟨rfl, hb3⟩)
              | (go_at_call 47; refine (right_cat _ _).mono ?_; rintro e w4 ⟨rfl, rfl⟩))
            go_ret3
            refine ⟨by simp [H1.out, H2.out], ?_⟩
            repeat (first | exact Below.refl _ _ | refine bstep ?_ (by assumption))
end Go.Proofs.YtbnjnomlgamheaaDoor
