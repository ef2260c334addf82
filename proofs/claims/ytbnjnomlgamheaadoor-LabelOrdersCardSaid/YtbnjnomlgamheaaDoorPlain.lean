/- The plain laws of labels. -/
import Derived.Test.YtbnjnomlgamheaaDoorAwake
namespace Go.Proofs.YtbnjnomlgamheaaDoor
set_option linter.unusedSimpArgs false
set_option linter.unusedVariables false
open Go.RowKit
open Lib (compareBytes)
theorem cb_anti : ∀ (a b : List UInt8), compareBytes b a = - compareBytes a b
  | [], [] => rfl
  | [], _ :: _ => rfl
  | _ :: _, [] => rfl
  | x :: r, y :: s => by
    unfold compareBytes
    rcases Nat.lt_trichotomy x.toNat y.toNat with h | h | h
    · have h1 : x < y := h
      have h2 : ¬ y < x := by rw [UInt8.lt_iff_toNat_lt]; omega
      simp [h1, h2]
    · have h1 : ¬ x < y := by rw [UInt8.lt_iff_toNat_lt]; omega
      have h2 : ¬ y < x := by rw [UInt8.lt_iff_toNat_lt]; omega
      rw [if_neg h1, if_neg h2, if_neg h2, if_neg h1]
      exact cb_anti r s
    · have h1 : y < x := h
      have h2 : ¬ x < y := by rw [UInt8.lt_iff_toNat_lt]; omega
      simp [h1, h2]
theorem cb_range : ∀ (a b : List UInt8), compareBytes a b = -1 ∨ compareBytes a b = 0 ∨ compareBytes a b = 1
  | [], [] => by simp [compareBytes]
  | [], _ :: _ => by simp [compareBytes]
  | _ :: _, [] => by simp [compareBytes]
  | x :: r, y :: s => by
    unfold compareBytes
    split
    · simp
    · split
      · simp
      · exact cb_range r s
theorem cb_zero : ∀ (a b : List UInt8), compareBytes a b = 0 ↔ a = b
  | [], [] => by simp [compareBytes]
  | [], _ :: _ => by simp [compareBytes]
  | _ :: _, [] => by simp [compareBytes]
  | x :: r, y :: s => by
    unfold compareBytes
    rcases Nat.lt_trichotomy x.toNat y.toNat with h | h | h
    · have h1 : x < y := h
      rw [if_pos h1]
      constructor
      · intro h; cases h
      · intro h; injection h with h _; subst h; exact absurd h1 (by rw [UInt8.lt_iff_toNat_lt]; omega)
    · have h1 : ¬ x < y := by rw [UInt8.lt_iff_toNat_lt]; omega
      have h2 : ¬ y < x := by rw [UInt8.lt_iff_toNat_lt]; omega
      have he : x = y := UInt8.toNat_inj.1 h
      rw [if_neg h1, if_neg h2, cb_zero r s, he]
      simp
    · have h1 : y < x := h
      have h2 : ¬ x < y := by rw [UInt8.lt_iff_toNat_lt]; omega
      rw [if_neg h2, if_pos h1]
      constructor
      · intro h; cases h
      · intro h; injection h with h _; subst h; exact absurd h1 h2
theorem cb_trans : ∀ (a b c : List UInt8), compareBytes a b ≤ 0 → compareBytes b c ≤ 0 → compareBytes a c ≤ 0
  | [], _, [] => by intros; simp [compareBytes]
  | [], _, _ :: _ => by intros; simp [compareBytes]
  | _ :: _, [], _ => by intro h; simp [compareBytes] at h
  | _ :: _, _ :: _, [] => by intro _ h; simp [compareBytes] at h
  | x :: r, y :: s, z :: t => by
    unfold compareBytes
    intro h1 h2
    have l1 : ∀ u v : UInt8, (u < v) = (u.toNat < v.toNat) := fun u v => propext UInt8.lt_iff_toNat_lt
    simp only [l1] at h1 h2 ⊢
    by_cases a1 : x.toNat < y.toNat
    · by_cases a2 : y.toNat < z.toNat
      · rw [if_pos (by omega)]; decide
      · rw [if_neg a2] at h2
        by_cases a3 : z.toNat < y.toNat
        · rw [if_pos a3] at h2; exact absurd h2 (by decide)
        · rw [if_pos (by omega)]; decide
    · rw [if_neg a1] at h1
      by_cases b1 : y.toNat < x.toNat
      · rw [if_pos b1] at h1; exact absurd h1 (by decide)
      · rw [if_neg b1] at h1
        by_cases a2 : y.toNat < z.toNat
        · rw [if_pos (by omega)]; decide
        · rw [if_neg a2] at h2
          by_cases a3 : z.toNat < y.toNat
          · rw [if_pos a3] at h2; exact absurd h2 (by decide)
          · rw [if_neg a3] at h2
            rw [if_neg (by omega), if_neg (by omega)]
            exact cb_trans r s t h1 h2
theorem cmpL_eq (a b : Lab) : cmpL a b = if a.level < b.level then -1 else if b.level < a.level then 1 else compareBytes a.cats.toList b.cats.toList := by
  unfold cmpL
  by_cases h : a = b
  · subst h
    rw [if_pos rfl, if_neg (by omega), if_neg (by omega), (cb_zero _ _).2 rfl]
  · rw [if_neg h]
    simp only [orI, cmpI]
    by_cases h1 : a.level < b.level
    · simp [h1]
    · by_cases h2 : b.level < a.level
      · simp [h1, h2]
      · simp only [h1, h2, if_false, if_true]
        split
        · rename_i h0; exact h0.symm
        · rfl
theorem cmpL_range (a b : Lab) : cmpL a b = -1 ∨ cmpL a b = 0 ∨ cmpL a b = 1 := by
  rw [cmpL_eq]
  have := cb_range a.cats.toList b.cats.toList
  split
  · simp
  · split
    · simp
    · exact this
theorem cmpL_anti (a b : Lab) : cmpL b a = - cmpL a b := by
  rw [cmpL_eq, cmpL_eq, cb_anti a.cats.toList b.cats.toList]
  by_cases h1 : a.level < b.level
  · rw [if_pos h1, if_neg (by omega), if_pos h1]; rfl
  · by_cases h2 : b.level < a.level
    · rw [if_pos h2, if_neg h1, if_pos h2]
    · rw [if_neg h2, if_neg h1, if_neg h1, if_neg h2]
theorem cmpL_zero (a b : Lab) : cmpL a b = 0 ↔ a = b := by
  rw [cmpL_eq]
  constructor
  · intro h
    by_cases h1 : a.level < b.level
    · rw [if_pos h1] at h; cases h
    · rw [if_neg h1] at h
      by_cases h2 : b.level < a.level
      · rw [if_pos h2] at h; cases h
      · rw [if_neg h2] at h
        have := (cb_zero _ _).1 h
        exact Lab.ext' (by omega) (Vector.toList_inj.1 this)
  · intro h; subst h
    rw [if_neg (by omega), if_neg (by omega), (cb_zero _ _).2 rfl]
theorem cmpL_trans (a b c : Lab) (h1 : cmpL a b ≤ 0) (h2 : cmpL b c ≤ 0) : cmpL a c ≤ 0 := by
  rw [cmpL_eq] at h1 h2 ⊢
  by_cases a1 : a.level < b.level
  · by_cases a2 : b.level < c.level
    · rw [if_pos (by omega)]; decide
    · rw [if_neg a2] at h2
      by_cases a3 : c.level < b.level
      · rw [if_pos a3] at h2; exact absurd h2 (by decide)
      · rw [if_pos (by omega)]; decide
  · rw [if_neg a1] at h1
    by_cases b1 : b.level < a.level
    · rw [if_pos b1] at h1; exact absurd h1 (by decide)
    · rw [if_neg b1] at h1
      by_cases a2 : b.level < c.level
      · rw [if_pos (by omega)]; decide
      · rw [if_neg a2] at h2
        by_cases a3 : c.level < b.level
        · rw [if_pos a3] at h2; exact absurd h2 (by decide)
        · rw [if_neg a3] at h2
          rw [if_neg (by omega), if_neg (by omega)]
          exact cb_trans _ _ _ h1 h2

/-! ### What dominates -/
theorem within_refl (a : Cts) : withinC a a = true := by
  unfold withinC
  rw [decide_eq_true_eq]
  ext i h
  simp [meetC]
theorem within_get {a b : Cts} (h : withinC a b = true) (i : Nat) (hi : i < 30) : a[i] &&& b[i] = a[i] := by
  unfold withinC at h
  rw [decide_eq_true_eq] at h
  have := congrArg (fun v : Cts => v[i]) h
  simpa [meetC] using this
theorem within_of {a b : Cts} (h : ∀ i (hi : i < 30), a[i] &&& b[i] = a[i]) : withinC a b = true := by
  unfold withinC
  rw [decide_eq_true_eq]
  ext i hi
  rw [← h i hi]
  simp [meetC]
theorem within_anti {a b : Cts} (h1 : withinC a b = true) (h2 : withinC b a = true) : a = b := by
  ext i hi
  rw [← within_get h1 i hi, UInt8.and_comm, within_get h2 i hi]
theorem within_trans {a b c : Cts} (h1 : withinC a b = true) (h2 : withinC b c = true) : withinC a c = true :=
  within_of fun i hi => by
    have e1 := within_get h1 i hi
    have e2 := within_get h2 i hi
    calc a[i] &&& c[i] = (a[i] &&& b[i]) &&& c[i] := by rw [e1]
      _ = a[i] &&& (b[i] &&& c[i]) := by rw [UInt8.and_assoc]
      _ = a[i] := by rw [e2, e1]
theorem dom_refl (a : Lab) : domL a a = true := by simp [domL, within_refl]
theorem dom_anti {a b : Lab} (h1 : domL a b = true) (h2 : domL b a = true) : a = b := by
  simp only [domL, Bool.and_eq_true, decide_eq_true_eq] at h1 h2
  exact Lab.ext' (by omega) (within_anti h2.2 h1.2)
theorem dom_trans {a b c : Lab} (h1 : domL a b = true) (h2 : domL b c = true) : domL a c = true := by
  simp only [domL, Bool.and_eq_true, decide_eq_true_eq] at h1 h2 ⊢
  exact ⟨by omega, within_trans h2.2 h1.2⟩
theorem hasC_bit (c : Cts) (k : Nat) (hk : k < 240) : hasC c k = c[k / 8].toNat.testBit (7 - k % 8) := by
  unfold hasC
  rw [dif_pos hk, Nat.testBit_eq_decide_div_mod_eq]
  rfl
theorem refW_within (a b : Cts) : refW a b = withinC a b := by
  rw [Bool.eq_iff_iff, refW_iff]
  constructor
  · intro h
    refine within_of fun i hi => ?_
    apply UInt8.toNat_inj.1
    rw [UInt8.toNat_and]
    apply Nat.eq_of_testBit_eq
    intro j
    rw [Nat.testBit_and]
    by_cases hj : j < 8
    · have hk : 8 * i + (7 - j) < 240 := by omega
      have h1 := h (8 * i + (7 - j)) hk
      rw [hasC_bit _ _ hk, hasC_bit _ _ hk] at h1
      have e1 : (8 * i + (7 - j)) / 8 = i := by omega
      have e2 : 7 - (8 * i + (7 - j)) % 8 = j := by omega
      simp only [e1, e2] at h1
      cases ha : a[i].toNat.testBit j with
      | false => rfl
      | true => rw [h1 ha]; rfl
    · have : a[i].toNat.testBit j = false := by
        apply Nat.testBit_lt_two_pow
        have h1 := a[i].toNat_lt
        have h2 : 2 ^ 8 ≤ 2 ^ j := Nat.pow_le_pow_right (by omega) (by omega)
        omega
      rw [this]; rfl
  · intro h k hk ha
    have e := within_get h (k / 8) (by omega)
    rw [hasC_bit _ _ hk] at ha ⊢
    have e2 := congrArg UInt8.toNat e
    rw [UInt8.toNat_and] at e2
    rw [← e2, Nat.testBit_and, Bool.and_eq_true] at ha
    exact ha.2
end Go.Proofs.YtbnjnomlgamheaaDoor
