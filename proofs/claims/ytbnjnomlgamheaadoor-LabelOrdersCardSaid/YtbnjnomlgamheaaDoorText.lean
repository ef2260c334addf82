/- A set of categories, told. -/
import Derived.Test.YtbnjnomlgamheaaDoorList
import Derived.Test.YtbnjnomlgamheaaDoorLibs
import Derived.Lib.ItoaLen
namespace Go.Proofs.YtbnjnomlgamheaaDoor
set_option linter.unusedSimpArgs false
set_option linter.unusedVariables false
open Go.RowKit
/-- Some categories that follow one another, told. -/
def runT (lo hi : Nat) : List UInt8 := if hi = lo then Lib.itoa lo else if hi = lo + 1 then Lib.itoa lo ++ [44] ++ Lib.itoa hi else Lib.itoa lo ++ [45] ++ Lib.itoa hi
theorem run_any (lo hi : Nat) (h : lo ≤ hi) (hh : hi < 240) (w : World) (hL : LibOk w) :
    Calls Tryd.prog 38 #[.int .i64 lo, .int .i64 hi] w fun e w' => e = .returned (.string ⟨(runT lo hi).toArray⟩) ∧ Below w.heap.size w w' := by
  have l1 := Lib.itoa_length_le lo (by omega) (by omega)
  have l2 := Lib.itoa_length_le hi (by omega) (by omega)
  by_cases h0 : hi = lo
  · subst h0
    go_enter Tryd.func38, Tryd.ntmps38
    go_wp2_with (go_at_call 26; refine (itoa_any _ (by omega) (by omega) _ hL).mono ?_; rintro e w1 ⟨rfl, hb1⟩)
    go_ret
    exact ⟨by simp [runT], hb1⟩
  · by_cases h1 : hi = lo + 1
    · subst h1
      simp only [Int.natCast_add, Int.cast_ofNat_Int] at l2
      go_enter Tryd.func38, Tryd.ntmps38
      go_wp2_with (go_at_call 26; refine (itoa_any _ (by omega) (by omega) _ (by first | exact hL | exact hL.below (by assumption))).mono ?_; rintro e w1 ⟨rfl, hb1⟩)
      go_ret
      refine ⟨ret_str ?_, ?_⟩
      · show (⟨(Lib.itoa lo).toArray⟩ ++ ⟨[44].toArray⟩ ++ ⟨(Lib.itoa ((lo : Int) + 1)).toArray⟩ : ByteArray) = _
        rw [bacat, bacat]
        simp [runT]
      · repeat (first | exact Below.refl _ _ | refine bstep ?_ (by assumption))
    · have e1 : ((hi : Int) - lo == 0) = false := by rw [beq_eq_false_iff_ne]; omega
      have e2 : ((hi : Int) - lo == 1) = false := by rw [beq_eq_false_iff_ne]; omega
      go_enter Tryd.func38, Tryd.ntmps38
      go_wp2_with (go_at_call 26; refine (itoa_any _ (by omega) (by omega) _ (by first | exact hL | exact hL.below (by assumption))).mono ?_; rintro e w1 ⟨rfl, hb1⟩)
      go_ret
      refine ⟨ret_str ?_, ?_⟩
      · show (⟨(Lib.itoa lo).toArray⟩ ++ ⟨[45].toArray⟩ ++ ⟨(Lib.itoa hi).toArray⟩ : ByteArray) = _
        rw [bacat, bacat]
        simp [runT, h0, h1]
      · repeat (first | exact Below.refl _ _ | refine bstep ?_ (by assumption))
/-- Where a run ends that is at k, and what stands behind it. -/
def runEnd : Nat → List Nat → Nat × List Nat
  | k, [] => (k, [])
  | k, y :: r => if y = k + 1 then runEnd y r else (k, y :: r)
theorem runEnd_le : ∀ (k : Nat) (l : List Nat), (runEnd k l).2.length ≤ l.length
  | k, [] => Nat.le_refl _
  | k, y :: r => by
    unfold runEnd
    split
    · exact Nat.le_trans (runEnd_le y r) (by simp)
    · exact Nat.le_refl _
/-- The runs of a list, told. -/
def pieces : List Nat → List (List UInt8)
  | [] => []
  | x :: r => runT x (runEnd x r).1 :: pieces (runEnd x r).2
  termination_by l => l.length
  decreasing_by exact Nat.lt_succ_of_le (runEnd_le x r)
def textC (c : Cts) : List UInt8 := if listC c = [] then [45] else Lib.join (pieces (listC c)) [44]
theorem lens_le (B : Nat) : ∀ (xs : List (List UInt8)), (∀ x ∈ xs, x.length ≤ B) → Lib.lens xs ≤ B * xs.length
  | [], _ => by simp [Lib.lens]
  | x :: r, h => by
    have h1 := h x (by simp)
    have h2 := lens_le B r (fun y hy => h y (by simp [hy]))
    have e : Lib.lens (x :: r) = x.length + Lib.lens r := by simp [Lib.lens]
    rw [e, List.length_cons, Nat.mul_succ]
    omega
theorem join_len_le (B : Nat) (xs : List (List UInt8)) (sep : List UInt8) (h : ∀ x ∈ xs, x.length ≤ B) : (Lib.join xs sep).length ≤ (B + sep.length) * xs.length := by
  cases xs with
  | nil => simp [Lib.join_nil]
  | cons x r =>
    rw [Lib.join_length]
    have := lens_le B (x :: r) h
    rw [Nat.add_mul]
    have h2 : sep.length * r.length ≤ sep.length * (x :: r).length := Nat.mul_le_mul_left _ (by simp)
    omega
theorem runT_len (lo hi : Nat) (h1 : lo < 240) (h2 : hi < 240) : (runT lo hi).length ≤ 43 := by
  have l1 := Lib.itoa_length_le lo (by omega) (by omega)
  have l2 := Lib.itoa_length_le hi (by omega) (by omega)
  unfold runT
  split
  · omega
  · split <;> simp <;> omega
theorem runEnd_lt (B : Nat) : ∀ (k : Nat) (l : List Nat), k < B → (∀ y ∈ l, y < B) → (runEnd k l).1 < B ∧ ∀ y ∈ (runEnd k l).2, y < B
  | k, [], h, _ => ⟨h, fun y hy => by simp [runEnd] at hy⟩
  | k, y :: r, h, hl => by
    unfold runEnd
    split
    · exact runEnd_lt B y r (hl y (by simp)) (fun z hz => hl z (by simp [hz]))
    · exact ⟨h, hl⟩
theorem pieces_len : ∀ (n : Nat) (l : List Nat), l.length ≤ n → (∀ y ∈ l, y < 240) → (pieces l).length ≤ l.length ∧ ∀ x ∈ pieces l, x.length ≤ 43
  | 0, l, hn, _ => by
    obtain rfl : l = [] := List.length_eq_zero_iff.1 (by omega)
    simp [pieces]
  | n + 1, [], _, _ => by simp [pieces]
  | n + 1, x :: r, hn, hl => by
    have hx := hl x (by simp)
    obtain ⟨h1, h2⟩ := runEnd_lt 240 x r hx (fun y hy => hl y (by simp [hy]))
    have hle := runEnd_le x r
    simp only [List.length_cons] at hn
    obtain ⟨h3, h4⟩ := pieces_len n (runEnd x r).2 (by omega) h2
    rw [pieces]
    refine ⟨by simp only [List.length_cons]; omega, fun z hz => ?_⟩
    rcases List.mem_cons.1 hz with rfl | hz
    · exact runT_len _ _ hx h1
    · exact h4 z hz
theorem pieces_ne {l : List Nat} (h : l ≠ []) : pieces l ≠ [] := by
  cases l with
  | nil => exact absurd rfl h
  | cons x r => rw [pieces]; simp
end Go.Proofs.YtbnjnomlgamheaaDoor
