/- Two sets of categories, two labels: '==' tells whether they are one. -/
import Derived.Test.YtbnjnomlgamheaaDoorProg
import Derived.Test.YtbnjnomlgamheaaDoorBase
import Derived.DeepKeys
namespace Go.Proofs.YtbnjnomlgamheaaDoor
set_option linter.unusedSimpArgs false
set_option linter.unusedVariables false
open Go.RowKit
theorem under_cats : Tryd.prog.underlying 23 = some (.array 30 5) := by kernel_rfl
theorem under_u8 : Tryd.prog.underlying 5 = some (.int .u8) := by kernel_rfl
theorem under_lab : ∃ fs, Tryd.prog.underlying 25 = some (.struct fs) ∧ fs.all (·.name != "_") = true ∧ fs.toList.map (fun f => (f.type, f.offset)) = [(3, 0), (23, 1)] := ⟨_, Tryd.underlying25, by kernel_rfl, by kernel_rfl⟩
theorem under_int : Tryd.prog.underlying 3 = some (.int .i64) := by kernel_rfl
theorem info_cats : (Tryd.prog.info? 23).map (·.size) = some 30 := by kernel_rfl
theorem info_lab : (Tryd.prog.info? 25).map (·.size) = some 31 := by kernel_rfl
theorem info_u8 : (Tryd.prog.info? 5).map (·.size) = some 1 := by kernel_rfl
theorem cells_cats : Tryd.prog.cellsOf 23 = 30 := by kernel_rfl
theorem cells_lab : Tryd.prog.cellsOf 25 = 31 := by kernel_rfl
theorem cells_u8 : Tryd.prog.cellsOf 5 = 1 := by kernel_rfl
theorem cells_int : Tryd.prog.cellsOf 3 = 1 := by kernel_rfl

def litC (c : Cts) : List Lit := c.toList.map fun x => Lit.int .u8 x.toNat
theorem litC_inj {a b : Cts} : litC a = litC b ↔ a = b := by
  constructor
  · intro h
    have hm : ∀ (x y : List UInt8), (x.map fun x => Lit.int .u8 (x.toNat : Int)) = (y.map fun x => Lit.int .u8 (x.toNat : Int)) → x = y := by
      intro x
      induction x with
      | nil => intro y h; cases y <;> simp_all
      | cons p r ih =>
        intro y h
        cases y with
        | nil => simp at h
        | cons q s =>
          simp only [List.map_cons, List.cons.injEq, Lit.int.injEq, true_and] at h
          have hpq : p = q := UInt8.toNat_inj.1 (by omega)
          rw [ih s h.2, hpq]
    exact Vector.toList_inj.1 (hm _ _ h)
  · rintro rfl; rfl
theorem mapM_range {α : Type} (f : Nat → Option α) (g : Nat → α) : ∀ (is : List Nat), (∀ i ∈ is, f i = some (g i)) → is.mapM f = some (is.map g)
  | [], _ => rfl
  | i :: r, h => by
    rw [List.mapM_cons, h i (by simp), mapM_range f g r (fun j hj => h j (by simp [hj]))]
    rfl
theorem flatten_one {α : Type} (g : Nat → α) : ∀ (is : List Nat), (is.map fun i => [g i]).flatten = is.map g
  | [] => rfl
  | i :: r => by simp [flatten_one g r]
theorem encC_list (c : Cts) : (encC c).toList = c.toList.map vb := by simp [encC, Vector.toList]
theorem keyLits_cats (D : Nat) (c : Cts) : Tryd.prog.keyLits (D + 2) 23 (encC c).toList = some (litC c) := by
  unfold Program.keyLits
  rw [under_cats]
  simp only [cells_cats, cells_u8]
  rw [if_pos (by simp)]
  rw [mapM_range _ (fun i => [Lit.int .u8 ((c.toList.getD i 0).toNat : Int)]) _ (fun i hi => ?_)]
  · rw [Option.map_some, flatten_one]
    congr 1
    unfold litC
    apply List.ext_getElem
    · simp
    · intro i h1 h2
      simp at h1
      simp [h1]
  · have hi : i < 30 := by simpa using hi
    have e : ((encC c).toList.drop (i * 1)).take 1 = [vb c[i]] := by
      rw [Nat.mul_one, List.drop_eq_getElem_cons (by simpa using hi)]
      simp [encC]
    rw [e]
    unfold Program.keyLits
    rw [under_u8]
    unfold vb
    have hw : (Lit.int .u8 (c[i].toNat : Int)).wf = true := by
      have := c[i].toNat_lt
      simp [Lit.wf, IntKind.min, IntKind.max, IntKind.signed, IntKind.bits]
      omega
    simp [hw, hi]
def litL (l : Lab) : List Lit := Lit.int .i64 l.level :: litC l.cats
theorem litL_inj {a b : Lab} : litL a = litL b ↔ a = b := by
  rw [Lab.eq_iff, ← litC_inj (a := a.cats)]
  simp [litL]
theorem encL_list (l : Lab) : (encL l).toList = .int .i64 l.level :: (encC l.cats).toList := by simp [encL]
theorem keyLits_lab (D : Nat) (l : Lab) : Tryd.prog.keyLits (D + 3) 25 (encL l).toList = some (litL l) := by
  have h0 : Tryd.prog.keyLits (D + 2) 3 [.int .i64 l.level] = some [Lit.int .i64 l.level] := by
    unfold Program.keyLits
    rw [under_int]
    have hw : (Lit.int .i64 l.level).wf = true := by
      have := l.ok
      simp [Lit.wf, IntKind.min, IntKind.max, IntKind.signed, IntKind.bits]
      omega
    simp [hw]
  unfold Program.keyLits
  rw [Tryd.underlying25]
  simp only [cells_lab]
  rw [if_pos ⟨by simp, by kernel_rfl⟩]
  simp only [List.mapM_cons, List.mapM_nil, cells_int, cells_cats, encL_list, List.drop_zero, List.take_succ_cons, List.take_zero, List.drop_succ_cons, h0]
  rw [List.take_of_length_le (by simp), keyLits_cats]
  simp [litL]
theorem eq_deep {P : Program} {N d m D D' : Nat} {t : TypeId} (hN : N = d + m) (hk : P.keyTypeAt m t = true) (w : World) {a b : Value} {la lb : List Lit} (fa : a.formed P t = true) (fb : b.formed P t = true)
    (ka : P.keyLits D t a.cells.toList = some la) (kb : P.keyLits D' t b.cells.toList = some lb) : ∃ r : Bool, (Op.equalIn N t a b).run P w = .ok r w ∧ (r = true ↔ la = lb) := by
  subst hN
  exact run_equalIn_deep d m t hk w D D' a b la lb fa fb ka kb
theorem formed_cats (a : Cts) : (Value.agg (encC a)).formed Tryd.prog 23 = true := by simp [Value.formed, under_cats, cells_cats]
theorem formed_lab (a : Lab) : (Value.agg (encL a)).formed Tryd.prog 25 = true := by
  obtain ⟨fs, hf, _⟩ := under_lab
  simp [Value.formed, hf, cells_lab]
@[go_sem high] theorem eq_cats (N : Nat) (hN : 10 ≤ N) (a b : Cts) (w : World) : (Op.equalIn N 23 (.agg (encC a)) (.agg (encC b))).run Tryd.prog w = .ok (decide (a = b)) w := by
  obtain ⟨r, h1, h2⟩ := eq_deep (P := Tryd.prog) (N := N) (d := N - 10) (m := 10) (by omega) (by kernel_rfl) w (formed_cats a) (formed_cats b) (keyLits_cats 0 a) (keyLits_cats 0 b)
  rw [litC_inj] at h2
  rw [h1]
  have : r = decide (a = b) := by rw [Bool.eq_iff_iff, h2]; simp
  rw [this]
@[go_sem high] theorem eq_lab (N : Nat) (hN : 10 ≤ N) (a b : Lab) (w : World) : (Op.equalIn N 25 (.agg (encL a)) (.agg (encL b))).run Tryd.prog w = .ok (decide (a = b)) w := by
  obtain ⟨r, h1, h2⟩ := eq_deep (P := Tryd.prog) (N := N) (d := N - 10) (m := 10) (by omega) (by kernel_rfl) w (formed_lab a) (formed_lab b) (keyLits_lab 0 a) (keyLits_lab 0 b)
  rw [litL_inj] at h2
  rw [h1]
  have : r = decide (a = b) := by rw [Bool.eq_iff_iff, h2]; simp
  rw [this]
theorem run_eql_cats (a b : Cts) (w : World) : (binOp .eql 23 (.agg (encC a)) (.agg (encC b))).run Tryd.prog w = .ok (.bool (decide (a = b))) w := by
  rw [run_eql_struct, eq_cats _ (by decide)]; rfl
theorem run_eql_lab (a b : Lab) (w : World) : (binOp .eql 25 (.agg (encL a)) (.agg (encL b))).run Tryd.prog w = .ok (.bool (decide (a = b))) w := by
  rw [run_eql_struct, eq_lab _ (by decide)]; rfl
theorem run_neq_lab (a b : Lab) (w : World) : (binOp .neq 25 (.agg (encL a)) (.agg (encL b))).run Tryd.prog w = .ok (.bool (!decide (a = b))) w := by
  rw [run_neq_struct, eq_lab _ (by decide)]; rfl
theorem infoC (c : Cts) : (Tryd.prog.info? 23).map (·.size) = some (encC c).size := by rw [size_encC]; exact info_cats
theorem infoCl (c : Cts) : (Tryd.prog.info? 23).map (·.size) = some (encC c).toList.length := by rw [Array.length_toList, size_encC]; exact info_cats
theorem infoL (l : Lab) : (Tryd.prog.info? 25).map (·.size) = some (encL l).size := by rw [size_encL]; exact info_lab
theorem infoLl (l : Lab) : (Tryd.prog.info? 25).map (·.size) = some (encL l).toList.length := by rw [Array.length_toList, size_encL]; exact info_lab
theorem sizeC {z : Array Value} (c : Cts) (h : z.size = 30) : z.size = (encC c).size := by rw [h, size_encC]
theorem sizeL {z : Array Value} (l : Lab) (h : z.size = 31) : z.size = (encL l).size := by rw [h, size_encL]
end Go.Proofs.YtbnjnomlgamheaaDoor
