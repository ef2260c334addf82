/- What is used of Go's library: numbers told and read, texts cut, split and joined. -/
import Derived.Test.YtbnjnomlgamheaaDoorFill
import Derived.Test.YtbnjnomlgamheaaDoorShelf
import Derived.Lib.AppendIntMem
import Derived.Lib.AtoiErrMem
namespace Go.Proofs.YtbnjnomlgamheaaDoor
set_option linter.unusedSimpArgs false
set_option linter.unusedVariables false
open Go.RowKit
/-- The library's variables hold what they should. -/
structure LibOk (w : World) : Prop where
  ml : ∃ m : Int, w.cell? ⟨0, 0, none⟩ = some (.int .i64 m)
  tab : Lib.TabIs Tryd.prog w "internal/strconv.uint64pow10" .u64 Lib.pow10Tab
  esyn : ∃ t p, w.var? Tryd.prog "strconv.ErrSyntax" = some #[.iface t p]
  eran : ∃ t p, w.var? Tryd.prog "strconv.ErrRange" = some #[.iface t p]
theorem var_below {w w1 : World} (h : Below w.heap.size w w1) {nm : String} {cs : Array Value} (hv : w.var? Tryd.prog nm = some cs) : w1.var? Tryd.prog nm = some cs := by
  unfold World.var? at *
  cases hg : Tryd.prog.globalNamed nm with
  | none => rw [hg] at hv; cases hv
  | some g =>
    rw [hg] at hv
    simp only [Option.bind_some] at hv ⊢
    have : w1.heap[g]? = w.heap[g]? := by
      by_cases hlt : g < w.heap.size
      · exact h.block g hlt
      · rw [Array.getElem?_eq_none (by omega)] at hv; cases hv
    rw [this]; exact hv
theorem LibOk.below {w w1 : World} (h : LibOk w) (hb : Below w.heap.size w w1) : LibOk w1 := by
  obtain ⟨⟨m, hm⟩, ht, ⟨t1, p1, h1⟩, ⟨t2, p2, h2⟩⟩ := h
  exact ⟨⟨m, cell_below hb hm⟩, var_below hb ht, ⟨t1, p1, var_below hb h1⟩, ⟨t2, p2, var_below hb h2⟩⟩
theorem ldrewN {w : World} (n : Nat) : Below w.heap.size w (w.drewN n) := bdrewN (Below.refl _ _) n

theorem itoa_any (n : Int) (h0 : -9223372036854775808 ≤ n) (h1 : n ≤ 9223372036854775807) (w : World) (hL : LibOk w) :
    Calls Tryd.prog 26 #[.int .i64 n] w fun e w' => e = .returned (.string ⟨(Lib.itoa n).toArray⟩) ∧ Below w.heap.size w w' :=
  (Any.strconv_Itoa Tryd.laysM171 n h0 h1 w hL.tab).mono fun e w' ⟨he, k, os, hw⟩ => ⟨he, hw ▸ Lib.below_grow _ w (Nat.le_refl _) k os⟩
theorem cut_any (s sep : ByteArray) (hs : s.size < 4294967281) (w : World) (hL : LibOk w) :
    Calls Tryd.prog 23 #[.string s, .string sep] w fun e w' =>
      e = .returned (.tuple #[.string ⟨(Lib.cut s.data.toList sep.data.toList).1.toArray⟩, .string ⟨(Lib.cut s.data.toList sep.data.toList).2.1.toArray⟩, .bool (Lib.cut s.data.toList sep.data.toList).2.2]) ∧ Below w.heap.size w w' := by
  obtain ⟨m, hm⟩ := hL.ml
  exact (Any.strings_Cut Tryd.lays145 s sep m w hs hm).mono fun e w' ⟨he, n, hw⟩ => ⟨he, hw ▸ ldrewN n⟩
/-- What Atoi answers: the number, and whether it is one. -/
def atoiV (s : List UInt8) : Int := match Lib.atoiAll s with
  | .ok v => v
  | .range => Lib.atoiSat s
  | _ => 0
def atoiOk (s : List UInt8) : Bool := match Lib.atoiAll s with
  | .ok _ => true
  | _ => false
theorem atoi_yes (s : ByteArray) (hs : s.size ≤ 281474976710656) (h : atoiOk s.data.toList = true) (w : World) :
    Calls Tryd.prog 24 #[.string s] w fun e w' => e = .returned (.tuple #[.int .i64 (atoiV s.data.toList), .nilIface]) ∧ Below w.heap.size w w' := by
  unfold atoiOk at h
  unfold atoiV
  split at h
  · rename_i v hv
    rw [hv]
    exact (Any.strconv_Atoi_ok Tryd.laysC172 s (by omega) v hv w).mono fun e w' ⟨he, hw⟩ => ⟨he, by
      rcases hw with rfl | ⟨t, rfl⟩
      · exact Below.refl _ _
      · exact Lib.bytesWorld_below _ _ _⟩
  · cases h
theorem atoi_no (s : ByteArray) (hs : s.size ≤ 281474976710656) (h : atoiOk s.data.toList = false) (w : World) (hL : LibOk w) :
    Calls Tryd.prog 24 #[.string s] w fun e w' => (∃ t p, e = .returned (.tuple #[.int .i64 (atoiV s.data.toList), .iface t p])) ∧ Below w.heap.size w w' := by
  obtain ⟨t1, p1, h1⟩ := hL.esyn
  obtain ⟨t2, p2, h2⟩ := hL.eran
  unfold atoiOk at h
  unfold atoiV
  split at h
  · cases h
  · rename_i hne
    cases hv : Lib.atoiAll s.data.toList
    · exact absurd hv (hne _)
    · exact (Any.strconv_Atoi_syntax_var Tryd.laysC172 s hs hv t1 p1 w h1).mono fun e w' ⟨N, he, _, _, hb⟩ => ⟨⟨_, _, he⟩, hb⟩
    · exact (Any.strconv_Atoi_range_var Tryd.laysC172 s hs hv t2 p2 w h2).mono fun e w' ⟨N, he, _, _, hb⟩ => ⟨⟨_, _, he⟩, hb⟩
theorem split_any (s sep : ByteArray) (hs : s.size < 4294967281) (h1 : 1 ≤ sep.size) (w : World) (hL : LibOk w) :
    Calls Tryd.prog 33 #[.string s, .string sep] w fun e w' => e = .returned (.slice (some ⟨w.heap.size, 0, none⟩) (Lib.countB s sep + 1) (Lib.countB s sep + 1)) ∧
      w' = w.alloc (.cells ((Lib.splitB sep 0 (Lib.countB s sep) s).map Value.string).toArray 9) := by
  obtain ⟨m, hm⟩ := hL.ml
  exact Any.strings_Split Tryd.lays146 (by kernel_rfl) s sep m w hs hm h1
theorem join_any (xs : List ByteArray) (sep : ByteArray) (w : World) (v : Value) (hv : SlV w 1 (xs.map fun x => [.string x]) v) (hl : (Lib.join (xs.map fun x => x.data.toList) sep.data.toList).length ≤ 140737488355328) (hx : xs.length ≤ 140737488355328) :
    Calls Tryd.prog 39 #[v, .string sep] w fun e w' => e = .returned (.string ⟨(Lib.join (xs.map fun x => x.data.toList) sep.data.toList).toArray⟩) ∧ Below w.heap.size w w' := by
  rcases hv.split with ⟨h0, a, cap, rfl⟩ | ⟨b, o, cap, rfl, hm, h0, hc, h2⟩
  · have : xs = [] := by simpa using h0
    subst this
    exact (Any.strings_Join_none Tryd.lays156 Tryd.Builder_Extra_156 a cap sep w).mono fun e w' ⟨he, hw⟩ => ⟨he, hw ▸ Below.refl _ _⟩
  · rw [List.length_map] at *
    have hcell : ∀ (j : Nat) (x : ByteArray), xs[j]? = some x → w.cell? ⟨b, o + j, none⟩ = some (.string x) := fun j x hj => by
      have := (h2 j [.string x] (by rw [List.getElem?_map, hj]; rfl)).2 0 _ rfl
      simpa using this
    have hb : b < w.heap.size := by
      have h3 : ∃ x, xs[0]? = some x := ⟨xs[0], List.getElem?_eq_getElem h0⟩
      obtain ⟨x, hx0⟩ := h3
      exact World.block_lt_of_cell? w _ (hcell 0 x hx0)
    exact (Any.strings_Join Tryd.lays156 Tryd.Builder_Extra_156 b o cap xs sep w hcell hb hx hc hl).mono fun e w' h => h
end Go.Proofs.YtbnjnomlgamheaaDoor
