/- The words of these proofs: how labels and sets of categories lie as values; slices that are read. -/
import Derived.WalkKit
import Derived.WalkSpells
import Derived.Deep.MidRow
import Derived.Deep.WholeRow
import Derived.Lib.Hide
import Derived.Deep.Draws
import Derived.Laws.CopyOwn
import Derived.Laws.BitsAllLaws
namespace Go.Proofs.YtbnjnomlgamheaaDoor
set_option linter.unusedSimpArgs false
set_option linter.unusedVariables false
open Go.RowKit

/-! ### Sets of categories, labels -/
abbrev Cts := Vector UInt8 30
def vb (x : UInt8) : Value := .int .u8 (x.toNat : Int)
/-- A set as a value's cells. -/
def encC (c : Cts) : Array Value := c.toArray.map vb
structure Lab where
  level : Int
  ok : -9223372036854775808 ≤ level ∧ level ≤ 9223372036854775807
  cats : Cts
  deriving DecidableEq
theorem Lab.ext' {a b : Lab} (h1 : a.level = b.level) (h2 : a.cats = b.cats) : a = b := by
  cases a; cases b; cases h1; cases h2; rfl
theorem Lab.eq_iff {a b : Lab} : a = b ↔ a.level = b.level ∧ a.cats = b.cats := ⟨fun h => h ▸ ⟨rfl, rfl⟩, fun ⟨h1, h2⟩ => Lab.ext' h1 h2⟩
def encL (l : Lab) : Array Value := #[.int .i64 l.level] ++ encC l.cats
@[go_sem, simp] theorem size_encC (c : Cts) : (encC c).size = 30 := by simp [encC]
@[go_sem, simp] theorem size_encL (l : Lab) : (encL l).size = 31 := by simp [encL]
theorem encC_get (c : Cts) (i : Nat) (h : i < 30) : (encC c)[i]? = some (vb c[i]) := by
  simp [encC, h]
theorem all_mem {cs : Array Value} (h : ∀ v ∈ cs, v.oneCell' = true) : cs.all (·.oneCell') = true := Array.all_eq_true_iff_forall_mem.2 h
@[go_sem] theorem encL_level (l : Lab) : (encL l)[0]? = some (.int .i64 l.level) := by simp [encL]
@[go_sem] theorem encL_level' (l : Lab) (h : 0 < (encL l).size) : (encL l)[0] = .int .i64 l.level := by simp [encL]
@[go_sem] theorem encL_cats (l : Lab) : (encL l).extract 1 31 = encC l.cats := by
  apply Array.ext_getElem?
  intro i
  rw [Array.getElem?_extract]
  by_cases h : i < 30
  · rw [if_pos (by rw [size_encL]; omega)]
    unfold encL
    rw [Array.getElem?_append_right (by simp)]
    simp
  · rw [if_neg (by rw [size_encL]; omega)]
    exact (Array.getElem?_eq_none (by rw [size_encC]; omega)).symm
theorem oneCell_u8 (x : UInt8) : (vb x).oneCell' = true := rfl
theorem all_encC (c : Cts) : (encC c).all (·.oneCell') = true := by
  refine all_mem fun v hv => ?_
  unfold encC at hv
  obtain ⟨x, _, rfl⟩ := Array.mem_map.1 hv
  rfl
theorem all_encL (l : Lab) : (encL l).all (·.oneCell') = true := by
  refine all_mem fun v hv => ?_
  unfold encL at hv
  rcases Array.mem_append.1 hv with h | h
  · simp only [List.mem_toArray, List.mem_singleton] at h
    subst h; rfl
  · exact Array.all_eq_true_iff_forall_mem.1 (all_encC l.cats) v h

/-! ### A slice that is read -/
/-- v is a slice of the elements es, each of sz cells, in w. -/
def SlV (w : World) (sz : Nat) (es : List (List Value)) (v : Value) : Prop :=
  ∃ (a : Option Addr) (cap : Nat), v = .slice a es.length cap ∧ (es.length ≤ 9223372036854775807 ∧ es.length ≤ cap) ∧
    (0 < es.length → ∃ b o, a = some ⟨b, o, none⟩ ∧ ∀ k e, es[k]? = some e → e.length = sz ∧ w.rangeAt b (o + k * sz) e)

theorem rangeAt_below {w w1 : World} (h : Below w.heap.size w w1) {b o : Nat} {cs : List Value} (hc : w.rangeAt b o cs) : w1.rangeAt b o cs := fun j v hv => by
  have h1 := hc j v hv
  exact (h.cell (World.block_lt_of_cell? w _ h1)).trans h1
theorem rangeAt_alloc {w : World} {b o : Nat} {cs : List Value} (hc : w.rangeAt b o cs) (x : Obj) : (w.alloc x).rangeAt b o cs := fun j v hv => by
  have h1 := hc j v hv
  rw [World.cell?_of_block (w := w) (Below.heap_alloc w x b (World.block_lt_of_cell? w _ h1))]
  exact h1
theorem SlV.below {w w1 : World} (hb : Below w.heap.size w w1) {sz : Nat} {es : List (List Value)} {v : Value} (h : SlV w sz es v) : SlV w1 sz es v := by
  obtain ⟨a, cap, rfl, hm, h⟩ := h
  refine ⟨a, cap, rfl, hm, fun hn => ?_⟩
  obtain ⟨b, o, rfl, h2⟩ := h hn
  exact ⟨b, o, rfl, fun k e he => ⟨(h2 k e he).1, rangeAt_below hb (h2 k e he).2⟩⟩
theorem rangeAt_heap {w : World} {b : Nat} {cs : Array Value} {t : TypeId} {fr : Nat × Nat} (h : w.heap[b]? = some (.cells cs t fr)) : w.rangeAt b 0 cs.toList := fun j v hv => by
  rw [cell_of_row w b _ cs t fr h]
  simpa using hv
theorem cell_heap {w : World} {b i : Nat} {cs : Array Value} {t : TypeId} {fr : Nat × Nat} {v : Value} (h : w.heap[b]? = some (.cells cs t fr)) (hv : cs[i]? = some v) : w.cell? ⟨b, i, none⟩ = some v := by
  rw [cell_of_row w b _ cs t fr h]; exact hv
theorem there_heap {w : World} {b n : Nat} {cs : Array Value} {t : TypeId} (h : w.heap[b]? = some (.cells cs t (0, 0))) (hn : n ≤ cs.size) : w.there b 0 n := fun j hj => by
  rw [Nat.zero_add]
  refine ⟨?_, frozen_of_row w b j cs t h⟩
  rw [cell_of_row w b _ cs t (0, 0) h]
  simp; omega

/-- Block g: n cells of whatever content, of type t. -/
def Blk (w : World) (g n : Nat) (t : TypeId) : Prop := ∃ z : Array Value, w.heap[g]? = some (.cells z t (0, 0)) ∧ z.size = n
/-- An element of an array value, of one cell. -/
theorem run_index_arr {P : Program} (t e : TypeId) (n : Nat) (d : TypeDesc) (cs : Array Value) (k : IntKind) (i : Int) (v : Value) (h : P.underlying t = some (.array n e)) (he : P.underlying e = some d) (hd : d.isRow = false)
    (hs : (P.info? e).map (·.size) = some 1) (h0 : 0 ≤ i) (h1 : i < n) (hv : cs[i.toNat]? = some v) (w : World) : (Instr.index t (.agg cs) (.int k i)).run P w = .ok v w := by
  cases hq : P.info? e with
  | none => simp [hq] at hs
  | some x =>
    have hx : x.size = 1 := by simpa [hq] using hs
    have hagg : (isAgg e).run P w = .ok false w := by
      unfold isAgg
      rw [Sem.run_bind, run_underlying he w]
      cases d <;> simp_all
    simp [Instr.index, run_underlying h, asIntOf, h0, h1, sizeOf, typeInfo, hq, hx, part, hagg, hv, Sem.run_bind]
theorem heap_setCell_same' {w : World} {g i : Nat} {cs : Array Value} {t : TypeId} (v : Value) (hg : w.heap[g]? = some (.cells cs t (0, 0))) : (w.setCell ⟨g, i, none⟩ v).heap[g]? = some (.cells (cs.setIfInBounds i v) t (0, 0)) := heap_setCell_same w g i cs t v hg
theorem bits_and8 (x y : UInt8) : bits .and .u8 (x.toNat : Int) (y.toNat : Int) = ((x &&& y).toNat : Int) := by
  rw [u8_and_nat _ _ x.toNat_lt y.toNat_lt, UInt8.toNat_and]

/-- A whole value into the block that was made last. -/
theorem wpList_store_new {P : Program} {ops : Array Oper} {rest : List Oper} {op : Oper} {a : Act} {w : World} {Q : Exit → Act → World → Prop} (hgd : op.guard = none) (ty : TypeId) (x y : Operand) (ho : op.op = .store ty x y)
    (g : Nat) (cells : Array Value) (hx : a.eval x = .pointer (some ⟨g, 0, none⟩)) (hy : a.eval y = .agg cells) (W : World) (t : TypeId) (old : Array Value) (hw : w = W.alloc (.cells old t)) (hg : g = W.heap.size)
    (hi : (P.info? ty).map (·.size) = some cells.size) (hold : old.size = cells.size) (h1 : cells.all (·.oneCell') = true)
    (h : wpList P ops Q rest (a.put op.dst undef) (W.alloc (.cells cells t))) : wpList P ops Q (op :: rest) a w := by
  subst hw hg
  refine wpList_store_row hgd ty x y ho _ cells hx hy t old (heap_alloc_last W _) hi hold h1 ?_
  rw [World.setRow_alloc_new]
  exact h

/-- A whole value read, by an operation whose guard says yes. -/
theorem wpList_load_g {P : Program} {ops : Array Oper} {rest : List Oper} {op : Oper} {a : Act} {w : World} {Q : Exit → Act → World → Prop} (hw : Region.wanted op (yielded ops a.tmps) = true) (ty : TypeId) (x : Operand) (ho : op.op = .load ty x)
    (b o : Nat) (hx : a.eval x = .pointer (some ⟨b, o, none⟩)) (cs : List Value) (d : TypeDesc) (hc : w.rangeAt b o cs)
    (hu : P.underlying ty = some d) (hd : d.isRow = true) (hi : (P.info? ty).map (·.size) = some cs.length)
    (h : wpList P ops Q rest (a.put op.dst (.agg cs.toArray)) w) : wpList P ops Q (op :: rest) a w := by
  unfold wpList
  rw [if_pos hw]
  exact .inl (wp_load_mid ty x ho b o hx cs d hc hu hd hi h)
theorem bstep {w w1 w2 : World} (h : Below w.heap.size w w1) (k : Below w1.heap.size w1 w2) : Below w.heap.size w w2 := h.trans (k.mono h.size)
theorem balloc {w w1 : World} (h : Below w.heap.size w w1) (o : Obj) : Below w.heap.size w (w1.alloc o) := h.alloc h.size o
theorem bits_and1 (x n : Nat) (hx : x < 256) : bits .and .u8 ((x : Int) / 2 ^ n) 1 = ((x / 2 ^ n % 2 : Nat) : Int) := by
  have e : ((x : Int) / 2 ^ n) = ((x / 2 ^ n : Nat) : Int) := by rw [Int.natCast_ediv, Int.natCast_pow]; rfl
  have hl : x / 2 ^ n < 256 := Nat.lt_of_le_of_lt (Nat.div_le_self _ _) hx
  rw [e, show (1 : Int) = ((1 : Nat) : Int) from rfl, u8_and_nat _ _ hl (by omega), Nat.and_one_is_mod]
theorem ret_bool {a b : Bool} (h : a = b) : Ending.returned (.bool a) = .returned (.bool b) := by rw [h]
theorem ret_int {k : IntKind} {a b : Int} (h : a = b) : Ending.returned (.int k a) = .returned (.int k b) := by rw [h]
theorem SlV.split {w : World} {sz : Nat} {es : List (List Value)} {v : Value} (h : SlV w sz es v) : (es = [] ∧ ∃ a cap, v = .slice a 0 cap) ∨
    ∃ b o cap, v = .slice (some ⟨b, o, none⟩) es.length cap ∧ es.length ≤ 9223372036854775807 ∧ 0 < es.length ∧ es.length ≤ cap ∧ ∀ k e, es[k]? = some e → e.length = sz ∧ w.rangeAt b (o + k * sz) e := by
  obtain ⟨a, cap, rfl, hm, h⟩ := h
  rcases Nat.eq_zero_or_pos es.length with h0 | h0
  · exact .inl ⟨List.length_eq_zero_iff.1 h0, a, cap, by rw [h0]⟩
  · obtain ⟨b, o, rfl, h2⟩ := h h0
    exact .inr ⟨b, o, cap, rfl, hm.1, h0, hm.2, h2⟩
theorem bdrewN {B : Nat} {w w1 : World} (h : Below B w w1) (n : Nat) : Below B w (w1.drewN n) := ⟨h.os, h.tape, h.output, h.size, h.block⟩
theorem cell_below {w w1 : World} (h : Below w.heap.size w w1) {p : Addr} {v : Value} (hc : w.cell? p = some v) : w1.cell? p = some v := (h.cell (World.block_lt_of_cell? w _ hc)).trans hc
theorem cell_alloc {w : World} {p : Addr} {v : Value} (hc : w.cell? p = some v) (o : Obj) : (w.alloc o).cell? p = some v := cell_below (balloc (Below.refl _ _) o) hc
theorem bits_or8 (x : UInt8) (i : Nat) (hi : i < 8) : bits .or .u8 (x.toNat : Int) ((2 : Int) ^ i) = ((x ||| UInt8.ofNat (2 ^ i)).toNat : Int) := by
  have e : ((2 : Int) ^ i) = ((2 ^ i : Nat) : Int) := by rw [Int.natCast_pow]; rfl
  have hl : 2 ^ i < 256 := by have : 2 ^ i ≤ 2 ^ 7 := Nat.pow_le_pow_right (by omega) (by omega); omega
  rw [e, u8_or_nat _ _ x.toNat_lt hl, UInt8.toNat_or, UInt8.toNat_ofNat_of_lt' hl]
theorem encC_set (c : Cts) (i : Nat) (h : i < 30) (x : UInt8) : (encC c).setIfInBounds i (vb x) = encC (c.set i x) := by
  apply Array.ext_getElem?
  intro j
  rw [Array.getElem?_setIfInBounds]
  by_cases hj : j < 30
  · rw [encC_get (c.set i x) _ hj]
    by_cases e : i = j
    · subst e; rw [if_pos rfl, if_pos (by rw [size_encC]; exact h), Vector.getElem_set_self]
    · rw [if_neg e, encC_get _ _ hj, Vector.getElem_set_ne _ _ e]
  · rw [Array.getElem?_eq_none (by rw [size_encC]; omega : (encC (c.set i x)).size ≤ j), if_neg (by omega), Array.getElem?_eq_none (by rw [size_encC]; omega)]
theorem bacat (x y : List UInt8) : (⟨x.toArray⟩ ++ ⟨y.toArray⟩ : ByteArray) = ⟨(x ++ y).toArray⟩ := by
  apply ByteArray.ext
  rw [ByteArray.data_append]
  simp
theorem ret_str {a b : ByteArray} (h : a = b) : Ending.returned (.string a) = .returned (.string b) := by rw [h]
end Go.Proofs.YtbnjnomlgamheaaDoor
