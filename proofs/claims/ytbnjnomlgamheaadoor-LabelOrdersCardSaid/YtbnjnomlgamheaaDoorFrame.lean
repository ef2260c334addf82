/- The frame of the labels' laws: an argument opened, the library's variables read off the row's condition. -/
import Derived.Test.YtbnjnomlgamheaaDoorRows
import Derived.Test.YtbnjnomlgamheaaDoorLibs
import Derived.Test.YtbnjnomlgamheaaDoorEq
import Derived.ProofKit
import Derived.OpenShut
import Derived.LaidMore
import Derived.Lay
import Derived.Carry
import Derived.Lib.LaidTab
import Derived.Shelf.Vars
import Derived.Stop.LaidErr
import Derived.Stop.Joined
import Derived.Deep.DeepHandedRow
import Derived.SevenTiedAt
namespace Go.Proofs.YtbnjnomlgamheaaDoor
set_option linter.unusedSimpArgs false
set_option linter.unusedVariables false
open Go.ChangeShapes Go.WideShapes Go.ChangeAt Go.RowKit

theorem own : ownKnob Tryd.prog.godebug = none := by kernel_rfl
theorem laidOut : laidOutB Tryd.prog = true := by kernel_rfl
section
variable {H : Type} {enc : TypeId × Value → H} {w : World} {base : Nat} {spare : Nat → Bool} {held : Bool}
theorem u8_of_wf {z : Int} (h : (Lit.int .u8 z).wf = true) : 0 ≤ z ∧ z < 256 := by
  simp only [Lit.wf, Bool.and_eq_true, decide_eq_true_eq] at h
  have h1 : IntKind.u8.min = 0 := rfl
  have h2 : IntKind.u8.max = 255 := rfl
  omega
theorem i64_of_wf {z : Int} (h : (Lit.int .i64 z).wf = true) : -9223372036854775808 ≤ z ∧ z ≤ 9223372036854775807 := by
  simp only [Lit.wf, Bool.and_eq_true, decide_eq_true_eq] at h
  have h1 : IntKind.i64.min = -9223372036854775808 := rfl
  have h2 : IntKind.i64.max = 9223372036854775807 := rfl
  omega
/-- A set that came in. -/
theorem open_cats {fuel : Nat} {cs : List Value} {x : DataW H × List MemPlace} (h : DataW.trod enc Tryd.prog w base spare held fuel 23 cs = some x) : ∃ c : Cts, cs = (encC c).toList ∧ x.2 = [] := by
  obtain ⟨xs, m, _, hx, hl, hn, hel⟩ := DataW.trod_array under_cats h
  rw [cells_cats] at hl
  have hg : ∀ i, i < 30 → ∃ z : Int, cs[i]? = some (.int .u8 z) ∧ xs[i]? = some (.lit (.int .u8 z), []) ∧ (0 ≤ z ∧ z < 256) := fun i hi => by
    have hE := hel i hi
    rw [cells_u8, Nat.mul_one, List.getElem?_eq_getElem (by omega)] at hE
    obtain ⟨z, e1, e2, e3⟩ := DataW.trod_int under_u8 hE
    refine ⟨z, ?_, by rw [List.getElem?_eq_getElem (by omega), e2], u8_of_wf e3⟩
    have : ((cs.drop i).take 1)[0]? = some (.int .u8 z) := by rw [e1]; rfl
    simpa using this
  refine ⟨Vector.ofFn fun i : Fin 30 => UInt8.ofNat (match cs[i.val]? with | some (.int _ z) => z.toNat | _ => 0), ?_, ?_⟩
  · apply List.ext_getElem?
    intro i
    by_cases hi : i < 30
    · obtain ⟨z, e1, _, e3⟩ := hg i hi
      rw [e1, Array.getElem?_toList, encC_get _ i hi]
      simp only [Vector.getElem_ofFn, e1, vb]
      rw [UInt8.toNat_ofNat_of_lt' (show z.toNat < UInt8.size by show z.toNat < 256; omega)]
      simp only [Option.some.injEq, Value.int.injEq, true_and]
      omega
    · rw [List.getElem?_eq_none (by omega), Array.getElem?_toList, Array.getElem?_eq_none (by rw [size_encC]; omega)]
  · rw [hx]
    apply List.flatMap_eq_nil_iff.2
    intro y hy
    obtain ⟨i, hi, rfl⟩ := List.mem_iff_getElem.1 hy
    obtain ⟨z, _, e2, _⟩ := hg i (by omega)
    rw [List.getElem?_eq_getElem hi] at e2
    rw [Option.some.inj e2]
set_option maxRecDepth 100000 in
/-- A label that came in. -/
theorem open_label {r : Reach} {b0 : Nat} {v : Value} {d : DataW H} {p : List MemPlace} (hv : Value.okWide Tryd.prog w r b0 25 v) (h : DataW.Trod enc Tryd.prog w base spare held 25 v d p) :
    ∃ l : Lab, v = .agg (encL l) ∧ p = [] := by
  obtain ⟨fs, hu, _, hfs⟩ := under_lab
  obtain ⟨cs, rfl, hsz⟩ := okWide_struct hu hv
  obtain ⟨fuel, hf⟩ := h
  obtain ⟨xs, n, _, hx, hl, hlen, hg⟩ := DataW.trod_struct hu hf
  have hf2 : fs.size = 2 := by
    have := congrArg List.length hfs
    simpa using this
  obtain ⟨f0, f1, hfse⟩ : ∃ f0 f1, fs.toList = [f0, f1] := by
    have h2 : fs.toList.length = 2 := by simpa using hf2
    match h3 : fs.toList, h2 with
    | [a, b], _ => exact ⟨a, b, rfl⟩
  rw [hfse] at hfs
  simp only [List.map_cons, List.map_nil, List.cons.injEq, Prod.mk.injEq, and_true] at hfs
  obtain ⟨⟨t0, o0⟩, t1, o1⟩ := hfs
  have g0 : fs[0]? = some f0 := by rw [← Array.getElem?_toList, hfse]; rfl
  have g1 : fs[1]? = some f1 := by rw [← Array.getElem?_toList, hfse]; rfl
  have h0 := hg 0 f0 g0
  have h1 := hg 1 f1 g1
  rw [t0, o0, cells_int, List.getElem?_eq_getElem (by omega)] at h0
  rw [t1, o1, cells_cats, List.getElem?_eq_getElem (by omega)] at h1
  obtain ⟨z, e1, e2, e3⟩ := DataW.trod_int under_int h0
  obtain ⟨c, c1, c2⟩ := open_cats h1
  refine ⟨⟨z, i64_of_wf e3, c⟩, ?_, ?_⟩
  · congr 1
    apply Array.toList_inj.1
    have hcells : (Value.agg cs).cells = cs := rfl
    rw [hcells] at e1 c1 hl
    have hl31 : cs.toList.length = 31 := by simpa [cells_lab] using hsz
    rw [encL_list]
    have hsplit : cs.toList = (cs.toList.drop 0).take 1 ++ (cs.toList.drop 1).take 30 := by
      rw [List.drop_zero, List.take_of_length_le (l := cs.toList.drop 1) (by rw [List.length_drop]; omega), List.take_append_drop]
    rw [hsplit, e1, c1]
    rfl
  · have := (Prod.mk.inj hx).2
    rw [this]
    apply List.flatMap_eq_nil_iff.2
    intro y hy
    obtain ⟨i, hi, rfl⟩ := List.mem_iff_getElem.1 hy
    match i, hi with
    | 0, _ => rw [e2]
    | 1, _ => exact c2
    | i + 2, h => omega
end
/-! ### The library's variables -/
theorem MaxLen_cell (w : World) (h : w.ShapedOpen Tryd.prog) : ∃ m, w.cell? ⟨0, 0, none⟩ = some (.int .i64 m) :=
  Go.Proofs.cell_of_shapedOpen_int (zero := #[.int .i64 0]) (t := 3) h (of_decide_eq_true (by kernel_rfl)) (by kernel_rfl) rfl (by kernel_rfl) (by kernel_rfl) under_int
theorem tab_of_laid {W : World} {r : List (String × DataW Unit)} (h : laidMet Tryd.prog (("internal/strconv.uint64pow10", Rows.laid_internal_strconv_uint64pow10) :: r) W) : Lib.TabIs Tryd.prog W "internal/strconv.uint64pow10" .u64 Lib.pow10Tab := by
  have e : (Rows.laid_internal_strconv_uint64pow10 : DataW Unit) = Lib.tabData .u64 Lib.pow10Tab := by kernel_rfl
  rw [e] at h
  exact Lib.tabIs_of_head (g := 3) (t := (Tryd.prog.globals[3]?.map (·.type)).getD 0) (e := 85) (n := 20) (by kernel_rfl) (by kernel_rfl) (by kernel_rfl) (by kernel_rfl) (by kernel_rfl) (by kernel_rfl) h
theorem star : "*" ++ "errors.errorString" = "*errors.errorString" := by decide
theorem row_errstr (u : TypeId) (h : Tryd.prog.typeName? 3 u = some "*errors.errorString") : u = 104 :=
  typeName_ptr_named (nm := "errors.errorString") (by rw [star]; kernel_rfl) (by kernel_rfl) (by decide) u (by rw [star]; exact h)
theorem sentinel_of_laid {W : World} {n : String} {g : Nat} {text : List UInt8} {r : List (String × DataW Unit)} (h : laidMet Tryd.prog ((n, .iface "*errors.errorString" (.ptr (.agg [.lit (.string text)]))) :: r) W)
    (hg : Tryd.prog.globalNamed n = some g) (ht : (Tryd.prog.globals[g]?).map (·.type) = some 48) : ∃ t p, W.var? Tryd.prog n = some #[.iface t p] := by
  obtain ⟨a, s, hv, _⟩ := laid_sentinel (te := 106) (ts := 9) (f := ((match Tryd.prog.underlying 106 with | some (.struct fs) => fs[0]? | _ => none)).getD default) h hg ht Tryd.underlying48 row_errstr (by kernel_rfl) (by kernel_rfl) (by kernel_rfl) (by kernel_rfl) (by kernel_rfl) (by kernel_rfl) (by kernel_rfl)
  exact ⟨_, _, hv⟩
end Go.Proofs.YtbnjnomlgamheaaDoor
