/- A text that tells a set of categories, read. -/
import Derived.Test.YtbnjnomlgamheaaDoorSpan
import Derived.Laws.ResultCell
import Derived.Lib.SplitLaws
import Derived.Lib.ReplaceLaws
namespace Go.Proofs.YtbnjnomlgamheaaDoor
set_option linter.unusedSimpArgs false
set_option linter.unusedVariables false
open Go.RowKit
theorem results_row_tmp {fn : Func} {p u : Tmp} {c : Cts} {v : Value} (h : fn.results = #[.cell p 23, .tmp u]) (tmps : Array Value) (w : World) (g : Nat) (t : TypeId) (fr : Nat × Nat)
    (hp : tmps.getD p undef = .pointer (some ⟨g, 0, none⟩)) (hv : tmps.getD u undef = v) (hg : w.heap[g]? = some (.cells (encC c) t fr)) :
    (results fn tmps).run Tryd.prog w = .ok (.tuple #[.agg (encC c), v]) w := by
  rw [results_cell_tmp h, hp, hv]
  simp [asAddr, run_loadVar_row w g t 23 (encC c) fr _ hg under_cats rfl (infoC _), Result.andThen]
def zeroC : Cts := Vector.replicate 30 0
def addN (c : Cts) (lo : Nat) : Nat → Cts
  | 0 => c
  | n + 1 => withC (addN c lo n) (lo + n)
def addP (c : Cts) (p : List UInt8) : Cts := addN c (spanLo p).toNat ((spanHi p).toNat + 1 - (spanLo p).toNat)
def addPs : Cts → List (List UInt8) → Option Cts
  | c, [] => some c
  | c, p :: r => if spanOk p then addPs (addP c p) r else none
def splitL (s : List UInt8) : List (List UInt8) := (Lib.splitB ⟨#[44]⟩ 0 (Lib.countB ⟨s.toArray⟩ ⟨#[44]⟩) ⟨s.toArray⟩).map (·.data.toList)
def readC (s : List UInt8) : Option Cts := if s = [45] then some zeroC else addPs zeroC (splitL s)
def parseC (s : List UInt8) : Option Cts := match readC s with
  | none => none
  | some c => if textC c = s then some c else none
theorem splitB_size (sep : ByteArray) : ∀ (k : Nat) (s : ByteArray), ∀ x ∈ Lib.splitB sep 0 k s, x.size ≤ s.size
  | 0, s, x, h => by rw [Lib.splitB_zero] at h; simp at h; subst h; exact Nat.le_refl _
  | k + 1, s, x, h => by
    unfold Lib.splitB at h
    split at h
    · simp at h; subst h; exact Nat.le_refl _
    · rcases List.mem_cons.1 h with rfl | h
      · rw [ByteArray.size_extract]; omega
      · have := splitB_size sep k _ x h
        rw [ByteArray.size_extract] at this
        omega
theorem spanOk_lo {p : List UInt8} (h : spanOk p = true) : ∃ lo hi : Nat, spanLo p = lo ∧ spanHi p = hi ∧ lo < 240 ∧ hi < 240 := by
  have key : isCat (spanLo p) = true ∧ isCat (spanHi p) = true := by
    unfold spanOk at h
    split at h
    · simp only [Bool.and_eq_true] at h; exact ⟨h.1.2, h.2⟩
    · rename_i h2
      simp only [Bool.and_eq_true] at h
      refine ⟨h.2, ?_⟩
      unfold spanHi
      rw [if_neg h2]; exact h.2
  obtain ⟨h1, h2⟩ := key
  simp only [isCat, Bool.and_eq_true, decide_eq_true_eq] at h1 h2
  exact ⟨(spanLo p).toNat, (spanHi p).toNat, by omega, by omega, by omega, by omega⟩
theorem zeroC_enc : encC zeroC = Array.replicate 30 (.int .u8 0) := by kernel_rfl
def optC (o : Option Cts) : Cts := o.getD zeroC
@[go_sem high] theorem zero_lit : (#[.int .u8 0, .int .u8 0, .int .u8 0, .int .u8 0, .int .u8 0, .int .u8 0, .int .u8 0, .int .u8 0, .int .u8 0, .int .u8 0, .int .u8 0, .int .u8 0, .int .u8 0, .int .u8 0, .int .u8 0, .int .u8 0, .int .u8 0, .int .u8 0, .int .u8 0, .int .u8 0, .int .u8 0, .int .u8 0, .int .u8 0, .int .u8 0, .int .u8 0, .int .u8 0, .int .u8 0, .int .u8 0, .int .u8 0, .int .u8 0] : Array Value) = encC zeroC := by kernel_rfl
theorem splitL_len (s : List UInt8) : (splitL s).length = Lib.countB ⟨s.toArray⟩ ⟨#[44]⟩ + 1 := by
  unfold splitL
  rw [List.length_map, Lib.splitB_all _ (by decide) 0 _ _ rfl]
theorem splitL_le (s : List UInt8) : (splitL s).length ≤ s.length + 1 := by
  rw [splitL_len]
  have h := Lib.countB_mul_le ⟨#[44]⟩ (by decide) s.length ⟨s.toArray⟩ (by show s.toArray.size ≤ _; simp)
  have h1 : (⟨#[44]⟩ : ByteArray).size = 1 := rfl
  have h2 : (⟨s.toArray⟩ : ByteArray).size = s.length := by show s.toArray.size = _; simp
  rw [h1, h2] at h
  omega
theorem splitL_size (s p : List UInt8) (h : p ∈ splitL s) : p.length ≤ s.length := by
  unfold splitL at h
  obtain ⟨x, hx, rfl⟩ := List.mem_map.1 h
  have h1 := splitB_size _ _ _ x hx
  have h2 : (⟨s.toArray⟩ : ByteArray).size = s.length := by show s.toArray.size = _; simp
  rw [h2] at h1
  have h3 : x.data.toList.length = x.size := by simp
  omega
theorem splitL_any (s : List UInt8) (hs : s.length < 4294967281) (w : World) (hL : LibOk w) :
    Calls Tryd.prog 33 #[.string ⟨s.toArray⟩, .string ⟨#[44]⟩] w fun e w' => e = .returned (.slice (some ⟨w.heap.size, 0, none⟩) (splitL s).length (splitL s).length) ∧
      w' = w.alloc (.cells ((splitL s).map strv).toArray 9) := by
  refine (split_any ⟨s.toArray⟩ ⟨#[44]⟩ (by show s.toArray.size < _; simpa using hs) (by decide) w hL).mono ?_
  rintro e w' ⟨rfl, rfl⟩
  rw [← splitL_len]
  refine ⟨rfl, ?_⟩
  congr 3
  unfold splitL
  rw [List.map_map]
  rfl
theorem row_below {w w1 : World} (hb : Below w.heap.size w w1) {b : Nat} {o : Obj} (h : w.heap[b]? = some o) : w1.heap[b]? = some o := (hb.block b (Array.getElem?_eq_some_iff.1 h).1).trans h
theorem blk_below {w w1 : World} (hb : Below w.heap.size w w1) {b n : Nat} {t : TypeId} (h : Blk w b n t) : Blk w1 b n t := by
  obtain ⟨z, h, hs⟩ := h
  exact ⟨z, row_below hb h, hs⟩
set_option maxRecDepth 100000 in
theorem parse_any (s : List UInt8) (hs : s.length < 4294967281) (w : World) (hL : LibOk w) :
    Calls Tryd.prog 25 #[.string ⟨s.toArray⟩] w fun e w' => e = .returned (.tuple #[.agg (encC (optC (parseC s))), .bool (parseC s).isSome]) ∧ Below w.heap.size w w' := by
  have hL2 : LibOk ((w.alloc (Obj.cells (encC zeroC) 23)).alloc (Obj.cells (encC zeroC) 23)) := (hL.below (balloc (Below.refl _ _) _)).below (balloc (Below.refl _ _) _)
  by_cases hdash : s = [45]
  · have hd : (!s == [45]) = false := by simp [hdash]
    have hread : readC s = some zeroC := by unfold readC; rw [if_pos hdash]
    have hpa : parseC s = if textC zeroC = s then some zeroC else none := by unfold parseC; rw [hread]
    have HPB := Lib.hid hpa
    clear hpa hread hdash
    have HA := Lib.hid (heap_alloc2_new w (Obj.cells (encC zeroC) 23) (Obj.cells (encC zeroC) 23))
    have HZ : Hid (Blk ((w.alloc (Obj.cells (encC zeroC) 23)).alloc (Obj.cells (encC zeroC) 23)) w.heap.size 30 23) := Lib.hid ⟨_, heap_alloc2_old _ _ _, size_encC zeroC⟩
    by_cases htx : textC zeroC = s
    · have hd2 : (!textC zeroC == s) = false := by simp [htx]
      have HTX := Lib.hid htx
      clear htx
      go_enter Tryd.func25, Tryd.ntmps25
      go_wp2_with (first
        | (refine wpList_load_row rfl 23 _ rfl (w.heap.size + 1) rfl 23 (encC zeroC) (0, 0) _ (by first | exact HA.out | exact ha9) under_cats rfl (infoC _) ?_)
        | (go_at_call 27; refine (text_any zeroC _ hL2).mono ?_; rintro e w9 ⟨rfl, hb9⟩; have ha9 := row_below hb9 HA.out; obtain ⟨z, hz9, hs9⟩ := blk_below hb9 HZ.out; have HZ9 := Lib.hid hz9; clear hz9)
        | (refine wpList_store_row rfl 23 _ _ rfl w.heap.size (encC zeroC) rfl rfl 23 _ HZ9.out (infoC _) (sizeC _ hs9) (all_encC _) ?_))
      refine bodyPost_ret (results_row_tmp rfl _ _ w.heap.size 23 (0, 0) rfl rfl (setRow_heap _ _ _ _ _ _ HZ9.out)) rfl ⟨?_, below_setRow (bstep (balloc (balloc (Below.refl _ _) _) _) hb9) (Nat.le_refl _) _⟩
      rw [HPB.out, if_pos HTX.out]; rfl
    · have hd2 : (!textC zeroC == s) = true := by simp [htx]
      have HTX := Lib.hid htx
      clear htx
      go_enter Tryd.func25, Tryd.ntmps25
      go_wp2_with (first
        | (refine wpList_load_row rfl 23 _ rfl (w.heap.size + 1) rfl 23 (encC zeroC) (0, 0) _ (by first | exact HA.out | exact ha9) under_cats rfl (infoC _) ?_)
        | (go_at_call 27; refine (text_any zeroC _ hL2).mono ?_; rintro e w9 ⟨rfl, hb9⟩; have ha9 := row_below hb9 HA.out; obtain ⟨z, hz9, hs9⟩ := blk_below hb9 HZ.out; have HZ9 := Lib.hid hz9; clear hz9)
        | (refine wpList_store_row rfl 23 _ _ rfl w.heap.size (encC zeroC) rfl rfl 23 _ HZ9.out (infoC _) (sizeC _ hs9) (all_encC _) ?_))
      refine bodyPost_ret (results_row_tmp rfl _ _ w.heap.size 23 (0, 0) rfl rfl (setRow_heap _ _ _ _ _ _ HZ9.out)) rfl ⟨?_, below_setRow (bstep (balloc (balloc (Below.refl _ _) _) _) hb9) (Nat.le_refl _) _⟩
      rw [HPB.out, if_neg HTX.out]; rfl
  · have hd : (!s == [45]) = true := by simp [hdash]
    have hread : readC s = addPs zeroC (splitL s) := by unfold readC; rw [if_neg hdash]
    have hparse : parseC s = match readC s with | none => none | some c => if textC c = s then some c else none := rfl
    rw [hread] at hparse
    have HPA := Lib.hid hparse
    clear hdash hread hparse
    have hspl := splitL_any s hs _ hL2
    have hlen := splitL_le s
    have hmem : ∀ p, p ∈ splitL s → p.length < 4294967281 := fun p hp => Nat.lt_of_le_of_lt (splitL_size s p hp) hs
    have HSPL := Lib.hid hspl
    have HM := Lib.hid hmem
    clear hspl hmem
    generalize splitL s = ps at *
    go_enter Tryd.func25, Tryd.ntmps25
    go_wp2_with (first
      | (go_at_call 33; refine HSPL.out.mono ?_; rintro e w2 ⟨rfl, rfl⟩))
    go_loopw [16] (fun i wr => ∃ (k : Nat) (c : Cts), k ≤ ps.length ∧ i = .int .i64 k ∧ addPs zeroC ps = addPs c (ps.drop k) ∧ Blk wr w.heap.size 30 23 ∧ wr.heap[w.heap.size + 1]? = some (.cells (encC c) 23 (0, 0)) ∧
      (∀ (j : Nat) (p : List UInt8), ps[j]? = some p → wr.cell? ⟨w.heap.size + 2, j, none⟩ = some (strv p)) ∧ Below w.heap.size w wr) (fun i _ => ps.length - (intOf i).toNat)
    case atStart =>
      refine ⟨0, zeroC, by omega, rfl, by simp, ?_, ?_, ?_, ?_⟩
      · refine ⟨_, ?_, size_encC zeroC⟩
        rw [heap_alloc_old _ _ (by simp; omega)]
        exact heap_alloc2_old _ _ _
      · rw [heap_alloc_old _ _ (by simp)]
        exact heap_alloc2_new _ _ _
      · intro j p hj
        have h1 := heap_alloc_last ((w.alloc (Obj.cells (encC zeroC) 23)).alloc (Obj.cells (encC zeroC) 23)) (Obj.cells (ps.map strv).toArray 9)
        rw [show ((w.alloc (Obj.cells (encC zeroC) 23)).alloc (Obj.cells (encC zeroC) 23)).heap.size = w.heap.size + 2 by simp] at h1
        exact cell_heap h1 (by simp [hj])
      · exact balloc (balloc (balloc (Below.refl _ _) _) _) _
    case round =>
      obtain ⟨k, c, hk, rfl, hadd, hz, ha, hcells, hb⟩ := hrel
      have HZ := Lib.hid hz
      have HA := Lib.hid ha
      have HAD := Lib.hid hadd
      have HC := Lib.hid hcells
      clear hz ha hadd hcells
      by_cases hlt : k < ps.length
      · obtain ⟨p, hp⟩ : ∃ p, p = ps[k] := ⟨_, rfl⟩
        have hcp := HC.out k p (by rw [hp]; simp [hlt])
        unfold strv at hcp
        have hpm := HM.out p (by rw [hp]; exact List.getElem_mem hlt)
        have hadd2 : addPs zeroC ps = if spanOk p then addPs (addP c p) (ps.drop (k + 1)) else none := by
          rw [HAD.out, List.drop_eq_getElem_cons hlt, ← hp]; rfl
        have HAD2 := Lib.hid hadd2
        clear hadd2 hp
        cases hok : spanOk p with
        | false =>
          have HOK := Lib.hid hok
          clear hok
          go_wp2_with (first
            | (go_at_call 34; refine (span_any p hpm _ (hL.below (by assumption))).mono ?_; rintro e w4 ⟨rfl, hb4⟩; rw [HOK.out]; obtain ⟨z, hz4, hs4⟩ := blk_below hb4 HZ.out; have HZ4 := Lib.hid hz4; clear hz4)
            | (refine wpList_store_row rfl 23 _ _ rfl w.heap.size (encC zeroC) rfl rfl 23 _ HZ4.out (infoC _) (sizeC _ hs4) (all_encC _) ?_))
          refine bodyPost_ret (results_row_tmp rfl _ _ w.heap.size 23 (0, 0) rfl rfl (setRow_heap _ _ _ _ _ _ HZ4.out)) rfl ⟨?_, below_setRow (bstep hb hb4) (Nat.le_refl _) _⟩
          have e : parseC s = none := by rw [HPA.out, HAD2.out, HOK.out]; rfl
          rw [e]; rfl
        | true =>
          obtain ⟨lo, hi, elo, ehi, hlo, hhi⟩ := spanOk_lo hok
          have HOK := Lib.hid hok
          have hpp : addP c p = addN c lo (hi + 1 - lo) := by unfold addP; rw [elo, ehi]; rfl
          have HPP := Lib.hid hpp
          have ELO := Lib.hid elo
          have EHI := Lib.hid ehi
          clear hok hpp elo ehi
          go_wp2_with (first
            | (go_at_call 34; refine (span_any p hpm _ (hL.below (by assumption))).mono ?_; rintro e w4 ⟨rfl, hb4⟩; rw [HOK.out, ELO.out, EHI.out]))
          have hz4 := blk_below hb4 HZ.out
          have ha4 := row_below hb4 HA.out
          have hc4 : ∀ (j : Nat) (p : List UInt8), ps[j]? = some p → w4.cell? ⟨w.heap.size + 2, j, none⟩ = some (strv p) := fun j p hj => cell_below hb4 (HC.out j p hj)
          have hB4 : Below w.heap.size w w4 := bstep hb hb4
          have HZ4 := Lib.hid hz4
          have HA4 := Lib.hid ha4
          have HC4 := Lib.hid hc4
          clear hz4 ha4 hc4 hcp
          go_loopw [10] (fun i wi => ∃ m : Nat, lo ≤ m ∧ (m ≤ hi + 1 ∨ m = lo) ∧ i = .int .i64 m ∧ Blk wi w.heap.size 30 23 ∧ wi.heap[w.heap.size + 1]? = some (.cells (encC (addN c lo (m - lo))) 23 (0, 0)) ∧
            (∀ (j : Nat) (p : List UInt8), ps[j]? = some p → wi.cell? ⟨w.heap.size + 2, j, none⟩ = some (strv p)) ∧ Below w.heap.size w wi) (fun i _ => hi + 1 - (intOf i).toNat)
          case atStart => exact ⟨lo, Nat.le_refl _, .inr rfl, rfl, HZ4.out, by rw [Nat.sub_self]; exact HA4.out, HC4.out, hB4⟩
          case round =>
            obtain ⟨m, hm1, hm2, rfl, hz, ha, hcells, hbi⟩ := hrel
            have HZ := Lib.hid hz
            have HA := Lib.hid ha
            have HC := Lib.hid hcells
            clear hz ha hcells
            by_cases hmlt : m ≤ hi
            · have hm240 : m < 240 := by omega
              go_wp2_with (first
                | (refine wpList_load_row rfl 23 _ rfl (w.heap.size + 1) rfl 23 _ (0, 0) _ HA.out under_cats rfl (infoC _) ?_)
                | (go_at_call 35; refine (with_any _ m hm240 _ _ (SlV_one _ _ _ _ rfl)).mono ?_; rintro e w5 ⟨rfl, hb5⟩; have ha5 := row_below hb5 (row_below (balloc (Below.refl _ _) _) HA.out))
                | (refine wpList_store_row rfl 23 _ _ rfl (w.heap.size + 1) (encC _) rfl rfl 23 _ ha5 (infoC _) (sizeC _ (size_encC _)) (all_encC _) ?_))
              have hb6 : Below w.heap.size w w5 := bstep (balloc hbi _) hb5
              refine ⟨⟨m + 1, by omega, by omega, by go_num, ?_, ?_, ?_, below_setRow hb6 (by omega) _⟩, by simp [intOf]; omega⟩
              · obtain ⟨z, h, hs⟩ := blk_below hb5 (blk_below (balloc (Below.refl _ _) _) HZ.out)
                exact ⟨z, by rw [setRow_other _ _ _ _ (by omega)]; exact h, hs⟩
              · rw [setRow_heap _ _ _ _ _ _ ha5, show m + 1 - lo = (m - lo) + 1 by omega, addN, show lo + (m - lo) = m by omega]
              · intro j p hj
                rw [cell_setRow_other _ _ _ _ (by simp)]
                exact cell_below hb5 (cell_alloc (HC.out j p hj) _)
            · have hend : m - lo = hi + 1 - lo := by omega
              have HEND := Lib.hid hend
              clear hend
              go_wp2
              refine ⟨⟨k + 1, addP c p, by omega, by go_num, ?_, HZ.out, ?_, HC.out, hbi⟩, by simp [intOf]; omega⟩
              · rw [HAD2.out, if_pos HOK.out]
              · rw [HPP.out, ← HEND.out]; exact HA.out
      · obtain rfl : k = ps.length := by omega
        have hadd2 : addPs zeroC ps = some c := by rw [HAD.out, List.drop_length]; rfl
        have hpa : parseC s = if textC c = s then some c else none := by rw [HPA.out, hadd2]
        have HPB := Lib.hid hpa
        clear hpa hadd2
        by_cases htx : textC c = s
        · have hd2 : (!textC c == s) = false := by simp [htx]
          have HTX := Lib.hid htx
          clear htx
          go_wp2_with (first
            | (refine wpList_load_row rfl 23 _ rfl (w.heap.size + 1) rfl 23 (encC c) (0, 0) _ (by first | exact HA.out | exact ha9) under_cats rfl (infoC _) ?_)
            | (go_at_call 27; refine (text_any c _ (hL.below (by assumption))).mono ?_; rintro e w9 ⟨rfl, hb9⟩; have ha9 := row_below hb9 HA.out; obtain ⟨z, hz9, hs9⟩ := blk_below hb9 HZ.out; have HZ9 := Lib.hid hz9; clear hz9)
            | (refine wpList_store_row rfl 23 _ _ rfl w.heap.size (encC c) rfl rfl 23 _ HZ9.out (infoC _) (sizeC _ hs9) (all_encC _) ?_))
          refine bodyPost_ret (results_row_tmp rfl _ _ w.heap.size 23 (0, 0) rfl rfl (setRow_heap _ _ _ _ _ _ HZ9.out)) rfl ⟨?_, below_setRow (bstep hb hb9) (Nat.le_refl _) _⟩
          rw [HPB.out, if_pos HTX.out]; rfl
        · have hd2 : (!textC c == s) = true := by simp [htx]
          have HTX := Lib.hid htx
          clear htx
          go_wp2_with (first
            | (refine wpList_load_row rfl 23 _ rfl (w.heap.size + 1) rfl 23 (encC c) (0, 0) _ (by first | exact HA.out | exact ha9) under_cats rfl (infoC _) ?_)
            | (go_at_call 27; refine (text_any c _ (hL.below (by assumption))).mono ?_; rintro e w9 ⟨rfl, hb9⟩; have ha9 := row_below hb9 HA.out; obtain ⟨z, hz9, hs9⟩ := blk_below hb9 HZ.out; have HZ9 := Lib.hid hz9; clear hz9)
            | (refine wpList_store_row rfl 23 _ _ rfl w.heap.size (encC zeroC) rfl rfl 23 _ HZ9.out (infoC _) (sizeC _ hs9) (all_encC _) ?_))
          refine bodyPost_ret (results_row_tmp rfl _ _ w.heap.size 23 (0, 0) rfl rfl (setRow_heap _ _ _ _ _ _ HZ9.out)) rfl ⟨?_, below_setRow (bstep hb hb9) (Nat.le_refl _) _⟩
          rw [HPB.out, if_neg HTX.out]; rfl
end Go.Proofs.YtbnjnomlgamheaaDoor
