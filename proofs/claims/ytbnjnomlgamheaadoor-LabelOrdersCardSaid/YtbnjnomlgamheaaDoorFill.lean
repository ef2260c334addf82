/- Literals whose parts are whole values: slices and structs that are built. -/
import Derived.Test.YtbnjnomlgamheaaDoorBase
import Derived.Great.BuildSlice
import Derived.OwnWalk
import Derived.Deep.RegionHeld3
namespace Go.Proofs.YtbnjnomlgamheaaDoor
set_option linter.unusedSimpArgs false
set_option linter.unusedVariables false
open Go.RowKit

/-- A segment's cells, set one by one. -/
theorem foldl_seg (off : Nat) : ∀ (vs : List Value) (k : Nat) (cs : List Value), off + k + vs.length ≤ cs.length →
    (vs.zipIdx k).foldl (fun (cs : Array Value) (x : Value × Nat) => cs.setIfInBounds (off + x.2) x.1) cs.toArray = (cs.take (off + k) ++ vs ++ cs.drop (off + k + vs.length)).toArray
  | [], k, cs, h => by simp
  | v :: vs, k, cs, h => by
    simp only [List.zipIdx_cons, List.foldl_cons, List.length_cons] at *
    rw [List.setIfInBounds_toArray, foldl_seg off vs (k + 1) _ (by rw [List.length_set]; omega)]
    have hL : (cs.set (off + k) v).take (off + (k + 1)) = cs.take (off + k) ++ [v] := by
      rw [show off + (k + 1) = (off + k) + 1 from rfl, List.take_succ_eq_append_getElem (by rw [List.length_set]; omega), List.take_set_of_le (Nat.le_refl _), List.getElem_set_self]
    have hD : (cs.set (off + k) v).drop (off + (k + 1) + vs.length) = cs.drop (off + k + (vs.length + 1)) := by
      apply List.ext_getElem?
      intro i
      rw [List.getElem?_drop, List.getElem?_drop, List.getElem?_set_ne (by omega)]
      congr 1
      omega
    rw [hL, hD]
    simp

def segSum : List (List Value) → Nat → Nat
  | _, 0 => 0
  | [], _ + 1 => 0
  | s :: r, i + 1 => s.length + segSum r i
theorem segSum_flat : ∀ (segs : List (List Value)) (i : Nat) (s : List Value), segs[i]? = some s → ∃ p q, segs.flatten = p ++ s ++ q ∧ p.length = segSum segs i ∧ ∀ v, v.length = s.length → (segs.set i v).flatten = p ++ v ++ q
  | [], i, s, h => by simp at h
  | x :: r, 0, s, h => by
    simp at h; subst h
    exact ⟨[], r.flatten, by simp, rfl, fun v _ => by simp⟩
  | x :: r, i + 1, s, h => by
    simp at h
    obtain ⟨p, q, e, hp, hv⟩ := segSum_flat r i s h
    exact ⟨x ++ p, q, by simp [e], by simp [segSum, hp], fun v hl => by simp [hv v hl]⟩
theorem segSum_set : ∀ (segs : List (List Value)) (i j : Nat) (v : List Value), (∀ s, segs[i]? = some s → v.length = s.length) → segSum (segs.set i v) j = segSum segs j
  | [], i, j, v, h => by simp
  | x :: r, 0, j, v, h => by
    have := h x rfl
    cases j <;> simp [segSum, this]
  | x :: r, i + 1, j, v, h => by
    cases j with
    | zero => simp [segSum]
    | succ j => simp only [List.set_cons_succ, segSum]; rw [segSum_set r i j v (fun s hs => h s (by simpa using hs))]

/-- Parts, each of a segment's size, into a row of segments. -/
theorem fill_segs (place : Nat → Option (Nat × Nat)) : ∀ (parts : List (Nat × Value)) (segs : List (List Value)), (∀ i s, segs[i]? = some s → place i = some (segSum segs i, s.length)) →
    (∀ p ∈ parts, ∃ s, segs[p.1]? = some s ∧ p.2.cells.size = s.length) →
    Instr.fill place segs.flatten.toArray parts = some (parts.foldl (fun s p => s.set p.1 p.2.cells.toList) segs).flatten.toArray
  | [], segs, _, _ => rfl
  | (i, v) :: rest, segs, hp, hs => by
    obtain ⟨s, hi, hl⟩ := hs (i, v) (by simp)
    obtain ⟨p, q, e, hpl, hset⟩ := segSum_flat segs i s hi
    dsimp only at hi hl
    unfold Instr.fill
    rw [hp i s hi]
    dsimp only
    have hb : ¬ ((decide (v.cells.size ≠ s.length) || decide (segSum segs i + v.cells.size > segs.flatten.toArray.size)) = true) := by
      simp [hl, e, ← hpl]
    rw [if_neg hb]
    have hl' : v.cells.toList.length = s.length := by simpa using hl
    have hfold : v.cells.zipIdx.foldl (fun cs (x : Value × Nat) => cs.setIfInBounds (segSum segs i + x.2) x.1) segs.flatten.toArray = (segs.set i v.cells.toList).flatten.toArray := by
      rw [← Array.foldl_toList, Array.toList_zipIdx, foldl_seg (segSum segs i) v.cells.toList 0 _ (by rw [e]; simp [← hpl]; omega)]
      rw [hset _ hl', e, ← hpl, Nat.add_zero, List.append_assoc p s q, List.take_left' rfl, ← List.append_assoc p s q, List.drop_left' (by rw [List.length_append, hl'])]
    have := fill_segs place rest (segs.set i v.cells.toList) (fun j t hj => ?_) (fun pr hpr => ?_)
    · rw [List.foldl_cons, ← this, ← hfold]
    · rw [segSum_set segs i j _ (fun s' hs' => by rw [hi] at hs'; cases hs'; exact hl')]
      by_cases hij : i = j
      · subst hij
        have hlt : i < segs.length := (List.getElem?_eq_some_iff.1 hi).1
        rw [List.getElem?_set_self hlt] at hj
        cases hj
        rw [hp i s hi, hl']
      · rw [List.getElem?_set_ne hij] at hj
        exact hp j t hj
    · obtain ⟨t, ht, htl⟩ := hs pr (by simp [hpr])
      by_cases hij : i = pr.1
      · subst hij
        have hlt : pr.1 < segs.length := (List.getElem?_eq_some_iff.1 hi).1
        rw [hi] at ht; cases ht
        exact ⟨_, List.getElem?_set_self hlt, by rw [htl, hl']⟩
      · exact ⟨t, by rw [List.getElem?_set_ne hij]; exact ht, htl⟩

/-! ### A slice's literal -/
theorem SlV_addr {w : World} {sz n c : Nat} {es : List (List Value)} {g : Nat} (h : SlV w sz es (.slice (some ⟨g, 0, none⟩) n c)) {g' : Nat} (hg : g' = g) : SlV w sz es (.slice (some ⟨g', 0, none⟩) n c) := hg ▸ h
theorem SlV.drew {w : World} {sz : Nat} {es : List (List Value)} {v : Value} (h : SlV w sz es v) : SlV w.drew sz es v := h
theorem SlV_two (w : World) (x y : Value) (t : TypeId) : SlV (w.alloc (.cells #[x, y] t)) 1 [[x], [y]] (.slice (some ⟨w.heap.size, 0, none⟩) 2 2) := by
  refine ⟨_, 2, rfl, by simp, fun _ => ⟨_, 0, rfl, fun k e he => ?_⟩⟩
  have hh := heap_alloc_last w (.cells #[x, y] t)
  match k with
  | 0 =>
    simp at he; subst he
    refine ⟨rfl, fun j v hv => ?_⟩
    match j with
    | 0 => simp at hv; subst hv; exact cell_heap hh rfl
    | j + 1 => simp at hv
  | 1 =>
    simp at he; subst he
    refine ⟨rfl, fun j v hv => ?_⟩
    match j with
    | 0 => simp at hv; subst hv; exact cell_heap hh rfl
    | j + 1 => simp at hv
  | k + 2 => simp at he
theorem SlV_one (w : World) (cs : Array Value) (t : TypeId) (sz : Nat) (hs : cs.size = sz) : SlV (w.alloc (.cells cs t)) sz [cs.toList] (.slice (some ⟨w.heap.size, 0, none⟩) 1 1) := by
  refine ⟨_, 1, rfl, by simp, fun _ => ⟨_, 0, rfl, fun k e he => ?_⟩⟩
  cases k with
  | zero =>
    simp at he; subst he
    refine ⟨by simpa using hs, ?_⟩
    have := rangeAt_heap (heap_alloc_last w (.cells cs t))
    simpa using this
  | succ k => simp at he
structure SliceLit (P : Program) (t e : TypeId) (len size : Nat) : Prop where
  hu : P.underlying t = some (.slice e)
  hi : ∃ ie z, P.info? e = some ie ∧ ie.zero = some z ∧ ie.size = size ∧ z.cells.size = size ∧ (Array.range (len * size)).map (z.cells[· % z.cells.size]!) = (List.replicate len z.cells.toList).flatten.toArray
  hs : ¬ len * size > 2 ^ 24
  hp : ¬ len * size = 0
theorem segSum_replicate (s : List Value) : ∀ (n i : Nat), i ≤ n → segSum (List.replicate n s) i = i * s.length
  | n, 0, _ => by simp [segSum]
  | 0, i + 1, h => by omega
  | n + 1, i + 1, h => by
    rw [List.replicate_succ, segSum, segSum_replicate s n i (by omega), Nat.succ_mul, Nat.add_comm]
theorem foldl_all : ∀ (vs : List Value) (k : Nat) (segs : List (List Value)), k + vs.length = segs.length →
    ((vs.zipIdx k).map fun x => (x.2, x.1)).foldl (fun (s : List (List Value)) (p : Nat × Value) => s.set p.1 p.2.cells.toList) segs = segs.take k ++ vs.map fun v => v.cells.toList
  | [], k, segs, h => by simp at h; simp [h]
  | v :: vs, k, segs, h => by
    simp only [List.length_cons] at h
    rw [List.zipIdx_cons, List.map_cons, List.foldl_cons, foldl_all vs (k + 1) _ (by rw [List.length_set]; omega)]
    rw [List.map_cons, List.take_succ_eq_append_getElem (by rw [List.length_set]; omega), List.take_set_of_le (Nat.le_refl _), List.getElem_set_self, List.append_assoc, List.singleton_append]
theorem wp_slice_lit {P : Program} {o : Oper} {a : Act} {w : World} {K : Act → World → Prop} {Q : Exit → Act → World → Prop} {t e : TypeId} {len size : Nat} (L : SliceLit P t e len size) (parts : Array (Nat × Operand)) (ho : o.op = .buildSlice t len parts)
    (vs : List Value) (hvs : (parts.map fun (i, x) => (i, a.eval x)).toList = vs.zipIdx.map fun x => (x.2, x.1)) (hlen : vs.length = len) (hsz : ∀ v ∈ vs, v.cells.size = size)
    (h : K (a.put o.dst (.slice (some ⟨w.heap.size, 0, none⟩) len len)) (w.alloc (.cells (vs.map fun v => v.cells.toList).flatten.toArray e))) : o.wp P a w K Q := by
  obtain ⟨ie, z, hie, hz, his, hzs, hfl⟩ := L.hi
  refine wp_buildSlice t e len parts ho (vs.map fun v => v.cells.toList).flatten.toArray ie z L.hu hie hz (by rw [his]; exact L.hs) (by rw [his]; exact L.hp) ?_ h
  rw [hvs, his, hfl, fill_segs (fun i => some (i * size, size)) _ (List.replicate len z.cells.toList) (fun i s hi => ?_) (fun p hp => ?_)]
  · rw [foldl_all vs 0 _ (by simp [hlen])]
    simp
  · have hlt : i < len := by simpa using (List.getElem?_eq_some_iff.1 hi).1
    rw [List.getElem?_replicate, if_pos hlt] at hi
    cases hi
    rw [segSum_replicate _ _ _ (by omega)]
    simp [hzs]
  · obtain ⟨x, hx, rfl⟩ := List.mem_map.1 hp
    obtain ⟨hk, hv⟩ := List.mem_zipIdx' hx
    refine ⟨z.cells.toList, by rw [List.getElem?_replicate, if_pos (by simpa [hlen] using hk)], ?_⟩
    rw [hsz _ (by rw [hv]; exact List.getElem_mem _)]
    simp [hzs]
theorem wpList_slice_lit {P : Program} {ops : Array Oper} {rest : List Oper} {o : Oper} {a : Act} {w : World} {Q : Exit → Act → World → Prop} {t e : TypeId} {len size : Nat} (L : SliceLit P t e len size) (hg : o.guard = none) (parts : Array (Nat × Operand)) (ho : o.op = .buildSlice t len parts)
    (vs : List Value) (hvs : (parts.map fun (i, x) => (i, a.eval x)).toList = vs.zipIdx.map fun x => (x.2, x.1)) (hlen : vs.length = len) (hsz : ∀ v ∈ vs, v.cells.size = size)
    (h : wpList P ops Q rest (a.put o.dst (.slice (some ⟨w.heap.size, 0, none⟩) len len)) (w.alloc (.cells (vs.map fun v => v.cells.toList).flatten.toArray e))) : wpList P ops Q (o :: rest) a w :=
  wpList_plain hg fun _ hK => wp_slice_lit L parts ho vs hvs hlen hsz (hK _ _ h)

theorem SlV_two' {w : World} {x y : Value} {t : TypeId} {g : Nat} (hg : g = w.heap.size) : SlV (w.alloc (.cells #[x, y] t)) 1 [[x], [y]] (.slice (some ⟨g, 0, none⟩) 2 2) := SlV_addr (SlV_two w x y t) hg
/-! ### A struct's literal -/
def offs : Nat → List (List Value) → List (Nat × Nat)
  | _, [] => []
  | k, s :: r => (k, s.length) :: offs (k + s.length) r
theorem offs_get : ∀ (segs : List (List Value)) (k i : Nat) (s : List Value), segs[i]? = some s → (offs k segs)[i]? = some (k + segSum segs i, s.length)
  | [], k, i, s, h => by simp at h
  | x :: r, k, 0, s, h => by simp at h; subst h; simp [offs, segSum]
  | x :: r, k, i + 1, s, h => by
    simp at h
    simp only [offs, List.getElem?_cons_succ, segSum]
    rw [offs_get r _ i s h, Nat.add_assoc]
structure StructLit (P : Program) (t : TypeId) (segs : List (List Value)) : Prop where
  h : ∃ it z fs, P.info? t = some it ∧ P.underlying t = some (.struct fs) ∧ it.zero = some z ∧ z.cells = segs.flatten.toArray ∧ fs.toList.mapM (fun f => (P.info? f.type).map fun i => (f.offset, i.size)) = some (offs 0 segs)
theorem StructLit.built {P : Program} {t : TypeId} {segs : List (List Value)} (L : StructLit P t segs) (parts : List (Nat × Value)) (hp : ∀ p ∈ parts, ∃ s, segs[p.1]? = some s ∧ p.2.cells.size = s.length) :
    P.built t parts = some (parts.foldl (fun s p => s.set p.1 p.2.cells.toList) segs).flatten.toArray := by
  obtain ⟨it, z, fs, h1, h2, h3, h4, h5⟩ := L.h
  unfold Program.built
  rw [h1, h2]
  dsimp only
  rw [h3, h5]
  dsimp only
  rw [h4]
  refine fill_segs _ parts segs (fun i s hi => ?_) hp
  have := offs_get segs 0 i s hi
  rw [Nat.zero_add] at this
  simpa using this
theorem wp_struct_lit {P : Program} {o : Oper} {a : Act} {w : World} {K : Act → World → Prop} {Q : Exit → Act → World → Prop} {t : TypeId} {segs : List (List Value)} (L : StructLit P t segs) (parts : Array (Nat × Operand)) (ho : o.op = .build t parts)
    (ps : List (Nat × Value)) (hvs : (parts.map fun (i, x) => (i, a.eval x)).toList = ps) (hp : ∀ p ∈ ps, ∃ s, segs[p.1]? = some s ∧ p.2.cells.size = s.length)
    (h : K (a.put o.dst (.agg (ps.foldl (fun s p => s.set p.1 p.2.cells.toList) segs).flatten.toArray)) w) : o.wp P a w K Q := by
  have hb := L.built ps hp
  refine wp_build t parts ho (by rw [hvs, hb]; rfl) ?_
  rw [hvs, hb]
  exact h
theorem wpList_struct_lit {P : Program} {ops : Array Oper} {rest : List Oper} {o : Oper} {a : Act} {w : World} {Q : Exit → Act → World → Prop} {t : TypeId} {segs : List (List Value)} (L : StructLit P t segs) (hg : o.guard = none) (parts : Array (Nat × Operand)) (ho : o.op = .build t parts)
    (ps : List (Nat × Value)) (hvs : (parts.map fun (i, x) => (i, a.eval x)).toList = ps) (hp : ∀ p ∈ ps, ∃ s, segs[p.1]? = some s ∧ p.2.cells.size = s.length)
    (h : wpList P ops Q rest (a.put o.dst (.agg (ps.foldl (fun s p => s.set p.1 p.2.cells.toList) segs).flatten.toArray)) w) : wpList P ops Q (o :: rest) a w :=
  wpList_plain hg fun _ hK => wp_struct_lit L parts ho ps hvs hp (hK _ _ h)

/-! ### Append -/
structure ElemOf (P : Program) (t e : TypeId) (size bytes : Nat) : Prop where
  hu : P.underlying t = some (.slice e)
  hi : ∃ i z, P.info? e = some i ∧ i.zero = some z ∧ i.size = size ∧ i.bytes = bytes ∧ z.cells.size = size
  hp : 0 < size
theorem wpList_app {P : Program} {ops : Array Oper} {rest : List Oper} {o : Oper} {a : Act} {w : World} {Q : Exit → Act → World → Prop} {t e : TypeId} {size bytes : Nat} (E : ElemOf P t e size bytes) (hgd : o.guard = none) (s x : Operand)
    (ho : o.op = .call { callee := .builtin .append, args := #[s, x], argTypes := #[t, t] }) (base : Nat) (v : Value) (n : Nat) (xs : List Value) (hs : a.eval s = v) (hown : w.ownsRow base e size v n xs)
    (g m c : Nat) (news : List Value) (hx : a.eval x = .slice (some ⟨g, 0, none⟩) m c) (hl : news.length = m * size) (hn : w.rangeAt g 0 news) (h1 : ∀ u ∈ news, u.oneCell' = true)
    (hb : (n + m) * bytes ≤ 140737488355328) (h63 : n + m ≤ 9223372036854775807) (hbase : base ≤ w.heap.size)
    (h : ∀ v' w', w'.ownsRow base e size v' (n + m) (xs ++ news) → w.grownBy w' v.ownBlock → wpList P ops Q rest (a.put o.dst v') w') : wpList P ops Q (o :: rest) a w := by
  obtain ⟨i, z, hi, hz, hsz, hby, hzs⟩ := E.hi
  refine wpList_append_own w hgd s x t ho base e i z size bytes E.hu hi hz hsz hby hzs E.hp v n xs hs hown ⟨g, 0, none⟩ m c news hx hl (fun j u hu => ?_) h1 (by simpa [maxLen] using h63) hb hbase (fun v' w' h2 h3 _ => h v' w' h2 h3)
  rw [Addr.add_mid]
  exact hn j u hu
theorem wp_app {P : Program} {o : Oper} {a : Act} {w : World} {K : Act → World → Prop} {Q : Exit → Act → World → Prop} {t e : TypeId} {size bytes : Nat} (E : ElemOf P t e size bytes) (s x : Operand)
    (ho : o.op = .call { callee := .builtin .append, args := #[s, x], argTypes := #[t, t] }) (base : Nat) (v : Value) (n : Nat) (xs : List Value) (hs : a.eval s = v) (hown : w.ownsRow base e size v n xs)
    (g m c : Nat) (news : List Value) (hx : a.eval x = .slice (some ⟨g, 0, none⟩) m c) (hl : news.length = m * size) (hn : w.rangeAt g 0 news) (h1 : ∀ u ∈ news, u.oneCell' = true)
    (hb : (n + m) * bytes ≤ 140737488355328) (h63 : n + m ≤ 9223372036854775807) (hbase : base ≤ w.heap.size)
    (h : ∀ v' w', w'.ownsRow base e size v' (n + m) (xs ++ news) → w.grownBy w' v.ownBlock → K (a.put o.dst v') w') : o.wp P a w K Q := by
  obtain ⟨i, z, hi, hz, hsz, hby, hzs⟩ := E.hi
  refine wp_append_own w s x t ho base e i z size bytes E.hu hi hz hsz hby hzs E.hp v n xs hs hown ⟨g, 0, none⟩ m c news hx hl (fun j u hu => ?_) h1 (by simpa [maxLen] using h63) hb hbase (fun v' w' h2 h3 _ => h v' w' h2 h3)
  rw [Addr.add_mid]
  exact hn j u hu
theorem own_nil (w : World) (base : Nat) (e : TypeId) (size : Nat) : w.ownsRow base e size (.slice none 0 0) 0 [] := ⟨by simp, .inl ⟨rfl, rfl⟩⟩
theorem own_ge {w : World} {base e size n : Nat} {v : Value} {xs : List Value} (h : w.ownsRow base e size v n xs) : ∀ k, v.ownBlock = some k → base ≤ k := fun k hk => by
  rcases h.2 with ⟨rfl, _⟩ | ⟨g, cap, cur, rfl, hb, _⟩
  · simp [Value.ownBlock] at hk
  · have : g = k := by simpa [Value.ownBlock] using hk
    omega
theorem own_form {w : World} {base e size n : Nat} {v : Value} {xs : List Value} (h : w.ownsRow base e size v n xs) : ∃ A c, v = .slice A n c := by
  rcases h.2 with ⟨rfl, rfl⟩ | ⟨g, cap, cur, rfl, _⟩
  · exact ⟨_, _, rfl⟩
  · exact ⟨_, _, rfl⟩
theorem own_below {w w1 : World} {base e size n : Nat} {v : Value} {xs : List Value} (hb : Below w.heap.size w w1) (h : w.ownsRow base e size v n xs) : w1.ownsRow base e size v n xs := by
  obtain ⟨h0, h | ⟨g, cap, cur, h1, h2, h3, h4⟩⟩ := h
  · exact ⟨h0, .inl h⟩
  · exact ⟨h0, .inr ⟨g, cap, cur, h1, h2, (hb.block g (Array.getElem?_eq_some_iff.1 h3).1).trans h3, h4⟩⟩
/-- A row of the call's own reads as a slice. -/
theorem own_SlV {w : World} {base e size n : Nat} {v : Value} {xs : List Value} (h : w.ownsRow base e size v n xs) (es : List (List Value)) (hes : es.flatten = xs) (hl : ∀ x ∈ es, x.length = size) (hs : 0 < size) : SlV w size es v := by
  have hlen : es.length = n := by
    have h1 := h.1
    rw [← hes] at h1
    have : ∀ (es : List (List Value)), (∀ x ∈ es, x.length = size) → es.flatten.length = es.length * size := by
      intro es
      induction es with
      | nil => intro _; simp
      | cons x r ih =>
        intro hx
        rw [List.flatten_cons, List.length_append, hx x (by simp), ih (fun y hy => hx y (by simp [hy])), List.length_cons, Nat.succ_mul, Nat.add_comm]
    rw [this es hl] at h1
    exact Nat.eq_of_mul_eq_mul_right hs h1
  rcases h.2 with ⟨rfl, hn⟩ | ⟨g, cap, cur, rfl, hb, hh, hnc, hcm, hcs, htk⟩
  · have : es = [] := List.length_eq_zero_iff.1 (by omega)
    subst this
    exact ⟨none, 0, rfl, ⟨by simp, by simp⟩, fun h => by simp at h⟩
  · refine ⟨_, cap, by rw [hlen], by simp only [maxLen] at hcm; exact ⟨by omega, by omega⟩, fun _ => ⟨g, 0, rfl, fun k x hk => ?_⟩⟩
    have hx : x.length = size := hl x (List.mem_of_getElem? hk)
    refine ⟨hx, fun j u hu => ?_⟩
    have hj : j < size := by rw [← hx]; exact (List.getElem?_eq_some_iff.1 hu).1
    have hkl : k < es.length := (List.getElem?_eq_some_iff.1 hk).1
    have hflat : ∀ (es : List (List Value)) (k : Nat), (∀ x ∈ es, x.length = size) → es[k]? = some x → es.flatten[k * size + j]? = some u := by
      intro es
      induction es with
      | nil => intro k _ h; simp at h
      | cons y r ih =>
        intro k hy hk
        cases k with
        | zero =>
          simp at hk; subst hk
          rw [List.flatten_cons, Nat.zero_mul, Nat.zero_add, List.getElem?_append_left (by rw [hx]; exact hj)]
          exact hu
        | succ k =>
          rw [List.flatten_cons, List.getElem?_append_right (by rw [hy y (by simp), Nat.succ_mul]; omega), hy y (by simp)]
          rw [show (k + 1) * size + j - size = k * size + j by rw [Nat.succ_mul]; omega]
          exact ih k (fun z hz => hy z (by simp [hz])) (by simpa using hk)
    have hf := hflat es k hl hk
    rw [hes, ← htk, List.getElem?_take] at hf
    have hlt : k * size + j < n * size := by
      have : (k + 1) * size ≤ n * size := Nat.mul_le_mul_right _ (by omega)
      rw [Nat.succ_mul] at this
      omega
    rw [if_pos hlt] at hf
    rw [Nat.zero_add]
    exact cell_heap hh (by simpa using hf)

/-- In a region that draws its order: the one operation that can come next. -/
theorem heldStep {P : Program} {md : Region.Mode} {ops : Array Oper} {Q : Exit → Act → World → Prop} {S : World → Prop} {fuel : Nat} {listed : Array Bool} {a : Act} {w : World} {i : Nat} {o : Oper} (hr : Region.ready md ops listed = [i]) (ho : ops[i]? = some o) (hw : Region.wanted o (yielded ops a.tmps) = true)
    (h : ∀ K : Act → World → Prop, Shut (∀ a w, S w → wpAnyH P md ops Q S fuel (listed.setIfInBounds i true) a w → K a w) → o.wp P a w K Q) : wpAnyH P md ops Q S (fuel + 1) listed a w := by
  refine wpAnyH_ready hr (by simp) (AllReadyH.cons ho (fun K hK => ?_) AllReadyH.nil)
  rw [if_pos hw]
  exact h K (fun a w hS hh => hK a w hS (fun _ => hh))
end Go.Proofs.YtbnjnomlgamheaaDoor
