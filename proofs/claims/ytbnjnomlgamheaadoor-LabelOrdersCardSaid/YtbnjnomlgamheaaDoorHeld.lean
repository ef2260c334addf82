/- A region that draws its order and whose LAST operation (number n: it waits for all that are taken first) may change what the others read: S need hold only as long as n has not come up. -/
import Derived.OrdersHeld
import Derived.Deep.RegionHeld3
import Derived.Deep.MidRow
namespace Go.Proofs.YtbnjnomlgamheaaDoor
set_option linter.unusedSimpArgs false
set_option linter.unusedVariables false
section
variable {P : Program} {ops : Array Oper} {Q : Exit → Act → World → Prop} {md : Region.Mode} {S : World → Prop} {n : Nat}
/-- Whatever order comes: S holds behind each operation but n. -/
def Till (P : Program) (md : Region.Mode) (ops : Array Oper) (Q : Exit → Act → World → Prop) (S : World → Prop) (n : Nat) : Nat → Array Bool → Act → World → Prop
  | 0, L, a, w => Region.ready md ops L = [] ∧ Q .normal a w
  | f + 1, L, a, w => (Region.ready md ops L = [] → Q .normal a w) ∧ ∀ i ∈ Region.ready md ops L, wpOp P ops Q i (fun a' w' => (i ≠ n → S w') ∧ Till P md ops Q S n f (L.setIfInBounds i true) a' w') a w
theorem Till.any : ∀ (f : Nat) (L : Array Bool) (a : Act) (w : World), Till P md ops Q S n f L a w → wpAny P md ops Q f L a w
  | 0, _, _, _, h => h
  | f + 1, _, _, _, h => ⟨h.1, fun i hi => wpOp_mono (fun a' w' k => Till.any f _ a' w' k.2) (h.2 i hi)⟩
/-- n waits for i. -/
def waits (md : Region.Mode) (ops : Array Oper) (n i : Nat) : Bool := ((ops[n]?).map fun o => o.after.any fun e => e.on == i && Region.binds md e).getD false
theorem not_ready_of_waits {i : Nat} {L : Array Bool} (hw : waits md ops n i = true) (hi : i ∈ Region.ready md ops L) : n ∉ Region.ready md ops L := fun hn => by
  obtain ⟨_, o, ho, hall⟩ := mem_ready.1 hn
  obtain ⟨hi0, _⟩ := mem_ready.1 hi
  unfold waits at hw
  rw [ho] at hw
  simp only [Option.map_some, Option.getD_some, Array.any_eq_true'] at hw
  obtain ⟨e, he, hb⟩ := hw
  simp only [Bool.and_eq_true, beq_iff_eq] at hb
  have h1 := hall e he hb.2
  rw [hb.1] at h1
  rcases Nat.lt_or_ge i L.size with h' | h'
  · simp [h'] at hi0 h1; rw [hi0] at h1; cases h1
  · simp [Array.getElem?_eq_none h'] at h1
theorem Till.first {i : Nat} {oi : Oper} {v : Value} (hi : ops[i]? = some oi) (hsel : ∀ (j : Nat) (o : Oper) cs b, ops[j]? = some o → o.op ≠ .select cs b)
    (hQ : ∀ c a w, Q (.panic c) (a.put oi.dst v) w → Q (.panic c) a w) (hw : waits md ops n i = true) :
    ∀ (f : Nat) (L : Array Bool) (a : Act) (w : World),
      (∀ j oj, ops[j]? = some oj → j ≠ i → L.getD j true = false → (∀ e ∈ oj.after, Region.binds md e = true → e.on ≠ i) → oi.apart ops oj = true) →
      i ∈ Region.ready md ops L → YieldsIf P ops S oi v a → S w → Till P md ops Q S n f (L.setIfInBounds i true) (a.put oi.dst v) w → Till P md ops Q S n (f + 1) L a w
  | f, L, a, w, hfree, hr, hy, hS, H => by
    refine ⟨fun h => absurd hr (by rw [h]; simp), fun j hj => ?_⟩
    by_cases hji : j = i
    · subst hji
      exact hy.wpOp hi hS ⟨fun _ => hS, H⟩
    have hjn : j ≠ n := fun h => not_ready_of_waits hw hr (h ▸ hj)
    cases f with
    | zero => exact absurd (ready_mono hj hji) (by rw [H.1]; simp)
    | succ f =>
      obtain ⟨hjun, oj, hoj, hall⟩ := mem_ready.1 hj
      have hnot : ∀ e ∈ oj.after, Region.binds md e = true → e.on ≠ i := fun e he hb heq => by
        have h1 := hall e he hb
        have h0 := (mem_ready.1 hr).1
        rw [heq] at h1
        rcases Nat.lt_or_ge i L.size with h' | h'
        · simp [h'] at h0 h1; rw [h0] at h1; cases h1
        · simp [Array.getElem?_eq_none h'] at h1
      refine wpOp_mono (fun a' w' k => ⟨k.2.1, Till.first hi hsel hQ hw f (L.setIfInBounds j true) a' w' (fun m om hm hmi hun hno => ?_) (ready_mono hr (Ne.symm hji)) k.1 (k.2.1 hjn) ?_⟩)
        (wpOp_putIf hoj (hfree j oj hoj hji hjun hnot) (fun cs b => hsel i oi cs b hi) (fun cs b => hsel j oj cs b hoj) hQ hy (H.2 j (ready_mono hj hji)))
      · refine hfree m om hm hmi ?_ hno
        by_cases hjm : j = m
        · exact hjm ▸ hjun
        · rwa [getD_set_ne true hjm] at hun
      · rw [Array.setIfInBounds_comm _ _ hji]
        exact k.2.2
/-- Take number i first. -/
theorem Till.take {i : Nat} {oi : Oper} {v : Value} {f : Nat} {L : Array Bool} {a : Act} {w : World} (hi : ops[i]? = some oi)
    (hs : Region.noSelect ops = true) (hf : Region.free md ops L i = true) (hr : (Region.ready md ops L).contains i = true) (hw : waits md ops n i = true)
    (hQ : ∀ c a w, Q (.panic c) (a.put oi.dst v) w → Q (.panic c) a w) (hy : YieldsIf P ops S oi v a) (hS : S w)
    (h : Till P md ops Q S n f (L.setIfInBounds i true) (a.put oi.dst v) w) : Till P md ops Q S n (f + 1) L a w :=
  Till.first hi (Region.noSelect_spec hs) hQ hw f L a w (Region.free_spec hi hf) (by simpa using hr) hy hS h
/-- The one operation that can come next (not n). -/
theorem Till.step {i : Nat} {o : Oper} {f : Nat} {L : Array Bool} {a : Act} {w : World} (hr : Region.ready md ops L = [i]) (ho : ops[i]? = some o) (hw : Region.wanted o (yielded ops a.tmps) = true)
    (h : ∀ K : Act → World → Prop, Shut (∀ a w, S w → Till P md ops Q S n f (L.setIfInBounds i true) a w → K a w) → o.wp P a w K Q) : Till P md ops Q S n (f + 1) L a w := by
  refine ⟨fun h0 => absurd (hr.symm.trans h0) (by simp), fun j hj => ?_⟩
  rw [hr] at hj
  obtain rfl : j = i := by simpa using hj
  refine wpOp_step ho (fun K hK => ?_)
  rw [if_pos hw]
  exact h K (fun a w hS ht => hK a w ⟨fun _ => hS, ht⟩)
/-- The last one. -/
theorem Till.last {o : Oper} {f : Nat} {L : Array Bool} {a : Act} {w : World} (hr : Region.ready md ops L = [n]) (ho : ops[n]? = some o) (hw : Region.wanted o (yielded ops a.tmps) = true)
    (hend : Region.ready md ops (L.setIfInBounds n true) = []) (h : ∀ K : Act → World → Prop, Shut (∀ a w, Q .normal a w → K a w) → o.wp P a w K Q) : Till P md ops Q S n (f + 1) L a w := by
  refine ⟨fun h0 => absurd (hr.symm.trans h0) (by simp), fun j hj => ?_⟩
  rw [hr] at hj
  obtain rfl : j = n := by simpa using hj
  refine wpOp_step ho (fun K hK => ?_)
  rw [if_pos hw]
  refine h K (fun a w hq => hK a w ⟨fun e => absurd rfl e, ?_⟩)
  cases f with
  | zero => exact ⟨hend, hq⟩
  | succ f => exact ⟨fun _ => hq, by rw [hend]; simp⟩
theorem Till.start {id : Nat} {a : Act} {w : World} (hm : P.follows .mixedOrders = true) (h : Till P .any ops Q S n ops.size (Array.replicate ops.size false) a w.drew) : (Code.region id ops true).wp P Q a w :=
  wp_region_any hm (Till.any _ _ _ _ h)
end
end Go.Proofs.YtbnjnomlgamheaaDoor
