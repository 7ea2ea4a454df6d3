/- A block of slices of truths, each in a block of its own: rows that are appended to one by one. -/
import Derived.Test.YtpnkaicbcbimaaaTable
import Derived.Deep.RegionLaw
namespace Go.Proofs.Ytpnkaicbcbimaaa
set_option linter.unusedVariables false
open Go.RowKit

structure Grid (w : World) (base g cols : Nat) (R : Nat → Option Addr) (ln C : Nat → Nat) (F : Nat → Nat → Bool) : Prop where
  top : Own w g cols (fun q => .slice (R q) (ln q) (C q))
  row : ∀ q, q < cols → w.ownsRow base 4 1 (.slice (R q) (ln q) (C q)) (ln q) ((List.range (ln q)).map fun r => .bool (F q r))
  apart : ∀ q q', q < cols → q' < cols → q ≠ q' → ∀ x, (Value.slice (R q) (ln q) (C q)).ownBlock = some x → (Value.slice (R q') (ln q') (C q')).ownBlock ≠ some x
  low : g < base
  inn : base ≤ w.heap.size

theorem Grid.keeps {w w' : World} {l : List Nat} {base g cols : Nat} {R : Nat → Option Addr} {ln C : Nat → Nat} {F : Nat → Nat → Bool} (h : Grid w base g cols R ln C F) (k : Keeps l w w') (hl : ∀ x ∈ l, x ≠ g ∧ (x < base ∨ ∀ q, q < cols → (Value.slice (R q) (ln q) (C q)).ownBlock ≠ some x)) : Grid w' base g cols R ln C F where
  top := h.top.keep k fun hm => (hl g hm).1 rfl
  row := fun q hq => own_keeps (h.row q hq) k fun x hx => by
    rcases (hl x hx).2 with h1 | h1
    · exact own_ne (h.row q hq) h1
    · exact h1 q hq
  apart := h.apart
  low := h.low
  inn := Nat.le_trans h.inn k.size

theorem Grid.start (w : World) (cols : Nat) : Grid (w.alloc (.cells (madeCells (Value.slice none 0 0).cells cols) 26)) (w.heap.size + 1) w.heap.size cols (fun _ => none) (fun _ => 0) (fun _ => 0) (fun _ _ => false) where
  top := own_made w (.slice none 0 0) rfl cols 26
  row := fun q hq => World.ownsRow_nil _ _ _ _
  apart := fun q q' _ _ _ x hx => by cases hx
  low := by omega
  inn := by simp

/-- Slice q gets a truth more; its new value is stored. -/
theorem Grid.append {w w1 w2 : World} {base g cols q c' : Nat} {R : Nat → Option Addr} {ln C : Nat → Nat} {F : Nat → Nat → Bool} {V' : Option Addr} {x : Bool} (h : Grid w base g cols R ln C F) (hq : q < cols) (hk : Keeps [] w w1)
    (hown : w2.ownsRow base 4 1 (.slice V' (ln q + 1) c') (ln q + 1) (((List.range (ln q)).map fun r => .bool (F q r)) ++ [.bool x])) (hg : w1.grownBy w2 (Value.slice (R q) (ln q) (C q)).ownBlock)
    (hat : (Value.slice V' (ln q + 1) c').ownBlock = (Value.slice (R q) (ln q) (C q)).ownBlock ∨ (Value.slice V' (ln q + 1) c').ownBlock = some w1.heap.size) :
    Grid (w2.setCell ⟨g, q, none⟩ (.slice V' (ln q + 1) c')) base g cols (upd R q V') (upd ln q (ln q + 1)) (upd C q c') (upd F q (upd (F q) (ln q) x)) := by
  have h1 : Grid w1 base g cols R ln C F := h.keeps hk (by simp)
  have hkg := Keeps.of_grown hg
  have hlg : ∀ y ∈ (Value.slice (R q) (ln q) (C q)).ownBlock.toList, (Value.slice (R q) (ln q) (C q)).ownBlock = some y ∧ base ≤ y := fun y hy => ⟨by simpa using hy, (own_base (h1.row q hq) (by simpa using hy)).1⟩
  refine ⟨?_, fun p hp => ?_, fun p p' hp hp' hne y hy => ?_, h.low, by have := hkg.size; have := h1.inn; simp [World.setCell]; omega⟩
  · have e : (fun p => Value.slice (upd R q V' p) (upd ln q (ln q + 1) p) (upd C q c' p)) = fun p => if p = q then Value.slice V' (ln q + 1) c' else .slice (R p) (ln p) (C p) := by
      funext p; simp only [upd]; split <;> rfl
    rw [e]
    exact (h1.top.keep hkg fun hm => by have := (hlg g hm).2; have := h.low; omega).set_ hq _
  · refine ownsRow_setCell_below ?_ (by have := h.low; exact this) _
    by_cases e : p = q
    · subst e
      rw [upd_same, upd_same, upd_same, upd_same]
      have e2 : (List.range (ln p + 1)).map (fun r => Value.bool (upd (F p) (ln p) x r)) = ((List.range (ln p)).map fun r => .bool (F p r)) ++ [.bool x] := map_range_upd (F p) (F p) (fun a _ => .bool a) (ln p) x x
      rw [e2]; exact hown
    · rw [upd_ne _ _ e, upd_ne _ _ e, upd_ne _ _ e, upd_ne _ _ e]
      exact own_keeps (h1.row p hp) hkg fun y hy => h1.apart q p hq hp (fun e' => e e'.symm) y (hlg y hy).1
  · by_cases e : p = q
    · subst e
      rw [upd_same, upd_same, upd_same] at hy
      rw [upd_ne _ _ (fun e => hne e.symm), upd_ne _ _ (fun e => hne e.symm), upd_ne _ _ (fun e => hne e.symm)]
      rcases hat with h2 | h2
      · rw [h2] at hy; exact h1.apart p p' hp hp' hne y hy
      · rw [h2] at hy; injection hy with hy
        intro hc; have := (own_base (h1.row p' hp') hc).2; omega
    · rw [upd_ne _ _ e, upd_ne _ _ e, upd_ne _ _ e] at hy
      by_cases e' : p' = q
      · subst e'
        rw [upd_same, upd_same, upd_same]
        rcases hat with h2 | h2
        · rw [h2]; exact h1.apart p p' hp hp' hne y hy
        · rw [h2]; intro hc; injection hc with hc
          have := (own_base (h1.row p hp) hy).2; omega
      · rw [upd_ne _ _ e', upd_ne _ _ e', upd_ne _ _ e']
        exact h1.apart p p' hp hp' hne y hy

/-- Slice q is replaced by a new one. -/
theorem Grid.put {w w1 w2 : World} {base g cols q n' c' : Nat} {R : Nat → Option Addr} {ln C : Nat → Nat} {F : Nat → Nat → Bool} {V' : Option Addr} {f : Nat → Bool} (h : Grid w base g cols R ln C F) (hq : q < cols) (hk : Keeps [] w w1)
    (hown : w2.ownsRow base 4 1 (.slice V' n' c') n' ((List.range n').map fun r => .bool (f r))) (hg : Keeps [] w1 w2) (hat : ∀ y, (Value.slice V' n' c').ownBlock = some y → w1.heap.size ≤ y) :
    Grid (w2.setCell ⟨g, q, none⟩ (.slice V' n' c')) base g cols (upd R q V') (upd ln q n') (upd C q c') (upd F q f) := by
  have h1 : Grid w1 base g cols R ln C F := h.keeps hk (by simp)
  have h2 : Grid w2 base g cols R ln C F := h1.keeps hg (by simp)
  refine ⟨?_, fun p hp => ?_, fun p p' hp hp' hne y hy => ?_, h.low, by have := h2.inn; simp [World.setCell]; omega⟩
  · have e : (fun p => Value.slice (upd R q V' p) (upd ln q n' p) (upd C q c' p)) = fun p => if p = q then Value.slice V' n' c' else .slice (R p) (ln p) (C p) := by
      funext p; simp only [upd]; split <;> rfl
    rw [e]
    exact h2.top.set_ hq _
  · refine ownsRow_setCell_below ?_ (by have := h.low; exact this) _
    by_cases e : p = q
    · subst e; rw [upd_same, upd_same, upd_same, upd_same]; exact hown
    · rw [upd_ne _ _ e, upd_ne _ _ e, upd_ne _ _ e, upd_ne _ _ e]; exact h2.row p hp
  · by_cases e : p = q
    · subst e
      rw [upd_same, upd_same, upd_same] at hy
      rw [upd_ne _ _ (fun e => hne e.symm), upd_ne _ _ (fun e => hne e.symm), upd_ne _ _ (fun e => hne e.symm)]
      have := hat y hy
      intro hc; have := (own_base (h1.row p' hp') hc).2; omega
    · rw [upd_ne _ _ e, upd_ne _ _ e, upd_ne _ _ e] at hy
      by_cases e' : p' = q
      · subst e'
        rw [upd_same, upd_same, upd_same]
        intro hc
        have := hat y hc
        have := (own_base (h1.row p hp) hy).2; omega
      · rw [upd_ne _ _ e', upd_ne _ _ e', upd_ne _ _ e']
        exact h1.apart p p' hp hp' hne y hy

/-- A truth of slice q is written. -/
theorem Grid.set_ {w : World} {base g cols q y G : Nat} {R : Nat → Option Addr} {ln C : Nat → Nat} {F : Nat → Nat → Bool} {x : Bool} (h : Grid w base g cols R ln C F) (hq : q < cols) (hR : R q = some ⟨G, 0, none⟩) (hy : y < ln q) :
    Grid (w.setCell ⟨G, y, none⟩ (.bool x)) base g cols R ln C (upd F q (upd (F q) y x)) := by
  have hG : base ≤ G ∧ G < w.heap.size := own_base (h.row q hq) (by rw [hR]; rfl)
  refine ⟨h.top.far (by show G ≠ g; have := h.low; omega) _, fun p hp => ?_, h.apart, h.low, by simpa [World.setCell] using h.inn⟩
  by_cases e : p = q
  · subst e
    rw [upd_same]
    have h0 := h.row p hp
    rw [hR] at h0 ⊢
    have h1 := h0.stored y (.bool x)
    have e2 : ((List.range (ln p)).map fun r => Value.bool (upd (F p) y x r)) = ((List.range (ln p)).map fun r => Value.bool (F p r)).set y (.bool x) := by
      refine List.ext_getElem (by simp) fun i h1 h2 => ?_
      simp only [List.getElem_map, List.getElem_range, List.getElem_set]
      by_cases e : y = i
      · subst e; rw [upd_same, if_pos rfl]
      · rw [upd_ne _ _ (fun e' => e e'.symm), if_neg e]
    rw [e2]
    exact h1.1
  · rw [upd_ne _ _ e]
    exact own_keeps (h.row p hp) ((Keeps.refl [G] _).setCell (by simp) _) fun z hz => by
      rw [List.mem_singleton.1 hz]
      exact h.apart q p hq hp (fun e' => e e'.symm) G (by rw [hR]; rfl)

theorem Grid.congr {w : World} {base g cols : Nat} {R : Nat → Option Addr} {ln ln' C : Nat → Nat} {F : Nat → Nat → Bool} (h : Grid w base g cols R ln C F) (e : ∀ q, q < cols → ln q = ln' q) : Grid w base g cols R ln' C F where
  top := h.top.congr fun q hq => by rw [e q hq]
  row := fun q hq => by rw [← e q hq]; exact h.row q hq
  apart := fun q q' hq hq' hne x hx => by rw [← e q' hq']; rw [← e q hq] at hx; exact h.apart q q' hq hq' hne x hx
  low := h.low
  inn := h.inn

theorem Grid.tab {w : World} {base g cols : Nat} {R : Nat → Option Addr} {ln C : Nat → Nat} {F : Nat → Nat → Bool} (h : Grid w base g cols R ln C F) (hg : g < w.heap.size) : TabG w w.heap.size (some ⟨g, 0, none⟩) cols ln F :=
  ⟨R, C, fun _ => ⟨_, rfl, hg, fun i hi => by rw [addz]; exact (h.top i hi).1⟩, fun i hi => (rd_of_own (h.row i hi) undef).congr fun j hj => getD_map_range (ln i) _ _ hj⟩
end Go.Proofs.Ytpnkaicbcbimaaa
