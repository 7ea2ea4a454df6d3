/- Words for memory that is read, and memory that is owned. -/
import Derived.WalkKit
import Derived.Outline
import Derived.Deep.LoopGhost
import Derived.Lib.Hide
import Derived.Deep.Draws
import Derived.Test.YtdhadnnakcdfiaaPlain
namespace Go.Proofs.Ytdhadnnakcdfiaa
open Go.RowKit

theorem block_of_add (a : Addr) (n : Nat) : (a.add n).block = a.block := by unfold Addr.add; split <;> rfl
theorem add_of_add (a : Addr) (i j : Nat) : (a.add i).add j = a.add (i + j) := by
  unfold Addr.add
  by_cases hi : i = 0 <;> by_cases hj : j = 0 <;> simp [hi, hj, Nat.add_assoc]

theorem lt_of_cell {w : World} {p : Addr} {v : Value} (h : w.cell? p = some v) : p.block < w.heap.size := by
  rcases Nat.lt_or_ge p.block w.heap.size with hlt | hge
  · exact hlt
  · simp [World.cell?, Array.getElem?_eq_none hge] at h

theorem cell_alloc_if (w : World) (c : Array Value) (t : TypeId) (b i : Nat) : (w.alloc (.cells c t)).cell? ⟨b, i, none⟩ = if b = w.heap.size then c[i]? else w.cell? ⟨b, i, none⟩ := by
  by_cases h : b = w.heap.size
  · subst h; rw [if_pos rfl]; exact World.cell?_alloc_new _ _ _ _
  · rw [if_neg h]; exact World.cell?_alloc_old _ _ _ h

/-- The slice at A reads, in its first n cells of one cell each, as f says; it lies below block B. -/
def Rd (w : World) (B : Nat) (A : Option Addr) (n : Nat) (f : Nat → Value) : Prop :=
  0 < n → ∃ a, A = some a ∧ a.block < B ∧ ∀ i, i < n → w.cell? (a.add i) = some (f i)

section
variable {w w' : World} {B B' n : Nat} {A : Option Addr} {f : Nat → Value}
theorem Rd.at_ (h : Rd w B A n f) {k : Nat} (hk : k < n) : ∃ a, A = some a ∧ a.block < B ∧ w.cell? (a.add k) = some (f k) := by
  obtain ⟨a, e, hb, hc⟩ := h (by omega)
  exact ⟨a, e, hb, hc k hk⟩
theorem Rd.keep (h : Rd w B A n f) (hk : ∀ p : Addr, p.block < B → w'.cell? p = w.cell? p) : Rd w' B A n f := fun hn => by
  obtain ⟨a, e, hb, hc⟩ := h hn
  exact ⟨a, e, hb, fun i hi => (hk _ (by rw [block_of_add]; exact hb)).trans (hc i hi)⟩
theorem Rd.below (h : Rd w B A n f) (hb : Below B w w') : Rd w' B A n f := h.keep fun _ hp => hb.cell hp
theorem Rd.alloc_ (h : Rd w B A n f) (o : Obj) : Rd (w.alloc o) B A n f := fun hn => by
  obtain ⟨a, e, hb, hc⟩ := h hn
  exact ⟨a, e, hb, fun i hi => (World.cell?_alloc_lt w o _ (lt_of_cell (hc i hi))).trans (hc i hi)⟩
theorem Rd.drew (h : Rd w B A n f) : Rd w.drew B A n f := h
theorem Rd.more (h : Rd w B A n f) (hB : B ≤ B') : Rd w B' A n f := fun hn => by
  obtain ⟨a, e, hb, hc⟩ := h hn
  exact ⟨a, e, by omega, hc⟩
theorem Rd.less (h : Rd w B A n f) {m : Nat} (hm : m ≤ n) : Rd w B A m f := fun hn => by
  obtain ⟨a, e, hb, hc⟩ := h (by omega)
  exact ⟨a, e, hb, fun i hi => hc i (by omega)⟩
end

/-- A slice of integers that came in, as the shell of a row's proof has it. -/
def IsRow (k : IntKind) (w : World) (a : Option Addr) (len cap : Nat) (zs : List Int) : Prop :=
  (a = none ∧ len = 0 ∧ cap = 0 ∧ zs = []) ∨
  ∃ x, a = some x ∧ len ≤ cap ∧ cap ≤ maxLen ∧ zs.length = cap ∧ (∀ i, i < zs.length → w.cell? (x.add i) = some (.int k (zs.getD i 0))) ∧ ∀ n ∈ zs, (Lit.int k n).wf = true
theorem IsRow.rd {k : IntKind} {w : World} {a : Option Addr} {len cap : Nat} {zs : List Int} (h : IsRow k w a len cap zs) : Rd w w.heap.size a len (fun i => .int k (zs.getD i 0)) := fun hn => by
  rcases h with ⟨_, h, _⟩ | ⟨x, rfl, h1, _, h3, h4, _⟩
  · omega
  · have hc := h4 0 (by omega)
    have hlt := lt_of_cell hc
    rw [block_of_add] at hlt
    exact ⟨x, rfl, hlt, fun i hi => h4 i (by omega)⟩

/-- Block b, in its first n cells, holds what f says; none is frozen. -/
def Own (w : World) (b n : Nat) (f : Nat → Value) : Prop := ∀ i, i < n → w.cell? ⟨b, i, none⟩ = some (f i) ∧ w.frozen? ⟨b, i, none⟩ = false

/-- All blocks but those of a list are as they were. -/
structure Keeps (l : List Nat) (w w' : World) : Prop where
  os : w'.os = w.os
  tape : w'.tape = w.tape
  output : w'.output = w.output
  size : w.heap.size ≤ w'.heap.size
  block : ∀ k, k < w.heap.size → k ∉ l → w'.heap[k]? = w.heap[k]?

section
variable {w w' a b c : World} {l : List Nat}
theorem Keeps.refl (l : List Nat) (w : World) : Keeps l w w := ⟨rfl, rfl, rfl, Nat.le_refl _, fun _ _ _ => rfl⟩
theorem Keeps.trans (h : Keeps l a b) (k : Keeps l b c) : Keeps l a c :=
  ⟨k.os.trans h.os, k.tape.trans h.tape, k.output.trans h.output, Nat.le_trans h.size k.size, fun i hi hn => (k.block i (Nat.lt_of_lt_of_le hi h.size) hn).trans (h.block i hi hn)⟩
theorem Keeps.drew (h : Keeps l a w) : Keeps l a w.drew := ⟨h.os, h.tape, h.output, h.size, h.block⟩
theorem Keeps.drewN (h : Keeps l a w) (n : Nat) : Keeps l a (w.drewN n) := ⟨h.os, h.tape, h.output, h.size, h.block⟩
theorem Keeps.setCell (h : Keeps l a w) {p : Addr} (hp : p.block ∈ l) (u : Value) : Keeps l a (w.setCell p u) :=
  h.trans ⟨rfl, rfl, rfl, by simp [World.setCell], fun k _ hn => Below.heap_setCell _ _ _ _ (by rintro rfl; exact hn hp)⟩
theorem Keeps.below {B : Nat} (h : Keeps l a w) (hl : ∀ x ∈ l, B ≤ x) (hB : B ≤ a.heap.size) : Below B a w :=
  ⟨h.os, h.tape, h.output, h.size, fun k hk => h.block k (by omega) (fun hm => by have := hl k hm; omega)⟩
theorem Keeps.cell (h : Keeps l a w) {p : Addr} (hp : p.block < a.heap.size) (hn : p.block ∉ l) : w.cell? p = a.cell? p := World.cell?_of_block (w := a) (h.block p.block hp hn)
theorem Keeps.frozen (h : Keeps l a w) {p : Addr} (hp : p.block < a.heap.size) (hn : p.block ∉ l) : w.frozen? p = a.frozen? p := World.frozen?_of_block (w := a) (h.block p.block hp hn)
theorem Keeps.read (h : Keeps l a w) {p : Addr} {v : Value} (hc : a.cell? p = some v) (hn : p.block ∉ l) : w.cell? p = some v := (h.cell (lt_of_cell hc) hn).trans hc
theorem Rd.keeps {B n : Nat} {A : Option Addr} {f : Nat → Value} (h : Rd a B A n f) (k : Keeps l a w) (hl : ∀ x ∈ l, B ≤ x) : Rd w B A n f := fun hn => by
  obtain ⟨ad, e, hb, hc⟩ := h hn
  exact ⟨ad, e, hb, fun i hi => k.read (hc i hi) (fun hm => by have := hl _ hm; rw [block_of_add] at this; omega)⟩
theorem Own.keep {g n : Nat} {f : Nat → Value} (h : Own a g n f) (k : Keeps l a w) (hg : g ∉ l) : Own w g n f := fun i hi =>
  have hlt := lt_of_cell (h i hi).1
  ⟨(k.cell (p := ⟨g, i, none⟩) hlt hg).trans (h i hi).1, (k.frozen (p := ⟨g, i, none⟩) hlt hg).trans (h i hi).2⟩
theorem Own.drew {g n : Nat} {f : Nat → Value} (h : Own w g n f) : Own w.drew g n f := h
theorem Own.set_ {g n : Nat} {f : Nat → Value} (h : Own w g n f) {j : Nat} (hj : j < n) (u : Value) : Own (w.setCell ⟨g, j, none⟩ u) g n (fun i => if i = j then u else f i) := by
  intro i hi
  obtain ⟨h1, h2⟩ := h i hi
  have hz : (w.setCell ⟨g, j, none⟩ u).frozen? ⟨g, i, none⟩ = false := by rw [← h2]; simp
  refine ⟨?_, hz⟩
  show _ = some (if i = j then u else f i)
  by_cases e : i = j
  · subst e; rw [if_pos rfl]; exact World.cell?_setCell_same _ _ _ h1
  · rw [if_neg e, ← h1]; exact World.cell?_setCell_other _ _ _ _ (fun hh => e (by injection hh with _ h2; exact h2.symm))
theorem Own.far {g n : Nat} {f : Nat → Value} (h : Own w g n f) {p : Addr} (hp : p.block ≠ g) (u : Value) : Own (w.setCell p u) g n f :=
  h.keep (l := [p.block]) ((Keeps.refl _ _).setCell (by simp) u) (by simpa using fun e => hp e.symm)
theorem Own.updInt {g n : Nat} {k : IntKind} {o : Nat → Int} (h : Own w g n (fun c => .int k (o c))) {j : Nat} (hj : j < n) (v : Int) : Own (w.setCell ⟨g, j, none⟩ (.int k v)) g n (fun c => .int k (upd o j v c)) := by
  have e : (fun c => Value.int k (upd o j v c)) = fun c => if c = j then .int k v else .int k (o c) := by
    funext c; simp only [upd]; split <;> rfl
  rw [e]; exact h.set_ hj _
theorem Own.updBool {g n : Nat} {o : Nat → Bool} (h : Own w g n (fun c => .bool (o c))) {j : Nat} (hj : j < n) (v : Bool) : Own (w.setCell ⟨g, j, none⟩ (.bool v)) g n (fun c => .bool (upd o j v c)) := by
  have e : (fun c => Value.bool (upd o j v c)) = fun c => if c = j then .bool v else .bool (o c) := by
    funext c; simp only [upd]; split <;> rfl
  rw [e]; exact h.set_ hj _
end
end Go.Proofs.Ytdhadnnakcdfiaa
