/- Go's slices as lists: which value reads as which list, in a world some blocks of which may still be written. -/
import Derived.Test.YtdhadnnakcdfiaaMem
namespace Go.Proofs.Ytdhadnnakcdfiaa
set_option linter.unusedVariables false
open Go.RowKit

theorem Keeps.to_below {w w' : World} (h : Keeps [] w w') : Below w.heap.size w w' := ⟨h.os, h.tape, h.output, h.size, fun k hk => h.block k hk (by simp)⟩
theorem _root_.Go.RowKit.Below.toK {w w' : World} {l : List Nat} (h : Below w.heap.size w w') : Keeps l w w' := Keeps.of_below h
theorem Keeps.more {w w' : World} {l l' : List Nat} (h : Keeps l w w') (hl : ∀ x ∈ l, x ∈ l') : Keeps l' w w' := ⟨h.os, h.tape, h.output, h.size, fun k hk hn => h.block k hk fun hm => hn (hl k hm)⟩
theorem Keeps.nil {w w' : World} (h : Keeps [] w w') (l : List Nat) : Keeps l w w' := h.more (by simp)
/-- Blocks that are newer than the beginning do not count. -/
theorem Keeps.old {w w' : World} {l l' : List Nat} (h : Keeps l w w') (hl : ∀ x ∈ l, x ∈ l' ∨ w.heap.size ≤ x) : Keeps l' w w' := (Keeps.refl l' w).step h hl

abbrev Rp (α : Type) := World → List Nat → Value → α → Prop

/-- What a value reads as: it stays while no block but those of the list is written. -/
class Rok {α : Type} (R : Rp α) : Prop where
  keeps : ∀ {w w' l v x}, R w l v x → Keeps l w w' → R w' l v x
  weak : ∀ {w l l' v x}, R w l v x → (∀ y ∈ l', y ∈ l ∨ w.heap.size ≤ y) → R w l' v x
  one : ∀ {w l v x}, R w l v x → v.oneCell' = true

theorem Rok.step {α : Type} {R : Rp α} [Rok R] {w w' : World} {l l' : List Nat} {v : Value} {x : α} (h : R w l v x) (k : Keeps l' w w') (hl : ∀ y ∈ l', y ∈ l ∨ w.heap.size ≤ y) : R w' l v x :=
  Rok.keeps h (k.old hl)

def RdL (w : World) (l : List Nat) (A : Option Addr) (n : Nat) (f : Nat → Value) : Prop := 0 < n → ∃ a, A = some a ∧ a.block ∉ l ∧ ∀ i, i < n → w.cell? (a.add i) = some (f i)

section
variable {w w' : World} {l l' : List Nat} {A : Option Addr} {n : Nat} {f : Nat → Value}
theorem RdL.rd (h : RdL w l A n f) : Rd w w.heap.size A n f := fun hn => by
  obtain ⟨a, e, hb, hc⟩ := h hn
  have := lt_of_cell (hc 0 hn)
  rw [block_of_add] at this
  exact ⟨a, e, this, hc⟩
theorem RdL.keeps (h : RdL w l A n f) (k : Keeps l w w') : RdL w' l A n f := fun hn => by
  obtain ⟨a, e, hb, hc⟩ := h hn
  exact ⟨a, e, hb, fun i hi => k.read (hc i hi) (by rw [block_of_add]; exact hb)⟩
theorem RdL.weak (h : RdL w l A n f) (hl : ∀ y ∈ l', y ∈ l ∨ w.heap.size ≤ y) : RdL w l' A n f := fun hn => by
  obtain ⟨a, e, hb, hc⟩ := h hn
  have hlt := lt_of_cell (hc 0 hn)
  rw [block_of_add] at hlt
  exact ⟨a, e, fun hm => (hl _ hm).elim hb (fun h => by omega), hc⟩
theorem RdL.at_ (h : RdL w l A n f) {i : Nat} (hi : i < n) : ∃ a, A = some a ∧ w.cell? (a.add i) = some (f i) := by
  obtain ⟨a, e, _, hc⟩ := h (by omega)
  exact ⟨a, e, hc i hi⟩
theorem RdL.at0 (h : RdL w l A n f) (hi : 0 < n) : ∃ a, A = some a ∧ w.cell? a = some (f 0) := by
  obtain ⟨a, e, _, hc⟩ := h (by omega)
  have := hc 0 hi
  exact ⟨a, e, by simpa [Addr.add] using this⟩
theorem RdL.congr {g : Nat → Value} (h : RdL w l A n f) (e : ∀ i, i < n → f i = g i) : RdL w l A n g := fun hn => by
  obtain ⟨a, e', hb, hc⟩ := h hn
  exact ⟨a, e', hb, fun i hi => by rw [← e i hi]; exact hc i hi⟩
theorem Rd.rdl {B : Nat} (h : Rd w B A n f) (hl : ∀ x ∈ l, B ≤ x) : RdL w l A n f := fun hn => by
  obtain ⟨a, e, hb, hc⟩ := h hn
  exact ⟨a, e, fun hm => by have := hl _ hm; omega, hc⟩
end

theorem Own.congr {w : World} {b n : Nat} {f g : Nat → Value} (h : Own w b n f) (e : ∀ i, i < n → f i = g i) : Own w b n g := fun i hi => by
  obtain ⟨h1, h2⟩ := h i hi
  exact ⟨by rw [h1, e i hi], h2⟩

/-- A slice of one-cell elements that reads as a list. -/
def IsL {α : Type} (R : Rp α) (d : α) : Rp (List α) := fun w l v xs =>
  ∃ (A : Option Addr) (c : Nat) (V : Nat → Value), v = .slice A xs.length c ∧ xs.length ≤ c ∧ (A = none → c = 0) ∧ RdL w l A xs.length V ∧ ∀ i, i < xs.length → R w l (V i) (xs.getD i d)
def IsN : Rp Int := fun _ _ v x => v = .int .i64 x
def IsI : Rp (List Int) := IsL IsN 0
def IsII : Rp (List (List Int)) := IsL IsI []

instance : Rok IsN where
  keeps h _ := h
  weak h _ := h
  one h := by cases h; rfl
instance {α : Type} (R : Rp α) (d : α) [Rok R] : Rok (IsL R d) where
  keeps := by
    rintro w w' l v xs ⟨A, c, V, h1, h2, h3, h4, h5⟩ k
    exact ⟨A, c, V, h1, h2, h3, h4.keeps k, fun i hi => Rok.keeps (h5 i hi) k⟩
  weak := by
    rintro w l l' v xs ⟨A, c, V, h1, h2, h3, h4, h5⟩ hl
    exact ⟨A, c, V, h1, h2, h3, h4.weak hl, fun i hi => Rok.weak (h5 i hi) hl⟩
  one := by
    rintro w l v xs ⟨A, c, V, rfl, _⟩; rfl
instance : Rok IsI := inferInstanceAs (Rok (IsL IsN 0))
instance : Rok IsII := inferInstanceAs (Rok (IsL IsI []))

section
variable {w w' : World} {l l' : List Nat} {v : Value}
theorem IsI.open {xs : List Int} (h : IsI w l v xs) : ∃ (A : Option Addr) (c : Nat), v = .slice A xs.length c ∧ xs.length ≤ c ∧ (A = none → c = 0) ∧ RdL w l A xs.length (fun i => .int .i64 (xs.getD i 0)) := by
  obtain ⟨A, c, V, h1, h2, h3, h4, h5⟩ := h
  exact ⟨A, c, h1, h2, h3, h4.congr fun i hi => h5 i hi⟩
theorem IsI.mk {A : Option Addr} {n c : Nat} {xs : List Int} (hn : n = xs.length) (h2 : n ≤ c) (h3 : A = none → c = 0) (h : RdL w l A n (fun i => .int .i64 (xs.getD i 0))) : IsI w l (.slice A n c) xs := by
  subst hn
  exact ⟨A, c, _, rfl, h2, h3, h, fun i hi => rfl⟩
theorem IsL.nil {α : Type} {R : Rp α} {d : α} : IsL R d w l (.slice none 0 0) [] := ⟨none, 0, fun _ => undef, rfl, Nat.le_refl _, fun _ => rfl, fun h => absurd h (Nat.lt_irrefl 0), fun i hi => absurd hi (Nat.not_lt_zero i)⟩
theorem IsI.nil : IsI w l (.slice none 0 0) [] := IsL.nil
theorem IsII.nil : IsII w l (.slice none 0 0) [] := IsL.nil
/-- A fact of the beginning, in a later world, with blocks to be written that are newer than the beginning. -/
theorem IsI.later {xs : List Int} (h : IsI w l v xs) (k : Keeps l' w w') (hl : ∀ y ∈ l', y ∈ l ∨ w.heap.size ≤ y) : IsI w' l v xs := Rok.step h k hl
theorem IsII.later {xs : List (List Int)} (h : IsII w l v xs) (k : Keeps l' w w') (hl : ∀ y ∈ l', y ∈ l ∨ w.heap.size ≤ y) : IsII w' l v xs := Rok.step h k hl
theorem IsI.keeps {xs : List Int} (h : IsI w l v xs) (k : Keeps l w w') : IsI w' l v xs := Rok.keeps h k
theorem IsII.keeps {xs : List (List Int)} (h : IsII w l v xs) (k : Keeps l w w') : IsII w' l v xs := Rok.keeps h k
theorem IsI.new {xs : List Int} (h : IsI w l v xs) (k : Keeps [] w w') : IsI w' l v xs := Rok.keeps h (k.nil _)
theorem IsII.new {xs : List (List Int)} (h : IsII w l v xs) (k : Keeps [] w w') : IsII w' l v xs := Rok.keeps h (k.nil _)
theorem IsI.weak {xs : List Int} (h : IsI w l v xs) (hl : ∀ y ∈ l', y ∈ l ∨ w.heap.size ≤ y) : IsI w l' v xs := Rok.weak h hl
theorem IsII.weak {xs : List (List Int)} (h : IsII w l v xs) (hl : ∀ y ∈ l', y ∈ l ∨ w.heap.size ≤ y) : IsII w l' v xs := Rok.weak h hl
end

/-- A slice of one-cell elements that the call owns, in a block from base on, and that reads as a list; the elements do not lie in that block. -/
def OwL {α : Type} (R : Rp α) (d : α) (ty : TypeId) (base : Nat) : Rp (List α) := fun w l v xs =>
  ∃ us : List Value, us.length = xs.length ∧ w.ownsRow base ty 1 v xs.length us ∧ ∀ i, i < xs.length → R w (v.ownBlock.toList ++ l) (us.getD i undef) (xs.getD i d)

section
variable {α : Type} {R : Rp α} {d : α} {ty : TypeId} {base : Nat} {w w' : World} {l l' : List Nat} {v : Value} {xs : List α}
theorem OwL.nil : OwL R d ty base w l (.slice none 0 0) [] := ⟨[], rfl, World.ownsRow_nil _ _ _ _, fun i hi => absurd hi (Nat.not_lt_zero i)⟩
theorem OwL.slice (h : OwL R d ty base w l v xs) : ∃ A c, v = .slice A xs.length c := by
  obtain ⟨us, h1, h2, h3⟩ := h
  exact ownsRow_slice h2
theorem OwL.lt (h : OwL R d ty base w l v xs) {x : Nat} (hx : v.ownBlock = some x) : base ≤ x ∧ x < w.heap.size := by
  obtain ⟨us, h1, h2, h3⟩ := h
  exact own_base h2 hx
theorem OwL.low (h : OwL R d ty base w l v xs) {base' : Nat} (hb : base' ≤ base) : OwL R d ty base' w l v xs := by
  obtain ⟨us, h1, h2, h3⟩ := h
  exact ⟨us, h1, h2.mono_base hb, h3⟩
theorem cap_of_own {n c : Nat} {A : Option Addr} {us : List Value} (h : w.ownsRow base ty 1 (.slice A n c) n us) : n ≤ c ∧ (A = none → c = 0) := by
  rcases h.2 with ⟨hv, hu⟩ | ⟨g, cap, cur, hv, _, _, hc, _⟩
  · injection hv with h1 h2 h3
    subst h1; subst h2; subst h3
    exact ⟨Nat.le_refl _, fun _ => rfl⟩
  · injection hv with h1 h2 h3
    subst h1; subst h3
    exact ⟨hc, fun e => by cases e⟩
theorem OwL.isL (h : OwL R d ty base w l v xs) [Rok R] (hl : ∀ x ∈ l, x < base) : IsL R d w l v xs := by
  obtain ⟨us, h1, h2, h3⟩ := h
  obtain ⟨A, c, rfl⟩ := ownsRow_slice h2
  obtain ⟨hc, hA⟩ := cap_of_own h2
  refine ⟨A, c, fun i => us.getD i undef, rfl, hc, hA, fun hn => ?_, fun i hi => Rok.weak (h3 i hi) fun y hy => .inl (by simp [hy])⟩
  obtain ⟨a, e, hb, hc⟩ := rd_of_own h2 undef hn
  refine ⟨a, e, fun hm => ?_, hc⟩
  subst e
  obtain ⟨g, cap, hv, hg, hlt⟩ := h2.form hn
  injection hv with e
  injection e with e
  subst e
  have := hl _ hm
  simp at this
  omega
theorem OwL.keeps (h : OwL R d ty base w l v xs) [Rok R] (k : Keeps l' w w') (hl : ∀ y ∈ l', (y ∈ l ∨ w.heap.size ≤ y) ∧ v.ownBlock ≠ some y) : OwL R d ty base w' l v xs := by
  obtain ⟨us, h1, h2, h3⟩ := h
  exact ⟨us, h1, own_keeps h2 k fun x hx => (hl x hx).2, fun i hi => Rok.step (h3 i hi) k fun y hy => ((hl y hy).1).imp (fun h => by simp [h]) id⟩
/-- Nothing but blocks of the list is written, and these lie lower. -/
theorem OwL.keep (h : OwL R d ty base w l v xs) [Rok R] (k : Keeps l w w') (hl : ∀ x ∈ l, x < base) : OwL R d ty base w' l v xs :=
  h.keeps k fun y hy => ⟨.inl hy, fun e => by have := (h.lt e).1; have := hl y hy; omega⟩
theorem OwL.new (h : OwL R d ty base w l v xs) [Rok R] (k : Keeps [] w w') : OwL R d ty base w' l v xs := h.keeps k (by simp)
theorem OwL.weak (h : OwL R d ty base w l v xs) [Rok R] (hl : ∀ y ∈ l', y ∈ l ∨ w.heap.size ≤ y) : OwL R d ty base w l' v xs := by
  obtain ⟨us, h1, h2, h3⟩ := h
  refine ⟨us, h1, h2, fun i hi => Rok.weak (h3 i hi) fun y hy => ?_⟩
  rcases List.mem_append.1 hy with h | h
  · exact .inl (by simp [h])
  · exact (hl y h).imp (fun h => by simp [h]) id
theorem OwL.blocks (h : OwL R d ty base w l v xs) : ∀ y ∈ v.ownBlock.toList, base ≤ y ∧ y < w.heap.size := fun y hy => h.lt (by simpa using hy)
theorem OwL.at_ (h : OwL R d ty base w l v xs) {i : Nat} (hi : i < xs.length) : ∃ g c u, v = .slice (some ⟨g, 0, none⟩) xs.length c ∧ base ≤ g ∧ g < w.heap.size ∧ w.cell? ⟨g, i, none⟩ = some u ∧ w.frozen? ⟨g, i, none⟩ = false ∧ R w (g :: l) u (xs.getD i d) := by
  obtain ⟨us, h1, h2, h3⟩ := h
  obtain ⟨g, cap, rfl, hg, hlt⟩ := h2.form (by omega)
  refine ⟨g, cap, us.getD i undef, rfl, hg, hlt, ?_, h2.frozenAt i, h3 i hi⟩
  have : i < us.length := by omega
  rw [h2.cellAt i (by omega)]
  simp [List.getElem?_eq_getElem this, List.getD_eq_getElem?_getD]
end

theorem mem_getD {α : Type} {xs : List α} {x d : α} (h : x ∈ xs) : ∃ i, i < xs.length ∧ xs.getD i d = x := by
  obtain ⟨i, hi, e⟩ := List.mem_iff_getElem.1 h
  exact ⟨i, hi, by simp [List.getD_eq_getElem?_getD, hi, e]⟩
theorem getD_mem {α : Type} {xs : List α} {d : α} {i : Nat} (hi : i < xs.length) : xs.getD i d ∈ xs := by
  rw [List.getD_eq_getElem?_getD, List.getElem?_eq_getElem hi]; exact List.getElem_mem hi
theorem getD_append_left' {α : Type} (xs ys : List α) (d : α) {i : Nat} (h : i < xs.length) : (xs ++ ys).getD i d = xs.getD i d := by
  simp [List.getD_eq_getElem?_getD, List.getElem?_append_left h]
theorem getD_append_right' {α : Type} (xs ys : List α) (d : α) {i : Nat} (h : xs.length ≤ i) : (xs ++ ys).getD i d = ys.getD (i - xs.length) d := by
  simp [List.getD_eq_getElem?_getD, List.getElem?_append_right h]

/-- What an append leaves. -/
theorem OwL.appended {α : Type} {R : Rp α} {d : α} {ty : TypeId} {base : Nat} {w w' : World} {l : List Nat} {v v' : Value} {xs ys : List α} [Rok R] {us news : List Value} (hlen : us.length = xs.length)
    (hR : ∀ i, i < xs.length → R w (v.ownBlock.toList ++ l) (us.getD i undef) (xs.getD i d)) (hy : news.length = ys.length) (hn : ∀ i, i < ys.length → R w (v.ownBlock.toList ++ l) (news.getD i undef) (ys.getD i d))
    (hown : w'.ownsRow base ty 1 v' (xs.length + ys.length) (us ++ news)) (hg : w.grownBy w' v.ownBlock) (hat : v'.ownBlock = v.ownBlock ∨ v'.ownBlock = some w.heap.size) : OwL R d ty base w' l v' (xs ++ ys) := by
  have hk := Keeps.of_grown hg
  have key : ∀ u x, R w (v.ownBlock.toList ++ l) u x → R w' (v'.ownBlock.toList ++ l) u x := fun u x h => by
    have h1 : R w (w.heap.size :: (v.ownBlock.toList ++ l)) u x := Rok.weak h fun y hy => by
      rcases List.mem_cons.1 hy with e | e
      · exact .inr (by omega)
      · exact .inl e
    refine Rok.weak (Rok.keeps h1 (hk.more fun y hy => by simp at hy; simp [hy])) fun y hy => .inl ?_
    rcases List.mem_append.1 hy with h2 | h2
    · rcases hat with h3 | h3
      · rw [h3] at h2; simp at h2; simp [h2]
      · rw [h3] at h2; simp at h2; simp [h2]
    · simp [h2]
  refine ⟨us ++ news, by simp [hlen, hy], by rw [List.length_append]; exact hown, fun i hi => ?_⟩
  rw [List.length_append] at hi
  by_cases h : i < xs.length
  · rw [getD_append_left' _ _ _ h, getD_append_left' _ _ _ (by omega)]
    exact key _ _ (hR i h)
  · rw [getD_append_right' _ _ _ (by omega), getD_append_right' _ _ _ (by omega), hlen]
    exact key _ _ (hn _ (by omega))
end Go.Proofs.Ytdhadnnakcdfiaa
