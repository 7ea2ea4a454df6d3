/- Appends to a slice of the call's own, in the words of Rep. -/
import Derived.Test.YtdhadnnakcdfiaaRep
namespace Go.Proofs.Ytdhadnnakcdfiaa
set_option linter.unusedVariables false
open Go.RowKit

theorem rd_new' {w : World} {x : Value} {e : TypeId} : Rd (w.alloc (.cells #[x] e)) (w.heap.size + 1) (some ⟨w.heap.size, 0, none⟩) 1 (fun i => [x].getD i undef) := fun _ =>
  ⟨_, rfl, by simp, fun i hi => by obtain rfl : i = 0 := by omega
                                   simp [Addr.add]⟩

section
variable {P : Program}
/-- 'append(s, x)', s a row of the call's own, x one value. -/
theorem wpList_push {α : Type} {R : Rp α} [Rok R] {d : α} {t e : TypeId} {z : Value} {bytes : Nat} (T : SlT P t e z bytes) {ops : Array Oper} {rest : List Oper} {o : Oper} {a : Act} {Q : Exit → Act → World → Prop} (hgd : o.guard = none) (s x : Operand)
    (ho : o.op = .call { callee := .builtin .append, args := #[s, x], argTypes := #[t, t] }) {w : World} {l l0 : List Nat} {w0 : World} {base : Nat} {v u : Value} {xs : List α} {y : α}
    (hs : a.eval s = v) (hx : a.eval x = .slice (some ⟨w.heap.size, 0, none⟩) 1 1) (hown : OwL R d e base w l v xs) (hu : R w (v.ownBlock.toList ++ l) u y) {m : Nat} (hm : xs.length + 1 = m) (h63 : m ≤ 1000000000) (hbase : base ≤ w.heap.size)
    (hb0 : w0.heap.size ≤ base) (hK0 : Keeps l0 w0 w)
    (h : ∀ V' c' w', OwL R d e base w' l (.slice V' m c') (xs ++ [y]) → Keeps v.ownBlock.toList w w' → Keeps l0 w0 w' → wpList P ops Q rest (a.put o.dst (.slice V' m c')) w') :
    wpList P ops Q (o :: rest) a (w.alloc (.cells #[u] e)) := by
  subst hm
  have hown' := hown
  obtain ⟨us, h1, h2, h3⟩ := hown'
  obtain ⟨A, c, rfl⟩ := ownsRow_slice h2
  refine wpList_app _ T hgd s x ho base A xs.length c us hs (h2.alloc _) (w.heap.size + 1) (some ⟨w.heap.size, 0, none⟩) 1 1 [u] hx rfl rd_new' (by simp [Rok.one hu]) h63 (by simp; omega) ?_
  intro V' cv' w' g1 g2 g3
  have hal : Keeps [] w (w.alloc (.cells #[u] e)) := (Keeps.refl _ _).alloc _
  have hbl : ∀ y ∈ (Value.slice A xs.length c).ownBlock.toList, base ≤ y := fun y hy => (hown.blocks y hy).1
  have hk : Keeps (Value.slice A xs.length c).ownBlock.toList w w' := (hal.nil _).trans (Keeps.of_grown g2)
  refine h V' cv' w' ?_ hk ((hK0.step hk) fun x hx => .inr (by have := hbl x hx; omega))
  refine OwL.appended (ys := [y]) (news := [u]) h1 (fun i hi => Rok.keeps (h3 i hi) (hal.nil _)) rfl (fun i hi => ?_) g1 g2 g3
  obtain rfl : i = 0 := by simp at hi; omega
  exact Rok.keeps hu (hal.nil _)

theorem step_push {α : Type} {R : Rp α} [Rok R] {d : α} {t e : TypeId} {z : Value} {bytes : Nat} (T : SlT P t e z bytes) {ops : Array Oper} {o : Oper} {a : Act} {K : Act → World → Prop} {Q : Exit → Act → World → Prop} {X : Prop} (hgd : o.guard = none) (s x : Operand)
    (ho : o.op = .call { callee := .builtin .append, args := #[s, x], argTypes := #[t, t] }) {w : World} {l l0 : List Nat} {w0 : World} {base : Nat} {v u : Value} {xs : List α} {y : α}
    (hs : a.eval s = v) (hx : a.eval x = .slice (some ⟨w.heap.size, 0, none⟩) 1 1) (hown : OwL R d e base w l v xs) (hu : R w (v.ownBlock.toList ++ l) u y) {m : Nat} (hm : xs.length + 1 = m) (h63 : m ≤ 1000000000) (hbase : base ≤ w.heap.size)
    (hb0 : w0.heap.size ≤ base) (hK0 : Keeps l0 w0 w)
    (h : ∀ V' c' w', OwL R d e base w' l (.slice V' m c') (xs ++ [y]) → Keeps v.ownBlock.toList w w' → Keeps l0 w0 w' → K (a.put o.dst (.slice V' m c')) w') :
    if Region.wanted o (yielded ops a.tmps) = true then Oper.wp P o a (w.alloc (.cells #[u] e)) K Q else X := by
  subst hm
  have hown' := hown
  obtain ⟨us, h1, h2, h3⟩ := hown'
  obtain ⟨A, c, rfl⟩ := ownsRow_slice h2
  refine step_app _ T hgd s x ho base A xs.length c us hs (h2.alloc _) (w.heap.size + 1) (some ⟨w.heap.size, 0, none⟩) 1 1 [u] hx rfl rd_new' (by simp [Rok.one hu]) h63 (by simp; omega) ?_
  intro V' cv' w' g1 g2 g3
  have hal : Keeps [] w (w.alloc (.cells #[u] e)) := (Keeps.refl _ _).alloc _
  have hbl : ∀ y ∈ (Value.slice A xs.length c).ownBlock.toList, base ≤ y := fun y hy => (hown.blocks y hy).1
  have hk : Keeps (Value.slice A xs.length c).ownBlock.toList w w' := (hal.nil _).trans (Keeps.of_grown g2)
  refine h V' cv' w' ?_ hk ((hK0.step hk) fun x hx => .inr (by have := hbl x hx; omega))
  refine OwL.appended (ys := [y]) (news := [u]) h1 (fun i hi => Rok.keeps (h3 i hi) (hal.nil _)) rfl (fun i hi => ?_) g1 g2 g3
  obtain rfl : i = 0 := by simp at hi; omega
  exact Rok.keeps hu (hal.nil _)

/-- 'append(s, ys...)', s a row of the call's own. -/
theorem wpList_join {α : Type} {R : Rp α} [Rok R] {d : α} {t e : TypeId} {z : Value} {bytes : Nat} (T : SlT P t e z bytes) {ops : Array Oper} {rest : List Oper} {o : Oper} {a : Act} {Q : Exit → Act → World → Prop} (hgd : o.guard = none) (s x : Operand)
    (ho : o.op = .call { callee := .builtin .append, args := #[s, x], argTypes := #[t, t] }) {w : World} {l l0 : List Nat} {w0 : World} {base : Nat} {v u : Value} {xs ys : List α}
    (hs : a.eval s = v) (hx : a.eval x = u) (hown : OwL R d e base w l v xs) (hu : IsL R d w (v.ownBlock.toList ++ l) u ys) {m : Nat} (hm : xs.length + ys.length = m) (h63 : m ≤ 1000000000) (hbase : base ≤ w.heap.size)
    (hb0 : w0.heap.size ≤ base) (hK0 : Keeps l0 w0 w)
    (h : ∀ V' c' w', OwL R d e base w' l (.slice V' m c') (xs ++ ys) → Keeps v.ownBlock.toList w w' → Keeps l0 w0 w' → wpList P ops Q rest (a.put o.dst (.slice V' m c')) w') :
    wpList P ops Q (o :: rest) a w := by
  subst hm
  have hown' := hown
  obtain ⟨us, h1, h2, h3⟩ := hown'
  obtain ⟨A, c, rfl⟩ := ownsRow_slice h2
  obtain ⟨A', c', V, rfl, i1, i2, i3, i4⟩ := hu
  have hgd' : ∀ i, i < ys.length → ((List.range ys.length).map V).getD i undef = V i := fun i hi => by simp [List.getD_eq_getElem?_getD, hi]
  refine wpList_app _ T hgd s x ho base A xs.length c us hs h2 w.heap.size A' ys.length c' ((List.range ys.length).map V) hx (by simp) (i3.congr fun i hi => (hgd' i hi).symm).rd (by
    intro u hu
    obtain ⟨i, hi, rfl⟩ := List.mem_map.1 hu
    exact Rok.one (i4 i (List.mem_range.1 hi))) h63 hbase ?_
  intro V' cv' w' g1 g2 g3
  have hbl : ∀ y ∈ (Value.slice A xs.length c).ownBlock.toList, base ≤ y := fun y hy => (hown.blocks y hy).1
  have hk := Keeps.of_grown g2
  refine h V' cv' w' ?_ hk ((hK0.step hk) fun x hx => .inr (by have := hbl x hx; omega))
  refine OwL.appended h1 h3 (by simp) (fun i hi => ?_) g1 g2 g3
  rw [hgd' i hi]
  exact i4 i hi
end

/-- New cells, as a slice. -/
theorem isL_new {α : Type} {R : Rp α} [Rok R] {d : α} {w : World} {l : List Nat} {us : Array Value} {e : TypeId} {xs : List α} (hl : ∀ x ∈ l, x < w.heap.size) (hn : us.size = xs.length) (h : ∀ i, i < xs.length → R w l (us.getD i undef) (xs.getD i d)) :
    IsL R d (w.alloc (.cells us e)) l (.slice (some ⟨w.heap.size, 0, none⟩) xs.length xs.length) xs := by
  refine ⟨_, xs.length, fun i => us.getD i undef, rfl, Nat.le_refl _, (fun h => by cases h), fun _ => ⟨_, rfl, (fun hm => by have := hl _ hm; simp at this), fun i hi => ?_⟩, fun i hi => Rok.keeps (h i hi) (((Keeps.refl _ _).alloc _).nil _)⟩
  rw [addz, World.cell?_alloc_new]
  have : i < us.size := by omega
  simp [this]

/-- A literal, as a row of the call's own. -/
theorem OwL.made {α : Type} {R : Rp α} [Rok R] {d : α} {w : World} {l : List Nat} {us : Array Value} {ty : TypeId} {xs : List α} (hn : us.size = xs.length) (hm : us.size ≤ 1000000) (h : ∀ i, i < xs.length → R w l (us.getD i undef) (xs.getD i d)) :
    OwL R d ty w.heap.size (w.alloc (.cells us ty)) l (.slice (some ⟨w.heap.size, 0, none⟩) xs.length xs.length) xs := by
  refine ⟨us.toList, by simpa using hn, ⟨by simp [hn], .inr ⟨w.heap.size, xs.length, us, rfl, Nat.le_refl _, heap_alloc_new w _, Nat.le_refl _, by unfold maxLen; omega, by omega, by rw [Nat.mul_one, ← hn]; exact List.take_of_length_le (by simp)⟩⟩, fun i hi => ?_⟩
  have e : us.toList.getD i undef = us.getD i undef := by simp [List.getD_eq_getElem?_getD]
  rw [e]
  have h1 : R w (w.heap.size :: l) (us.getD i undef) (xs.getD i d) := Rok.weak (h i hi) fun y hy => by
    rcases List.mem_cons.1 hy with e | e
    · exact .inr (by omega)
    · exact .inl e
  exact Rok.keeps h1 (((Keeps.refl _ _).alloc _).nil _)

theorem OwL.made1 {α : Type} {R : Rp α} [Rok R] {d : α} {w : World} {l : List Nat} {u : Value} {ty : TypeId} {x : α} (h : R w l u x) : OwL R d ty w.heap.size (w.alloc (.cells #[u] ty)) l (.slice (some ⟨w.heap.size, 0, none⟩) 1 1) [x] :=
  OwL.made (xs := [x]) rfl (by simp) fun i hi => by
    have e : i = 0 := by simpa using hi
    subst e; exact h

theorem elem_of {P : Program} {t e : TypeId} (h : P.underlying t = some (.slice e)) : P.elem t = e := by simp [Program.elem, h]
theorem size_of {P : Program} {t e : TypeId} {z : Value} {bytes : Nat} (T : SlT P t e z bytes) (w : World) : (sizeOf e).run P w = .ok 1 w := by
  obtain ⟨i, hi, hz, hs, hb⟩ := info_parts T.hi
  simp [sizeOf, typeInfo, hi, hs]

/-- 's[k:]': an equation for the walk, and what it reads as. -/
theorem slice_from {P : Program} {t e : TypeId} {z : Value} {bytes : Nat} (T : SlT P t e z bytes) {α : Type} {R : Rp α} {d : α} {w : World} {l : List Nat} {A : Option Addr} {n c : Nat} {xs : List α} (h : IsL R d w l (.slice A n c) xs) (k : Nat) (hk : k ≤ n) :
    ∃ A', (∀ (W : World), (Instr.slice t (.slice A n c) (some (.int .i64 (k : Int))) none none).run P W = .ok (.slice A' (n - k) (c - k)) W) ∧ IsL R d w l (.slice A' (n - k) (c - k)) (xs.drop k) := by
  obtain ⟨A1, c1, V, hv, h1, h2, h3, h4⟩ := h
  injection hv with e1 e2 e3
  subst e1; subst e2; subst e3
  refine ⟨if c = k then A else A.map (·.add (k * 1)), fun W => ?_, ?_⟩
  · have hel := elem_of T.ht
    have hu : P.underlying t = some (.slice (P.elem t)) := by rw [hel]; exact T.ht
    rw [run_slice_l (P := P) W t A xs.length c hu .i64 (k : Int) (by omega) (by omega), hel, size_of T]
    simp [Result.andThen, sliced]
  · refine ⟨_, c - k, fun i => V (i + k), by rw [List.length_drop], by rw [List.length_drop]; omega, fun hA => ?_, fun hn => ?_, fun i hi => ?_⟩
    · by_cases e : c = k
      · rw [e]; omega
      · rw [if_neg e] at hA
        have : A = none := by cases A with
          | none => rfl
          | some a => simp at hA
        have := h2 this; omega
    · rw [List.length_drop] at hn
      obtain ⟨a, e, hb, hc⟩ := h3 (by omega)
      refine ⟨a.add k, by rw [if_neg (by omega), e]; simp, by rw [block_of_add]; exact hb, fun i hi => ?_⟩
      rw [List.length_drop] at hi
      rw [add_of_add, Nat.add_comm k i]; exact hc _ (by omega)
    · rw [List.length_drop] at hi
      have : (xs.drop k).getD i d = xs.getD (i + k) d := by simp [List.getD_eq_getElem?_getD, Nat.add_comm]
      rw [this]; exact h4 _ (by omega)

/-- 's[:k]': an equation for the walk, and what it reads as. -/
theorem slice_to {P : Program} {t e : TypeId} {z : Value} {bytes : Nat} (T : SlT P t e z bytes) {α : Type} {R : Rp α} {d : α} {w : World} {l : List Nat} {A : Option Addr} {n c : Nat} {xs : List α} (h : IsL R d w l (.slice A n c) xs) (k : Nat) (hk : k ≤ n) :
    ∃ A', (∀ (W : World), (Instr.slice t (.slice A n c) none (some (.int .i64 (k : Int))) none).run P W = .ok (.slice A' k c) W) ∧ IsL R d w l (.slice A' k c) (xs.take k) := by
  obtain ⟨A1, c1, V, hv, h1, h2, h3, h4⟩ := h
  injection hv with e1 e2 e3
  subst e1; subst e2; subst e3
  refine ⟨if c = 0 then A else A.map (·.add (0 * 1)), fun W => ?_, ?_⟩
  · have hel := elem_of T.ht
    have hu : P.underlying t = some (.slice (P.elem t)) := by rw [hel]; exact T.ht
    rw [run_slice_h (P := P) W t A xs.length c hu .i64 (k : Int) (by omega) (by omega), hel, size_of T]
    simp [Result.andThen, sliced]
  · have hlen : (xs.take k).length = k := by rw [List.length_take]; omega
    refine ⟨_, c, V, by rw [hlen], by omega, fun hA => ?_, fun hn => ?_, fun i hi => ?_⟩
    · by_cases e : c = 0
      · exact e
      · rw [if_neg e] at hA
        have : A = none := by cases A with
          | none => rfl
          | some a => simp at hA
        exact h2 this
    · rw [hlen] at hn
      obtain ⟨a, e, hb, hc⟩ := h3 (by omega)
      refine ⟨a, by rw [if_neg (by omega), e]; simp [Addr.add], hb, fun i hi => ?_⟩
      rw [hlen] at hi
      exact hc _ (by omega)
    · rw [hlen] at hi
      have : (xs.take k).getD i d = xs.getD i d := by simp [List.getD_eq_getElem?_getD, hi]
      rw [this]; exact h4 _ (by omega)
theorem OwL.putw {α β : Type} {R' : Rp β} {d : β} {R : Rp α} [Rok R] {ty : TypeId} {base : Nat} {w0 w1 w2 : World} {l l' : List Nat} {v u : Value} {xs : List β} {y : α} (hown : OwL R' d ty base w1 l' v xs) (h : R w0 l u y) (k : Keeps [] w0 w2) (hb : w0.heap.size ≤ base) : R w2 (v.ownBlock.toList ++ l) u y :=
  Rok.keeps (Rok.weak h fun x hx => by
    rcases List.mem_append.1 hx with h1 | h1
    · exact .inr (by have := (hown.blocks x h1).1; omega)
    · exact .inl h1) (k.nil _)
theorem OwL.putb {β : Type} {R' : Rp β} {d : β} {ty : TypeId} {base : Nat} {w1 : World} {l l' : List Nat} {v : Value} {xs : List β} (hown : OwL R' d ty base w1 l' v xs) (hl : ∀ y ∈ l, y < w1.heap.size) : ∀ y ∈ v.ownBlock.toList ++ l, y < w1.heap.size := fun x hx => by
  rcases List.mem_append.1 hx with h1 | h1
  · exact (hown.blocks x h1).2
  · exact hl x h1

end Go.Proofs.Ytdhadnnakcdfiaa
