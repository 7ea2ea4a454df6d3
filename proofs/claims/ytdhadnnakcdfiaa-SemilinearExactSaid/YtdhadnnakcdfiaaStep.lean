/- Steps of a region that draws its order: appends and calls, in the words of Rep. -/
import Derived.Test.YtdhadnnakcdfiaaPush
import Derived.Shelf.Abstract
import Derived.Deep.RegionLaw
namespace Go.Proofs.Ytdhadnnakcdfiaa
set_option linter.unusedVariables false
open Go.RowKit

section
variable {P : Program}
/-- 'append(s, ys...)', s a row of the call's own, as one step of a region that draws its order. -/
theorem step_join {α : Type} {R : Rp α} [Rok R] {d : α} {t e : TypeId} {z : Value} {bytes : Nat} (T : SlT P t e z bytes) {ops : Array Oper} {o : Oper} {a : Act} {K : Act → World → Prop} {Q : Exit → Act → World → Prop} {X : Prop} (hgd : o.guard = none) (s x : Operand)
    (ho : o.op = .call { callee := .builtin .append, args := #[s, x], argTypes := #[t, t] }) {w : World} {l l0 : List Nat} {w0 : World} {base : Nat} {v u : Value} {xs ys : List α}
    (hs : a.eval s = v) (hx : a.eval x = u) (hown : OwL R d e base w l v xs) (hu : IsL R d w (v.ownBlock.toList ++ l) u ys) {m : Nat} (hm : xs.length + ys.length = m) (h63 : m ≤ 1000000000) (hbase : base ≤ w.heap.size)
    (hb0 : w0.heap.size ≤ base) (hK0 : Keeps l0 w0 w)
    (h : ∀ V' c' w', OwL R d e base w' l (.slice V' m c') (xs ++ ys) → Keeps v.ownBlock.toList w w' → Keeps l0 w0 w' → K (a.put o.dst (.slice V' m c')) w') :
    if Region.wanted o (yielded ops a.tmps) = true then Oper.wp P o a w K Q else X := by
  subst hm
  have hown' := hown
  obtain ⟨us, h1, h2, h3⟩ := hown'
  obtain ⟨A, c, rfl⟩ := ownsRow_slice h2
  obtain ⟨A', c', V, rfl, i1, i2, i3, i4⟩ := hu
  have hgd' : ∀ i, i < ys.length → ((List.range ys.length).map V).getD i undef = V i := fun i hi => by simp [List.getD_eq_getElem?_getD, hi]
  refine step_app _ T hgd s x ho base A xs.length c us hs h2 w.heap.size A' ys.length c' ((List.range ys.length).map V) hx (by simp) (i3.congr fun i hi => (hgd' i hi).symm).rd (by
    intro u hu
    obtain ⟨i, hi, rfl⟩ := List.mem_map.1 hu
    exact Rok.one (i4 i (List.mem_range.1 hi))) h63 hbase ?_
  intro V' cv' w' g1 g2 g3
  have hbl : ∀ y ∈ (Value.slice A xs.length c).ownBlock.toList, base ≤ y := fun y hy => (hown.blocks y hy).1
  have hk := Keeps.of_grown g2
  refine h V' cv' w' ?_ hk ((hK0.step hk) fun x hx => .inr (by have := hbl x hx; omega))
  refine OwL.appended h1 h3 (by simp) (fun i hi => ?_) g1 g2 g3
  rw [hgd' i hi]
  exact i4 i hi

/-- 'append(s, x)' with what is known of the new block. -/
theorem step_pushg {α : Type} {R : Rp α} [Rok R] {d : α} {t e : TypeId} {z : Value} {bytes : Nat} (T : SlT P t e z bytes) {ops : Array Oper} {o : Oper} {a : Act} {K : Act → World → Prop} {Q : Exit → Act → World → Prop} {X : Prop} (hgd : o.guard = none) (s x : Operand)
    (ho : o.op = .call { callee := .builtin .append, args := #[s, x], argTypes := #[t, t] }) {w : World} {l : List Nat} {base : Nat} {v u : Value} {xs : List α} {y : α}
    (hs : a.eval s = v) (hx : a.eval x = .slice (some ⟨w.heap.size, 0, none⟩) 1 1) (hown : OwL R d e base w l v xs) (hu : R w (v.ownBlock.toList ++ l) u y) {m : Nat} (hm : xs.length + 1 = m) (h63 : m ≤ 1000000000) (hbase : base ≤ w.heap.size)
    (h : ∀ V' c' w', OwL R d e base w' l (.slice V' m c') (xs ++ [y]) → Keeps v.ownBlock.toList w w' → (∀ b ∈ (Value.slice V' m c').ownBlock.toList, b ∈ v.ownBlock.toList ∨ w.heap.size ≤ b) → K (a.put o.dst (.slice V' m c')) w') :
    if Region.wanted o (yielded ops a.tmps) = true then Oper.wp P o a (w.alloc (.cells #[u] e)) K Q else X := by
  subst hm
  have hown' := hown
  obtain ⟨us, h1, h2, h3⟩ := hown'
  obtain ⟨A, c, rfl⟩ := ownsRow_slice h2
  refine step_app _ T hgd s x ho base A xs.length c us hs (h2.alloc _) (w.heap.size + 1) (some ⟨w.heap.size, 0, none⟩) 1 1 [u] hx rfl rd_new' (by simp [Rok.one hu]) h63 (by simp; omega) ?_
  intro V' cv' w' g1 g2 g3
  have hal : Keeps [] w (w.alloc (.cells #[u] e)) := (Keeps.refl _ _).alloc _
  have hk : Keeps (Value.slice A xs.length c).ownBlock.toList w w' := (hal.nil _).trans (Keeps.of_grown g2)
  refine h V' cv' w' ?_ hk ?_
  · refine OwL.appended (ys := [y]) (news := [u]) h1 (fun i hi => Rok.keeps (h3 i hi) (hal.nil _)) rfl (fun i hi => ?_) g1 g2 g3
    obtain rfl : i = 0 := by simp at hi; omega
    exact Rok.keeps hu (hal.nil _)
  · intro b hb
    rcases g3 with g3 | g3
    · rw [g3] at hb; exact .inl hb
    · rw [g3] at hb
      have : b = w.heap.size + 1 := by simpa using hb
      exact .inr (by omega)

theorem wpList_pushg {α : Type} {R : Rp α} [Rok R] {d : α} {t e : TypeId} {z : Value} {bytes : Nat} (T : SlT P t e z bytes) {ops : Array Oper} {rest : List Oper} {o : Oper} {a : Act} {Q : Exit → Act → World → Prop} (hgd : o.guard = none) (s x : Operand)
    (ho : o.op = .call { callee := .builtin .append, args := #[s, x], argTypes := #[t, t] }) {w : World} {l : List Nat} {base : Nat} {v u : Value} {xs : List α} {y : α}
    (hs : a.eval s = v) (hx : a.eval x = .slice (some ⟨w.heap.size, 0, none⟩) 1 1) (hown : OwL R d e base w l v xs) (hu : R w (v.ownBlock.toList ++ l) u y) {m : Nat} (hm : xs.length + 1 = m) (h63 : m ≤ 1000000000) (hbase : base ≤ w.heap.size)
    (h : ∀ V' c' w', OwL R d e base w' l (.slice V' m c') (xs ++ [y]) → Keeps v.ownBlock.toList w w' → (∀ b ∈ (Value.slice V' m c').ownBlock.toList, b ∈ v.ownBlock.toList ∨ w.heap.size ≤ b) → wpList P ops Q rest (a.put o.dst (.slice V' m c')) w') :
    wpList P ops Q (o :: rest) a (w.alloc (.cells #[u] e)) := by
  subst hm
  have hown' := hown
  obtain ⟨us, h1, h2, h3⟩ := hown'
  obtain ⟨A, c, rfl⟩ := ownsRow_slice h2
  refine wpList_app _ T hgd s x ho base A xs.length c us hs (h2.alloc _) (w.heap.size + 1) (some ⟨w.heap.size, 0, none⟩) 1 1 [u] hx rfl rd_new' (by simp [Rok.one hu]) h63 (by simp; omega) ?_
  intro V' cv' w' g1 g2 g3
  have hal : Keeps [] w (w.alloc (.cells #[u] e)) := (Keeps.refl _ _).alloc _
  have hk : Keeps (Value.slice A xs.length c).ownBlock.toList w w' := (hal.nil _).trans (Keeps.of_grown g2)
  refine h V' cv' w' ?_ hk ?_
  · refine OwL.appended (ys := [y]) (news := [u]) h1 (fun i hi => Rok.keeps (h3 i hi) (hal.nil _)) rfl (fun i hi => ?_) g1 g2 g3
    obtain rfl : i = 0 := by simp at hi; omega
    exact Rok.keeps hu (hal.nil _)
  · intro b hb
    rcases g3 with g3 | g3
    · rw [g3] at hb; exact .inl hb
    · rw [g3] at hb
      have : b = w.heap.size + 1 := by simpa using hb
      exact .inr (by omega)

/-- A call of a Go function that returns, as one step of a region that draws its order. -/
theorem step_callf {ops : Array Oper} {o : Oper} {a : Act} {K : Act → World → Prop} {Q : Exit → Act → World → Prop} {X : Prop} {w : World} (hgd : o.guard = none) (F : FuncId) (xs : Array Operand) (ty : Array TypeId)
    (ho : o.op = .call { callee := .value (.func F), args := xs, argTypes := ty }) (eg : ∀ args w, (callFunc F args).run P w = .ok (.enter F args) w) {args : Array Value} (ha : xs.map a.eval = args) {R : Ending → World → Prop} (hc : Calls P F args w R)
    (h : ∀ e w', R e w' → ∃ v, e = .returned v ∧ K (a.put o.dst v) w') :
    if Region.wanted o (yielded ops a.tmps) = true then Oper.wp P o a w K Q else X := by
  have hw : Region.wanted o (yielded ops a.tmps) = true := by simp [Region.wanted, hgd]
  rw [if_pos hw]
  subst ha
  have e : (execOp a.eval o).run P w = .ok (.enter F (xs.map a.eval)) w := by
    unfold execOp
    simp only [ho, resolve, Act.eval, Deferred.ofValue, Sem.run_bind, Sem.run_pure, Result.andThen_ok, invoke, Array.append_empty, Array.empty_append]
    exact eg _ _
  show Oper.upon P o a K Q _
  rw [e, Oper.upon_enter]
  refine hc.mono ?_
  intro e w' hR
  obtain ⟨v, rfl, hk⟩ := h e w' hR
  exact hk
/-- The same, guarded or not. -/
theorem step_callw {ops : Array Oper} {o : Oper} {a : Act} {K : Act → World → Prop} {Q : Exit → Act → World → Prop} {X : Prop} {w : World} (F : FuncId) (xs : Array Operand) (ty : Array TypeId)
    (ho : o.op = .call { callee := .value (.func F), args := xs, argTypes := ty }) (eg : ∀ args w, (callFunc F args).run P w = .ok (.enter F args) w) {args : Array Value} {R : Ending → World → Prop} (hc : Calls P F args w R) (hw : Region.wanted o (yielded ops a.tmps) = true) (ha : xs.map a.eval = args)
    (h : ∀ e w', R e w' → ∃ v, e = .returned v ∧ K (a.put o.dst v) w') :
    if Region.wanted o (yielded ops a.tmps) = true then Oper.wp P o a w K Q else X := by
  rw [if_pos hw]
  subst ha
  have e : (execOp a.eval o).run P w = .ok (.enter F (xs.map a.eval)) w := by
    unfold execOp
    simp only [ho, resolve, Act.eval, Deferred.ofValue, Sem.run_bind, Sem.run_pure, Result.andThen_ok, invoke, Array.append_empty, Array.empty_append]
    exact eg _ _
  show Oper.upon P o a K Q _
  rw [e, Oper.upon_enter]
  refine hc.mono ?_
  intro e w' hR
  obtain ⟨v, rfl, hk⟩ := h e w' hR
  exact hk
/-- A call of a function value that returns. -/
theorem step_callv {ops : Array Oper} {o : Oper} {a : Act} {K : Act → World → Prop} {Q : Exit → Act → World → Prop} {X : Prop} {w : World} (F : FuncId) (f : Operand) (xs : Array Operand) (ty : Array TypeId) (cb : Array Value)
    (ho : o.op = .call { callee := .value f, args := xs, argTypes := ty }) (eg : ∀ args w, (callFunc F args).run P w = .ok (.enter F args) w) {args : Array Value} {R : Ending → World → Prop} (hc : Calls P F (args ++ cb) w R) (hw : Region.wanted o (yielded ops a.tmps) = true) (hf : a.eval f = .func (.func F) #[] cb) (ha : xs.map a.eval = args)
    (h : ∀ e w', R e w' → ∃ v, e = .returned v ∧ K (a.put o.dst v) w') :
    if Region.wanted o (yielded ops a.tmps) = true then Oper.wp P o a w K Q else X := by
  rw [if_pos hw]
  subst ha
  have e : (execOp a.eval o).run P w = .ok (.enter F (xs.map a.eval ++ cb)) w := by
    unfold execOp
    simp only [ho, resolve, hf, Deferred.ofValue, Sem.run_bind, Sem.run_pure, Result.andThen_ok, invoke, Array.append_empty, Array.empty_append]
    exact eg _ _
  show Oper.upon P o a K Q _
  rw [e, Oper.upon_enter]
  refine hc.mono ?_
  intro e w' hR
  obtain ⟨v, rfl, hk⟩ := h e w' hR
  exact hk
theorem step_call1 {ops : Array Oper} {o : Oper} {a : Act} {K : Act → World → Prop} {Q : Exit → Act → World → Prop} {X : Prop} {w : World} (hgd : o.guard = none) (F : FuncId) (x : Operand) (ty : Array TypeId)
    (ho : o.op = .call { callee := .value (.func F), args := #[x], argTypes := ty }) (eg : ∀ args w, (callFunc F args).run P w = .ok (.enter F args) w) {v : Value} {R : Ending → World → Prop} (hc : Calls P F #[v] w R) (hx : a.eval x = v)
    (h : ∀ e w', R e w' → ∃ v, e = .returned v ∧ K (a.put o.dst v) w') :
    if Region.wanted o (yielded ops a.tmps) = true then Oper.wp P o a w K Q else X :=
  step_callf hgd F #[x] ty ho eg (args := #[v]) (by simp [hx]) hc h
theorem step_call2 {ops : Array Oper} {o : Oper} {a : Act} {K : Act → World → Prop} {Q : Exit → Act → World → Prop} {X : Prop} {w : World} (hgd : o.guard = none) (F : FuncId) (x y : Operand) (ty : Array TypeId)
    (ho : o.op = .call { callee := .value (.func F), args := #[x, y], argTypes := ty }) (eg : ∀ args w, (callFunc F args).run P w = .ok (.enter F args) w) {v u : Value} {R : Ending → World → Prop} (hc : Calls P F #[v, u] w R) (hx : a.eval x = v) (hy : a.eval y = u)
    (h : ∀ e w', R e w' → ∃ v, e = .returned v ∧ K (a.put o.dst v) w') :
    if Region.wanted o (yielded ops a.tmps) = true then Oper.wp P o a w K Q else X :=
  step_callf hgd F #[x, y] ty ho eg (args := #[v, u]) (by simp [hx, hy]) hc h
end
end Go.Proofs.Ytdhadnnakcdfiaa
