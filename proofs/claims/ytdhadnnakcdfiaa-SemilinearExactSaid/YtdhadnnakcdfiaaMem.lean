/- Laws on memory that the call makes: append, make, in the words of Base. -/
import Derived.Test.YtdhadnnakcdfiaaBase
import Derived.Maps.AppendAt
import Derived.Deep.AppendLies
import Derived.RegionTactic
import Derived.OwnWalk
import Derived.Laws.OwnMore
import Derived.Laws.MakeOwn
namespace Go.Proofs.Ytdhadnnakcdfiaa
open Go.RowKit

/-- What is asked of a slice type t of one-cell elements e. -/
structure SlT (P : Program) (t e : TypeId) (z : Value) (bytes : Nat) : Prop where
  ht : P.underlying t = some (.slice e)
  hi : (P.info? e).map (fun i => (i.zero, i.size, i.bytes)) = some (some z, 1, bytes)
  hz : z.cells.size = 1
  hb : bytes ≤ 64

theorem heap_lt {w : World} {g : Nat} {o : Obj} (h : w.heap[g]? = some o) : g < w.heap.size := (Array.getElem?_eq_some_iff.1 h).1

theorem addz (g j : Nat) : (⟨g, 0, none⟩ : Addr).add j = ⟨g, j, none⟩ := by unfold Addr.add; split <;> simp_all

section
variable {w w' : World} {base e n c B m : Nat} {A : Option Addr} {xs : List Value}

/-- A row that the call owns reads as the list. -/
theorem rd_of_own (h : w.ownsRow base e 1 (.slice A n c) n xs) (d : Value) : Rd w w.heap.size A n (fun i => xs.getD i d) := by
  intro hn
  obtain ⟨g, cap, hv, _, hlt⟩ := h.form hn
  have hA : A = some ⟨g, 0, none⟩ := by injection hv
  subst hA
  refine ⟨_, rfl, hlt, fun i hi => h.cells (g := g) rfl i _ ?_⟩
  have hl : i < xs.length := by have := h.1; omega
  simp [List.getElem?_eq_getElem hl, List.getD_eq_getElem?_getD]

/-- A row that the call owns, as a block. -/
theorem own_of_own (h : w.ownsRow base e 1 (.slice A n c) n xs) (d : Value) : ∃ g, base ≤ g ∧ (0 < n → A = some ⟨g, 0, none⟩ ∧ g < w.heap.size) ∧ Own w g n (fun i => xs.getD i d) := by
  by_cases hn : 0 < n
  · obtain ⟨g, cap, hv, hg, hlt⟩ := h.form hn
    have hA : A = some ⟨g, 0, none⟩ := by injection hv
    have hc : c = cap := by injection hv
    subst hA; subst hc
    refine ⟨g, hg, fun _ => ⟨rfl, hlt⟩, fun i hi => ⟨?_, h.frozenAt i⟩⟩
    rw [h.cellAt i (by omega)]
    have hl : i < xs.length := by have := h.1; omega
    simp [List.getElem?_eq_getElem hl, List.getD_eq_getElem?_getD]
  · exact ⟨base, Nat.le_refl _, fun h => absurd h hn, fun i hi => absurd hi (by omega)⟩

theorem ownsRow_slice {v : Value} (h : w.ownsRow base e 1 v n xs) : ∃ A c, v = .slice A n c := by
  rcases h.2 with ⟨rfl, rfl⟩ | ⟨g, cap, cur, rfl, _⟩
  · exact ⟨none, 0, rfl⟩
  · exact ⟨_, _, rfl⟩
end

section
variable {a w w' : World} {l l0 : List Nat}
theorem Keeps.alloc (h : Keeps l a w) (o : Obj) : Keeps l a (w.alloc o) :=
  h.trans ⟨rfl, rfl, rfl, by simp, fun k hk _ => Below.heap_alloc _ _ _ hk⟩
/-- A further step that writes to blocks of the list, or to blocks that are newer than the beginning. -/
theorem Keeps.step (h : Keeps l0 a w) (k : Keeps l w w') (hl : ∀ x ∈ l, x ∈ l0 ∨ a.heap.size ≤ x) : Keeps l0 a w' :=
  ⟨k.os.trans h.os, k.tape.trans h.tape, k.output.trans h.output, Nat.le_trans h.size k.size, fun i hi hn =>
    (k.block i (Nat.lt_of_lt_of_le hi h.size) (fun hm => by rcases hl i hm with h1 | h1; exact hn h1; omega)).trans (h.block i hi hn)⟩
theorem Keeps.of_grown {row : Option Nat} (h : w.grownBy w' row) : Keeps row.toList w w' :=
  ⟨h.os, h.tape, h.output, h.size, fun k hk hn => h.block k hk (fun e => hn (by rw [← e]; simp))⟩
theorem Keeps.of_below (h : Below w.heap.size w w') : Keeps l w w' := ⟨h.os, h.tape, h.output, h.size, fun k hk _ => h.block k hk⟩
theorem own_keeps {base n : Nat} {e : TypeId} {v : Value} {xs : List Value} (h : w.ownsRow base e 1 v n xs) (k : Keeps l w w') (hl : ∀ x ∈ l, v.ownBlock ≠ some x) : w'.ownsRow base e 1 v n xs := by
  refine ⟨h.1, ?_⟩
  rcases h.2 with hn | ⟨g, cap, cur, rfl, hb, hgg, rest⟩
  · exact .inl hn
  · refine .inr ⟨g, cap, cur, rfl, hb, ?_, rest⟩
    rw [k.block g (Array.getElem?_eq_some_iff.1 hgg).1 (fun hm => hl g hm rfl)]
    exact hgg
theorem _root_.Go.World.ownsRow.mono_base {base base' n : Nat} {e : TypeId} {v : Value} {xs : List Value} (h : w.ownsRow base e 1 v n xs) (hb : base' ≤ base) : w.ownsRow base' e 1 v n xs := by
  refine ⟨h.1, ?_⟩
  rcases h.2 with hn | ⟨g, cap, cur, rfl, hg, rest⟩
  · exact .inl hn
  · exact .inr ⟨g, cap, cur, rfl, Nat.le_trans hb hg, rest⟩
/-- The blocks of rows that begin at a base lie there. -/
theorem own_base {base n : Nat} {e : TypeId} {v : Value} {xs : List Value} (h : w.ownsRow base e 1 v n xs) {x : Nat} (hx : v.ownBlock = some x) : base ≤ x ∧ x < w.heap.size := h.lt x hx
theorem own_ne {base n : Nat} {e : TypeId} {v : Value} {xs : List Value} (h : w.ownsRow base e 1 v n xs) {x : Nat} (hx : x < base) : v.ownBlock ≠ some x := fun e => by
  have := (h.lt x e).1; omega
end

section
variable {P : Program} (w : World)

theorem run_append_of_nil (base : Nat) (t ty e : TypeId) (i : TypeInfo) (ht : P.underlying t = some (.slice e)) (hi : P.info? e = some i)
    (v : Value) (n : Nat) (xs : List Value) (hown : w.ownsRow base e 1 v n xs) (c : Nat) : (Builtin.append_ #[t, t] ty #[v, .slice none 0 c]).run P w = .ok v w := by
  rcases hown.2 with ⟨rfl, rfl⟩ | ⟨g, cap, cur, rfl, _, _, hnc, _⟩
  · simp [Builtin.append_, run_underlying ht, sizeOf, typeInfo, hi, Builtin.lenOf, Builtin.firstCells]
  · simp [Builtin.append_, run_underlying ht, sizeOf, typeInfo, hi, Builtin.lenOf, Builtin.firstCells, hnc, storeCells]

theorem run_append_rd {t e : TypeId} {z : Value} {bytes : Nat} (T : SlT P t e z bytes) (base : Nat) (ty : TypeId) (V : Option Addr) (n cv : Nat) (xs : List Value) (hown : w.ownsRow base e 1 (.slice V n cv) n xs)
    (B : Nat) (A : Option Addr) (m c : Nat) (news : List Value) (hm : news.length = m) (hr : Rd w B A m (fun i => news.getD i undef)) (h1 : ∀ u ∈ news, u.oneCell' = true)
    (h63 : n + m ≤ 1000000000) (hbase : base ≤ w.heap.size) :
    ∃ V' cv' w', (Builtin.append_ #[t, t] ty #[.slice V n cv, .slice A m c]).run P w = .ok (.slice V' (n + m) cv') w' ∧ w'.ownsRow base e 1 (.slice V' (n + m) cv') (n + m) (xs ++ news) ∧ w.grownBy w' (Value.slice V n cv).ownBlock ∧
      ((Value.slice V' (n + m) cv').ownBlock = (Value.slice V n cv).ownBlock ∨ (Value.slice V' (n + m) cv').ownBlock = some w.heap.size) := by
  obtain ⟨i, hi, hz, hs, hb⟩ := info_parts T.hi
  have hbytes : (n + m) * bytes ≤ 140737488355328 := by
    have := Nat.mul_le_mul h63 T.hb; omega
  suffices hsuff : ∃ v' w', (Builtin.append_ #[t, t] ty #[.slice V n cv, .slice A m c]).run P w = .ok v' w' ∧ w'.ownsRow base e 1 v' (n + m) (xs ++ news) ∧ w.grownBy w' (Value.slice V n cv).ownBlock ∧
      (v'.ownBlock = (Value.slice V n cv).ownBlock ∨ v'.ownBlock = some w.heap.size) by
    obtain ⟨v', w', a1, a2, a3, a4⟩ := hsuff
    obtain ⟨V', cv', rfl⟩ := ownsRow_slice a2
    exact ⟨V', cv', w', a1, a2, a3, a4⟩
  by_cases h0 : m = 0
  · subst h0
    have hn : news = [] := List.eq_nil_of_length_eq_zero hm
    subst hn
    cases A with
    | none => exact ⟨_, _, run_append_of_nil w base t ty e i T.ht hi _ n xs hown c, by simpa using hown, World.grownBy.refl w _, .inl rfl⟩
    | some ad =>
      obtain ⟨v', w', hrun, h2, h3, _, h5⟩ := run_append_own_at (P := P) w base t ty e i z 1 bytes T.ht hi hz hs hb T.hz (by omega) _ n xs hown ad 0 c [] (by simp) (by simp) (by simp) (by unfold maxLen; omega) hbytes hbase
      exact ⟨v', w', hrun, h2, h3, h5⟩
  · obtain ⟨ad, rfl, _, hc⟩ := hr (by omega)
    obtain ⟨v', w', hrun, h2, h3, _, h5⟩ := run_append_own_at (P := P) w base t ty e i z 1 bytes T.ht hi hz hs hb T.hz (by omega) _ n xs hown ad m c news (by omega)
      (fun j u hu => by
        have hl : j < news.length := (List.getElem?_eq_some_iff.1 hu).1
        have : w.cell? (ad.add j) = some (news.getD j undef) := hc j (by omega)
        rw [List.getD_eq_getElem?_getD, hu] at this
        simpa using this) h1 (by unfold maxLen; omega) hbytes hbase
    exact ⟨v', w', hrun, h2, h3, h5⟩

/-- 's = append(s, ..)' onto a row of the call's own, at an operation. -/
theorem wpList_app {t e : TypeId} {z : Value} {bytes : Nat} (T : SlT P t e z bytes) {ops : Array Oper} {rest : List Oper} {o : Oper} {a : Act} {Q : Exit → Act → World → Prop} (hgd : o.guard = none) (s x : Operand)
    (ho : o.op = .call { callee := .builtin .append, args := #[s, x], argTypes := #[t, t] })
    (base : Nat) (V : Option Addr) (n cv : Nat) (xs : List Value) (hs : a.eval s = .slice V n cv) (hown : w.ownsRow base e 1 (.slice V n cv) n xs)
    (B : Nat) (A : Option Addr) (m c : Nat) (news : List Value) (hx : a.eval x = .slice A m c) (hm : news.length = m) (hr : Rd w B A m (fun i => news.getD i undef)) (h1 : ∀ u ∈ news, u.oneCell' = true)
    (h63 : n + m ≤ 1000000000) (hbase : base ≤ w.heap.size)
    (h : ∀ V' cv' w', w'.ownsRow base e 1 (.slice V' (n + m) cv') (n + m) (xs ++ news) → w.grownBy w' (Value.slice V n cv).ownBlock →
      ((Value.slice V' (n + m) cv').ownBlock = (Value.slice V n cv).ownBlock ∨ (Value.slice V' (n + m) cv').ownBlock = some w.heap.size) → wpList P ops Q rest (a.put o.dst (.slice V' (n + m) cv')) w') : wpList P ops Q (o :: rest) a w := by
  refine wpList_plain hgd fun _ hK => ?_
  obtain ⟨V', cv', w', hrun, h2, h3, h4⟩ := run_append_rd (P := P) w T base o.type V n cv xs hown B A m c news hm hr h1 h63 hbase
  unfold Oper.wp execOp
  simp only [ho, resolve, invoke, builtin, Sem.run_bind, Sem.run_pure, Result.andThen_ok, List.map_toArray, List.map_cons, List.map_nil, hs, hx, hrun]
  exact hK _ _ (h V' cv' w' h2 h3 h4)

/-- The same as one step of a region that draws its order. -/
theorem step_app {t e : TypeId} {z : Value} {bytes : Nat} (T : SlT P t e z bytes) {ops : Array Oper} {o : Oper} {a : Act} {K : Act → World → Prop} {Q : Exit → Act → World → Prop} {X : Prop} (hgd : o.guard = none) (s x : Operand)
    (ho : o.op = .call { callee := .builtin .append, args := #[s, x], argTypes := #[t, t] })
    (base : Nat) (V : Option Addr) (n cv : Nat) (xs : List Value) (hs : a.eval s = .slice V n cv) (hown : w.ownsRow base e 1 (.slice V n cv) n xs)
    (B : Nat) (A : Option Addr) (m c : Nat) (news : List Value) (hx : a.eval x = .slice A m c) (hm : news.length = m) (hr : Rd w B A m (fun i => news.getD i undef)) (h1 : ∀ u ∈ news, u.oneCell' = true)
    (h63 : n + m ≤ 1000000000) (hbase : base ≤ w.heap.size)
    (h : ∀ V' cv' w', w'.ownsRow base e 1 (.slice V' (n + m) cv') (n + m) (xs ++ news) → w.grownBy w' (Value.slice V n cv).ownBlock →
      ((Value.slice V' (n + m) cv').ownBlock = (Value.slice V n cv).ownBlock ∨ (Value.slice V' (n + m) cv').ownBlock = some w.heap.size) → K (a.put o.dst (.slice V' (n + m) cv')) w') :
    if Region.wanted o (yielded ops a.tmps) = true then Oper.wp P o a w K Q else X := by
  have hw : Region.wanted o (yielded ops a.tmps) = true := by simp [Region.wanted, hgd]
  rw [if_pos hw]
  obtain ⟨V', cv', w', hrun, h2, h3, h4⟩ := run_append_rd (P := P) w T base o.type V n cv xs hown B A m c news hm hr h1 h63 hbase
  unfold Oper.wp execOp
  simp only [ho, resolve, invoke, builtin, Sem.run_bind, Sem.run_pure, Result.andThen_ok, List.map_toArray, List.map_cons, List.map_nil, hs, hx, hrun]
  exact h V' cv' w' h2 h3 h4

/-- 'make([]T, n)': an equation for the walk. -/
theorem run_make_n {t e : TypeId} {z : Value} {bytes : Nat} (T : SlT P t e z bytes) (n : Nat) (hn : n ≤ 1000000000) (w : World) :
    (Instr.makeSlice t (.int .i64 (n : Int)) (.int .i64 (n : Int))).run P w = .ok (.slice (some ⟨w.heap.size, 0, none⟩) n n) (w.alloc (.cells (madeCells z.cells n) e)) := by
  obtain ⟨i, hi, hz, hs, hb⟩ := info_parts T.hi
  have hbytes : n * bytes ≤ 64000000000 := by
    have := Nat.mul_le_mul hn T.hb; omega
  have hr := run_make (P := P) w t e i z T.ht hi hz .i64 .i64 n n (by omega) (by omega) (by rw [hb]; rw [← Int.natCast_mul, Nat.mul_comm]; omega) (by omega)
  simp only [Int.toNat_natCast, hs, Nat.mul_one] at hr
  exact hr
end

theorem own_made (w : World) (z : Value) (hz : z.cells = #[z]) (n : Nat) (e : TypeId) : Own (w.alloc (.cells (madeCells z.cells n) e)) w.heap.size n (fun _ => z) := by
  intro i hi
  refine ⟨?_, World.frozen?_alloc_new _ _ _ _⟩
  rw [World.cell?_alloc_new, hz]
  simp [madeCells, hi, Nat.mod_one]

end Go.Proofs.Ytdhadnnakcdfiaa
