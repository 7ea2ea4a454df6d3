/- What the walk of hilbert.minimal stands on: appends inside a fence, the marks of loops over iterators at a return, the loop's own memory, its closure. -/
import Derived.Test.YthpobeeccgmieaaVecs
import Derived.Test.YthpobeeccgmieaaMinL
import Derived.Test.YthpobeeccgmieaaMatA
import Derived.Test.YthpobeeccgmieaaAnyD
import Derived.Test.YthpobeeccgmieaaVCmp
import Derived.Test.YthpobeeccgmieaaRedL
namespace Go.Proofs.Ythpobeeccgmieaa
set_option linter.unusedVariables false
open Go.RowKit

section
variable {P : Program} {F : Fence} {fn : Nat}
theorem wpListIn_app (w : World) {t e : TypeId} {z : Value} {bytes : Nat} (T : SlT P t e z bytes) {ops : Array Oper} {rest : List Oper} {o : Oper} {a : Act} {Q : Exit → Act → World → Prop} (hgd : o.guard = none) (s x : Operand)
    (ho : o.op = .call { callee := .builtin .append, args := #[s, x], argTypes := #[t, t] })
    (base : Nat) (V : Option Addr) (n cv : Nat) (xs : List Value) (hs : a.eval s = .slice V n cv) (hown : w.ownsRow base e 1 (.slice V n cv) n xs)
    (B : Nat) (A : Option Addr) (m c : Nat) (news : List Value) (hx : a.eval x = .slice A m c) (hm : news.length = m) (hr : Rd w B A m (fun i => news.getD i undef)) (h1 : ∀ u ∈ news, u.oneCell' = true)
    (h63 : n + m ≤ 1000000000) (hbase : base ≤ w.heap.size)
    (h : ∀ V' cv' w', w'.ownsRow base e 1 (.slice V' (n + m) cv') (n + m) (xs ++ news) → w.grownBy w' (Value.slice V n cv).ownBlock →
      ((Value.slice V' (n + m) cv').ownBlock = (Value.slice V n cv).ownBlock ∨ (Value.slice V' (n + m) cv').ownBlock = some w.heap.size) → wpListIn F fn P ops Q rest (a.put o.dst (.slice V' (n + m) cv')) w') : wpListIn F fn P ops Q (o :: rest) a w := by
  refine wpListIn_plain hgd fun K hK' => ?_
  obtain ⟨V', cv', w', hrun, h2, h3, h4⟩ := run_append_rd (P := P) w T base o.type V n cv xs hown B A m c news hm hr h1 h63 hbase
  unfold Oper.wpIn
  refine ⟨?_, ?_⟩
  · simp [Oper.about, ho, resolve, Target.leads, Sem.run_pure]
  · rw [Oper.semAt_plain F _ _ (by rw [ho]; intro c hc'; cases hc')]
    simp [execOp, ho, resolve, invoke, builtin, hs, hx, hrun, Result.andThen]
    exact hK' _ _ (h V' cv' w' h2 h3 h4)
/-- 'append(s, x)', inside a fence. -/
theorem wpListIn_push {α : Type} {R : Rp α} [Rok R] {d : α} {t e : TypeId} {z : Value} {bytes : Nat} (T : SlT P t e z bytes) {ops : Array Oper} {rest : List Oper} {o : Oper} {a : Act} {Q : Exit → Act → World → Prop} (hgd : o.guard = none) (s x : Operand)
    (ho : o.op = .call { callee := .builtin .append, args := #[s, x], argTypes := #[t, t] }) {w : World} {l : List Nat} {base : Nat} {v u : Value} {xs : List α} {y : α}
    (hs : a.eval s = v) (hx : a.eval x = .slice (some ⟨w.heap.size, 0, none⟩) 1 1) (hown : OwL R d e base w l v xs) (hu : R w (v.ownBlock.toList ++ l) u y) {m : Nat} (hm : xs.length + 1 = m) (h63 : m ≤ 1000000000) (hbase : base ≤ w.heap.size)
    (h : ∀ V' c' w', OwL R d e base w' l (.slice V' m c') (xs ++ [y]) → Keeps v.ownBlock.toList w w' → (∀ y ∈ (Value.slice V' m c').ownBlock.toList, y ∈ v.ownBlock.toList ∨ w.heap.size ≤ y) → wpListIn F fn P ops Q rest (a.put o.dst (.slice V' m c')) w') :
    wpListIn F fn P ops Q (o :: rest) a (w.alloc (.cells #[u] e)) := by
  subst hm
  have hown' := hown
  obtain ⟨us, h1, h2, h3⟩ := hown'
  obtain ⟨A, c, rfl⟩ := ownsRow_slice h2
  refine wpListIn_app _ T hgd s x ho base A xs.length c us hs (h2.alloc _) (w.heap.size + 1) (some ⟨w.heap.size, 0, none⟩) 1 1 [u] hx rfl rd_new' (by simp [Rok.one hu]) h63 (by simp; omega) ?_
  intro V' cv' w' g1 g2 g3
  have hal : Keeps [] w (w.alloc (.cells #[u] e)) := (Keeps.refl _ _).alloc _
  have hk : Keeps (Value.slice A xs.length c).ownBlock.toList w w' := (hal.nil _).trans (Keeps.of_grown g2)
  refine h V' cv' w' ?_ hk fun y hy => ?_
  · refine OwL.appended (ys := [y]) (news := [u]) h1 (fun i hi => Rok.keeps (h3 i hi) (hal.nil _)) rfl (fun i hi => ?_) g1 g2 g3
    obtain rfl : i = 0 := by simp at hi; omega
    exact Rok.keeps hu (hal.nil _)
  · rcases g3 with g3 | g3
    · rw [g3] at hy; exact .inl hy
    · rw [g3, World.size_alloc] at hy
      simp at hy
      exact .inr (by omega)
end

theorem Own.new0 (w : World) (v : Value) (e : TypeId) : Go.Proofs.Ythpobeeccgmieaa.Own (w.alloc (.cells #[v] e)) w.heap.size 1 (fun _ => v) := fun i hi => by
  have : i = 0 := by omega
  subst this
  exact ⟨World.cell?_alloc_new _ _ _ _, World.frozen?_alloc_new _ _ _ _⟩
def mark (D : Nat) : Deferred := { target := .collected D, args := #[] }
/-- A function that leaves with marks alone among its deferred calls. -/
theorem leaves_marks {P : Program} {F : Fence} {n : Nat} {fn : Func} {tmps : Array Value} {R : Ending → World → Prop} : ∀ (Ds : List Nat) (W : World), Ds.Nodup → (∀ D ∈ Ds, W.heap[D]? = some (.deferred (some []))) →
    (∀ W', Keeps Ds W W' → LeavesIn F n P fn tmps R [] .returning W') → LeavesInM F n P fn tmps R (Ds.map mark) .returning W
  | [], W, _, _, h => h W (Keeps.refl _ _)
  | D :: Ds, W, hn, hd, h => by
    have hD := hd D (by simp)
    rw [List.nodup_cons] at hn
    have hk : Keeps [D] W (W.putObj D (.deferred none)) := (Keeps.refl _ _).putObj (by simp) _
    refine ⟨by simp, .inl ⟨D, _, rfl, run_takeDeferred hD, ?_⟩⟩
    refine leaves_marks Ds _ hn.2 (fun E hE => ?_) fun W' k => h W' ((hk.more (by simp)).trans (k.more (by simp_all)))
    have hne : E ≠ D := fun e => hn.1 (e ▸ hE)
    exact (World.putObj_heap_other hne).trans (hd E (by simp [hE]))

set_option maxHeartbeats 400000 in
theorem min1_is {W : World} {l : List Nat} {u vv : Value} {x v : List Int} {B : Nat} (hu : IsI W l u x) (hv : IsI W l vv v) (hc : W.cell? ⟨B, 0, none⟩ = some vv) (hx : x.length ≤ 1000) (hl : v.length ≤ 1000) :
    Calls Try.prog 56 #[u, .pointer (some ⟨B, 0, none⟩)] W (RetB (vleB x v) W) := by
  unfold RetB
  have hle := leq_is hu hv (by omega) (by omega)
  obtain ⟨A, c, rfl, _⟩ := hu.open
  obtain ⟨A2, c2, rfl, _⟩ := hv.open
  generalize x.length = m at *
  generalize v.length = n at *
  generalize vleB x v = r at *
  have HU := Lib.hid hu
  have HV := Lib.hid hv
  have HLE := Lib.hid hle
  have HX := Lib.hid hx
  have HL := Lib.hid hl
  clear hu hv hle hx hl
  go_enter Try.func56, Try.ntmps56
  go_wp2_with fail
  refine HLE.out.mono ?_
  rintro e w1 ⟨rfl, hk⟩
  go_wp2_with fail
  go_ret
  exact ⟨rfl, hk⟩

/-- What the loop owns: the boxes at z, z + 1, z + 2 (the matrix, the right side, what is found), the row of what is found, the marks. -/
structure MW (w : World) (av bv : Value) (lx Ds : List Nat) (O : List Nat) (out : List (List Int)) (W : World) : Prop where
  kp : Keeps [] w W
  lo : ∀ y ∈ O, w.heap.size ≤ y
  sep : ∀ y ∈ O, w.heap.size + 2 < y
  ca : W.cell? ⟨w.heap.size, 0, none⟩ = some av
  cb : W.cell? ⟨w.heap.size + 1, 0, none⟩ = some bv
  co : ∃ V m c, m = out.length ∧ Go.Proofs.Ythpobeeccgmieaa.Own W (w.heap.size + 2) 1 (fun _ => .slice V m c) ∧ OwL IsI [] 22 (w.heap.size + 3) W ((w.heap.size + 2) :: (O ++ lx)) (.slice V m c) out ∧ ∀ y ∈ (Value.slice V m c).ownBlock.toList, y ∉ O
  ds : ∀ D ∈ Ds, W.heap[D]? = some (.deferred (some [])) ∧ D ∉ O
theorem mw_ok (w : World) (av bv : Value) (lx Ds : List Nat) : JOk (MW w av bv lx Ds) := by
  constructor
  · rintro O out W W' ⟨h1, h2, h0, h3, h4, ⟨V, m, c, e, h5, h6, h7⟩, h8⟩ k
    have hn : ∀ d, d ≤ 2 → w.heap.size + d ∉ O := fun d hd hm => by have := h0 _ hm; omega
    refine ⟨h1.step k fun y hy => .inr (h2 y hy), h2, h0, k.read h3 (hn 0 (by omega)), k.read h4 (hn 1 (by omega)), ⟨V, m, c, e, h5.keep k (hn 2 (by omega)), ?_, h7⟩, fun D hD => ⟨(k.block D (heap_lt' (h8 D hD).1) (h8 D hD).2).trans (h8 D hD).1, (h8 D hD).2⟩⟩
    exact h6.keeps k fun y hy => ⟨.inl (by simp [hy]), fun e => h7 y (by simp [e]) hy⟩
  · rintro O O' out W ⟨h1, h2, h0, h3, h4, ⟨V, m, c, e, h5, h6, h7⟩, h8⟩ hw
    have hz2 := lt_of_cell (h5 0 (by omega)).1
    refine ⟨h1, fun y hy => (hw y hy).elim (h2 y) (fun h => Nat.le_trans h1.size h), fun y hy => (hw y hy).elim (h0 y) (fun h => by simp at hz2; omega), h3, h4, ⟨V, m, c, e, h5, h6.weak fun y hy => ?_, fun y hy hm => ?_⟩, fun D hD => ⟨(h8 D hD).1, fun hm => (hw D hm).elim (h8 D hD).2 (fun h => by have := heap_lt' (h8 D hD).1; omega)⟩⟩
    · rcases List.mem_cons.1 hy with e | hy
      · exact .inl (by simp [e])
      rcases List.mem_append.1 hy with hy | hy
      · exact (hw y hy).imp (fun h => by simp [h]) id
      · exact .inl (by simp [hy])
    · rcases hw y hm with h | h
      · exact h7 y hy h
      · have := (h6.blocks y hy).2; omega
theorem MW.later {w : World} {av bv : Value} {lx Ds O : List Nat} {out : List (List Int)} {W W' : World} (h : MW w av bv lx Ds O out W) (k : Keeps O W W') : ∃ V m c, m = out.length ∧ (∀ y ∈ (Value.slice V m c).ownBlock.toList, w.heap.size + 3 ≤ y ∧ y < W.heap.size) ∧
    Go.Proofs.Ythpobeeccgmieaa.Own W' (w.heap.size + 2) 1 (fun _ => .slice V m c) ∧ OwL IsI [] 22 (w.heap.size + 3) W' ((w.heap.size + 2) :: (O ++ lx)) (.slice V m c) out ∧ (∀ y ∈ (Value.slice V m c).ownBlock.toList, y ∉ O) ∧ w.heap.size + 2 < W.heap.size := by
  obtain ⟨h1, h2, h0, h3, h4, ⟨V, m, c, e, h5, h6, h7⟩, h8⟩ := h
  refine ⟨V, m, c, e, fun y hy => h6.blocks y hy, h5.keep k (fun hm => by have := h0 _ hm; omega), h6.keeps k fun y hy => ⟨.inl (by simp [hy]), fun e => h7 y (by simp [e]) hy⟩, h7, ?_⟩
  have := lt_of_cell (h5 0 (by omega)).1
  simpa using this
/-- Behind an append to the row of what is found, and the store of its header. -/
theorem MW.pushed {w : World} {av bv : Value} {lx Ds O : List Nat} {out out' : List (List Int)} {W W' : World} (h : MW w av bv lx Ds O out W) {V V' : Option Addr} {m m' c c' : Nat} (hm : m' = out'.length)
    (ho : Go.Proofs.Ythpobeeccgmieaa.Own W (w.heap.size + 2) 1 (fun _ => .slice V m c)) (hown : OwL IsI [] 22 (w.heap.size + 3) W' ((w.heap.size + 2) :: (O ++ lx)) (.slice V' m' c') out') (hb : ∀ y ∈ (Value.slice V m c).ownBlock.toList, w.heap.size + 3 ≤ y ∧ y < W.heap.size ∧ y ∉ O ∧ y ∉ Ds)
    (hk : Keeps (Value.slice V m c).ownBlock.toList W W') (hn : ∀ y ∈ (Value.slice V' m' c').ownBlock.toList, y ∈ (Value.slice V m c).ownBlock.toList ∨ W.heap.size ≤ y) (hO : ∀ y ∈ O, y < W.heap.size) :
    MW w av bv lx Ds O out' (W'.setCell ⟨w.heap.size + 2, 0, none⟩ (.slice V' m' c')) := by
  obtain ⟨h1, h2, h0, h3, h4, _, h8⟩ := h
  have hks : Keeps [w.heap.size + 2] W' (W'.setCell ⟨w.heap.size + 2, 0, none⟩ (.slice V' m' c')) := (Keeps.refl _ _).setCell (by simp) _
  have hz : w.heap.size + 2 < W.heap.size := by have := lt_of_cell (ho 0 (by omega)).1; simpa using this
  have hl : ∀ d, d ≤ 1 → w.heap.size + d ∉ (Value.slice V m c).ownBlock.toList := fun d hd hm => by have := (hb _ hm).1; omega
  have hown0 : Go.Proofs.Ythpobeeccgmieaa.Own W' (w.heap.size + 2) 1 (fun _ => .slice V m c) := ho.keep hk (fun hm => by have := (hb _ hm).1; omega)
  have hkw : Keeps [] w W' := h1.step hk fun y hy => .inr (by have := (hb y hy).1; omega)
  have hkw2 : Keeps [] w (W'.setCell ⟨w.heap.size + 2, 0, none⟩ (.slice V' m' c')) := hkw.step hks fun y hy => .inr (by have := List.mem_singleton.1 hy; omega)
  refine ⟨hkw2, h2, h0, hks.read (hk.read h3 (hl 0 (by omega))) (by simp), hks.read (hk.read h4 (hl 1 (by omega))) (by simp),
    ⟨V', m', c', hm, ?_, hown.keeps hks fun y hy => ⟨.inl (List.mem_cons.2 (.inl (List.mem_singleton.1 hy))), fun e => ?_⟩, fun y hy hm => ?_⟩, fun D hD => ⟨?_, (h8 D hD).2⟩⟩
  · intro i hi
    obtain rfl : i = 0 := by omega
    exact ⟨World.cell?_setCell_same _ _ _ (hown0 0 (by omega)).1, by have := (hown0 0 (by omega)).2; simpa using this⟩
  · rw [List.mem_singleton.1 hy] at e
    have := (hown.blocks (w.heap.size + 2) (by rw [e]; simp)).1
    omega
  · rcases hn y hy with h | h
    · exact (hb y h).2.2.1 hm
    · have := hO y hm; omega
  · have hlt := heap_lt' (h8 D hD).1
    have h9 := (hk.block D hlt (fun hm => (hb D hm).2.2.2 hD)).trans (h8 D hD).1
    refine (hks.block D (heap_lt' h9) ?_).trans h9
    intro hm
    rw [List.mem_singleton.1 hm] at h9
    obtain ⟨o, h10, h11⟩ := cells_of_cell (hown0 0 (by omega)).1
    simp only at h10
    rw [h9] at h10
    cases h10
    cases h11
theorem IsI.noCells {W : World} {O Ds : List Nat} {v : Value} {x : List Int} (h : IsI W O v x) (hd : ∀ D ∈ Ds, W.heap[D]? = some (.deferred (some []))) : IsI W (Ds ++ O) v x := by
  obtain ⟨A, c, rfl, h2, h3, h4⟩ := h.open
  refine IsI.mk rfl h2 h3 fun hn => ?_
  obtain ⟨a, rfl, hb, hc⟩ := h4 hn
  refine ⟨a, rfl, fun hm => ?_, hc⟩
  rcases List.mem_append.1 hm with e | hm
  · obtain ⟨o', h1, h2⟩ := cells_of_cell (hc 0 hn)
    rw [block_of_add, hd _ e] at h1
    cases h1
    cases h2
  · exact hb hm
theorem OwL.noCells {W : World} {ty : TypeId} {base : Nat} {l Ds : List Nat} {v : Value} {xs : List (List Int)} (h : OwL IsI [] ty base W l v xs) (hd : ∀ D ∈ Ds, W.heap[D]? = some (.deferred (some []))) : OwL IsI [] ty base W (Ds ++ l) v xs := by
  obtain ⟨us, h1, h2, h3⟩ := h
  refine ⟨us, h1, h2, fun i hi => ((h3 i hi).noCells hd).weak fun y hy => .inl ?_⟩
  simp only [List.mem_append] at hy ⊢
  rcases hy with h | h | h
  · exact .inr (.inl h)
  · exact .inl h
  · exact .inr (.inr h)
theorem not_mark {W : World} {ty : TypeId} {base : Nat} {l : List Nat} {v : Value} {xs : List (List Int)} (h : OwL IsI [] ty base W l v xs) {Ds : List Nat} (hd : ∀ D ∈ Ds, W.heap[D]? = some (.deferred (some []))) : ∀ y ∈ v.ownBlock.toList, y ∉ Ds := fun y hy hD => by
  obtain ⟨us, h1, h2, h3⟩ := h
  rcases h2.2 with ⟨rfl, _⟩ | ⟨g, cap, cur, rfl, _, hg, _⟩
  · simp [Value.ownBlock] at hy
  · simp [Value.ownBlock] at hy
    subst hy
    rw [hd _ hD] at hg
    cases hg
end Go.Proofs.Ythpobeeccgmieaa
