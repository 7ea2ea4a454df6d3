/- A range over an iterator that hands out rows of numbers and keeps state in blocks of its own: what both sides owe, and the law for the statement. -/
import Derived.Test.YthpobeeccgmieaaRep
import Derived.Test.YthpobeeccgmieaaTypes
import Derived.RangeFuncNested
import Derived.RangeFuncBound
import Derived.RangeFuncCalls
import Derived.RangeFuncLeaves
namespace Go.Proofs.Ythpobeeccgmieaa
set_option linter.unusedVariables false
open Go.RowKit

/-- The blocks of a list are as they were. -/
structure KO (O : List Nat) (w w' : World) : Prop where
  size : w.heap.size ≤ w'.heap.size
  block : ∀ k, k ∈ O → k < w.heap.size → w'.heap[k]? = w.heap[k]?
section
variable {O l : List Nat} {w w' w'' : World}
theorem KO.refl (O : List Nat) (w : World) : KO O w w := ⟨Nat.le_refl _, fun _ _ _ => rfl⟩
theorem KO.trans (h : KO O w w') (k : KO O w' w'') : KO O w w'' := ⟨Nat.le_trans h.size k.size, fun i hi hl => (k.block i hi (Nat.lt_of_lt_of_le hl h.size)).trans (h.block i hi hl)⟩
theorem KO.of_keeps (k : Keeps l w w') (h : ∀ y ∈ l, y ∉ O) : KO O w w' := ⟨k.size, fun i hi hl => k.block i hl fun hm => h i hm hi⟩
theorem KO.less {O' : List Nat} (h : KO O w w') (hs : ∀ y ∈ O', y ∈ O) : KO O' w w' := ⟨h.size, fun i hi hl => h.block i (hs i hi) hl⟩
theorem KO.cell (h : KO O w w') {p : Addr} {v : Value} (hc : w.cell? p = some v) (hp : p.block ∈ O) : w'.cell? p = some v :=
  (World.cell?_of_block (w := w) (h.block p.block hp (lt_of_cell hc))).trans hc
theorem KO.frozen (h : KO O w w') {p : Addr} {v : Value} (hc : w.cell? p = some v) (hp : p.block ∈ O) : w'.frozen? p = w.frozen? p :=
  World.frozen?_of_block (w := w) (h.block p.block hp (lt_of_cell hc))
theorem KO.own (h : KO O w w') {g n : Nat} {f : Nat → Value} (ho : Own w g n f) (hg : g ∈ O) : Own w' g n f := fun i hi =>
  ⟨h.cell (p := ⟨g, i, none⟩) (ho i hi).1 hg, (h.frozen (p := ⟨g, i, none⟩) (ho i hi).1 hg).trans (ho i hi).2⟩
end
theorem Keeps.putObj {a w : World} {l : List Nat} (h : Keeps l a w) {r : Nat} (hr : r ∈ l) (o : Obj) : Keeps l a (w.putObj r o) :=
  h.trans ⟨rfl, rfl, rfl, by simp, fun k _ hn => World.putObj_heap_other (by rintro rfl; exact hn hr)⟩

theorem heap_lt' {w : World} {g : Nat} {o : Obj} (h : w.heap[g]? = some o) : g < w.heap.size := (Array.getElem?_eq_some_iff.1 h).1
/-- An invariant that minds no write to the blocks of its list. -/
structure JOk {α : Type} (J : List Nat → α → World → Prop) : Prop where
  keeps : ∀ {O x W W'}, J O x W → Keeps O W W' → J O x W'
  weak : ∀ {O O' x W}, J O x W → (∀ y ∈ O', y ∈ O ∨ W.heap.size ≤ y) → J O' x W
theorem JOk.step {α : Type} {J : List Nat → α → World → Prop} (hJ : JOk J) {O l : List Nat} {x : α} {W W' : World} (h : J O x W) (k : Keeps l W W') (hl : ∀ y ∈ l, y ∈ O ∨ W.heap.size ≤ y) : J O x W' :=
  hJ.keeps h (k.old hl)

abbrev YesP (J : List Nat → List (List Int) → World → Prop) (O : List Nat) (ys : List (List Int)) (W : World) (e : Ending) (W' : World) : Prop :=
  e = .returned (.bool true) ∧ J O ys W' ∧ KO O W W'
/-- An iterator hands out the rows xs, one after the other; it writes to blocks of its own alone. -/
def SeqV (P : Program) (gf : Nat) (lb : Array Value) (Kc : List Nat) (xs : List (List Int)) (w0 : World) : Prop :=
  ∀ (n l : Nat) (J : List Nat → List (List Int) → World → Prop) (W : World), JOk J → Keeps [] w0 W →
    (∀ O pre x rest v Wp W1, xs = pre ++ x :: rest → J O pre Wp → (∀ y ∈ O, y < Wp.heap.size) → Keeps [] Wp W1 → (∀ O', (∀ y ∈ O', y < Wp.heap.size) → IsI W1 O' v x) → YieldAt Fence.wide 0 P l #[v] W1 (YesP J O (pre ++ [x]) W1)) →
    J Kc [] W → CallsIn Fence.wide n P gf (#[.func (.yield l) #[] #[]] ++ lb) W fun e W' => (∃ v, e = .returned v) ∧ J [] xs W'

theorem room_of_none {F : Fence} (hd : F.depth = none) (k : Nat) : F.room k := fun d h => by rw [hd] at h; cases h
theorem RoundIn.anyDepth {F : Fence} (hd : F.depth = none) {m m' : Nat} {P : Program} {l : Nat} {f : FuncId} {tmps : Array Value} {assign body : Code} {w : World} {R : Ending → World → Prop}
    (h : RoundIn F m P l f tmps assign body w R) : RoundIn F m' P l f tmps assign body w R := ⟨h.1, fun c cs _ => h.2 c cs (room_of_none hd _)⟩
theorem YieldAt.anyDepth {F : Fence} (hd : F.depth = none) {m : Nat} (m' : Nat) {P : Program} {l : Nat} {args : Array Value} {W : World} {R : Ending → World → Prop} (h : YieldAt F m P l args W R) : YieldAt F m' P l args W R := by
  obtain ⟨fn, tmps, assign, body, hy, hR⟩ := h
  exact ⟨fn, tmps, assign, body, hy, RoundIn.anyDepth hd hR⟩

theorem wpIn_rangeV {P : Program} {g : Operand} {ps : Array Tmp} {assign body : Code} {Q : Exit → Act → World → Prop} {a : Act} {w : World} {n : Nat}
    (hps : ps.size = 1) {gf : Nat} {lb : Array Value} (hg : a.eval g = .func (.func gf) #[] lb) (eg : ∀ args w, (callFunc gf args).run P w = .ok (.enter gf args) w)
    {Kc : List Nat} {xs : List (List Int)} (hseq : SeqV P gf lb Kc xs w) (hKc : ∀ y ∈ Kc, y < w.heap.size)
    (I : List Nat → List (List Int) → World → Prop) (hI : JOk I) (h0 : I Kc [] w)
    (hround : ∀ l O pre x rest v Wp W, xs = pre ++ x :: rest → I O pre Wp → (∀ y ∈ O, y < Wp.heap.size) → Keeps [] Wp W → (∀ O', (∀ y ∈ O', y < Wp.heap.size) → IsI W O' v x) → l ∈ O →
      assign.wpIn (Fence.wide.inRound l) 0 P (Exit.then (fun a1 w1 => KO O W w1 ∧ ∀ w2, Keeps [l] w1 w2 → body.wpIn (Fence.wide.inRound l) 0 P (fun e _ W3 => e = .normal ∧ KO O w2 W3 ∧ I O (pre ++ [x]) W3) a1 w2) (fun _ _ _ => False))
        { tmps := (ps.zip #[v]).foldl (fun t (p, v) => t.setIfInBounds p v) a.tmps, defers := [] } W)
    (hdone : ∀ (W : World), I [] xs W → W.heap[w.heap.size]? = some (.deferred (some [])) → Q .normal { a with defers := { target := .collected w.heap.size, args := #[] } :: a.defers } W) :
    (Code.rangeFunc g ps assign body).wpIn Fence.wide n P Q a w := by
  refine wpIn_rangeFunc ?_
  intro fn hfn
  obtain ⟨rec, hrec⟩ : ∃ rec : LoopState → Option Code → Loop, rec = fun st pe => { state := st, pending := pe, fn, tmps := a.tmps, params := ps, assign, body, defers := w.heap.size } := ⟨_, rfl⟩
  obtain ⟨W1, hW1⟩ : ∃ W1, (w.alloc (.deferred (some []))).alloc (.loop (rec .ready none)) = W1 := ⟨_, rfl⟩
  have hL1 : W1.heap[w.heap.size + 1]? = some (.loop (rec .ready none)) := by
    rw [← hW1]; have := World.alloc_heap_new (w.alloc (.deferred (some []))) (.loop (rec .ready none)); rwa [World.size_alloc] at this
  have hK1 : W1.heap[w.heap.size]? = some (.deferred (some [])) := by
    rw [← hW1]; exact (Below.heap_alloc _ _ _ (by simp)).trans (World.alloc_heap_new w _)
  have hk1 : Keeps [] w W1 := by rw [← hW1]; exact ((Keeps.refl _ _).alloc _).alloc _
  obtain ⟨l, hl⟩ : ∃ l, w.heap.size + 1 = l := ⟨_, rfl⟩
  obtain ⟨D, hD⟩ : ∃ D, w.heap.size = D := ⟨_, rfl⟩
  have hlD : l ≠ D := by omega
  have hI1 : I (l :: D :: Kc) [] W1 := by
    refine hI.keeps (hI.weak h0 ?_) (hk1.nil _)
    intro y hy
    rcases List.mem_cons.1 hy with e | hy
    · exact .inr (by omega)
    rcases List.mem_cons.1 hy with e | hy
    · exact .inr (by omega)
    · exact .inl hy
  refine ⟨l, [{ target := .collected w.heap.size, args := #[] }], W1, { target := .fn (.func gf) lb, args := #[.func (.yield l) #[] #[]] }, W1, gf,
    #[.func (.yield l) #[] #[]] ++ lb, W1, ?_, ?_, ?_, ?_, ?_, ?_⟩
  · rw [← hW1, hrec, ← hl]; exact run_enterLoop_outer _ _ _ _ _
  · simp only [resolve, hg]
    simp [go_sem]
  · intro f' hf'; trivial
  · simp [invoke, go_sem, eg]
  · intro h; simp [Fence.wide] at h
  · rw [hl] at hL1
    rw [hD] at hK1
    refine (hseq (n - 1) l (fun O pre W => I (l :: D :: O) pre W ∧ W.heap[l]? = some (.loop (rec .ready none)) ∧ W.heap[D]? = some (.deferred (some [])) ∧ l ∉ O ∧ D ∉ O)
      W1 ⟨?_, ?_⟩ hk1 ?_ ⟨hI1, hL1, hK1, fun h => by have := hKc _ h; omega, fun h => by have := hKc _ h; omega⟩).mono ?_
    · rintro O x W W' ⟨h1, h2, h3, h4, h5⟩ k
      exact ⟨hI.keeps h1 (k.more fun y hy => by simp [hy]), (k.block l (heap_lt' h2) h4).trans h2, (k.block D (heap_lt' h3) h5).trans h3, h4, h5⟩
    · rintro O O' x W ⟨h1, h2, h3, h4, h5⟩ hw
      have hl2 := heap_lt' h2
      have hl3 := heap_lt' h3
      refine ⟨hI.weak h1 fun y hy => ?_, h2, h3, fun hm => (hw l hm).elim h4 (fun h => by omega), fun hm => (hw D hm).elim h5 (fun h => by omega)⟩
      rcases List.mem_cons.1 hy with e | hy
      · exact .inl (by simp [e])
      rcases List.mem_cons.1 hy with e | hy
      · exact .inl (by simp [e])
      · exact (hw y hy).imp (fun h => by simp [h]) id
    · -- one round
      rintro O pre x rest v Wp W hx ⟨hi, hlr0, hk0, hlO, hDO⟩ hOp hkp hv
      have hlr := (hkp.block l (heap_lt' hlr0) (by simp)).trans hlr0
      have hk := (hkp.block D (heap_lt' hk0) (by simp)).trans hk0
      have hlt : l < W.heap.size := heap_lt' hlr
      have hltD : D < W.heap.size := heap_lt' hk
      have hy := run_yield (P := P) (args := #[v]) hlr (by rw [hrec]; simp [hps])
      rw [hrec] at hy
      have hOp' : ∀ y ∈ l :: D :: O, y < Wp.heap.size := fun y hy => by
        rcases List.mem_cons.1 hy with e | hy
        · rw [e]; exact heap_lt' hlr0
        rcases List.mem_cons.1 hy with e | hy
        · rw [e]; exact heap_lt' hk0
        · exact hOp y hy
      refine ⟨fn, _, assign, body, hy, roundIn_of_wpIn hfn (wpIn_mono (hround l (l :: D :: O) pre x rest v Wp W hx hi hOp' hkp hv (by simp)) ?_)⟩
      intro e a1 w1 hq
      cases e with
      | normal =>
        obtain ⟨hko, hbody⟩ := hq
        have hl1 := (hko.block l (by simp) hlt).trans hlr
        have hD1 := (hko.block D (by simp) hltD).trans hk
        have hkb : Keeps [l] w1 (w1.putObj l (.loop { rec .ready none with state := .busy })) := (Keeps.refl _ _).putObj (by simp) _
        refine ⟨_, run_beginRound hl1 (by rw [hrec]), wpIn_mono (hbody _ hkb) ?_⟩
        have hl2 : (w1.putObj l (.loop { rec .ready none with state := .busy })).heap[l]? = some (.loop { rec .ready none with state := .busy }) := World.putObj_heap_same (heap_lt' hl1)
        have hD2 : (w1.putObj l (.loop { rec .ready none with state := .busy })).heap[D]? = some (.deferred (some [])) := (World.putObj_heap_other (fun h => hlD h.symm)).trans hD1
        rintro e a3 W3 ⟨rfl, hk3, hi3⟩
        have hl3 := (hk3.block l (by simp) (heap_lt' hl2)).trans hl2
        have hD3 := (hk3.block D (by simp) (heap_lt' hD2)).trans hD2
        have hend := run_endRound (P := P) none hl3
        rw [hrec] at hend
        have hke : Keeps [l] W3 (W3.putObj l (.loop (rec .ready none))) := (Keeps.refl _ _).putObj (by simp) _
        refine ⟨_, W3.putObj l (.loop (rec .ready none)), by rw [hrec]; exact hend, rfl, ⟨hI.keeps hi3 (hke.more (by simp)), World.putObj_heap_same (heap_lt' hl3), (World.putObj_heap_other (fun h => hlD h.symm)).trans hD3, hlO, hDO⟩, ?_⟩
        have hnO : ∀ y ∈ [l], y ∉ O := fun y hy => by rw [List.mem_singleton.1 hy]; exact hlO
        exact (((hko.less fun y hy => by simp [hy]).trans (KO.of_keeps hkb hnO)).trans (hk3.less fun y hy => by simp [hy])).trans (KO.of_keeps hke hnO)
      | exit id => exact hq.elim
      | goto t => exact hq.elim
      | ret => exact hq.elim
      | panic chain => exact hq.elim
      | outgrown => exact hq.elim
    · -- behind the iterator
      rintro e W2 ⟨⟨v, rfl⟩, hi, hlr, hk, _, _⟩
      have hend := run_endLoop (P := P) hlr (by rw [hrec]; simp)
      rw [hrec] at hend
      refine ⟨none, _, hend, ?_⟩
      have hkp : Keeps [l] W2 (W2.putObj l (.loop { state := .exhausted, pending := none, fn, tmps := a.tmps, params := ps, assign, body, defers := w.heap.size })) := (Keeps.refl _ _).putObj (by simp) _
      subst hD
      exact hdone _ (hI.weak (hI.keeps hi (hkp.more (by simp))) (by simp)) ((World.putObj_heap_other (by omega)).trans hk)
end Go.Proofs.Ythpobeeccgmieaa
