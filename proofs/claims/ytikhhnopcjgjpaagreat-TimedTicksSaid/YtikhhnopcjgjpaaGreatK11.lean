/- Contracts of functions of the program, for all arguments that they name. -/
import Derived.Shelf.SlSortCmp.Insertion
import Derived.Test.YtikhhnopcjgjpaaGreatSorts
import Derived.Test.YtikhhnopcjgjpaaGreatK03
import Derived.Test.YtikhhnopcjgjpaaGreatK04
import Derived.Test.YtikhhnopcjgjpaaGreatK05
import Derived.Test.YtikhhnopcjgjpaaGreatK08
import Derived.Test.YtikhhnopcjgjpaaGreatK10
namespace Go.Proofs.YtikhhnopcjgjpaaGreat
set_option linter.unusedVariables false
section
open Go.RowKit Go.Sort Go.Shelf
theorem qjE {a b : Int} : ordI a b = 0 ↔ a = b := by unfold ordI; split <;> (try split) <;> omega
theorem ordI_neg' {a b : Int} : ordI a b < 0 ↔ a < b := by unfold ordI; split <;> (try split) <;> omega
mutual
theorem qfc : ∀ {a b : V}, cmpV a b = 0 → a = b
 | .mk a ks, .mk b ls, h => by
  simp only [cmpV] at h
  by_cases h1 : a = b
  ·by_cases h2 : ks.length = ls.length
   ·rw [if_neg (by simp [h1]), if_neg (by simp [h2])] at h
    rw [h1, cmpL_eq h2 h]
   ·rw [if_neg (by simp [h1]), if_pos h2] at h
    have := qjE.1 h
    omega
  ·rw [if_pos h1] at h
   exact absurd (qjE.1 h) h1
theorem cmpL_eq : ∀ {ks ls : List V}, ks.length = ls.length → cmpL ks ls = 0 → ks = ls
 | [], [], _, _ => rfl
 | [], _ :: _, h, _ => by simp at h
 | _ :: _, [], h, _ => by simp at h
 | k :: ks, l :: ls, h, h0 => by
  simp only [cmpL] at h0
  by_cases hk : cmpV k l = 0
  ·rw [if_neg (by simp [hk])] at h0
   rw [qfc hk, cmpL_eq (by simpa using h) h0]
  ·rw [if_pos hk] at h0
   exact absurd h0 hk
end
theorem qeY (a : V) : cmpV a a = 0 := by have := qcl a a; omega
theorem qjm {k l : V} {ks ls : List V} : cmpL (k :: ks) (l :: ls) < 0 ↔ cmpV k l < 0 ∨ k = l ∧ cmpL ks ls < 0 := by
 simp only [cmpL]
 by_cases h : cmpV k l = 0
 ·have e := qfc h
  subst e
  rw [if_neg (by simp [h])]
  constructor
  ·exact fun hl => .inr ⟨rfl, hl⟩
  ·rintro (hl | ⟨_, hl⟩)
   ·omega
   ·exact hl
 ·rw [if_pos h]
  constructor
  ·exact fun hl => .inl hl
  ·rintro (hl | ⟨rfl, _⟩)
   ·exact hl
   ·exact absurd (qeY k) h
theorem qkF {a b : Int} {ks ls : List V} : cmpV (.mk a ks) (.mk b ls) < 0 ↔ a < b ∨ a = b ∧ (ks.length < ls.length ∨ ks.length = ls.length ∧ cmpL ks ls < 0) := by
 simp only [cmpV]
 by_cases h1 : a = b
 ·rw [if_neg (by simp [h1])]
  by_cases h2 : ks.length = ls.length
  ·rw [if_neg (by simp [h2])]
   constructor
   ·exact fun h => .inr ⟨h1, .inr ⟨h2, h⟩⟩
   ·rintro (h | ⟨_, h | ⟨_, h⟩⟩)
    ·omega
    ·omega
    ·exact h
  ·rw [if_pos h2, ordI_neg']
   constructor
   ·exact fun h => .inr ⟨h1, .inl (by omega)⟩
   ·rintro (h | ⟨_, h | ⟨h, _⟩⟩)
    ·omega
    ·omega
    ·exact absurd h h2
 ·rw [if_pos h1, ordI_neg']
  constructor
  ·exact fun h => .inl h
  ·rintro (h | ⟨h, _⟩)
   ·exact h
   ·exact absurd h h1
mutual
theorem qfm : ∀ {a b c : V}, cmpV a b < 0 → cmpV b c < 0 → cmpV a c < 0
 | .mk a ks, .mk b ls, .mk c ms, h, h' => by
  rw [qkF] at h h' ⊢
  rcases h with h | ⟨h, h1 | ⟨h1, h2⟩⟩
  ·rcases h' with h' | ⟨h', _⟩
   ·exact .inl (by omega)
   ·exact .inl (by omega)
  ·rcases h' with h' | ⟨h', h3 | ⟨h3, h4⟩⟩
   ·exact .inl (by omega)
   ·exact .inr ⟨by omega, .inl (by omega)⟩
   ·exact .inr ⟨by omega, .inl (by omega)⟩
  ·rcases h' with h' | ⟨h', h3 | ⟨h3, h4⟩⟩
   ·exact .inl (by omega)
   ·exact .inr ⟨by omega, .inl (by omega)⟩
   ·exact .inr ⟨by omega, .inr ⟨by omega, qhK h1 h3 h2 h4⟩⟩
theorem qhK : ∀ {ks ls ms : List V}, ks.length = ls.length → ls.length = ms.length → cmpL ks ls < 0 → cmpL ls ms < 0 → cmpL ks ms < 0
 | [], _, _, _, _, h, _ => by simp [cmpL] at h
 | _ :: _, [], _, h, _, _, _ => by simp at h
 | _ :: _, _ :: _, [], _, h, _, _ => by simp at h
 | k :: ks, l :: ls, m :: ms, e1, e2, h, h' => by
  rw [qjm] at h h' ⊢
  rcases h with h | ⟨rfl, h⟩
  ·rcases h' with h' | ⟨rfl, h'⟩
   ·exact .inl (qfm h h')
   ·exact .inl h
  ·rcases h' with h' | ⟨rfl, h'⟩
   ·exact .inl h'
   ·exact .inr ⟨rfl, qhK (by simpa using e1) (by simpa using e2) h h'⟩
end
theorem qdu {a b c : V} (h : ¬ cmpV b a < 0) (h' : ¬ cmpV c b < 0) : ¬ cmpV c a < 0 := by
 have n1 := qcl a b
 have n2 := qcl b c
 have n3 := qcl a c
 intro h3
 by_cases e1 : cmpV a b = 0
 ·have e := qfc e1
  subst e
  exact h' h3
 ·by_cases e2 : cmpV b c = 0
  ·have e := qfc e2
   subst e
   exact h h3
  ·have := qfm (a := a) (b := b) (c := c) (by omega) (by omega)
   omega
theorem qpE : SWO (ltOf cmpV) := by
 refine ⟨fun x => by simp [ltOf, qeY], fun x y z h h' => ?_, fun x y z h h' => ?_⟩
 ·simp only [ltOf, decide_eq_true_eq] at *; exact qfm h h'
 ·simp only [ltOf, decide_eq_false_iff_not] at *; exact qdu h' h
theorem qpo {a b : V} (h : ¬ cmpV b a < 0) (h' : ¬ cmpV a b < 0) : a = b := by
 have := qcl a b
 exact qfc (by omega)
def Asc (l : List V) : Prop := l.Pairwise fun a b => ¬ cmpV b a < 0
theorem qhG : ∀ {xs ys : List V}, xs.Perm ys → Asc xs → Asc ys → xs = ys
 | [], ys, h, _, _ => by simpa using h.symm
 | x :: xs, [], h, _, _ => by simp at h
 | x :: xs, y :: ys, h, hx, hy => by
  have hx' := List.pairwise_cons.1 hx
  have hy' := List.pairwise_cons.1 hy
  have e : x = y := by
   have m1 : x ∈ y :: ys := h.mem_iff.1 (List.mem_cons_self ..)
   have m2 : y ∈ x :: xs := h.mem_iff.2 (List.mem_cons_self ..)
   rcases List.mem_cons.1 m1 with e | m1
   ·exact e
   ·rcases List.mem_cons.1 m2 with e | m2
    ·exact e.symm
    ·exact qpo (hx'.1 y m2) (hy'.1 x m1)
  subst e
  rw [qhG (List.perm_cons x |>.1 h) hx'.2 hy'.2]
theorem qgO (x : V) : ∀ ys : List V, (insR x ys).Perm (x :: ys)
 | [] => List.Perm.refl _
 | y :: ys => by
  unfold insR
  split
  ·exact ((qgO x ys).cons y).trans (List.Perm.swap x y ys)
  ·exact List.Perm.refl _
theorem qjC (x : V) : ∀ ys : List V, ys.Pairwise (fun a b => ¬ cmpV a b < 0) → (insR x ys).Pairwise fun a b => ¬ cmpV a b < 0
 | [], _ => by simp [insR]
 | y :: ys, h => by
  have h' := List.pairwise_cons.1 h
  unfold insR
  split
  ·rename_i hlt
   refine List.pairwise_cons.2 ⟨fun z hz => ?_, qjC x ys h'.2⟩
   rcases List.mem_cons.1 ((qgO x ys).mem_iff.1 hz) with rfl | hz
   ·have := qcl z y; omega
   ·exact h'.1 z hz
  ·rename_i hge
   refine List.pairwise_cons.2 ⟨fun z hz => ?_, h⟩
   rcases List.mem_cons.1 hz with rfl | hz
   ·exact hge
   ·exact qdu (h'.1 z hz) hge
theorem qhg : ∀ (l acc : List V), (qce acc l).Perm (l ++ acc)
 | [], acc => List.Perm.refl _
 | x :: l, acc => by
  rw [qdw]
  refine (qhg l (insR x acc)).trans ?_
  refine ((qgO x acc).append_left l).trans ?_
  exact List.perm_middle
theorem qg4 : ∀ (l acc : List V), acc.Pairwise (fun a b => ¬ cmpV a b < 0) → (qce acc l).Pairwise fun a b => ¬ cmpV a b < 0
 | [], acc, h => h
 | x :: l, acc, h => by
  rw [qdw]
  exact qg4 l _ (qjC x acc h)
def qby (l : List V) : List V := (qce [] l).reverse
theorem qcf (l : List V) : (qby l).Perm l := (List.reverse_perm _).trans (by simpa using qhg l [])
theorem qnZ (l : List V) : Asc (qby l) := List.pairwise_reverse.2 (qg4 l [] List.Pairwise.nil)
theorem qmv {l zs : List V} (h : zs.Perm l) (hz : Asc zs) : zs = qby l := qhG (h.trans (qcf l).symm) hz (qnZ l)
theorem qcw (l : List V) : (qby l).length = l.length := (qcf l).length_eq
end
section
section
variable {P τ : Type} [DecidableEq P] (F : τ → P → Bool)
mutual
def chP : List τ → List P → List (List P)
 | [], l => [l]
 | t :: ts, l => chL t ts [] l
termination_by ts _ => (ts.length, 0)
def chL (t : τ) (ts : List τ) (pre : List P) : List P → List (List P)
 | [] => []
 | x :: rest => (if F t x = true ∧ pre.getLast? ≠ some x then chP ts (pre ++ rest) else []) ++ chL t ts (pre ++ [x]) rest
termination_by rest => (ts.length, rest.length + 1)
end
theorem qk4 (t : τ) (ts : List τ) (r : List P) : ∀ (l pre : List P), r ∈ chL F t ts pre l ↔ ∃ a x b, l = a ++ x :: b ∧ F t x = true ∧ (pre ++ a).getLast? ≠ some x ∧ r ∈ chP F ts (pre ++ a ++ b)
 | [], pre => by simp [chL]
 | y :: l, pre => by
  rw [chL, List.mem_append, qk4 t ts r l (pre ++ [y])]
  constructor
  ·rintro (h | ⟨a, x, b, rfl, h1, h3, h2⟩)
   ·split at h
    ·rename_i hf
     exact ⟨[], y, l, rfl, hf.1, by simpa using hf.2, by simpa using h⟩
    ·cases h
   ·exact ⟨y :: a, x, b, rfl, h1, by simpa using h3, by simpa using h2⟩
  ·rintro ⟨a, x, b, e, h1, h3, h2⟩
   cases a with
   | nil =>
    simp only [List.nil_append, List.cons.injEq] at e
    obtain ⟨rfl, rfl⟩ := e
    left
    rw [if_pos ⟨h1, by simpa using h3⟩]
    simpa using h2
   | cons z a =>
    simp only [List.cons_append, List.cons.injEq] at e
    obtain ⟨rfl, rfl⟩ := e
    right
    exact ⟨a, x, b, rfl, h1, by simpa using h3, by simpa using h2⟩
omit [DecidableEq P] in
end
def ddp (p : V) : List V → List V
 | [] => []
 | x :: l => if cmpV x p = 0 then ddp x l else x :: ddp x l
def qa6 : List V → List V
 | [] => []
 | x :: l => x :: ddp x l
theorem qnX : ∀ (l : List V) (p z : V), z ∈ p :: ddp p l ↔ z ∈ p :: l
 | [], p, z => Iff.rfl
 | x :: l, p, z => by
  have ih := qnX l x z
  simp only [ddp]
  by_cases h : cmpV x p = 0
  ·rw [if_pos h]
   have e := qfc h
   subst e
   rw [ih]
   simp
  ·rw [if_neg h]
   simp only [List.mem_cons] at ih ⊢
   rw [ih]
theorem qkf (l : List V) (z : V) : z ∈ qa6 l ↔ z ∈ l := by
 cases l with
 | nil => exact Iff.rfl
 | cons x l => exact qnX l x z
end
section
open Go.RowKit
set_option maxHeartbeats 2000000
theorem qeL (xs : List V) (v : V) (ys : List V) (i : Nat) (h : i = xs.length * 2) : List.take 2 (List.drop i (qao (xs ++ v :: ys))) = [.int .i64 v.n, .list (qac v.kids)] := by
 subst h
 rw [qa9, ← qaE, List.drop_left]; rfl
theorem qmg (kept junk rest : List V) (p x : V) (k : Nat) (hk : kept.length = k) : ∃ junk' : List V, junk'.length = junk.length ∧ List.take ((k : Int).toNat * 2) (qao (kept ++ junk ++ p :: x :: rest)) ++ [.int .i64 x.n, .list (qac x.kids)] ++ List.drop ((k : Int).toNat * 2 + 2) (qao (kept ++ junk ++ p :: x :: rest)) = qao (kept ++ [x] ++ junk' ++ x :: rest) := by
 obtain ⟨y, junk', e⟩ : ∃ y junk', junk ++ [p] = y :: junk' := by cases junk with
  | nil => exact ⟨p, [], rfl⟩
  | cons z j => exact ⟨z, j ++ [p], rfl⟩
 have hl : junk'.length = junk.length := by have := congrArg List.length e; simpa using this.symm
 have e2 : kept ++ junk ++ p :: x :: rest = kept ++ y :: (junk' ++ x :: rest) := by
  have : kept ++ junk ++ p :: x :: rest = kept ++ ((junk ++ [p]) ++ x :: rest) := by simp
  rw [this, e]; rfl
 refine ⟨junk', hl, ?_⟩
 rw [e2, qcN _ _ _ hk, qcS _ _ _ _ hk]
 simp only [qa9, qao, List.append_assoc, List.cons_append, List.nil_append]
theorem cp_l1 (f : FuncId) (N k0 n2 : Nat) (hN : n2 + k0 = N) (hNl : N ≤ 1000000) (R : List V) (hf : ∀ a b : V, a.fit → b.fit → TP Tryz.prog f [encV a, encV b] (.bool (cmpV a b == 0))) (Q : IExit → (Nat → T) → Heap → Prop)
 (hQ : ∀ (kept junk : List V) (k2 : Int), kept = R → kept.length + junk.length = N → Q (.exit 2) (ofL [(0, .sl 700 (N * 2) 2 0 N), (1, .fn f []), (5, .int .i64 kept.length), (6, .sl 700 (N * 2) 2 (k0 * 2) n2), (7, .int .i64 k2), (35, .bool false)]) (hpL [(700, .live ⟨25, qao (kept ++ junk)⟩)])) :
 ∀ (rest kept junk : List V) (p : V) (k k2 : Nat), kept.length = k → junk.length + k + 1 = k0 + k2 → 1 ≤ k2 → junk.length + rest.length + 1 + k = N → kept ++ ddp p rest = R → (∀ v ∈ p :: rest, v.fit) →
 WL Tryz.prog 66 qlY (ofL [(0, .sl 700 (N * 2) 2 0 N), (1, .fn f []), (5, .int .i64 k), (6, .sl 700 (N * 2) 2 (k0 * 2) n2), (7, .int .i64 k2)]) (hpL [(700, .live ⟨25, qao (kept ++ junk ++ p :: rest)⟩)]) Q := by
 intro rest
 induction rest with
 | nil =>
  intro kept junk p k k2 hk hj h1 hl hR hv
  have hd : decide ((k2 : Int) < (n2 : Int)) = false := by simp at hl ⊢; omega
  subst hk
  have fX := @hd
  refine qaa qlY.eq_1 ?_
  refine wR0 800 [0,1,5,6,7,35] fX ?_
  refine wF @hd ?_
  refine wX ?_
  refine wN ?_
  rw [List.append_assoc]
  exact hQ kept (junk ++ [p]) _ (by simpa [ddp] using hR) (by simp at hl ⊢; omega)
 | cons x rest ih =>
  intro kept junk p k k2 hk hj h1 hl hR hv
  have hd : decide ((k2 : Int) < (n2 : Int)) = true := by simp at hl ⊢; omega
  have hlt : (k2 : Int) < (n2 : Int) := by simp at hl; omega
  have hlt1 : (k2 : Int) - 1 < (n2 : Int) := by omega
  have hlt0 : 0 ≤ (k2 : Int) - 1 := by omega
  have hltk : (k : Int) < (N : Int) := by omega
  have hw : IntKind.wrap .i64 ((k2 : Int) + 1) = (k2 : Int) + 1 := wrap64 (by omega) (by omega)
  have hw1 : IntKind.wrap .i64 ((k2 : Int) - 1) = (k2 : Int) - 1 := wrap64 (by omega) (by omega)
  have hw2 : IntKind.wrap .i64 ((k : Int) + 1) = (k : Int) + 1 := wrap64 (by omega) (by omega)
  have hr1 : List.take 2 (List.drop (k0 * 2 + (k2 : Int).toNat * 2) (qao (kept ++ junk ++ p :: x :: rest))) = [.int .i64 x.n, .list (qac x.kids)] := by
   have e : kept ++ junk ++ p :: x :: rest = (kept ++ junk ++ [p]) ++ x :: rest := by simp
   rw [e]; exact qeL _ _ _ _ (by simp; omega)
  have hr2 : List.take 2 (List.drop (k0 * 2 + ((k2 : Int) - 1).toNat * 2) (qao (kept ++ junk ++ p :: x :: rest))) = [.int .i64 p.n, .list (qac p.kids)] := qeL _ _ _ _ (by simp; omega)
  have hlen : (qao (kept ++ junk ++ p :: x :: rest)).length = N * 2 := by rw [qaE]; simp at hl ⊢; omega
  have hfx := hf x p (hv x (by simp)) (hv p (by simp))
  rw [qd5, qd5] at hfx
  have fX := (cJ7 @hd @hw @hw1 @hw2 @hr1 @hr2 @hlen)
  refine qaa qlY.eq_1 ?_
  refine wR0 800 [0,1,5,6,7,35] fX ?_
  refine wT @hd ?_
  refine wRn 900 [0,1,5,6,7,49] fX ?_
  refine rCv fX ?_
  refine ⟨_, hfx, rE fX ?_⟩
  refine wS cJ0 (fun hc900 => ?_) (fun hc900 => ?_)
  ·skip
   refine wR0 1000 [0,1,5,6,7] fX ?_
   refine wR0 1100 [0,1,5,6,7] fX ?_
   refine wR0 1200 [0,1,5,6,7] fX ?_
   refine wN ?_
   first | (have q : cmpV x p ≠ 0 := (by simpa using hc900); obtain ⟨junk', hjl, e⟩ := qmg kept junk rest p x k hk; rw [e]; exact ih (kept ++ [x]) junk' x (k + 1) (k2 + 1) (by simp [hk]) (by omega) (by omega) (by simp at hl; omega) (by rw [ddp, if_neg q] at hR; simpa using hR) (fun v hv' => hv v (List.mem_cons_of_mem _ hv'))) | (have q : cmpV x p = 0 := (by simpa using hc900); have e : kept ++ junk ++ p :: x :: rest = kept ++ (junk ++ [p]) ++ x :: rest := (by simp); rw [e]; exact ih kept (junk ++ [p]) x k (k2 + 1) hk (by simp; omega) (by omega) (by simp at hl ⊢; omega) (by rw [ddp, if_pos q] at hR; exact hR) (fun v hv' => hv v (List.mem_cons_of_mem _ hv')))
  ·skip
   refine wR0 1200 [0,1,5,6,7] fX ?_
   refine wN ?_
   first | (have q : cmpV x p ≠ 0 := (by simpa using hc900); obtain ⟨junk', hjl, e⟩ := qmg kept junk rest p x k hk; rw [e]; exact ih (kept ++ [x]) junk' x (k + 1) (k2 + 1) (by simp [hk]) (by omega) (by omega) (by simp at hl; omega) (by rw [ddp, if_neg q] at hR; simpa using hR) (fun v hv' => hv v (List.mem_cons_of_mem _ hv'))) | (have q : cmpV x p = 0 := (by simpa using hc900); have e : kept ++ junk ++ p :: x :: rest = kept ++ (junk ++ [p]) ++ x :: rest := (by simp); rw [e]; exact ih kept (junk ++ [p]) x k (k2 + 1) hk (by simp; omega) (by omega) (by simp at hl ⊢; omega) (by rw [ddp, if_pos q] at hR; exact hR) (fun v hv' => hv v (List.mem_cons_of_mem _ hv')))
theorem qkC : ∀ (l : List V) (p : V), (ddp p l).length ≤ l.length
 | [], p => Nat.le_refl _
 | x :: l, p => by
  have := qkC l x
  simp only [ddp]; split <;> simp <;> omega
theorem cp_l0 (f : FuncId) (N : Nat) (hNl : N ≤ 1000000) (R : List V) (hf : ∀ a b : V, a.fit → b.fit → TP Tryz.prog f [encV a, encV b] (.bool (cmpV a b == 0))) (Q : IExit → (Nat → T) → Heap → Prop)
 (hQ0 : ∀ (k : Int), R.length = N → Q (.exit 0) (ofL [(0, .sl 700 (N * 2) 2 0 N), (1, .fn f []), (5, .int .i64 k), (15, .bool false)]) (hpL [(700, .live ⟨25, qao R⟩)]))
 (hQ1 : R.length ≤ N → Q .ret (ofL [(4, .sl 700 (N * 2) 2 0 R.length)]) (hpL [(700, .live ⟨25, qao R ++ repl (N - R.length) [.int .i64 0, .nil]⟩)])) :
 ∀ (rest pre : List V) (p : V) (k : Nat), pre.length + 1 = k → pre.length + 1 + rest.length = N → pre ++ p :: ddp p rest = R → (∀ v ∈ p :: rest, v.fit) →
 WL Tryz.prog 66 qlw (ofL [(0, .sl 700 (N * 2) 2 0 N), (1, .fn f []), (5, .int .i64 k)]) (hpL [(700, .live ⟨25, qao (pre ++ p :: rest)⟩)]) Q := by
 intro rest
 induction rest with
 | nil =>
  intro pre p k hk hl hR hv
  have hd : decide ((k : Int) < (N : Int)) = false := by simp at hl ⊢; omega
  simp only [ddp] at hR
  have fX := @hd
  refine qaa qlw.eq_1 ?_
  refine wR0 400 [0,1,5,15] fX ?_
  refine wF @hd ?_
  refine wX ?_
  refine wN ?_
  rw [hR]
  exact hQ0 _ (by rw [← hR]; simpa using hl)
 | cons x rest ih =>
  intro pre p k hk hl hR hv
  have hlt : (k : Int) < (N : Int) := by simp at hl; omega
  have hlt1 : (k : Int) - 1 < (N : Int) := by omega
  have hlt0 : 0 ≤ (k : Int) - 1 := by omega
  have hd : decide ((k : Int) < (N : Int)) = true := decide_eq_true hlt
  have hw : IntKind.wrap .i64 ((k : Int) + 1) = (k : Int) + 1 := wrap64 (by omega) (by omega)
  have hw1 : IntKind.wrap .i64 ((k : Int) - 1) = (k : Int) - 1 := wrap64 (by omega) (by omega)
  have hr1 : List.take 2 (List.drop ((k : Int).toNat * 2) (qao (pre ++ p :: x :: rest))) = [.int .i64 x.n, .list (qac x.kids)] := by
   have e : pre ++ p :: x :: rest = (pre ++ [p]) ++ x :: rest := by simp
   rw [e]; exact qeL _ _ _ _ (by simp; omega)
  have hr2 : List.take 2 (List.drop (((k : Int) - 1).toNat * 2) (qao (pre ++ p :: x :: rest))) = [.int .i64 p.n, .list (qac p.kids)] := qeL _ _ _ _ (by omega)
  have hlen : (qao (pre ++ p :: x :: rest)).length = N * 2 := by rw [qaE]; simp at hl ⊢; omega
  have hfx := hf x p (hv x (by simp)) (hv p (by simp))
  rw [qd5, qd5] at hfx
  have fX := (cJ6 @hd @hw @hw1 @hr1 @hr2 @hlen)
  refine qaa qlw.eq_1 ?_
  refine wR0 400 [0,1,5,15] fX ?_
  refine wT @hd ?_
  refine wRn 500 [0,1,5,28] fX ?_
  refine rCv fX ?_
  refine ⟨_, hfx, rE fX ?_⟩
  simp only [thn]
  have hkn : ¬ ((k : Int).toNat = N) := (by omega)
  refine wS cJ0 (fun hc500 => ?_) (fun hc500 => ?_)
  ·skip
   refine wR0 600 [0,1,5,6] (cJ2 @hkn fX) ?_
   refine wR0 700 [0,1,5,6,7] fX ?_
   simp only [thn]
   have q : cmpV x p = 0 := (by simpa using hc500)
   have hRN : R.length < N := (by have h9 := qkC rest x; rw [← hR, ddp, if_pos q]; simp at hl ⊢; omega)
   have e : pre ++ p :: x :: rest = pre ++ [p] ++ [] ++ x :: rest := (by simp)
   rw [e]
   (try simp only [Int.toNat_natCast])
   refine wL ?_
   refine cp_l1 f N k (N - k) (by omega) hNl R hf _ ?_ rest (pre ++ [p]) [] x k 1 (by simp <;> omega) (by simp <;> omega) (by omega) (by simp at hl ⊢ <;> omega) (by rw [ddp, if_pos q] at hR; simpa using hR) (fun v hv' => hv v (List.mem_cons_of_mem _ hv'))
   ·intro kept junk k2 hkR hkl
    refine wN ?_
    refine wN ?_
    have hkn2 : ¬ (kept.length = N) := (by rw [hkR]; omega)
    have hkle : kept.length ≤ N := (by omega)
    have hrep : (repl (N - kept.length) [T.int .i64 0, T.nil]).length = (N - kept.length) * 2 := (by rw [qaY]; rfl)
    have hlen2 : (qao (kept ++ junk)).length = N * 2 := (by rw [qaE]; simp; omega)
    refine wR0 1300 [0,5] (cJ5 @Int.toNat_natCast @hkn2 @hlen2 @hrep fX) ?_
    refine wR0 1400 [4] (cJ4 @Int.toNat_natCast @hkn2 @hlen2 fX) ?_
    refine wE ?_
    refine wN ?_
    have hk0 : ¬ (0 = kept.length) := (by rw [hkR, ← hR]; simp)
    have e1 : List.take (kept.length * 2) (qao (kept ++ junk)) = qao kept := (by rw [qa9, ← qaE, List.take_left])
    have e2 : List.drop (kept.length * 2 + (N - kept.length) * 2) (qao (kept ++ junk)) = [] := List.drop_eq_nil_of_le (by rw [hlen2]; omega)
    rw [if_neg hk0, Nat.sub_zero, e1, e2, List.append_nil]
    subst hkR
    exact hQ1 hkle
  ·skip
   refine wR0 1500 [0,1,5] fX ?_
   refine wN ?_
   have e : pre ++ p :: x :: rest = pre ++ [p] ++ x :: rest := (by simp)
   rw [e]
   exact ih (pre ++ [p]) x (k + 1) (by simp; omega) (by simp at hl ⊢; omega) (by have q : cmpV x p ≠ 0 := (by simpa using hc500); rw [ddp, if_neg q] at hR; simpa using hR) (fun v hv' => hv v (List.mem_cons_of_mem _ hv'))
theorem qlI {H : Heap} {id ty tot : Nat} (ks : List V) (z : List T) (hb : H id = .live ⟨ty, qao ks ++ z⟩) (ht : (qao ks ++ z).length = tot) : Frz H (.sl id tot 2 0 ks.length) (.list (qac ks)) := by
 have hl := qaE ks
 refine Frz.sl hb ht (by rw [← ht, List.length_append, hl]; simp [esz]) (qag ks) (qdT ks) (by rw [← qbV]; exact qbv ks) fun k hk => ?_
 rw [← qbV, Nat.zero_add]
 simp only
 have hk' : k < (qao ks).length := by rw [hl]; simpa [esz] using hk
 rw [List.getD_eq_getElem?_getD, List.getElem?_append_left hk', ← List.getD_eq_getElem?_getD]
 exact .same (qa7 (qaQ _ ks) k)
theorem qfH (xs : List V) : (qa6 xs).length ≤ xs.length := by
 cases xs with
 | nil => exact Nat.le_refl _
 | cons x l => have := qkC l x; simp only [qa6, List.length_cons]; omega
def qfU (xs : List V) : List T := repl (xs.length - (qa6 xs).length) [.int .i64 0, .nil]
theorem qka (xs : List V) : (qao (qa6 xs) ++ qfU xs).length = xs.length * 2 := by
 have := qfH xs
 rw [List.length_append, qaE, qfU, qaY]; simp; omega
theorem qkS (f : FuncId) (x : V) (l : List V) (N : Nat) (hN : (x :: l).length = N) (hl : N ≤ 1000000) (hv : ∀ v ∈ x :: l, v.fit) (hf : ∀ a b : V, a.fit → b.fit → TP Tryz.prog f [encV a, encV b] (.bool (cmpV a b == 0))) :
 TC Tryz.prog 50 [.sl 700 (N * 2) 2 0 N, .fn f []] (hpL [(700, .live ⟨25, qao (x :: l)⟩)]) (.sl 700 (N * 2) 2 0 (qa6 (x :: l)).length) (hpL [(700, .live ⟨25, qao (qa6 (x :: l)) ++ qfU (x :: l)⟩)]) := by
 have ht0 : (qa6 (x :: l)).length = N → qfU (x :: l) = [] := fun h => by rw [qfU, hN, h]; simp [repl]
 have ht1 : repl (N - (qa6 (x :: l)).length) [T.int .i64 0, T.nil] = qfU (x :: l) := by rw [qfU, hN]
 by_cases h2 : (N : Int) < 2
 ·have hd : decide ((N : Int) < 2) = true := decide_eq_true h2
  obtain rfl : l = [] := List.eq_nil_of_length_eq_zero (by simp at hN; omega)
  have h1 : (qa6 [x]).length = N := hN
  rw [h1, ht0 h1]
  have fX := @hd
  refine qcg fn50 (by simp) ?_
  unfold i50
  simp only [argL]
  refine wR0 0 [0,1] fX ?_
  refine wR0 100 [0,1,10] fX ?_
  refine wT @hd ?_
  refine wR0 200 [4] fX ?_
  refine wE ?_
  refine wN ?_
  exact ⟨by simp, rfl, rfl⟩
 ·have hd : decide ((N : Int) < 2) = false := decide_eq_false h2
  have fX := @hd
  refine qcg fn50 (by simp) ?_
  unfold i50
  simp only [argL]
  refine wR0 0 [0,1] fX ?_
  refine wR0 100 [0,1,10] fX ?_
  refine wF @hd ?_
  refine wR0 300 [0,1,5] fX ?_
  refine wL ?_
  refine cp_l0 f N hl (qa6 (x :: l)) hf _ ?_ ?_ l [] x 1 rfl (by simp at hN ⊢; omega) rfl hv
  ·intro k hR
   refine wN ?_
   refine wR0 1600 [4] fX ?_
   refine wE ?_
   refine wN ?_
   exact ⟨by simp, by rw [hR]; rfl, by rw [ht0 hR, List.append_nil]⟩
  ·intro hR
   refine wN ?_
   exact ⟨by simp, rfl, by rw [ht1]⟩
theorem qhI (f : FuncId) (xs : List V) (hne : xs ≠ []) (hl : xs.length ≤ 1000000) (hv : ∀ v ∈ xs, v.fit) (hf : ∀ a b : V, a.fit → b.fit → TP Tryz.prog f [encV a, encV b] (.bool (cmpV a b == 0))) :
 TC Tryz.prog 50 [.sl 700 (xs.length * 2) 2 0 xs.length, .fn f []] (hpL [(700, .live ⟨25, qao xs⟩)]) (.sl 700 (xs.length * 2) 2 0 (qa6 xs).length) (hpL [(700, .live ⟨25, qao (qa6 xs) ++ qfU xs⟩)]) := by
 rcases xs with _ | ⟨x, l⟩
 ·exact absurd rfl hne
 ·exact qkS f x l _ rfl hl hv hf
end
section
open Go.RowKit Go.Sort Go.Shelf
theorem qfg : ∀ xs : List V, qao xs = rowW (fun v => [T.int .i64 v.n, T.list (qac v.kids)]) xs
 | [] => rfl
 | x :: xs => by rw [qao, qfg xs]; rfl
theorem qgH : Enters Tryz.prog 48 := enters_of Tryz.func48 (by kernel_rfl) rfl
theorem qi8 (id ty : Nat) (xs : List V) (hne : xs ≠ []) (hl : xs.length ≤ 1000000) (hv : ∀ v ∈ xs, v.fit) :
 TC Tryz.prog 48 [.sl id (xs.length * 2) 2 0 xs.length, .fn 49 []] (hpL [(id, .live ⟨ty, qao xs⟩)]) (.tup []) (hpL [(id, .live ⟨ty, qao (qby xs)⟩)]) := by
 rw [qfg, qfg]
 refine qrr Tryz.sorts48 _ 2 (fun _ => rfl) (fun x D => by simp [clL, T.cl, qam]) (fun x c hc => ?_) (fun w => ?_) (fun w => ?_) cmpV qpE _ id ty xs (qby xs) hne (by omega) (fun x hx y hy => ?_) (fun zs hp ha => qmv hp ha) qgH
 ·simp only [List.mem_cons, List.not_mem_nil, or_false] at hc
  rcases hc with rfl | rfl <;> rfl
 ·exact Tryz.isAgg25 w
 ·exact Tryz.sizeOf25 w
 ·have := qir x y (hv x hx) (hv y hy)
  rwa [qd5, qd5] at this
theorem qdI (g : Nat) : TC Tryz.prog 48 [.nil, .fn g []] (fun _ => .free) (.tup []) (fun _ => .free) := by
 refine ⟨qgH, fun w A μ vs hS hR => ?_⟩
 obtain ⟨hs, hr⟩ := hR
 have hvs : vs = #[vs.getD 0 Go.undef, vs.getD 1 Go.undef] := by
  refine Array.ext (by simpa using hs) fun i hi _ => ?_
  have h2 : vs.size = 2 := by simpa using hs
  match i, (by omega : i < 2) with
  | 0, _ => simp [hi]
  | 1, _ => simp [hi]
 have r0 := hr 0 (by simp)
 rw [hvs]
 generalize vs.getD 0 Go.undef = v0 at r0 ⊢
 generalize vs.getD 1 Go.undef = v1 at ⊢
 simp only [List.getD_eq_getElem?_getD, List.getElem?_cons_zero, Option.getD_some] at r0
 cases r0
 refine (AnyF.slices_SortFunc_none (P := Tryz.prog) Tryz.sorts48 none 0 v1 w).mono ?_
 rintro en w' ⟨rfl, rfl⟩
 exact ⟨_, A, μ, rfl, .tup #[] [] rfl (fun i hi => by cases hi), hS, .refl _ _ _ _⟩
end
section
open Go.RowKit
set_option maxHeartbeats 2000000
def qhq (x : V) : List V → Bool
 | [] => true
 | y :: ys => !decide (cmpV x y < 0) && qhq y ys
theorem qmk : ∀ (ys : List V) (x : V), qhq x ys = qa8 ((x :: ys).reverse)
 | [], x => rfl
 | y :: ys, x => by
  rw [List.reverse_cons, List.reverse_cons, List.append_assoc, List.singleton_append, qfN, ← List.reverse_cons, ← qmk ys y, qhq, qmW y x, Bool.and_comm]
theorem qh1 (f : FuncId) (xs : List V) (hl : xs.length ≤ 1000000) (hk : ∀ k ∈ xs, ∀ l ∈ xs, TP Tryz.prog f [encV k, encV l] (.int .i64 (cmpV k l))) (Q : IExit → (Nat → T) → Heap → Prop) : ∀ (ys : List V) (x : V) (zs : List V) (i : Nat), xs = ys.reverse ++ x :: zs → ys.length = i →
 (qhq x ys = true → ∀ i : Int, Q (.exit 0) (ofL [(0, .list (qac xs)), (1, .fn f []), (5, .int .i64 i), (10, .bool false)]) (hpL [])) →
 (qhq x ys = false → Q .ret (ofL [(4, .bool false)]) (hpL [])) →
 WL Tryz.prog 25 qhc (ofL [(0, .list (qac xs)), (1, .fn f []), (5, .int .i64 i)]) (hpL []) Q := by
 intro ys
 induction ys with
 | nil =>
  intro x zs i he hi hQ0 hQ1
  have hd : decide ((i : Int) > 0) = false := decide_eq_false (by simp at hi; omega)
  refine qaa qhc.eq_1 ?_
  refine wN ?_
  refine wR0 200 [0,1,5,10] @hd ?_
  refine wN ?_
  refine qae (eV cJ0) ?_
  simp only [Bool.false_eq_true, if_false]
  refine wN ?_
  refine qbp ?_
  (try simp only [thn])
  exact hQ0 rfl _
 | cons y ys ih =>
  intro x zs i he hi hQ0 hQ1
  rcases x with ⟨a, bs⟩
  rcases y with ⟨b, cs⟩
  simp only [List.length_cons] at hi
  obtain ⟨m, rfl⟩ : ∃ m, i = m + 1 := ⟨ys.length, by omega⟩
  have hm : ys.reverse.length = m := by simp; omega
  have he1 : xs = ys.reverse ++ V.mk b cs :: V.mk a bs :: zs := by rw [he]; simp
  have he2 : xs = (ys.reverse ++ [V.mk b cs]) ++ V.mk a bs :: zs := by rw [he]; simp
  have hxl : ((qac xs).length : Int) = m + 2 + zs.length := by rw [qag, he1]; simp at hm ⊢; omega
  have hlb : m + 2 ≤ 1000000 := by rw [qag] at hxl; omega
  have hlt : ((m + 1 : Nat) : Int) < ((qac xs).length : Int) := by omega
  have hlt2 : (m : Int) < ((qac xs).length : Int) := by omega
  have hd : decide (((m + 1 : Nat) : Int) > 0) = true := decide_eq_true (by omega)
  have hw3 : IntKind.wrap .i64 (((m + 1 : Nat) : Int) - 1) = (m : Int) := by rw [wrap64 (by omega) (by omega)]; omega
  have hg1 : (qac xs).getD (((m + 1 : Nat) : Int)).toNat .undef = .agg [.int .i64 a, .list (qac bs)] := by
   have h := qa0 (ys.reverse ++ [V.mk b cs]) (V.mk a bs) zs
   rw [← he2] at h
   rw [Int.toNat_natCast, show m + 1 = (ys.reverse ++ [V.mk b cs]).length by simp at hm ⊢; omega]; exact h
  have hg2 : (qac xs).getD (m : Int).toNat .undef = .agg [.int .i64 b, .list (qac cs)] := by
   have h := qa0 ys.reverse (V.mk b cs) (V.mk a bs :: zs)
   rw [← he1] at h
   rw [Int.toNat_natCast, ← hm]; exact h
  have hc1 := hk (V.mk a bs) (by rw [he1]; simp) (V.mk b cs) (by rw [he1]; simp)
  refine qaa qhc.eq_1 ?_
  refine wN ?_
  refine wR0 200 [0,1,5,10] @hd ?_
  refine wN ?_
  refine qae (eV cJ0) ?_
  simp only [if_true]
  refine wN ?_
  apply W_r 300 [0, 1, 5, 24] (by rfl)
  ·refine rN (cJ3 @hg1 @hg2 @hw3) ?_
   apply qee
   ·rfl
   ·exact eV cJ0
   ·exact eV cJ0
   ·exact hc1
   ·exact fRo
   refine rN cJ0 ?_
   exact rFi
  ·exact eV cJ0
  simp only [thn]
  rcases hc : decide (cmpV (V.mk a bs) (V.mk b cs) < 0) with _ | _
  ·refine qae (eV cJ0) ?_
   simp only [Bool.false_eq_true, if_false]
   refine wN ?_
   refine wR0 500 [0,1,5] @hw3 ?_
   refine wN ?_
   have e : qhq (V.mk a bs) (V.mk b cs :: ys) = qhq (V.mk b cs) ys := by rw [qhq, hc]; rfl
   rw [e] at hQ0 hQ1
   exact ih (V.mk b cs) (V.mk a bs :: zs) m he1 (by simpa using hm) hQ0 hQ1
  ·refine qae (eV cJ0) ?_
   simp only [if_true]
   refine wN ?_
   refine wR0 400 [4] cJ0 ?_
   refine wN ?_
   refine qaC ?_
   (try simp only [thn, inB])
   exact hQ1 (by rw [qhq, hc]; rfl)
theorem qld (f : FuncId) (xs : List V) (hl : xs.length ≤ 1000000) (hk : ∀ k ∈ xs, ∀ l ∈ xs, TP Tryz.prog f [encV k, encV l] (.int .i64 (cmpV k l))) : TP Tryz.prog 171 [.list (qac xs), .fn f []] (.bool (qa8 xs)) := by
 have hw : IntKind.wrap .i64 (((qac xs).length : Int) - 1) = ((qac xs).length : Int) - 1 := wrap64 (by omega) (by rw [qag]; omega)
 refine qak fn171 (by simp) ?_
 unfold i171
 simp only [argL]
 refine wN ?_
 refine wR0 0 [0,1] cJ0 ?_
 refine wN ?_
 refine wR0 100 [0,1,5] @hw ?_
 refine wN ?_
 refine qbF ?_
 rcases List.eq_nil_or_concat xs with h | ⟨ini, x, h⟩
 ·subst h
  have hd : decide (((qac []).length : Int) - 1 > 0) = false := rfl
  refine qaa qhc.eq_1 ?_
  refine wN ?_
  refine wR0 200 [0,1,5,10] @hd ?_
  refine wN ?_
  refine qae (eV cJ0) ?_
  simp only [Bool.false_eq_true, if_false]
  refine wN ?_
  refine qbp ?_
  (try simp only [thn, inB, if_true])
  refine wR0 600 [4] cJ0 ?_
  refine wN ?_
  refine qaC ?_
  (try simp only)
  exact ⟨by simp, _, rfl, by exact qab rfl⟩
 ·have hi : ((qac xs).length : Int) - 1 = ((ini.length : Nat) : Int) := by rw [qag, h]; simp
  have hr : qhq x ini.reverse = qa8 xs := by rw [qmk, h]; simp
  rw [hi]
  refine qh1 f xs hl hk _ ini.reverse x [] ini.length (by rw [h]; simp) (by simp) ?_ ?_
  ·intro h1 i
   simp only [inB, if_true, thn]
   refine wR0 600 [4] cJ0 ?_
   refine wN ?_
   refine qaC ?_
   (try simp only)
   exact ⟨by simp, _, rfl, by exact qab (by rw [← hr, h1])⟩
  ·intro h1
   simp only [inB, thn]
   exact ⟨by simp, _, rfl, qab (by rw [← hr, h1])⟩
end
end Go.Proofs.YtikhhnopcjgjpaaGreat
