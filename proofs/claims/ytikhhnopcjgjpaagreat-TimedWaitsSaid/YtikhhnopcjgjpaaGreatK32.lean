/- Contracts of functions of the program, for all arguments that they name. -/
import Derived.Test.YtikhhnopcjgjpaaGreatK24
import Derived.Test.YtikhhnopcjgjpaaGreatK28
namespace Go.Proofs.YtikhhnopcjgjpaaGreat
set_option linter.unusedVariables false
section
open Go.RowKit
set_option maxHeartbeats 2000000
theorem qj0 {P : Program} {N : Nat} {c : ICode} {env : Nat → T} {H : Heap} {e : IExit} {env1 : Nat → T} {H1 : Heap} (ss : List Nat) (h : TRun P N c (ofL (ss.map fun s => (s, env s))) H e env1 H1) : TRun P N c env H e env1 H1 := by
 obtain ⟨_, _, _, h', rfl, rfl, rfl⟩ := W_keep (env := env) (Q := fun e' v hh => e' = e ∧ v = env1 ∧ hh = H1) ss ⟨_, _, _, h, rfl, rfl, rfl⟩
 exact h'
theorem qa4 {P : Program} {N : Nat} {c : ICode} {env : Nat → T} {H : Heap} {Q : IExit → (Nat → T) → Heap → Prop} (ss : List Nat) (h : WL P N c (ofL (ss.map fun s => (s, env s))) H Q) : WL P N c env H Q := by
 obtain ⟨e, env1, H1, n, hr, hq⟩ := h
 refine ⟨e, env1, H1, n, ?_, hq⟩
 cases hr with
 | stop h hne => exact .stop (qj0 ss h) hne
 | next h t => exact .next (qj0 ss h) t
def flatK (l : List Tk) : List T := l.flatMap fun t => [.int .i64 t.place, .int .i64 t.low, .int .i64 t.high]
theorem qeO : ∀ l : List Tk, (flatK l).length = l.length * 3
 | [] => rfl
 | x :: l => by have := qeO l; simp only [flatK] at this; simp [flatK, this]; omega
theorem qhF (xs : List Tk) (y : Tk) : flatK (xs ++ [y]) = flatK xs ++ [.int .i64 y.place, .int .i64 y.low, .int .i64 y.high] := by simp [flatK]
theorem qfe : ∀ l : List Tk, flatK l = flat (qay l)
 | [] => rfl
 | x :: l => by have := qfe l; simp only [flatK, qay] at this; simp [flatK, qay, qgE, qbe, this, T.cells]
theorem qf0 (D : Nat → Bool) : ∀ l, clL D (flatK l) = true
 | [] => rfl
 | x :: l => by have := qf0 D l; simp only [flatK] at this; simp [flatK, clL, T.cl, this]
theorem qhy : ∀ l, Ones (flatK l)
 | [] => fun c hc => by cases hc
 | x :: l => fun c hc => by
  have := qhy l
  simp only [flatK, List.flatMap_cons, List.cons_append, List.nil_append, List.mem_cons] at hc
  rcases hc with rfl | rfl | rfl | hc
  ·rfl
  ·rfl
  ·rfl
  ·exact this c hc
theorem qiU (l : List Tk) : qcA (esz 3) (qay l) := fun x hx => by
 obtain ⟨v, _, rfl⟩ := List.mem_map.1 hx
 rfl
theorem qdA {H : Heap} {D : Nat → Bool} {id ty n tot : Nat} (l : List Tk) (hb : H id = .live ⟨ty, flatK l⟩) (hd : D id = false) (hn : n = l.length) (ht : tot = l.length * 3) : Fz H D (.sl id tot 3 0 n) (.list (qay l)) := by
 subst hn ht
 refine Fz.sl hb hd (qeO l) (by simp [esz]) (qaR l) (qiU l) (by rw [← qfe]; exact qhy l) fun k hk => ?_
 rw [← qfe, Nat.zero_add]
 exact .same (qa7 (qf0 _ l) k)
def qcd (id : Nat) (done : List Tk) : T := match done with
 | [] => .nil
 | d :: ds => .sl id ((ds.length + 1) * 3) 3 0 (ds.length + 1)
def qcc (id ty : Nat) (done : List Tk) : List (Nat × Slot) := match done with
 | [] => []
 | d :: ds => [(id, .live ⟨ty, flatK (d :: ds)⟩)]
def tkOk (m : Md) (k : Tk) : Prop := 0 ≤ k.place ∧ k.place < m.places.length ∧ 0 ≤ k.low ∧ k.low ≤ k.high ∧ k.high ≤ m.age + 1
abbrev sU0 : Slot := .live ⟨60, [.str ⟨#[]⟩, .int .i64 0, .int .i64 0, .nil, .nil, .nil, .int .i64 0, .int .i64 0, .int .i64 0, .nil, .nil, .nil, .nil, .int .i64 0]⟩
abbrev sUx (f t : Int) (x : T) : Slot := .live ⟨60, [.str ⟨#[]⟩, .int .i64 f, .int .i64 t, .nil, .nil, .nil, .int .i64 0, .int .i64 0, .int .i64 0, .nil, .nil, x, .nil, .int .i64 0]⟩
def qdG (l : List Rl) : List T := l.flatMap rlC
theorem qhk : ∀ l : List Rl, (qdG l).length = l.length * 14
 | [] => rfl
 | x :: l => by have := qhk l; simp only [qdG] at this; simp [qdG, this, rlC]; omega
theorem qmZ (xs : List Rl) (y : Rl) : qdG (xs ++ [y]) = qdG xs ++ rlC y := by simp [qdG]
theorem qfz : ∀ l : List Rl, qdG l = flat (qaL l)
 | [] => rfl
 | x :: l => by have := qfz l; simp only [qdG, qaL] at this; simp [qdG, qaL, qbs, qbe, this, T.cells]
@[simp] theorem qiP (D : Nat → Bool) : ∀ l, clL D (qdG l) = true
 | [] => rfl
 | x :: l => by have := qiP D l; simp only [qdG] at this; simp [qdG, qaw, this]
theorem qpB (r : Rl) : Ones (rlC r) := fun c hc => List.all_eq_true.1 (show ((rlC r).all T.one) = true from rfl) c hc
theorem qfo : ∀ l, Ones (qdG l)
 | [] => fun c hc => by cases hc
 | x :: l => fun c hc => by
  have := qfo l
  simp only [qdG, List.flatMap_cons, List.mem_append] at hc this
  rcases hc with hc | hc
  ·exact qpB x c hc
  ·exact this c hc
theorem qiI (l : List Rl) : qcA (esz 14) (qaL l) := fun x hx => by
 obtain ⟨v, _, rfl⟩ := List.mem_map.1 hx
 rfl
theorem qnA {H : Heap} {D : Nat → Bool} {id ty n tot : Nat} (l : List Rl) (hb : H id = .live ⟨ty, qdG l⟩) (hd : D id = false) (hn : n = l.length) (ht : tot = l.length * 14) : Fz H D (.sl id tot 14 0 n) (.list (qaL l)) := by
 subst hn ht
 refine Fz.sl hb hd (qhk l) (by simp [esz]) (qaM l) (qiI l) (by rw [← qfz]; exact qfo l) fun k hk => ?_
 rw [← qfz, Nat.zero_add]
 exact .same (qa7 (qiP _ l) k)
def mdX (m : Md) (x : T) : List T := [.int .i64 m.kind, .list (qan m.states), .list (qan m.places), .nil, .nil, .int .i64 m.levels, .int .i64 m.age, x, .int .i64 m.start.n, .nil]
abbrev sMx (m : Md) (x : T) : Slot := .live ⟨34, mdX m x⟩
abbrev sW (rs : List Rl) : Slot := .live ⟨60, qdG rs⟩
theorem qkv {H : Heap} {D : Nat → Bool} (rs : List Rl) : SlotFz H D (sW rs) (sW rs) := SlotFz.liveS (qiP _ rs) (qfo rs)
theorem qd1 {P : Program} {f : FuncId} {N : Nat} {ic : ICode} {rs : List (Nat × Option Nat)} {args : List T} {d d' : Dk} {r : T} {l : List Rl} (h : FnOk P f N rs ic) (hn : args.length ≤ N)
 (hw : W P N ic (ofL (argL 0 args)) (hpL [(99999, dkB d), (2604, sW l)]) fun e env' H'' => (e = .ret ∨ e = .normal) ∧ ∃ x hl hl', resT env' H'' rs = some x ∧ H'' = hpL hl ∧ Fz (hpL hl) (inL [99999, 2604]) x r ∧ LFz (hpL hl) [99999, 2604] hl hl' ∧ qap [99999, 2604] hl' = [(99999, dkB d'), (2604, sW l)]) : TC P f args (hpL [(99999, dkB d), (2604, sW l)]) r (hpL [(99999, dkB d'), (2604, sW l)]) :=
 qli [99999, 2604] h hn rfl hw
theorem qls (m : Md) (f t : Int)  (hp : 1 ≤ m.places.length ∧ m.places.length ≤ 1000) (ha : 0 ≤ m.age ∧ m.age ≤ 1000) : ∀ (k : Nat) (done : List Tk) (d : Dk), k + done.length ≤ 10 → d.ok →
 ∃ (ks : List Tk) (d' : Dk), ks.length = k ∧ (∀ x ∈ ks, tkOk m x) ∧ d'.ok ∧ ∀ Q : IExit → (Nat → T) → Heap → Prop,
  (∀ i : Int, Q (.exit 3) (ofL [(0, dkR), (3, .ref 0 10 0), (4, .ref 1 14 0), (5, .ref 111 14 0), (6, .int .i64 m.places.length), (8, .int .i64 i), (107, .bool false)]) (hpL ([(99999, dkB d'), (0, sMx m .nil), (1, sU0), (111, sUx f t (qcd 2617 (done ++ ks)))] ++ qcc 2617 64 (done ++ ks)))) →
  WL Tryz.prog 168 qe9 (ofL [(0, dkR), (3, .ref 0 10 0), (4, .ref 1 14 0), (5, .ref 111 14 0), (6, .int .i64 m.places.length), (8, .int .i64 k)]) (hpL ([(99999, dkB d), (0, sMx m .nil), (1, sU0), (111, sUx f t (qcd 2617 done))] ++ qcc 2617 64 done)) Q := by
 intro k
 induction k with
 | zero =>
  intro done d hk hd
  refine ⟨[], d, rfl, (fun y hy => absurd hy (List.not_mem_nil)), hd, fun Q hQ => ?_⟩
  have hb : decide (((0 : Nat) : Int) > 0) = false := rfl
  rw [List.append_nil] at hQ
  simp only [List.cons_append, List.nil_append] at hQ ⊢
  have fX := @hb
  refine qaa qe9.eq_1 ?_
  refine wR0 2400 [0,3,4,5,6,8,107] fX ?_
  refine wF @hb ?_
  refine wX ?_
  refine wN ?_
  exact hQ _
 | succ k ih =>
  intro done d hk hd
  obtain ⟨lo, d1, hlo, hok1, hn1⟩ := qaS d (m.age + 2) hd
  have hlo2 := hlo.2.2 (by omega)
  obtain ⟨p, d2, hpp, hok2, hn2⟩ := qaS d1 (m.places.length : Int) hok1
  have hpp2 := hpp.2.2 (by omega)
  obtain ⟨h, d3, hh, hok3, hn3⟩ := qaS d2 (m.age + 2 - lo) hok2
  have hh2 := hh.2.2 (by omega)
  obtain ⟨ks, d', a1, a2, a3, hW⟩ := ih (done ++ [⟨p, lo, lo + h⟩]) d3 (by simp; omega) hok3
  refine ⟨⟨p, lo, lo + h⟩ :: ks, d', by simp [a1], fun y hy => ?_, a3, fun Q hQ => ?_⟩
  ·rcases List.mem_cons.1 hy with rfl | hy
   ·exact ⟨hpp.1, hpp2, hlo.1, by simp only; omega, by simp only; omega⟩
   ·exact a2 y hy
  have hb : decide (((k + 1 : Nat) : Int) > 0) = true := decide_eq_true (by omega)
  have hw : IntKind.wrap .i64 (((k + 1 : Nat) : Int) - 1) = (k : Int) := by rw [wrap64 (by omega) (by omega)]; omega
  have hw1 : IntKind.wrap .i64 (m.age + 2) = m.age + 2 := wrap64 (by omega) (by omega)
  have hw2 : IntKind.wrap .i64 (m.age + 2 - lo) = m.age + 2 - lo := wrap64 (by omega) (by omega)
  have hw3 : IntKind.wrap .i64 (lo + h) = lo + h := wrap64 (by omega) (by omega)
  have hQ' := hW Q (by simpa using hQ)
  cases done with
  | nil =>
   simp only [qcd, qcc, List.append_nil]
   have fX := (cJ6 @hb @hw @hw1 @hw2 @hw3 @qaz)
   refine qaa qe9.eq_1 ?_
   refine W_gc ?_
   refine wR0 2400 [0,3,4,5,6,8,107] fX ?_
   refine wT fX ?_
   refine wRn 2500 [0,3,4,5,6,8,9] (cJ2 @mdX.eq_1 fX) ?_
   refine rU [(99999, dkB d)] [(99999, dkB d1)] (cJ2 @mdX.eq_1 fX) ?_
   refine ⟨_, hn1.full1, rE (cJ2 @mdX.eq_1 fX) ?_⟩
   refine wRn 2600 [0,3,4,5,6,8] (cJ2 @mdX.eq_1 fX) ?_
   refine rU [(99999, dkB d1)] [(99999, dkB d2)] (cJ2 @mdX.eq_1 fX) ?_
   refine ⟨_, hn2.full1, rN (cJ2 @mdX.eq_1 fX) ?_⟩
   refine rU [(99999, dkB d2)] [(99999, dkB d3)] (cJ2 @mdX.eq_1 fX) ?_
   refine ⟨_, hn3.full1, rE (cJ2 @mdX.eq_1 fX) ?_⟩
   refine wR0 2700 [0,3,4,5,6,8] fX ?_
   refine wN ?_
   refine qa1 [99999, 0, 1, 111, 2617] (by simp [inL]) (by simp [inL, T.cl]) (by simp [qap, inL, Slot.cl, T.cl, clL, mdX, qat]) ?_
   simpa [qap, inL, qcd, qcc, flatK, mdX] using hQ'
  | cons z l =>
   have hlb : l.length + 1 ≤ 1000000 := by simp at hk; omega
   simp only [qcd, qcc, List.cons_append, List.nil_append]
   have fX := (cJ7 @hb @hw @hw1 @hw2 @hw3 @qaz @qeO)
   refine qaa qe9.eq_1 ?_
   refine W_gc ?_
   refine wR0 2400 [0,3,4,5,6,8,107] fX ?_
   refine wT fX ?_
   refine wRn 2500 [0,3,4,5,6,8,9] (cJ2 @mdX.eq_1 fX) ?_
   refine rU [(99999, dkB d)] [(99999, dkB d1)] (cJ2 @mdX.eq_1 fX) ?_
   refine ⟨_, hn1.full1, rE (cJ2 @mdX.eq_1 fX) ?_⟩
   refine wRn 2600 [0,3,4,5,6,8] (cJ2 @mdX.eq_1 fX) ?_
   refine rU [(99999, dkB d1)] [(99999, dkB d2)] (cJ2 @mdX.eq_1 fX) ?_
   refine ⟨_, hn2.full1, rN (cJ2 @mdX.eq_1 fX) ?_⟩
   refine rU [(99999, dkB d2)] [(99999, dkB d3)] (cJ2 @mdX.eq_1 fX) ?_
   refine ⟨_, hn3.full1, rE (cJ2 @mdX.eq_1 fX) ?_⟩
   refine wR0 2700 [0,3,4,5,6,8] fX ?_
   refine wN ?_
   refine qa1 [99999, 0, 1, 111, 2617] (by simp [inL]) (by simp [inL, T.cl]) (by simp [qap, inL, Slot.cl, T.cl, clL, mdX, qat, qf0, qaw]) ?_
   have hs : flatK (z :: (l ++ [⟨p, lo, lo + h⟩])) = flatK (z :: l) ++ [.int .i64 p, .int .i64 lo, .int .i64 (lo + h)] := qhF (z :: l) ⟨p, lo, lo + h⟩
   have hm2 : (l.length + 1 + 1) * 3 = (l.length + 1) * 3 + 3 := (by omega)
   simp only [List.cons_append, List.nil_append, qcd, qcc, hs, List.length_append, List.length_cons, List.length_nil, Nat.zero_add, hm2] at hQ'
   simpa [qap, inL] using hQ'
theorem qlV (m : Md) (f t : Int) (q : Rl) (rs : List Rl) (hp : 1 ≤ m.places.length ∧ m.places.length ≤ 1000) (ha : 0 ≤ m.age ∧ m.age ≤ 1000) : ∀ (k : Nat) (done : List Tk) (d : Dk), k + done.length ≤ 10 → d.ok →
 ∃ (ks : List Tk) (d' : Dk), ks.length = k ∧ (∀ x ∈ ks, tkOk m x) ∧ d'.ok ∧ ∀ Q : IExit → (Nat → T) → Heap → Prop,
  (∀ i : Int, Q (.exit 3) (ofL [(0, dkR), (3, .ref 0 10 0), (4, .ref 1 14 0), (5, .ref 111 14 0), (6, .int .i64 m.places.length), (8, .int .i64 i), (107, .bool false)]) (hpL ([(99999, dkB d'), (2604, sW (q :: rs)), (0, sMx m (.sl 2604 ((rs.length + 1) * 14) 14 0 (rs.length + 1))), (1, sU0), (111, sUx f t (qcd 2617 (done ++ ks)))] ++ qcc 2617 64 (done ++ ks)))) →
  WL Tryz.prog 168 qe9 (ofL [(0, dkR), (3, .ref 0 10 0), (4, .ref 1 14 0), (5, .ref 111 14 0), (6, .int .i64 m.places.length), (8, .int .i64 k)]) (hpL ([(99999, dkB d), (2604, sW (q :: rs)), (0, sMx m (.sl 2604 ((rs.length + 1) * 14) 14 0 (rs.length + 1))), (1, sU0), (111, sUx f t (qcd 2617 done))] ++ qcc 2617 64 done)) Q := by
 intro k
 induction k with
 | zero =>
  intro done d hk hd
  refine ⟨[], d, rfl, (fun y hy => absurd hy (List.not_mem_nil)), hd, fun Q hQ => ?_⟩
  have hb : decide (((0 : Nat) : Int) > 0) = false := rfl
  rw [List.append_nil] at hQ
  simp only [List.cons_append, List.nil_append] at hQ ⊢
  have fX := @hb
  refine qaa qe9.eq_1 ?_
  refine wR0 2400 [0,3,4,5,6,8,107] fX ?_
  refine wF @hb ?_
  refine wX ?_
  refine wN ?_
  exact hQ _
 | succ k ih =>
  intro done d hk hd
  obtain ⟨lo, d1, hlo, hok1, hn1⟩ := qaS d (m.age + 2) hd
  have hlo2 := hlo.2.2 (by omega)
  obtain ⟨p, d2, hpp, hok2, hn2⟩ := qaS d1 (m.places.length : Int) hok1
  have hpp2 := hpp.2.2 (by omega)
  obtain ⟨h, d3, hh, hok3, hn3⟩ := qaS d2 (m.age + 2 - lo) hok2
  have hh2 := hh.2.2 (by omega)
  obtain ⟨ks, d', a1, a2, a3, hW⟩ := ih (done ++ [⟨p, lo, lo + h⟩]) d3 (by simp; omega) hok3
  refine ⟨⟨p, lo, lo + h⟩ :: ks, d', by simp [a1], fun y hy => ?_, a3, fun Q hQ => ?_⟩
  ·rcases List.mem_cons.1 hy with rfl | hy
   ·exact ⟨hpp.1, hpp2, hlo.1, by simp only; omega, by simp only; omega⟩
   ·exact a2 y hy
  have hb : decide (((k + 1 : Nat) : Int) > 0) = true := decide_eq_true (by omega)
  have hw : IntKind.wrap .i64 (((k + 1 : Nat) : Int) - 1) = (k : Int) := by rw [wrap64 (by omega) (by omega)]; omega
  have hw1 : IntKind.wrap .i64 (m.age + 2) = m.age + 2 := wrap64 (by omega) (by omega)
  have hw2 : IntKind.wrap .i64 (m.age + 2 - lo) = m.age + 2 - lo := wrap64 (by omega) (by omega)
  have hw3 : IntKind.wrap .i64 (lo + h) = lo + h := wrap64 (by omega) (by omega)
  have hQ' := hW Q (by simpa using hQ)
  cases done with
  | nil =>
   simp only [qcd, qcc, List.append_nil]
   have fX := (cJ6 @hb @hw @hw1 @hw2 @hw3 @qaz)
   refine qaa qe9.eq_1 ?_
   refine W_gc ?_
   refine wR0 2400 [0,3,4,5,6,8,107] fX ?_
   refine wT fX ?_
   refine wRn 2500 [0,3,4,5,6,8,9] (cJ2 @mdX.eq_1 fX) ?_
   refine rU [(99999, dkB d)] [(99999, dkB d1)] (cJ2 @mdX.eq_1 fX) ?_
   refine ⟨_, hn1.full1, rE (cJ2 @mdX.eq_1 fX) ?_⟩
   refine wRn 2600 [0,3,4,5,6,8] (cJ2 @mdX.eq_1 fX) ?_
   refine rU [(99999, dkB d1)] [(99999, dkB d2)] (cJ2 @mdX.eq_1 fX) ?_
   refine ⟨_, hn2.full1, rN (cJ2 @mdX.eq_1 fX) ?_⟩
   refine rU [(99999, dkB d2)] [(99999, dkB d3)] (cJ2 @mdX.eq_1 fX) ?_
   refine ⟨_, hn3.full1, rE (cJ2 @mdX.eq_1 fX) ?_⟩
   refine wR0 2700 [0,3,4,5,6,8] fX ?_
   refine wN ?_
   refine qa1 [99999, 2604, 0, 1, 111, 2617] (by simp [inL]) (by simp [inL, T.cl]) (by simp [qap, inL, Slot.cl, T.cl, clL, mdX, qat]) ?_
   simpa [qap, inL, qcd, qcc, flatK, mdX] using hQ'
  | cons z l =>
   have hlb : l.length + 1 ≤ 1000000 := by simp at hk; omega
   simp only [qcd, qcc, List.cons_append, List.nil_append]
   have fX := (cJ7 @hb @hw @hw1 @hw2 @hw3 @qaz @qeO)
   refine qaa qe9.eq_1 ?_
   refine W_gc ?_
   refine wR0 2400 [0,3,4,5,6,8,107] fX ?_
   refine wT fX ?_
   refine wRn 2500 [0,3,4,5,6,8,9] (cJ2 @mdX.eq_1 fX) ?_
   refine rU [(99999, dkB d)] [(99999, dkB d1)] (cJ2 @mdX.eq_1 fX) ?_
   refine ⟨_, hn1.full1, rE (cJ2 @mdX.eq_1 fX) ?_⟩
   refine wRn 2600 [0,3,4,5,6,8] (cJ2 @mdX.eq_1 fX) ?_
   refine rU [(99999, dkB d1)] [(99999, dkB d2)] (cJ2 @mdX.eq_1 fX) ?_
   refine ⟨_, hn2.full1, rN (cJ2 @mdX.eq_1 fX) ?_⟩
   refine rU [(99999, dkB d2)] [(99999, dkB d3)] (cJ2 @mdX.eq_1 fX) ?_
   refine ⟨_, hn3.full1, rE (cJ2 @mdX.eq_1 fX) ?_⟩
   refine wR0 2700 [0,3,4,5,6,8] fX ?_
   refine wN ?_
   refine qa1 [99999, 2604, 0, 1, 111, 2617] (by simp [inL]) (by simp [inL, T.cl]) (by simp [qap, inL, Slot.cl, T.cl, clL, mdX, qat, qf0, qaw]) ?_
   have hs : flatK (z :: (l ++ [⟨p, lo, lo + h⟩])) = flatK (z :: l) ++ [.int .i64 p, .int .i64 lo, .int .i64 (lo + h)] := qhF (z :: l) ⟨p, lo, lo + h⟩
   have hm2 : (l.length + 1 + 1) * 3 = (l.length + 1) * 3 + 3 := (by omega)
   simp only [List.cons_append, List.nil_append, qcd, qcc, hs, List.length_append, List.length_cons, List.length_nil, Nat.zero_add, hm2] at hQ'
   simpa [qap, inL] using hQ'
def qmU (m : Md) (r : Rl) : Prop := ∃ f t ks ms, r = ⟨⟨#[]⟩, f, t, [], [], [], 0, 0, 0, [], [], ks, ms, 0⟩ ∧ (0 ≤ f ∧ f < m.states.length) ∧ (0 ≤ t ∧ t < m.states.length) ∧ ks.length ≤ 2 ∧ (∀ k ∈ ks, tkOk m k) ∧ (ms = [] ∨ ∃ p, ms = [p] ∧ 0 ≤ p ∧ p < m.places.length)
set_option maxHeartbeats 4000000 in
theorem rule5a (m : Md)  (d : Dk) (hd : d.ok) (hk : m.kind = 5) (hs : 1 ≤ m.states.length ∧ m.states.length ≤ 1000) (hp : 1 ≤ m.places.length ∧ m.places.length ≤ 1000) (ha : 0 ≤ m.age ∧ m.age ≤ 1000) :
 ∃ (r : Rl) (d' : Dk), qmU m r ∧ d'.ok ∧ TC Tryz.prog 31 [dkR, .agg (mdX m .nil)] (hpL [(99999, dkB d)]) (qbs r) (hpL [(99999, dkB d')]) := by
 obtain ⟨f, d1, hf, hok1, hn1⟩ := qaS d (m.states.length : Int) hd
 obtain ⟨t, d2, ht, hok2, hn2⟩ := qaS d1 (m.states.length : Int) hok1
 obtain ⟨k0, d3, hk0, hok3, hn3⟩ := qaS d2 2 hok2
 have hk02 := hk0.2.2 (by omega)
 obtain ⟨k, rfl⟩ := Int.eq_ofNat_of_zero_le hk0.1
 obtain ⟨b, d4, hok4, hn4⟩ := qfJ d3 8 hok3
 have hkb1 : (m.kind == 1) = false := by simp [hk]
 have hkb2 : (m.kind == 2) = false := by simp [hk]
 have hkb3 : (m.kind == 3) = false := by simp [hk]
 have hkb4 : (m.kind == 4) = false := by simp [hk]
 have hkb5 : (m.kind == 5) = true := by simp [hk]
 have hsl := qad m.states
 have hpl := qad m.places
 rcases b with _ | _
 ·obtain ⟨ks, d5, a1, a2, hok5, hW⟩ := qls m f t  hp ha k [] d4 (by simp only [List.length_nil]; omega) hok4
  obtain ⟨b2, d6, hok6, hn5⟩ := qfJ d5 2 hok5
  rcases b2 with _ | _
  ·refine ⟨⟨⟨#[]⟩, f, t, [], [], [], 0, 0, 0, [], [], ks, [], 0⟩, d6, ⟨f, t, ks, [], rfl, ⟨hf.1, hf.2.2 (by omega)⟩, ⟨ht.1, ht.2.2 (by omega)⟩, by rw [a1]; omega, a2, .inl rfl⟩, hok6, ?_⟩
   rcases ks with _ | ⟨z, l⟩
   ·have fX := (cJ8 @qaz @hkb1 @hkb2 @hkb3 @hkb4 @hkb5 @hsl @hpl)
    refine qbI fn31 (by simp) ?_
    unfold i31
    simp only [argL, mdX]
    refine wR0 0 [0,3,4] fX ?_
    refine wRn 100 [0,3,4,5] fX ?_
    refine rU [(99999, dkB d)] [(99999, dkB d1)] fX ?_
    refine ⟨_, hn1.full1, rN fX ?_⟩
    refine rU [(99999, dkB d1)] [(99999, dkB d2)] fX ?_
    refine ⟨_, hn2.full1, rE fX ?_⟩
    refine wR0 200 [0,3,4,5,6] fX ?_
    refine wR0 300 [0,3,4,5,6,25] fX ?_
    refine wR0 400 [0,3,4,5,6,25,26] fX ?_
    refine wF fX ?_
    refine wR0 1100 [0,3,4,5,6,25,53] fX ?_
    refine wF fX ?_
    refine wR0 1200 [0,3,4,5,6,25,53] fX ?_
    refine wF fX ?_
    refine wR0 1600 [0,3,4,5,6,25,72] fX ?_
    refine wF fX ?_
    refine wR0 2000 [0,3,4,5,6,25,100] fX ?_
    refine wT fX ?_
    refine wRn 2100 [0,3,4,5,6,8] fX ?_
    refine rU [(99999, dkB d2)] [(99999, dkB d3)] fX ?_
    refine ⟨_, hn3.full1, rE fX ?_⟩
    refine wRn 2200 [0,3,4,5,6,8,105] fX ?_
    refine rU [(99999, dkB d3)] [(99999, dkB d4)] fX ?_
    refine ⟨_, hn4.full1, rE fX ?_⟩
    refine wF fX ?_
    refine wL ?_
    refine qa4 [0, 3, 4, 5, 6, 8] ?_
    refine hW _ ?_
    ·intro i
     refine wN ?_
     simp only [qcd, qcc, List.append_nil]
     refine wRn 2800 [0,4,5,6,135] fX ?_
     refine rU [(99999, dkB d5)] [(99999, dkB d6)] fX ?_
     refine ⟨_, hn5.full1, rE fX ?_⟩
     refine wF fX ?_
     refine wR0 3700 [4] fX ?_
     refine wE ?_
     refine wN ?_
     exact ⟨by simp, _, _, _, rfl, rfl, .aggL (.cons (.same rfl) (.cons (.same rfl) (.cons (.same rfl) (.cons .nil (.cons .nil (.cons .nil (.cons (.same rfl) (.cons (.same rfl) (.cons (.same rfl) (.cons .nil (.cons .nil (.cons .nil (.cons .nil (.cons (.same rfl) .nil)))))))))))))) rfl, .keep rfl (qaJ _) (.dead rfl (fun h => by cases h) (.dead rfl (fun h => by cases h) (.dead rfl (fun h => by cases h) .nil))), rfl⟩
   ·have fX := (cJ8 @qaz @hkb1 @hkb2 @hkb3 @hkb4 @hkb5 @hsl @hpl)
    refine qbI fn31 (by simp) ?_
    unfold i31
    simp only [argL, mdX]
    refine wR0 0 [0,3,4] fX ?_
    refine wRn 100 [0,3,4,5] fX ?_
    refine rU [(99999, dkB d)] [(99999, dkB d1)] fX ?_
    refine ⟨_, hn1.full1, rN fX ?_⟩
    refine rU [(99999, dkB d1)] [(99999, dkB d2)] fX ?_
    refine ⟨_, hn2.full1, rE fX ?_⟩
    refine wR0 200 [0,3,4,5,6] fX ?_
    refine wR0 300 [0,3,4,5,6,25] fX ?_
    refine wR0 400 [0,3,4,5,6,25,26] fX ?_
    refine wF fX ?_
    refine wR0 1100 [0,3,4,5,6,25,53] fX ?_
    refine wF fX ?_
    refine wR0 1200 [0,3,4,5,6,25,53] fX ?_
    refine wF fX ?_
    refine wR0 1600 [0,3,4,5,6,25,72] fX ?_
    refine wF fX ?_
    refine wR0 2000 [0,3,4,5,6,25,100] fX ?_
    refine wT fX ?_
    refine wRn 2100 [0,3,4,5,6,8] fX ?_
    refine rU [(99999, dkB d2)] [(99999, dkB d3)] fX ?_
    refine ⟨_, hn3.full1, rE fX ?_⟩
    refine wRn 2200 [0,3,4,5,6,8,105] fX ?_
    refine rU [(99999, dkB d3)] [(99999, dkB d4)] fX ?_
    refine ⟨_, hn4.full1, rE fX ?_⟩
    refine wF fX ?_
    refine wL ?_
    refine qa4 [0, 3, 4, 5, 6, 8] ?_
    refine hW _ ?_
    ·intro i
     refine wN ?_
     simp only [qcd, qcc, List.nil_append, List.cons_append]
     refine wRn 2800 [0,4,5,6,135] fX ?_
     refine rU [(99999, dkB d5)] [(99999, dkB d6)] fX ?_
     refine ⟨_, hn5.full1, rE fX ?_⟩
     refine wF fX ?_
     refine wR0 3700 [4] fX ?_
     refine wE ?_
     refine wN ?_
     exact ⟨by simp, _, _, _, rfl, rfl, .aggL (.cons (.same rfl) (.cons (.same rfl) (.cons (.same rfl) (.cons .nil (.cons .nil (.cons .nil (.cons (.same rfl) (.cons (.same rfl) (.cons (.same rfl) (.cons .nil (.cons .nil (.cons (qdA (z :: l) rfl rfl rfl rfl) (.cons .nil (.cons (.same rfl) .nil)))))))))))))) rfl, .keep rfl (qaJ _) (.dead rfl (fun h => by cases h) (.dead rfl (fun h => by cases h) (.dead rfl (fun h => by cases h) (.dead rfl (fun h => by cases h) .nil)))), rfl⟩
  ·obtain ⟨p, d7, hpp, hok7, hn6⟩ := qaS d6 (m.places.length : Int) hok6
   refine ⟨⟨⟨#[]⟩, f, t, [], [], [], 0, 0, 0, [], [], ks, [p], 0⟩, d7, ⟨f, t, ks, [p], rfl, ⟨hf.1, hf.2.2 (by omega)⟩, ⟨ht.1, ht.2.2 (by omega)⟩, by rw [a1]; omega, a2, .inr ⟨p, rfl, hpp.1, hpp.2.2 (by omega)⟩⟩, hok7, ?_⟩
   rcases ks with _ | ⟨z, l⟩
   ·have fX := (cJ8 @qaz @hkb1 @hkb2 @hkb3 @hkb4 @hkb5 @hsl @hpl)
    refine qbI fn31 (by simp) ?_
    unfold i31
    simp only [argL, mdX]
    refine wR0 0 [0,3,4] fX ?_
    refine wRn 100 [0,3,4,5] fX ?_
    refine rU [(99999, dkB d)] [(99999, dkB d1)] fX ?_
    refine ⟨_, hn1.full1, rN fX ?_⟩
    refine rU [(99999, dkB d1)] [(99999, dkB d2)] fX ?_
    refine ⟨_, hn2.full1, rE fX ?_⟩
    refine wR0 200 [0,3,4,5,6] fX ?_
    refine wR0 300 [0,3,4,5,6,25] fX ?_
    refine wR0 400 [0,3,4,5,6,25,26] fX ?_
    refine wF fX ?_
    refine wR0 1100 [0,3,4,5,6,25,53] fX ?_
    refine wF fX ?_
    refine wR0 1200 [0,3,4,5,6,25,53] fX ?_
    refine wF fX ?_
    refine wR0 1600 [0,3,4,5,6,25,72] fX ?_
    refine wF fX ?_
    refine wR0 2000 [0,3,4,5,6,25,100] fX ?_
    refine wT fX ?_
    refine wRn 2100 [0,3,4,5,6,8] fX ?_
    refine rU [(99999, dkB d2)] [(99999, dkB d3)] fX ?_
    refine ⟨_, hn3.full1, rE fX ?_⟩
    refine wRn 2200 [0,3,4,5,6,8,105] fX ?_
    refine rU [(99999, dkB d3)] [(99999, dkB d4)] fX ?_
    refine ⟨_, hn4.full1, rE fX ?_⟩
    refine wF fX ?_
    refine wL ?_
    refine qa4 [0, 3, 4, 5, 6, 8] ?_
    refine hW _ ?_
    ·intro i
     refine wN ?_
     simp only [qcd, qcc, List.append_nil]
     refine wRn 2800 [0,4,5,6,135] fX ?_
     refine rU [(99999, dkB d5)] [(99999, dkB d6)] fX ?_
     refine ⟨_, hn5.full1, rE fX ?_⟩
     refine wT fX ?_
     refine wRn 2900 [4,5] fX ?_
     refine rU [(99999, dkB d6)] [(99999, dkB d7)] fX ?_
     refine ⟨_, hn6.full1, rE fX ?_⟩
     refine wR0 3700 [4] fX ?_
     refine wE ?_
     refine wN ?_
     exact ⟨by simp, _, _, _, rfl, rfl, .aggL (.cons (.same rfl) (.cons (.same rfl) (.cons (.same rfl) (.cons .nil (.cons .nil (.cons .nil (.cons (.same rfl) (.cons (.same rfl) (.cons (.same rfl) (.cons .nil (.cons .nil (.cons .nil (.cons (qcO [p] rfl rfl rfl rfl) (.cons (.same rfl) .nil)))))))))))))) rfl, .keep rfl (qaJ _) (.dead rfl (fun h => by cases h) (.dead rfl (fun h => by cases h) (.dead rfl (fun h => by cases h) (.dead rfl (fun h => by cases h) .nil)))), rfl⟩
   ·have fX := (cJ8 @qaz @hkb1 @hkb2 @hkb3 @hkb4 @hkb5 @hsl @hpl)
    refine qbI fn31 (by simp) ?_
    unfold i31
    simp only [argL, mdX]
    refine wR0 0 [0,3,4] fX ?_
    refine wRn 100 [0,3,4,5] fX ?_
    refine rU [(99999, dkB d)] [(99999, dkB d1)] fX ?_
    refine ⟨_, hn1.full1, rN fX ?_⟩
    refine rU [(99999, dkB d1)] [(99999, dkB d2)] fX ?_
    refine ⟨_, hn2.full1, rE fX ?_⟩
    refine wR0 200 [0,3,4,5,6] fX ?_
    refine wR0 300 [0,3,4,5,6,25] fX ?_
    refine wR0 400 [0,3,4,5,6,25,26] fX ?_
    refine wF fX ?_
    refine wR0 1100 [0,3,4,5,6,25,53] fX ?_
    refine wF fX ?_
    refine wR0 1200 [0,3,4,5,6,25,53] fX ?_
    refine wF fX ?_
    refine wR0 1600 [0,3,4,5,6,25,72] fX ?_
    refine wF fX ?_
    refine wR0 2000 [0,3,4,5,6,25,100] fX ?_
    refine wT fX ?_
    refine wRn 2100 [0,3,4,5,6,8] fX ?_
    refine rU [(99999, dkB d2)] [(99999, dkB d3)] fX ?_
    refine ⟨_, hn3.full1, rE fX ?_⟩
    refine wRn 2200 [0,3,4,5,6,8,105] fX ?_
    refine rU [(99999, dkB d3)] [(99999, dkB d4)] fX ?_
    refine ⟨_, hn4.full1, rE fX ?_⟩
    refine wF fX ?_
    refine wL ?_
    refine qa4 [0, 3, 4, 5, 6, 8] ?_
    refine hW _ ?_
    ·intro i
     refine wN ?_
     simp only [qcd, qcc, List.nil_append, List.cons_append]
     refine wRn 2800 [0,4,5,6,135] fX ?_
     refine rU [(99999, dkB d5)] [(99999, dkB d6)] fX ?_
     refine ⟨_, hn5.full1, rE fX ?_⟩
     refine wT fX ?_
     refine wRn 2900 [4,5] fX ?_
     refine rU [(99999, dkB d6)] [(99999, dkB d7)] fX ?_
     refine ⟨_, hn6.full1, rE fX ?_⟩
     refine wR0 3700 [4] fX ?_
     refine wE ?_
     refine wN ?_
     exact ⟨by simp, _, _, _, rfl, rfl, .aggL (.cons (.same rfl) (.cons (.same rfl) (.cons (.same rfl) (.cons .nil (.cons .nil (.cons .nil (.cons (.same rfl) (.cons (.same rfl) (.cons (.same rfl) (.cons .nil (.cons .nil (.cons (qdA (z :: l) rfl rfl rfl rfl) (.cons (qcO [p] rfl rfl rfl rfl) (.cons (.same rfl) .nil)))))))))))))) rfl, .keep rfl (qaJ _) (.dead rfl (fun h => by cases h) (.dead rfl (fun h => by cases h) (.dead rfl (fun h => by cases h) (.dead rfl (fun h => by cases h) (.dead rfl (fun h => by cases h) .nil))))), rfl⟩
 ·obtain ⟨ks, d5, a1, a2, hok5, hW⟩ := qls m f t  hp ha 2 [] d4 (by simp only [List.length_nil]; omega) hok4
  obtain ⟨b2, d6, hok6, hn5⟩ := qfJ d5 2 hok5
  rcases b2 with _ | _
  ·refine ⟨⟨⟨#[]⟩, f, t, [], [], [], 0, 0, 0, [], [], ks, [], 0⟩, d6, ⟨f, t, ks, [], rfl, ⟨hf.1, hf.2.2 (by omega)⟩, ⟨ht.1, ht.2.2 (by omega)⟩, by rw [a1]; omega, a2, .inl rfl⟩, hok6, ?_⟩
   rcases ks with _ | ⟨z, l⟩
   ·have fX := (cJ8 @qaz @hkb1 @hkb2 @hkb3 @hkb4 @hkb5 @hsl @hpl)
    refine qbI fn31 (by simp) ?_
    unfold i31
    simp only [argL, mdX]
    refine wR0 0 [0,3,4] fX ?_
    refine wRn 100 [0,3,4,5] fX ?_
    refine rU [(99999, dkB d)] [(99999, dkB d1)] fX ?_
    refine ⟨_, hn1.full1, rN fX ?_⟩
    refine rU [(99999, dkB d1)] [(99999, dkB d2)] fX ?_
    refine ⟨_, hn2.full1, rE fX ?_⟩
    refine wR0 200 [0,3,4,5,6] fX ?_
    refine wR0 300 [0,3,4,5,6,25] fX ?_
    refine wR0 400 [0,3,4,5,6,25,26] fX ?_
    refine wF fX ?_
    refine wR0 1100 [0,3,4,5,6,25,53] fX ?_
    refine wF fX ?_
    refine wR0 1200 [0,3,4,5,6,25,53] fX ?_
    refine wF fX ?_
    refine wR0 1600 [0,3,4,5,6,25,72] fX ?_
    refine wF fX ?_
    refine wR0 2000 [0,3,4,5,6,25,100] fX ?_
    refine wT fX ?_
    refine wRn 2100 [0,3,4,5,6,8] fX ?_
    refine rU [(99999, dkB d2)] [(99999, dkB d3)] fX ?_
    refine ⟨_, hn3.full1, rE fX ?_⟩
    refine wRn 2200 [0,3,4,5,6,8,105] fX ?_
    refine rU [(99999, dkB d3)] [(99999, dkB d4)] fX ?_
    refine ⟨_, hn4.full1, rE fX ?_⟩
    refine wT fX ?_
    refine wR0 2300 [0,3,4,5,6,8] fX ?_
    refine wL ?_
    refine qa4 [0, 3, 4, 5, 6, 8] ?_
    refine hW _ ?_
    ·intro i
     refine wN ?_
     simp only [qcd, qcc, List.append_nil]
     refine wRn 2800 [0,4,5,6,135] fX ?_
     refine rU [(99999, dkB d5)] [(99999, dkB d6)] fX ?_
     refine ⟨_, hn5.full1, rE fX ?_⟩
     refine wF fX ?_
     refine wR0 3700 [4] fX ?_
     refine wE ?_
     refine wN ?_
     exact ⟨by simp, _, _, _, rfl, rfl, .aggL (.cons (.same rfl) (.cons (.same rfl) (.cons (.same rfl) (.cons .nil (.cons .nil (.cons .nil (.cons (.same rfl) (.cons (.same rfl) (.cons (.same rfl) (.cons .nil (.cons .nil (.cons .nil (.cons .nil (.cons (.same rfl) .nil)))))))))))))) rfl, .keep rfl (qaJ _) (.dead rfl (fun h => by cases h) (.dead rfl (fun h => by cases h) (.dead rfl (fun h => by cases h) .nil))), rfl⟩
   ·have fX := (cJ8 @qaz @hkb1 @hkb2 @hkb3 @hkb4 @hkb5 @hsl @hpl)
    refine qbI fn31 (by simp) ?_
    unfold i31
    simp only [argL, mdX]
    refine wR0 0 [0,3,4] fX ?_
    refine wRn 100 [0,3,4,5] fX ?_
    refine rU [(99999, dkB d)] [(99999, dkB d1)] fX ?_
    refine ⟨_, hn1.full1, rN fX ?_⟩
    refine rU [(99999, dkB d1)] [(99999, dkB d2)] fX ?_
    refine ⟨_, hn2.full1, rE fX ?_⟩
    refine wR0 200 [0,3,4,5,6] fX ?_
    refine wR0 300 [0,3,4,5,6,25] fX ?_
    refine wR0 400 [0,3,4,5,6,25,26] fX ?_
    refine wF fX ?_
    refine wR0 1100 [0,3,4,5,6,25,53] fX ?_
    refine wF fX ?_
    refine wR0 1200 [0,3,4,5,6,25,53] fX ?_
    refine wF fX ?_
    refine wR0 1600 [0,3,4,5,6,25,72] fX ?_
    refine wF fX ?_
    refine wR0 2000 [0,3,4,5,6,25,100] fX ?_
    refine wT fX ?_
    refine wRn 2100 [0,3,4,5,6,8] fX ?_
    refine rU [(99999, dkB d2)] [(99999, dkB d3)] fX ?_
    refine ⟨_, hn3.full1, rE fX ?_⟩
    refine wRn 2200 [0,3,4,5,6,8,105] fX ?_
    refine rU [(99999, dkB d3)] [(99999, dkB d4)] fX ?_
    refine ⟨_, hn4.full1, rE fX ?_⟩
    refine wT fX ?_
    refine wR0 2300 [0,3,4,5,6,8] fX ?_
    refine wL ?_
    refine qa4 [0, 3, 4, 5, 6, 8] ?_
    refine hW _ ?_
    ·intro i
     refine wN ?_
     simp only [qcd, qcc, List.nil_append, List.cons_append]
     refine wRn 2800 [0,4,5,6,135] fX ?_
     refine rU [(99999, dkB d5)] [(99999, dkB d6)] fX ?_
     refine ⟨_, hn5.full1, rE fX ?_⟩
     refine wF fX ?_
     refine wR0 3700 [4] fX ?_
     refine wE ?_
     refine wN ?_
     exact ⟨by simp, _, _, _, rfl, rfl, .aggL (.cons (.same rfl) (.cons (.same rfl) (.cons (.same rfl) (.cons .nil (.cons .nil (.cons .nil (.cons (.same rfl) (.cons (.same rfl) (.cons (.same rfl) (.cons .nil (.cons .nil (.cons (qdA (z :: l) rfl rfl rfl rfl) (.cons .nil (.cons (.same rfl) .nil)))))))))))))) rfl, .keep rfl (qaJ _) (.dead rfl (fun h => by cases h) (.dead rfl (fun h => by cases h) (.dead rfl (fun h => by cases h) (.dead rfl (fun h => by cases h) .nil)))), rfl⟩
  ·obtain ⟨p, d7, hpp, hok7, hn6⟩ := qaS d6 (m.places.length : Int) hok6
   refine ⟨⟨⟨#[]⟩, f, t, [], [], [], 0, 0, 0, [], [], ks, [p], 0⟩, d7, ⟨f, t, ks, [p], rfl, ⟨hf.1, hf.2.2 (by omega)⟩, ⟨ht.1, ht.2.2 (by omega)⟩, by rw [a1]; omega, a2, .inr ⟨p, rfl, hpp.1, hpp.2.2 (by omega)⟩⟩, hok7, ?_⟩
   rcases ks with _ | ⟨z, l⟩
   ·have fX := (cJ8 @qaz @hkb1 @hkb2 @hkb3 @hkb4 @hkb5 @hsl @hpl)
    refine qbI fn31 (by simp) ?_
    unfold i31
    simp only [argL, mdX]
    refine wR0 0 [0,3,4] fX ?_
    refine wRn 100 [0,3,4,5] fX ?_
    refine rU [(99999, dkB d)] [(99999, dkB d1)] fX ?_
    refine ⟨_, hn1.full1, rN fX ?_⟩
    refine rU [(99999, dkB d1)] [(99999, dkB d2)] fX ?_
    refine ⟨_, hn2.full1, rE fX ?_⟩
    refine wR0 200 [0,3,4,5,6] fX ?_
    refine wR0 300 [0,3,4,5,6,25] fX ?_
    refine wR0 400 [0,3,4,5,6,25,26] fX ?_
    refine wF fX ?_
    refine wR0 1100 [0,3,4,5,6,25,53] fX ?_
    refine wF fX ?_
    refine wR0 1200 [0,3,4,5,6,25,53] fX ?_
    refine wF fX ?_
    refine wR0 1600 [0,3,4,5,6,25,72] fX ?_
    refine wF fX ?_
    refine wR0 2000 [0,3,4,5,6,25,100] fX ?_
    refine wT fX ?_
    refine wRn 2100 [0,3,4,5,6,8] fX ?_
    refine rU [(99999, dkB d2)] [(99999, dkB d3)] fX ?_
    refine ⟨_, hn3.full1, rE fX ?_⟩
    refine wRn 2200 [0,3,4,5,6,8,105] fX ?_
    refine rU [(99999, dkB d3)] [(99999, dkB d4)] fX ?_
    refine ⟨_, hn4.full1, rE fX ?_⟩
    refine wT fX ?_
    refine wR0 2300 [0,3,4,5,6,8] fX ?_
    refine wL ?_
    refine qa4 [0, 3, 4, 5, 6, 8] ?_
    refine hW _ ?_
    ·intro i
     refine wN ?_
     simp only [qcd, qcc, List.append_nil]
     refine wRn 2800 [0,4,5,6,135] fX ?_
     refine rU [(99999, dkB d5)] [(99999, dkB d6)] fX ?_
     refine ⟨_, hn5.full1, rE fX ?_⟩
     refine wT fX ?_
     refine wRn 2900 [4,5] fX ?_
     refine rU [(99999, dkB d6)] [(99999, dkB d7)] fX ?_
     refine ⟨_, hn6.full1, rE fX ?_⟩
     refine wR0 3700 [4] fX ?_
     refine wE ?_
     refine wN ?_
     exact ⟨by simp, _, _, _, rfl, rfl, .aggL (.cons (.same rfl) (.cons (.same rfl) (.cons (.same rfl) (.cons .nil (.cons .nil (.cons .nil (.cons (.same rfl) (.cons (.same rfl) (.cons (.same rfl) (.cons .nil (.cons .nil (.cons .nil (.cons (qcO [p] rfl rfl rfl rfl) (.cons (.same rfl) .nil)))))))))))))) rfl, .keep rfl (qaJ _) (.dead rfl (fun h => by cases h) (.dead rfl (fun h => by cases h) (.dead rfl (fun h => by cases h) (.dead rfl (fun h => by cases h) .nil)))), rfl⟩
   ·have fX := (cJ8 @qaz @hkb1 @hkb2 @hkb3 @hkb4 @hkb5 @hsl @hpl)
    refine qbI fn31 (by simp) ?_
    unfold i31
    simp only [argL, mdX]
    refine wR0 0 [0,3,4] fX ?_
    refine wRn 100 [0,3,4,5] fX ?_
    refine rU [(99999, dkB d)] [(99999, dkB d1)] fX ?_
    refine ⟨_, hn1.full1, rN fX ?_⟩
    refine rU [(99999, dkB d1)] [(99999, dkB d2)] fX ?_
    refine ⟨_, hn2.full1, rE fX ?_⟩
    refine wR0 200 [0,3,4,5,6] fX ?_
    refine wR0 300 [0,3,4,5,6,25] fX ?_
    refine wR0 400 [0,3,4,5,6,25,26] fX ?_
    refine wF fX ?_
    refine wR0 1100 [0,3,4,5,6,25,53] fX ?_
    refine wF fX ?_
    refine wR0 1200 [0,3,4,5,6,25,53] fX ?_
    refine wF fX ?_
    refine wR0 1600 [0,3,4,5,6,25,72] fX ?_
    refine wF fX ?_
    refine wR0 2000 [0,3,4,5,6,25,100] fX ?_
    refine wT fX ?_
    refine wRn 2100 [0,3,4,5,6,8] fX ?_
    refine rU [(99999, dkB d2)] [(99999, dkB d3)] fX ?_
    refine ⟨_, hn3.full1, rE fX ?_⟩
    refine wRn 2200 [0,3,4,5,6,8,105] fX ?_
    refine rU [(99999, dkB d3)] [(99999, dkB d4)] fX ?_
    refine ⟨_, hn4.full1, rE fX ?_⟩
    refine wT fX ?_
    refine wR0 2300 [0,3,4,5,6,8] fX ?_
    refine wL ?_
    refine qa4 [0, 3, 4, 5, 6, 8] ?_
    refine hW _ ?_
    ·intro i
     refine wN ?_
     simp only [qcd, qcc, List.nil_append, List.cons_append]
     refine wRn 2800 [0,4,5,6,135] fX ?_
     refine rU [(99999, dkB d5)] [(99999, dkB d6)] fX ?_
     refine ⟨_, hn5.full1, rE fX ?_⟩
     refine wT fX ?_
     refine wRn 2900 [4,5] fX ?_
     refine rU [(99999, dkB d6)] [(99999, dkB d7)] fX ?_
     refine ⟨_, hn6.full1, rE fX ?_⟩
     refine wR0 3700 [4] fX ?_
     refine wE ?_
     refine wN ?_
     exact ⟨by simp, _, _, _, rfl, rfl, .aggL (.cons (.same rfl) (.cons (.same rfl) (.cons (.same rfl) (.cons .nil (.cons .nil (.cons .nil (.cons (.same rfl) (.cons (.same rfl) (.cons (.same rfl) (.cons .nil (.cons .nil (.cons (qdA (z :: l) rfl rfl rfl rfl) (.cons (qcO [p] rfl rfl rfl rfl) (.cons (.same rfl) .nil)))))))))))))) rfl, .keep rfl (qaJ _) (.dead rfl (fun h => by cases h) (.dead rfl (fun h => by cases h) (.dead rfl (fun h => by cases h) (.dead rfl (fun h => by cases h) (.dead rfl (fun h => by cases h) .nil))))), rfl⟩
set_option maxHeartbeats 4000000 in
theorem rule5b (m : Md) (q : Rl) (rs : List Rl) (d : Dk) (hd : d.ok) (hk : m.kind = 5) (hs : 1 ≤ m.states.length ∧ m.states.length ≤ 1000) (hp : 1 ≤ m.places.length ∧ m.places.length ≤ 1000) (ha : 0 ≤ m.age ∧ m.age ≤ 1000) :
 ∃ (r : Rl) (d' : Dk), qmU m r ∧ d'.ok ∧ TC Tryz.prog 31 [dkR, .agg (mdX m (.sl 2604 ((rs.length + 1) * 14) 14 0 (rs.length + 1)))] (hpL [(99999, dkB d), (2604, sW (q :: rs))]) (qbs r) (hpL [(99999, dkB d'), (2604, sW (q :: rs))]) := by
 obtain ⟨f, d1, hf, hok1, hn1⟩ := qaS d (m.states.length : Int) hd
 obtain ⟨t, d2, ht, hok2, hn2⟩ := qaS d1 (m.states.length : Int) hok1
 obtain ⟨k0, d3, hk0, hok3, hn3⟩ := qaS d2 2 hok2
 have hk02 := hk0.2.2 (by omega)
 obtain ⟨k, rfl⟩ := Int.eq_ofNat_of_zero_le hk0.1
 obtain ⟨b, d4, hok4, hn4⟩ := qfJ d3 8 hok3
 have hkb1 : (m.kind == 1) = false := by simp [hk]
 have hkb2 : (m.kind == 2) = false := by simp [hk]
 have hkb3 : (m.kind == 3) = false := by simp [hk]
 have hkb4 : (m.kind == 4) = false := by simp [hk]
 have hkb5 : (m.kind == 5) = true := by simp [hk]
 have hsl := qad m.states
 have hpl := qad m.places
 rcases b with _ | _
 ·obtain ⟨ks, d5, a1, a2, hok5, hW⟩ := qlV m f t q rs hp ha k [] d4 (by simp only [List.length_nil]; omega) hok4
  obtain ⟨b2, d6, hok6, hn5⟩ := qfJ d5 2 hok5
  rcases b2 with _ | _
  ·refine ⟨⟨⟨#[]⟩, f, t, [], [], [], 0, 0, 0, [], [], ks, [], 0⟩, d6, ⟨f, t, ks, [], rfl, ⟨hf.1, hf.2.2 (by omega)⟩, ⟨ht.1, ht.2.2 (by omega)⟩, by rw [a1]; omega, a2, .inl rfl⟩, hok6, ?_⟩
   rcases ks with _ | ⟨z, l⟩
   ·have fX := (cJ8 @qaz @hkb1 @hkb2 @hkb3 @hkb4 @hkb5 @hsl @hpl)
    refine qd1 fn31 (by simp) ?_
    unfold i31
    simp only [argL, mdX]
    refine wR0 0 [0,3,4] fX ?_
    refine wRn 100 [0,3,4,5] fX ?_
    refine rU [(99999, dkB d)] [(99999, dkB d1)] fX ?_
    refine ⟨_, hn1.full1, rN fX ?_⟩
    refine rU [(99999, dkB d1)] [(99999, dkB d2)] fX ?_
    refine ⟨_, hn2.full1, rE fX ?_⟩
    refine wR0 200 [0,3,4,5,6] fX ?_
    refine wR0 300 [0,3,4,5,6,25] fX ?_
    refine wR0 400 [0,3,4,5,6,25,26] fX ?_
    refine wF fX ?_
    refine wR0 1100 [0,3,4,5,6,25,53] fX ?_
    refine wF fX ?_
    refine wR0 1200 [0,3,4,5,6,25,53] fX ?_
    refine wF fX ?_
    refine wR0 1600 [0,3,4,5,6,25,72] fX ?_
    refine wF fX ?_
    refine wR0 2000 [0,3,4,5,6,25,100] fX ?_
    refine wT fX ?_
    refine wRn 2100 [0,3,4,5,6,8] fX ?_
    refine rU [(99999, dkB d2)] [(99999, dkB d3)] fX ?_
    refine ⟨_, hn3.full1, rE fX ?_⟩
    refine wRn 2200 [0,3,4,5,6,8,105] fX ?_
    refine rU [(99999, dkB d3)] [(99999, dkB d4)] fX ?_
    refine ⟨_, hn4.full1, rE fX ?_⟩
    refine wF fX ?_
    refine wL ?_
    refine qa4 [0, 3, 4, 5, 6, 8] ?_
    refine hW _ ?_
    ·intro i
     refine wN ?_
     simp only [qcd, qcc, List.append_nil]
     refine wRn 2800 [0,4,5,6,135] fX ?_
     refine rU [(99999, dkB d5)] [(99999, dkB d6)] fX ?_
     refine ⟨_, hn5.full1, rE fX ?_⟩
     refine wF fX ?_
     refine wR0 3700 [4] fX ?_
     refine wE ?_
     refine wN ?_
     exact ⟨by simp, _, _, _, rfl, rfl, .aggL (.cons (.same rfl) (.cons (.same rfl) (.cons (.same rfl) (.cons .nil (.cons .nil (.cons .nil (.cons (.same rfl) (.cons (.same rfl) (.cons (.same rfl) (.cons .nil (.cons .nil (.cons .nil (.cons .nil (.cons (.same rfl) .nil)))))))))))))) rfl, .keep rfl (qaJ _) (.keep rfl (qkv _) (.dead rfl (fun h => by cases h) (.dead rfl (fun h => by cases h) (.dead rfl (fun h => by cases h) .nil)))), rfl⟩
   ·have fX := (cJ8 @qaz @hkb1 @hkb2 @hkb3 @hkb4 @hkb5 @hsl @hpl)
    refine qd1 fn31 (by simp) ?_
    unfold i31
    simp only [argL, mdX]
    refine wR0 0 [0,3,4] fX ?_
    refine wRn 100 [0,3,4,5] fX ?_
    refine rU [(99999, dkB d)] [(99999, dkB d1)] fX ?_
    refine ⟨_, hn1.full1, rN fX ?_⟩
    refine rU [(99999, dkB d1)] [(99999, dkB d2)] fX ?_
    refine ⟨_, hn2.full1, rE fX ?_⟩
    refine wR0 200 [0,3,4,5,6] fX ?_
    refine wR0 300 [0,3,4,5,6,25] fX ?_
    refine wR0 400 [0,3,4,5,6,25,26] fX ?_
    refine wF fX ?_
    refine wR0 1100 [0,3,4,5,6,25,53] fX ?_
    refine wF fX ?_
    refine wR0 1200 [0,3,4,5,6,25,53] fX ?_
    refine wF fX ?_
    refine wR0 1600 [0,3,4,5,6,25,72] fX ?_
    refine wF fX ?_
    refine wR0 2000 [0,3,4,5,6,25,100] fX ?_
    refine wT fX ?_
    refine wRn 2100 [0,3,4,5,6,8] fX ?_
    refine rU [(99999, dkB d2)] [(99999, dkB d3)] fX ?_
    refine ⟨_, hn3.full1, rE fX ?_⟩
    refine wRn 2200 [0,3,4,5,6,8,105] fX ?_
    refine rU [(99999, dkB d3)] [(99999, dkB d4)] fX ?_
    refine ⟨_, hn4.full1, rE fX ?_⟩
    refine wF fX ?_
    refine wL ?_
    refine qa4 [0, 3, 4, 5, 6, 8] ?_
    refine hW _ ?_
    ·intro i
     refine wN ?_
     simp only [qcd, qcc, List.nil_append, List.cons_append]
     refine wRn 2800 [0,4,5,6,135] fX ?_
     refine rU [(99999, dkB d5)] [(99999, dkB d6)] fX ?_
     refine ⟨_, hn5.full1, rE fX ?_⟩
     refine wF fX ?_
     refine wR0 3700 [4] fX ?_
     refine wE ?_
     refine wN ?_
     exact ⟨by simp, _, _, _, rfl, rfl, .aggL (.cons (.same rfl) (.cons (.same rfl) (.cons (.same rfl) (.cons .nil (.cons .nil (.cons .nil (.cons (.same rfl) (.cons (.same rfl) (.cons (.same rfl) (.cons .nil (.cons .nil (.cons (qdA (z :: l) rfl rfl rfl rfl) (.cons .nil (.cons (.same rfl) .nil)))))))))))))) rfl, .keep rfl (qaJ _) (.keep rfl (qkv _) (.dead rfl (fun h => by cases h) (.dead rfl (fun h => by cases h) (.dead rfl (fun h => by cases h) (.dead rfl (fun h => by cases h) .nil))))), rfl⟩
  ·obtain ⟨p, d7, hpp, hok7, hn6⟩ := qaS d6 (m.places.length : Int) hok6
   refine ⟨⟨⟨#[]⟩, f, t, [], [], [], 0, 0, 0, [], [], ks, [p], 0⟩, d7, ⟨f, t, ks, [p], rfl, ⟨hf.1, hf.2.2 (by omega)⟩, ⟨ht.1, ht.2.2 (by omega)⟩, by rw [a1]; omega, a2, .inr ⟨p, rfl, hpp.1, hpp.2.2 (by omega)⟩⟩, hok7, ?_⟩
   rcases ks with _ | ⟨z, l⟩
   ·have fX := (cJ8 @qaz @hkb1 @hkb2 @hkb3 @hkb4 @hkb5 @hsl @hpl)
    refine qd1 fn31 (by simp) ?_
    unfold i31
    simp only [argL, mdX]
    refine wR0 0 [0,3,4] fX ?_
    refine wRn 100 [0,3,4,5] fX ?_
    refine rU [(99999, dkB d)] [(99999, dkB d1)] fX ?_
    refine ⟨_, hn1.full1, rN fX ?_⟩
    refine rU [(99999, dkB d1)] [(99999, dkB d2)] fX ?_
    refine ⟨_, hn2.full1, rE fX ?_⟩
    refine wR0 200 [0,3,4,5,6] fX ?_
    refine wR0 300 [0,3,4,5,6,25] fX ?_
    refine wR0 400 [0,3,4,5,6,25,26] fX ?_
    refine wF fX ?_
    refine wR0 1100 [0,3,4,5,6,25,53] fX ?_
    refine wF fX ?_
    refine wR0 1200 [0,3,4,5,6,25,53] fX ?_
    refine wF fX ?_
    refine wR0 1600 [0,3,4,5,6,25,72] fX ?_
    refine wF fX ?_
    refine wR0 2000 [0,3,4,5,6,25,100] fX ?_
    refine wT fX ?_
    refine wRn 2100 [0,3,4,5,6,8] fX ?_
    refine rU [(99999, dkB d2)] [(99999, dkB d3)] fX ?_
    refine ⟨_, hn3.full1, rE fX ?_⟩
    refine wRn 2200 [0,3,4,5,6,8,105] fX ?_
    refine rU [(99999, dkB d3)] [(99999, dkB d4)] fX ?_
    refine ⟨_, hn4.full1, rE fX ?_⟩
    refine wF fX ?_
    refine wL ?_
    refine qa4 [0, 3, 4, 5, 6, 8] ?_
    refine hW _ ?_
    ·intro i
     refine wN ?_
     simp only [qcd, qcc, List.append_nil]
     refine wRn 2800 [0,4,5,6,135] fX ?_
     refine rU [(99999, dkB d5)] [(99999, dkB d6)] fX ?_
     refine ⟨_, hn5.full1, rE fX ?_⟩
     refine wT fX ?_
     refine wRn 2900 [4,5] fX ?_
     refine rU [(99999, dkB d6)] [(99999, dkB d7)] fX ?_
     refine ⟨_, hn6.full1, rE fX ?_⟩
     refine wR0 3700 [4] fX ?_
     refine wE ?_
     refine wN ?_
     exact ⟨by simp, _, _, _, rfl, rfl, .aggL (.cons (.same rfl) (.cons (.same rfl) (.cons (.same rfl) (.cons .nil (.cons .nil (.cons .nil (.cons (.same rfl) (.cons (.same rfl) (.cons (.same rfl) (.cons .nil (.cons .nil (.cons .nil (.cons (qcO [p] rfl rfl rfl rfl) (.cons (.same rfl) .nil)))))))))))))) rfl, .keep rfl (qaJ _) (.keep rfl (qkv _) (.dead rfl (fun h => by cases h) (.dead rfl (fun h => by cases h) (.dead rfl (fun h => by cases h) (.dead rfl (fun h => by cases h) .nil))))), rfl⟩
   ·have fX := (cJ8 @qaz @hkb1 @hkb2 @hkb3 @hkb4 @hkb5 @hsl @hpl)
    refine qd1 fn31 (by simp) ?_
    unfold i31
    simp only [argL, mdX]
    refine wR0 0 [0,3,4] fX ?_
    refine wRn 100 [0,3,4,5] fX ?_
    refine rU [(99999, dkB d)] [(99999, dkB d1)] fX ?_
    refine ⟨_, hn1.full1, rN fX ?_⟩
    refine rU [(99999, dkB d1)] [(99999, dkB d2)] fX ?_
    refine ⟨_, hn2.full1, rE fX ?_⟩
    refine wR0 200 [0,3,4,5,6] fX ?_
    refine wR0 300 [0,3,4,5,6,25] fX ?_
    refine wR0 400 [0,3,4,5,6,25,26] fX ?_
    refine wF fX ?_
    refine wR0 1100 [0,3,4,5,6,25,53] fX ?_
    refine wF fX ?_
    refine wR0 1200 [0,3,4,5,6,25,53] fX ?_
    refine wF fX ?_
    refine wR0 1600 [0,3,4,5,6,25,72] fX ?_
    refine wF fX ?_
    refine wR0 2000 [0,3,4,5,6,25,100] fX ?_
    refine wT fX ?_
    refine wRn 2100 [0,3,4,5,6,8] fX ?_
    refine rU [(99999, dkB d2)] [(99999, dkB d3)] fX ?_
    refine ⟨_, hn3.full1, rE fX ?_⟩
    refine wRn 2200 [0,3,4,5,6,8,105] fX ?_
    refine rU [(99999, dkB d3)] [(99999, dkB d4)] fX ?_
    refine ⟨_, hn4.full1, rE fX ?_⟩
    refine wF fX ?_
    refine wL ?_
    refine qa4 [0, 3, 4, 5, 6, 8] ?_
    refine hW _ ?_
    ·intro i
     refine wN ?_
     simp only [qcd, qcc, List.nil_append, List.cons_append]
     refine wRn 2800 [0,4,5,6,135] fX ?_
     refine rU [(99999, dkB d5)] [(99999, dkB d6)] fX ?_
     refine ⟨_, hn5.full1, rE fX ?_⟩
     refine wT fX ?_
     refine wRn 2900 [4,5] fX ?_
     refine rU [(99999, dkB d6)] [(99999, dkB d7)] fX ?_
     refine ⟨_, hn6.full1, rE fX ?_⟩
     refine wR0 3700 [4] fX ?_
     refine wE ?_
     refine wN ?_
     exact ⟨by simp, _, _, _, rfl, rfl, .aggL (.cons (.same rfl) (.cons (.same rfl) (.cons (.same rfl) (.cons .nil (.cons .nil (.cons .nil (.cons (.same rfl) (.cons (.same rfl) (.cons (.same rfl) (.cons .nil (.cons .nil (.cons (qdA (z :: l) rfl rfl rfl rfl) (.cons (qcO [p] rfl rfl rfl rfl) (.cons (.same rfl) .nil)))))))))))))) rfl, .keep rfl (qaJ _) (.keep rfl (qkv _) (.dead rfl (fun h => by cases h) (.dead rfl (fun h => by cases h) (.dead rfl (fun h => by cases h) (.dead rfl (fun h => by cases h) (.dead rfl (fun h => by cases h) .nil)))))), rfl⟩
 ·obtain ⟨ks, d5, a1, a2, hok5, hW⟩ := qlV m f t q rs hp ha 2 [] d4 (by simp only [List.length_nil]; omega) hok4
  obtain ⟨b2, d6, hok6, hn5⟩ := qfJ d5 2 hok5
  rcases b2 with _ | _
  ·refine ⟨⟨⟨#[]⟩, f, t, [], [], [], 0, 0, 0, [], [], ks, [], 0⟩, d6, ⟨f, t, ks, [], rfl, ⟨hf.1, hf.2.2 (by omega)⟩, ⟨ht.1, ht.2.2 (by omega)⟩, by rw [a1]; omega, a2, .inl rfl⟩, hok6, ?_⟩
   rcases ks with _ | ⟨z, l⟩
   ·have fX := (cJ8 @qaz @hkb1 @hkb2 @hkb3 @hkb4 @hkb5 @hsl @hpl)
    refine qd1 fn31 (by simp) ?_
    unfold i31
    simp only [argL, mdX]
    refine wR0 0 [0,3,4] fX ?_
    refine wRn 100 [0,3,4,5] fX ?_
    refine rU [(99999, dkB d)] [(99999, dkB d1)] fX ?_
    refine ⟨_, hn1.full1, rN fX ?_⟩
    refine rU [(99999, dkB d1)] [(99999, dkB d2)] fX ?_
    refine ⟨_, hn2.full1, rE fX ?_⟩
    refine wR0 200 [0,3,4,5,6] fX ?_
    refine wR0 300 [0,3,4,5,6,25] fX ?_
    refine wR0 400 [0,3,4,5,6,25,26] fX ?_
    refine wF fX ?_
    refine wR0 1100 [0,3,4,5,6,25,53] fX ?_
    refine wF fX ?_
    refine wR0 1200 [0,3,4,5,6,25,53] fX ?_
    refine wF fX ?_
    refine wR0 1600 [0,3,4,5,6,25,72] fX ?_
    refine wF fX ?_
    refine wR0 2000 [0,3,4,5,6,25,100] fX ?_
    refine wT fX ?_
    refine wRn 2100 [0,3,4,5,6,8] fX ?_
    refine rU [(99999, dkB d2)] [(99999, dkB d3)] fX ?_
    refine ⟨_, hn3.full1, rE fX ?_⟩
    refine wRn 2200 [0,3,4,5,6,8,105] fX ?_
    refine rU [(99999, dkB d3)] [(99999, dkB d4)] fX ?_
    refine ⟨_, hn4.full1, rE fX ?_⟩
    refine wT fX ?_
    refine wR0 2300 [0,3,4,5,6,8] fX ?_
    refine wL ?_
    refine qa4 [0, 3, 4, 5, 6, 8] ?_
    refine hW _ ?_
    ·intro i
     refine wN ?_
     simp only [qcd, qcc, List.append_nil]
     refine wRn 2800 [0,4,5,6,135] fX ?_
     refine rU [(99999, dkB d5)] [(99999, dkB d6)] fX ?_
     refine ⟨_, hn5.full1, rE fX ?_⟩
     refine wF fX ?_
     refine wR0 3700 [4] fX ?_
     refine wE ?_
     refine wN ?_
     exact ⟨by simp, _, _, _, rfl, rfl, .aggL (.cons (.same rfl) (.cons (.same rfl) (.cons (.same rfl) (.cons .nil (.cons .nil (.cons .nil (.cons (.same rfl) (.cons (.same rfl) (.cons (.same rfl) (.cons .nil (.cons .nil (.cons .nil (.cons .nil (.cons (.same rfl) .nil)))))))))))))) rfl, .keep rfl (qaJ _) (.keep rfl (qkv _) (.dead rfl (fun h => by cases h) (.dead rfl (fun h => by cases h) (.dead rfl (fun h => by cases h) .nil)))), rfl⟩
   ·have fX := (cJ8 @qaz @hkb1 @hkb2 @hkb3 @hkb4 @hkb5 @hsl @hpl)
    refine qd1 fn31 (by simp) ?_
    unfold i31
    simp only [argL, mdX]
    refine wR0 0 [0,3,4] fX ?_
    refine wRn 100 [0,3,4,5] fX ?_
    refine rU [(99999, dkB d)] [(99999, dkB d1)] fX ?_
    refine ⟨_, hn1.full1, rN fX ?_⟩
    refine rU [(99999, dkB d1)] [(99999, dkB d2)] fX ?_
    refine ⟨_, hn2.full1, rE fX ?_⟩
    refine wR0 200 [0,3,4,5,6] fX ?_
    refine wR0 300 [0,3,4,5,6,25] fX ?_
    refine wR0 400 [0,3,4,5,6,25,26] fX ?_
    refine wF fX ?_
    refine wR0 1100 [0,3,4,5,6,25,53] fX ?_
    refine wF fX ?_
    refine wR0 1200 [0,3,4,5,6,25,53] fX ?_
    refine wF fX ?_
    refine wR0 1600 [0,3,4,5,6,25,72] fX ?_
    refine wF fX ?_
    refine wR0 2000 [0,3,4,5,6,25,100] fX ?_
    refine wT fX ?_
    refine wRn 2100 [0,3,4,5,6,8] fX ?_
    refine rU [(99999, dkB d2)] [(99999, dkB d3)] fX ?_
    refine ⟨_, hn3.full1, rE fX ?_⟩
    refine wRn 2200 [0,3,4,5,6,8,105] fX ?_
    refine rU [(99999, dkB d3)] [(99999, dkB d4)] fX ?_
    refine ⟨_, hn4.full1, rE fX ?_⟩
    refine wT fX ?_
    refine wR0 2300 [0,3,4,5,6,8] fX ?_
    refine wL ?_
    refine qa4 [0, 3, 4, 5, 6, 8] ?_
    refine hW _ ?_
    ·intro i
     refine wN ?_
     simp only [qcd, qcc, List.nil_append, List.cons_append]
     refine wRn 2800 [0,4,5,6,135] fX ?_
     refine rU [(99999, dkB d5)] [(99999, dkB d6)] fX ?_
     refine ⟨_, hn5.full1, rE fX ?_⟩
     refine wF fX ?_
     refine wR0 3700 [4] fX ?_
     refine wE ?_
     refine wN ?_
     exact ⟨by simp, _, _, _, rfl, rfl, .aggL (.cons (.same rfl) (.cons (.same rfl) (.cons (.same rfl) (.cons .nil (.cons .nil (.cons .nil (.cons (.same rfl) (.cons (.same rfl) (.cons (.same rfl) (.cons .nil (.cons .nil (.cons (qdA (z :: l) rfl rfl rfl rfl) (.cons .nil (.cons (.same rfl) .nil)))))))))))))) rfl, .keep rfl (qaJ _) (.keep rfl (qkv _) (.dead rfl (fun h => by cases h) (.dead rfl (fun h => by cases h) (.dead rfl (fun h => by cases h) (.dead rfl (fun h => by cases h) .nil))))), rfl⟩
  ·obtain ⟨p, d7, hpp, hok7, hn6⟩ := qaS d6 (m.places.length : Int) hok6
   refine ⟨⟨⟨#[]⟩, f, t, [], [], [], 0, 0, 0, [], [], ks, [p], 0⟩, d7, ⟨f, t, ks, [p], rfl, ⟨hf.1, hf.2.2 (by omega)⟩, ⟨ht.1, ht.2.2 (by omega)⟩, by rw [a1]; omega, a2, .inr ⟨p, rfl, hpp.1, hpp.2.2 (by omega)⟩⟩, hok7, ?_⟩
   rcases ks with _ | ⟨z, l⟩
   ·have fX := (cJ8 @qaz @hkb1 @hkb2 @hkb3 @hkb4 @hkb5 @hsl @hpl)
    refine qd1 fn31 (by simp) ?_
    unfold i31
    simp only [argL, mdX]
    refine wR0 0 [0,3,4] fX ?_
    refine wRn 100 [0,3,4,5] fX ?_
    refine rU [(99999, dkB d)] [(99999, dkB d1)] fX ?_
    refine ⟨_, hn1.full1, rN fX ?_⟩
    refine rU [(99999, dkB d1)] [(99999, dkB d2)] fX ?_
    refine ⟨_, hn2.full1, rE fX ?_⟩
    refine wR0 200 [0,3,4,5,6] fX ?_
    refine wR0 300 [0,3,4,5,6,25] fX ?_
    refine wR0 400 [0,3,4,5,6,25,26] fX ?_
    refine wF fX ?_
    refine wR0 1100 [0,3,4,5,6,25,53] fX ?_
    refine wF fX ?_
    refine wR0 1200 [0,3,4,5,6,25,53] fX ?_
    refine wF fX ?_
    refine wR0 1600 [0,3,4,5,6,25,72] fX ?_
    refine wF fX ?_
    refine wR0 2000 [0,3,4,5,6,25,100] fX ?_
    refine wT fX ?_
    refine wRn 2100 [0,3,4,5,6,8] fX ?_
    refine rU [(99999, dkB d2)] [(99999, dkB d3)] fX ?_
    refine ⟨_, hn3.full1, rE fX ?_⟩
    refine wRn 2200 [0,3,4,5,6,8,105] fX ?_
    refine rU [(99999, dkB d3)] [(99999, dkB d4)] fX ?_
    refine ⟨_, hn4.full1, rE fX ?_⟩
    refine wT fX ?_
    refine wR0 2300 [0,3,4,5,6,8] fX ?_
    refine wL ?_
    refine qa4 [0, 3, 4, 5, 6, 8] ?_
    refine hW _ ?_
    ·intro i
     refine wN ?_
     simp only [qcd, qcc, List.append_nil]
     refine wRn 2800 [0,4,5,6,135] fX ?_
     refine rU [(99999, dkB d5)] [(99999, dkB d6)] fX ?_
     refine ⟨_, hn5.full1, rE fX ?_⟩
     refine wT fX ?_
     refine wRn 2900 [4,5] fX ?_
     refine rU [(99999, dkB d6)] [(99999, dkB d7)] fX ?_
     refine ⟨_, hn6.full1, rE fX ?_⟩
     refine wR0 3700 [4] fX ?_
     refine wE ?_
     refine wN ?_
     exact ⟨by simp, _, _, _, rfl, rfl, .aggL (.cons (.same rfl) (.cons (.same rfl) (.cons (.same rfl) (.cons .nil (.cons .nil (.cons .nil (.cons (.same rfl) (.cons (.same rfl) (.cons (.same rfl) (.cons .nil (.cons .nil (.cons .nil (.cons (qcO [p] rfl rfl rfl rfl) (.cons (.same rfl) .nil)))))))))))))) rfl, .keep rfl (qaJ _) (.keep rfl (qkv _) (.dead rfl (fun h => by cases h) (.dead rfl (fun h => by cases h) (.dead rfl (fun h => by cases h) (.dead rfl (fun h => by cases h) .nil))))), rfl⟩
   ·have fX := (cJ8 @qaz @hkb1 @hkb2 @hkb3 @hkb4 @hkb5 @hsl @hpl)
    refine qd1 fn31 (by simp) ?_
    unfold i31
    simp only [argL, mdX]
    refine wR0 0 [0,3,4] fX ?_
    refine wRn 100 [0,3,4,5] fX ?_
    refine rU [(99999, dkB d)] [(99999, dkB d1)] fX ?_
    refine ⟨_, hn1.full1, rN fX ?_⟩
    refine rU [(99999, dkB d1)] [(99999, dkB d2)] fX ?_
    refine ⟨_, hn2.full1, rE fX ?_⟩
    refine wR0 200 [0,3,4,5,6] fX ?_
    refine wR0 300 [0,3,4,5,6,25] fX ?_
    refine wR0 400 [0,3,4,5,6,25,26] fX ?_
    refine wF fX ?_
    refine wR0 1100 [0,3,4,5,6,25,53] fX ?_
    refine wF fX ?_
    refine wR0 1200 [0,3,4,5,6,25,53] fX ?_
    refine wF fX ?_
    refine wR0 1600 [0,3,4,5,6,25,72] fX ?_
    refine wF fX ?_
    refine wR0 2000 [0,3,4,5,6,25,100] fX ?_
    refine wT fX ?_
    refine wRn 2100 [0,3,4,5,6,8] fX ?_
    refine rU [(99999, dkB d2)] [(99999, dkB d3)] fX ?_
    refine ⟨_, hn3.full1, rE fX ?_⟩
    refine wRn 2200 [0,3,4,5,6,8,105] fX ?_
    refine rU [(99999, dkB d3)] [(99999, dkB d4)] fX ?_
    refine ⟨_, hn4.full1, rE fX ?_⟩
    refine wT fX ?_
    refine wR0 2300 [0,3,4,5,6,8] fX ?_
    refine wL ?_
    refine qa4 [0, 3, 4, 5, 6, 8] ?_
    refine hW _ ?_
    ·intro i
     refine wN ?_
     simp only [qcd, qcc, List.nil_append, List.cons_append]
     refine wRn 2800 [0,4,5,6,135] fX ?_
     refine rU [(99999, dkB d5)] [(99999, dkB d6)] fX ?_
     refine ⟨_, hn5.full1, rE fX ?_⟩
     refine wT fX ?_
     refine wRn 2900 [4,5] fX ?_
     refine rU [(99999, dkB d6)] [(99999, dkB d7)] fX ?_
     refine ⟨_, hn6.full1, rE fX ?_⟩
     refine wR0 3700 [4] fX ?_
     refine wE ?_
     refine wN ?_
     exact ⟨by simp, _, _, _, rfl, rfl, .aggL (.cons (.same rfl) (.cons (.same rfl) (.cons (.same rfl) (.cons .nil (.cons .nil (.cons .nil (.cons (.same rfl) (.cons (.same rfl) (.cons (.same rfl) (.cons .nil (.cons .nil (.cons (qdA (z :: l) rfl rfl rfl rfl) (.cons (qcO [p] rfl rfl rfl rfl) (.cons (.same rfl) .nil)))))))))))))) rfl, .keep rfl (qaJ _) (.keep rfl (qkv _) (.dead rfl (fun h => by cases h) (.dead rfl (fun h => by cases h) (.dead rfl (fun h => by cases h) (.dead rfl (fun h => by cases h) (.dead rfl (fun h => by cases h) .nil)))))), rfl⟩
end
end Go.Proofs.YtikhhnopcjgjpaaGreat
