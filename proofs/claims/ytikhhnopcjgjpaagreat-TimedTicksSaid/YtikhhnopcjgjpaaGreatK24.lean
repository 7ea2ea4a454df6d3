/- Contracts of functions of the program, for all arguments that they name. -/
import Derived.Test.YtikhhnopcjgjpaaGreatK03
import Derived.Test.YtikhhnopcjgjpaaGreatK06
import Derived.Test.YtikhhnopcjgjpaaGreatK10
namespace Go.Proofs.YtikhhnopcjgjpaaGreat
set_option linter.unusedVariables false
section
open Go.RowKit
set_option maxHeartbeats 2000000
structure Dk where
 list : List Int
 at_ : Nat
 st : Int
abbrev dkB (d : Dk) : Slot := .live ⟨67, [.list (qaf d.list), .int .i64 d.at_, .int .u64 d.st]⟩
abbrev dkR : T := .ref 99999 3 0
def Dk.ok (d : Dk) : Prop := d.list.length ≤ 1000 ∧ d.at_ ≤ d.list.length
theorem qaJ {H : Heap} {D : Nat → Bool} (d : Dk) : SlotFz H D (dkB d) (dkB d) := by
 refine SlotFz.liveS (by simp [clL, T.cl, qat]) fun c hc => ?_
 simp only [List.mem_cons, List.not_mem_nil, or_false] at hc
 rcases hc with rfl | rfl | rfl <;> rfl
theorem TC.fullL {P : Program} {f : FuncId} {xs : List T} {v : T} {C U : List (Nat × Slot)} (h : TC P f xs (hpL C) v (hpL U)) (h1 : (C.map (·.1)).Nodup) (h2 : Heap.upd (hpL C) U = hpL U) : TC P f xs (hp C) v ((hp C).upd U) := by
 rw [qph C h1, h2]; exact h
theorem TC.full1 {P : Program} {f : FuncId} {xs : List T} {v : T} {i : Nat} {s s' : Slot} (h : TC P f xs (hpL [(i, s)]) v (hpL [(i, s')])) : TC P f xs (hp [(i, s)]) v ((hp [(i, s)]).upd [(i, s')]) :=
 h.fullL (by simp) (by simp [qbc, qaA, qaO])
theorem qbI {P : Program} {f : FuncId} {N : Nat} {ic : ICode} {rs : List (Nat × Option Nat)} {args : List T} {d d' : Dk} {r : T} (h : FnOk P f N rs ic) (hn : args.length ≤ N)
 (hw : W P N ic (ofL (argL 0 args)) (hpL [(99999, dkB d)]) fun e env' H'' => (e = .ret ∨ e = .normal) ∧ ∃ x hl hl', resT env' H'' rs = some x ∧ H'' = hpL hl ∧ Fz (hpL hl) (inL [99999]) x r ∧ LFz (hpL hl) [99999] hl hl' ∧ qap [99999] hl' = [(99999, dkB d')]) : TC P f args (hpL [(99999, dkB d)]) r (hpL [(99999, dkB d')]) :=
 qli [99999] h hn rfl hw
theorem qmn (n : Int) : 0 ≤ IntKind.wrap .u64 n ∧ IntKind.wrap .u64 n < 18446744073709551616 := by rw [IntKind.wrap_u64]; omega
theorem qfE (xs : List Int) (i : Nat) (h : i < xs.length) : (qaf xs).getD (i : Int).toNat .undef = .int .i64 (xs.getD i 0) := by
 simp [qaf, List.getD_eq_getElem?_getD, h]
theorem qoD {xs : List Int} {a : Nat} (x s : Int) {d : Dk} (h : TC Tryz.prog 40 [dkR] (hpL [(99999, dkB d)]) (.int .u64 x) (hpL [(99999, dkB ⟨xs, a, s⟩)])) (hx : 0 ≤ x ∧ x < 18446744073709551616) (hok : xs.length ≤ 1000 ∧ a ≤ xs.length) :
 ∃ (x : Int) (d' : Dk), (0 ≤ x ∧ x < 18446744073709551616) ∧ d'.ok ∧ TC Tryz.prog 40 [dkR] (hpL [(99999, dkB d)]) (.int .u64 x) (hpL [(99999, dkB d')]) := ⟨x, ⟨xs, a, s⟩, hx, hok, h⟩
theorem qrx (d : Dk) (hd : d.ok) : ∃ (x : Int) (d' : Dk), (0 ≤ x ∧ x < 18446744073709551616) ∧ d'.ok ∧ TC Tryz.prog 40 [dkR] (hpL [(99999, dkB d)]) (.int .u64 x) (hpL [(99999, dkB d')]) := by
 rcases d with ⟨xs, a, s⟩
 obtain ⟨h1, h2⟩ := hd
 simp only at h1 h2
 by_cases ha : a < xs.length
 ·have hlt : (a : Int) < ((qaf xs).length : Int) := by rw [qai]; omega
  have hb : decide ((a : Int) < ((qaf xs).length : Int)) = true := decide_eq_true hlt
  have hg := qfE xs a ha
  have hw : IntKind.wrap .i64 ((a : Int) + 1) = ((a + 1 : Nat) : Int) := by rw [wrap64 (by omega) (by omega)]; rfl
  apply qoD (xs := xs) (a := a + 1)
  ·have fX := (cJ3 @hb @hg @hw)
   refine qcg fn40 (by simp) ?_
   unfold i40
   simp only [argL, dkB]
   refine wR0 0 [0] fX ?_
   refine wR0 100 [0,3] fX ?_
   refine wR0 200 [0,3,14] fX ?_
   refine wT fX ?_
   refine wR0 300 [0,3] fX ?_
   refine wR0 400 [0,3] fX ?_
   refine wR0 500 [0] fX ?_
   refine wR0 600 [4] fX ?_
   refine wR0 700 [4] fX ?_
   refine wR0 800 [2] fX ?_
   refine wE ?_
   refine wN ?_
   first | exact ⟨by simp, rfl, rfl⟩ | exact ⟨by simp, rfl, trivial⟩
  ·exact qmn _
  ·exact ⟨h1, ha⟩
 ·have hb : decide ((a : Int) < ((qaf xs).length : Int)) = false := decide_eq_false (by rw [qai]; omega)
  apply qoD (xs := xs) (a := a)
  ·have fX := @hb
   refine qcg fn40 (by simp) ?_
   unfold i40
   simp only [argL, dkB]
   refine wR0 0 [0] fX ?_
   refine wR0 100 [0,3] fX ?_
   refine wR0 200 [0,3,14] fX ?_
   refine wF fX ?_
   refine wR0 500 [0] fX ?_
   refine wR0 600 [4] fX ?_
   refine wR0 700 [4] fX ?_
   refine wR0 800 [2] fX ?_
   refine wE ?_
   refine wN ?_
   first | exact ⟨by simp, rfl, rfl⟩ | exact ⟨by simp, rfl, trivial⟩
  ·exact qmn _
  ·exact ⟨h1, h2⟩
theorem qsm {n : Int} (x : Int) {d d' : Dk} (h : TC Tryz.prog 16 [dkR, .int .i64 n] (hpL [(99999, dkB d)]) (.int .i64 x) (hpL [(99999, dkB d')])) (hx : 0 ≤ x ∧ (n < 1 → x = 0) ∧ (1 ≤ n → x < n)) (hok : d'.ok) :
 ∃ (x : Int) (d' : Dk), (0 ≤ x ∧ (n < 1 → x = 0) ∧ (1 ≤ n → x < n)) ∧ d'.ok ∧ TC Tryz.prog 16 [dkR, .int .i64 n] (hpL [(99999, dkB d)]) (.int .i64 x) (hpL [(99999, dkB d')]) := ⟨x, _, hx, hok, h⟩
theorem qpW {y : Int} (h : 0 ≤ y ∧ y < 18446744073709551616) : 0 ≤ IntKind.wrap .i64 (y.fdiv (2 ^ 1)) := by
 have e : y.fdiv (2 ^ 1) = y / 2 := by rw [Int.fdiv_eq_ediv_of_nonneg _ (by omega)]; rfl
 rw [e, wrap64 (by omega) (by omega)]; omega
theorem qqr {a n : Int} (ha : 0 ≤ a) (hn : 1 ≤ n) : 0 ≤ a.tmod n ∧ a.tmod n < n := ⟨Int.tmod_nonneg n ha, Int.tmod_lt_of_pos a (by omega)⟩
theorem qaS (d : Dk) (n : Int) (hd : d.ok) : ∃ (x : Int) (d' : Dk), (0 ≤ x ∧ (n < 1 → x = 0) ∧ (1 ≤ n → x < n)) ∧ d'.ok ∧ TC Tryz.prog 16 [dkR, .int .i64 n] (hpL [(99999, dkB d)]) (.int .i64 x) (hpL [(99999, dkB d')]) := by
 by_cases h1 : n < 1
 ·have hb : decide (n < 1) = true := decide_eq_true h1
  refine ⟨0, d, ⟨by omega, fun _ => rfl, fun h => by omega⟩, hd, ?_⟩
  have fX := @hb
  refine qcg fn16 (by simp) ?_
  unfold i16
  simp only [argL]
  refine wR0 0 [0,1] fX ?_
  refine wR0 100 [0,1,6] fX ?_
  refine wT fX ?_
  refine wR0 200 [4] fX ?_
  refine wE ?_
  refine wN ?_
  first | exact ⟨by simp, rfl, rfl⟩ | exact ⟨by simp, rfl, trivial⟩
 ·have hb : decide (n < 1) = false := decide_eq_false h1
  obtain ⟨y, d', hy, hok, hl⟩ := qrx d hd
  have hn0 : ¬ n = 0 := by omega
  apply qsm (d' := d')
  ·have fX := (cJ2 @hb @hn0)
   refine qcg fn16 (by simp) ?_
   unfold i16
   simp only [argL]
   refine wR0 0 [0,1] fX ?_
   refine wR0 100 [0,1,6] fX ?_
   refine wF fX ?_
   refine wRn 300 [4] fX ?_
   refine rU [(99999, dkB d)] [(99999, dkB d')] fX ?_
   refine ⟨_, hl.full1, rE fX ?_⟩
   refine wE ?_
   refine wN ?_
   first | exact ⟨by simp, rfl, rfl⟩ | exact ⟨by simp, rfl, trivial⟩
  ·have := qqr (n := n) (qpW hy) (by omega)
   exact ⟨this.1, fun h => by omega, fun _ => this.2⟩
  ·exact hok
theorem qfJ (d : Dk) (n : Int) (hd : d.ok) : ∃ (b : Bool) (d' : Dk), d'.ok ∧ TC Tryz.prog 30 [dkR, .int .i64 n] (hpL [(99999, dkB d)]) (.bool b) (hpL [(99999, dkB d')]) := by
 obtain ⟨x, d', hx, hok, hnx⟩ := qaS d n hd
 refine ⟨x == 0, d', hok, ?_⟩
 refine qcg fn30 (by simp) ?_
 unfold i30
 simp only [argL]
 refine wR0 0 [0,1] cJ0 ?_
 refine wRn 100 [4] cJ0 ?_
 refine rU [(99999, dkB d)] [(99999, dkB d')] cJ0 ?_
 refine ⟨_, hnx.full1, rE cJ0 ?_⟩
 refine wE ?_
 refine wN ?_
 first | exact ⟨by simp, rfl, rfl⟩ | exact ⟨by simp, rfl, trivial⟩
theorem qaz (zs : List T) : repl 1 zs = zs := by simp [repl]
def qjn (id : Nat) (done : List Int) : T := match done with
 | [] => .nil
 | x :: l => .sl id (l.length + 1) 0 0 (l.length + 1)
def qjw (id ty : Nat) (done : List Int) : List (Nat × Slot) := match done with
 | [] => []
 | x :: l => [(id, .live ⟨ty, qaf (x :: l)⟩)]
theorem qcO {H : Heap} {D : Nat → Bool} {id ty n tot : Nat} (l : List Int) (hb : H id = .live ⟨ty, qaf l⟩) (hd : D id = false) (hn : n = l.length) (ht : tot = l.length) : Fz H D (.sl id tot 0 0 n) (.list (qaf l)) := by
 subst hn ht
 refine Fz.sl hb hd (qai l) (by simp [esz]) (qai l) (qfK l) (by rw [qcj]; exact qhH l) fun k hk => ?_
 rw [qcj, Nat.zero_add]
 exact .same (qa7 (qat _ l) k)
theorem qm8 (most : Int) (hm : -1000000 ≤ most ∧ most ≤ 1000000) (n : Nat) (hnl : n ≤ 1000000) : ∀ (k i : Nat) (done : List Int) (d : Dk), done.length = i → i + k = n → d.ok →
 ∃ (ys : List Int) (d' : Dk), ys.length = k ∧ (∀ y ∈ ys, 0 ≤ y ∧ (0 ≤ most → y ≤ most)) ∧ d'.ok ∧ ∀ Q : IExit → (Nat → T) → Heap → Prop,
  (∀ i : Int, Q (.exit 0) (ofL [(0, dkR), (1, .int .i64 n), (2, .int .i64 most), (7, qjn 406 (done ++ ys)), (8, .int .i64 i), (11, .bool false)]) (hpL ((99999, dkB d') :: qjw 406 3 (done ++ ys)))) →
  WL Tryz.prog 22 qj8 (ofL [(0, dkR), (1, .int .i64 n), (2, .int .i64 most), (7, qjn 406 done), (8, .int .i64 i)]) (hpL ((99999, dkB d) :: qjw 406 3 done)) Q := by
 intro k
 induction k with
 | zero =>
  intro i done d hi hk hd
  refine ⟨[], d, rfl, (fun y hy => absurd hy (List.not_mem_nil)), hd, fun Q hQ => ?_⟩
  have hb : decide ((i : Int) < (n : Int)) = false := decide_eq_false (by omega)
  rw [List.append_nil] at hQ
  have fX := @hb
  refine qaa qj8.eq_1 ?_
  refine wR0 300 [0,1,2,7,8,11] fX ?_
  refine wF @hb ?_
  refine wX ?_
  refine wN ?_
  exact hQ _
 | succ k ih =>
  intro i done d hi hk hd
  obtain ⟨x, d1, hx, hok, hnx⟩ := qaS d (most + 1) hd
  obtain ⟨ys, d', h1, h2, h3, hW⟩ := ih (i + 1) (done ++ [x]) d1 (by simp [hi]) (by omega) hok
  refine ⟨x :: ys, d', by simp [h1], fun y hy => ?_, h3, fun Q hQ => ?_⟩
  ·rcases List.mem_cons.1 hy with rfl | hy
   ·exact ⟨hx.1, fun h => by have := hx.2.2 (by omega); omega⟩
   ·exact h2 y hy
  have hb : decide ((i : Int) < (n : Int)) = true := decide_eq_true (by omega)
  have hw : IntKind.wrap .i64 ((i : Int) + 1) = ((i + 1 : Nat) : Int) := by rw [wrap64 (by omega) (by omega)]; rfl
  have hw2 : IntKind.wrap .i64 (most + 1) = most + 1 := wrap64 (by omega) (by omega)
  have hQ' := hW Q (by simpa using hQ)
  cases done with
  | nil =>
   simp only [qjn, qjw]
   have fX := (cJ4 @hb @hw @hw2 @qaz)
   refine qaa qj8.eq_1 ?_
   refine W_gc ?_
   refine wR0 300 [0,1,2,7,8,11] fX ?_
   refine wT fX ?_
   refine wRn 400 [0,1,2,7,8] fX ?_
   refine rU [(99999, dkB d)] [(99999, dkB d1)] fX ?_
   refine ⟨_, hnx.full1, rE fX ?_⟩
   refine wR0 500 [0,1,2,7,8] fX ?_
   refine wN ?_
   refine qa1 [99999, 406] (by simp [inL]) (by simp [inL, T.cl]) (by simp [qap, inL, Slot.cl, T.cl, clL, qat]) ?_
   simpa [qap, inL, qjn, qjw, qaf] using hQ'
  | cons z l =>
   have hlb : l.length + 1 ≤ 1000000 := by simp at hi; omega
   have he : (qaf (z :: l)).length = l.length + 1 := by simp [qaf]
   simp only [qjn, qjw]
   have fX := (cJ5 @hb @hw @hw2 @qaz @he)
   refine qaa qj8.eq_1 ?_
   refine W_gc ?_
   refine wR0 300 [0,1,2,7,8,11] fX ?_
   refine wT fX ?_
   refine wRn 400 [0,1,2,7,8] fX ?_
   refine rU [(99999, dkB d)] [(99999, dkB d1)] fX ?_
   refine ⟨_, hnx.full1, rE fX ?_⟩
   refine wR0 500 [0,1,2,7,8] fX ?_
   refine wN ?_
   refine qa1 [99999, 406] (by simp [inL]) (by simp [inL, T.cl]) (by simp [qap, inL, Slot.cl, T.cl, clL, qaw, qat]) ?_
   simpa [qap, inL, qjn, qjw, qaf] using hQ'
theorem qqx (d : Dk) (n : Nat) (most : Int) (hm : -1000000 ≤ most ∧ most ≤ 1000000) (hnl : n ≤ 1000000) (hd : d.ok) :
 ∃ (ys : List Int) (d' : Dk), ys.length = n ∧ (∀ y ∈ ys, 0 ≤ y ∧ (0 ≤ most → y ≤ most)) ∧ d'.ok ∧ TC Tryz.prog 35 [dkR, .int .i64 n, .int .i64 most] (hpL [(99999, dkB d)]) (.list (qaf ys)) (hpL [(99999, dkB d')]) := by
 obtain ⟨ys, d', h1, h2, h3, hW⟩ := qm8 most hm n hnl n 0 [] d rfl (by omega) hd
 refine ⟨ys, d', h1, h2, h3, ?_⟩
 refine qbI fn35 (by simp) ?_
 unfold i35
 simp only [argL]
 refine wR0 0 [0,1,2] cJ0 ?_
 refine wR0 100 [0,1,2,7] cJ0 ?_
 refine wR0 200 [0,1,2,7,8] cJ0 ?_
 refine wL ?_
 refine hW _ ?_
 ·intro i
  refine wN ?_
  refine wN ?_
  rcases ys with _ | ⟨y, l⟩
  ·skip
   refine wN ?_
   simp only [qjn, qjw, List.nil_append]
   refine wR0 600 [6] cJ0 ?_
   refine wE ?_
   refine wN ?_
   first | exact ⟨by simp, _, _, _, rfl, rfl, .nil, .keep rfl (qaJ _) .nil, rfl⟩ | exact ⟨by simp, _, _, _, rfl, rfl, qcO (y :: l) rfl rfl rfl rfl, .keep rfl (qaJ _) (.dead rfl (fun h => by cases h) .nil), rfl⟩
  ·skip
   refine wN ?_
   simp only [qjn, qjw, List.nil_append]
   refine wR0 600 [6] cJ0 ?_
   refine wE ?_
   refine wN ?_
   first | exact ⟨by simp, _, _, _, rfl, rfl, .nil, .keep rfl (qaJ _) .nil, rfl⟩ | exact ⟨by simp, _, _, _, rfl, rfl, qcO (y :: l) rfl rfl rfl rfl, .keep rfl (qaJ _) (.dead rfl (fun h => by cases h) .nil), rfl⟩
theorem qpG (d : Dk) (letters : Int) (most : Nat) (hl : -1000 ≤ letters ∧ letters ≤ 1000000) (hm : most ≤ 1000) (hd : d.ok) :
 ∃ (ys : List Int) (d' : Dk), ys.length ≤ most ∧ (∀ y ∈ ys, 0 ≤ y ∧ (1 ≤ letters → y < letters)) ∧ d'.ok ∧ TC Tryz.prog 63 [dkR, .int .i64 letters, .int .i64 most] (hpL [(99999, dkB d)]) (.list (qaf ys)) (hpL [(99999, dkB d')]) := by
 obtain ⟨x, d1, hx, hok, hnx⟩ := qaS d ((most : Int) + 1) hd
 have hxm := hx.2.2 (by omega)
 obtain ⟨n, rfl⟩ := Int.eq_ofNat_of_zero_le hx.1
 obtain ⟨ys, d', h1, h2, h3, hs⟩ := qqx d1 n (letters - 1) (by omega) (by omega) hok
 have hw1 : IntKind.wrap .i64 ((most : Int) + 1) = (most : Int) + 1 := wrap64 (by omega) (by omega)
 have hw2 : IntKind.wrap .i64 (letters - 1) = letters - 1 := wrap64 (by omega) (by omega)
 refine ⟨ys, d', by omega, fun y hy => ⟨(h2 y hy).1, fun h => by have := (h2 y hy).2 (by omega); omega⟩, h3, ?_⟩
 have fX := (cJ2 @hw1 @hw2)
 refine qcg fn63 (by simp) ?_
 unfold i63
 simp only [argL]
 refine wR0 0 [0,1,2] fX ?_
 refine wRn 100 [6] fX ?_
 refine rU [(99999, dkB d)] [(99999, dkB d1)] fX ?_
 refine ⟨_, hnx.full1, rN fX ?_⟩
 refine rU [(99999, dkB d1)] [(99999, dkB d')] fX ?_
 refine ⟨_, hs.full1, rE fX ?_⟩
 refine wE ?_
 refine wN ?_
 first | exact ⟨by simp, rfl, rfl⟩ | exact ⟨by simp, rfl, trivial⟩
end
end Go.Proofs.YtikhhnopcjgjpaaGreat
