/- Contracts of functions of the program, for all arguments that they name. -/
import Derived.Test.YtikhhnopcjgjpaaGreatK36
namespace Go.Proofs.YtikhhnopcjgjpaaGreat
set_option linter.unusedVariables false
section
open Go.RowKit
set_option maxHeartbeats 2000000
theorem qoj (l : List (Int × Int)) (i : Nat) (h : i < l.length) : (qax l).getD (i : Int).toNat .undef = encP (l.getD i (0, 0)) := by
 simp [qax, List.getD_eq_getElem?_getD, List.getElem?_eq_getElem h]
theorem qg7 (pre : List (Int × Int)) (x : Int × Int) : qbW (pre ++ [x]) = qbW pre + (if x.2 == 0 then 1 else 0) := by
 rw [qbW, List.filter_append, List.length_append, qbW]
 congr 1
 by_cases h : (x.2 == 0) = true <;> simp [h]
theorem qkB (m : Md) (d : Dk) (i : Int) (l xs : List (Int × Int)) (hl : xs.length ≤ 1000) (X : List V) (nX j e : Int) (qa qb : Int) (la lb : List (Int × Int)) (Q : IExit → (Nat → T) → Heap → Prop) : ∀ (rest pre : List (Int × Int)) (n : Nat), xs = pre ++ rest → pre.length = n →
 (∀ k : Int, Q (.exit 2) (ofL [(4, .ref 402 10 0), (5, .int .i64 i), (7, .list (qax l)), (8, .int .i64 0), (10, .int .i64 e), (12, .ref 1602 2 0), (13, .list (qax xs)), (14, .int .i64 0), (15, .int .i64 (qbW xs)), (82, .list (qac X)), (83, .int .i64 nX), (84, .int .i64 j), (94, .list (qax xs)), (95, .int .i64 xs.length), (96, .int .i64 k), (97, .bool false)]) (hpL [(99999, dkB d), (402, sM m), (409, .dead), (803, sV qa la), (1602, sV qb lb)])) →
 WL Tryz.prog 167 qny (ofL [(4, .ref 402 10 0), (5, .int .i64 i), (7, .list (qax l)), (8, .int .i64 0), (10, .int .i64 e), (12, .ref 1602 2 0), (13, .list (qax xs)), (14, .int .i64 0), (15, .int .i64 (qbW pre)), (82, .list (qac X)), (83, .int .i64 nX), (84, .int .i64 j), (94, .list (qax xs)), (95, .int .i64 xs.length), (96, .int .i64 n)]) (hpL [(99999, dkB d), (402, sM m), (409, .dead), (803, sV qa la), (1602, sV qb lb)]) Q := by
 intro rest
 induction rest with
 | nil =>
  intro pre n he hn hQ
  have hd : decide ((n : Int) < (xs.length : Int)) = false := decide_eq_false (by rw [he, List.append_nil]; omega)
  have ep : pre = xs := by rw [he, List.append_nil]
  rw [ep]
  have fX := @hd
  refine qaa qny.eq_1 ?_
  refine wR0 2000 [4,5,7,8,10,12,13,14,15,82,83,84,94,95,96,97] fX ?_
  refine wF @hd ?_
  refine wX ?_
  refine wN ?_
  exact hQ _
 | cons x rest ih =>
  intro pre n he hn hQ
  have hlt : n < xs.length := by rw [he]; simp; omega
  have hfp : qbW pre ≤ pre.length := by rw [qbW]; exact List.length_filter_le _ _
  have hd : decide ((n : Int) < (xs.length : Int)) = true := decide_eq_true (by omega)
  have hw : IntKind.wrap .i64 ((n : Int) + 1) = ((n + 1 : Nat) : Int) := by rw [wrap64 (by omega) (by omega)]; rfl
  have hw2 : IntKind.wrap .i64 ((qbW pre : Int) + 1) = ((qbW pre + 1 : Nat) : Int) := by rw [wrap64 (by omega) (by omega)]; rfl
  have e1 : xs.getD n (0, 0) = x := by rw [he, ← hn]; simp [List.getD_eq_getElem?_getD]
  have g1 : (qax xs).getD (n : Int).toNat .undef = .agg [.int .i64 x.1, .int .i64 x.2] := by rw [qoj xs n hlt, e1]; rfl
  have hb1 : (n : Int) < ((qax xs).length : Int) := by rw [qaP]; omega
  have hQ' := ih (pre ++ [x]) (n + 1) (by simpa using he) (by simp [hn]) hQ
  rcases hx : (x.2 == 0) with _ | _
  ·have ef : qbW (pre ++ [x]) = qbW pre := by rw [qg7, hx]; rfl
   rw [ef] at hQ'
   have fX := (cJ5 @hd @hw @g1 @qaz @hx)
   refine qaa qny.eq_1 ?_
   refine W_gc ?_
   refine wR0 2000 [4,5,7,8,10,12,13,14,15,82,83,84,94,95,96,97] fX ?_
   refine wT fX ?_
   refine wR0 2100 [4,5,7,8,10,12,13,14,15,17,82,83,84,94,95,96] fX ?_
   refine wR0 2200 [4,5,7,8,10,12,13,14,15,82,83,84,94,95,96,102] fX ?_
   refine wF @hx ?_
   refine wR0 2400 [4,5,7,8,10,12,13,14,15,82,83,84,94,95,96] fX ?_
   refine wN ?_
   refine qa1 [99999, 402, 409, 803, 1602] (by simp [inL]) (by simp [inL, T.cl, qc9, qam]) (by simp [qap, inL, Slot.cl, T.cl, clL, qat, qam]) ?_
   exact hQ'
  ·have ef : qbW (pre ++ [x]) = qbW pre + 1 := by rw [qg7, hx]; rfl
   rw [ef] at hQ'
   have fX := (cJ6 @hd @hw @hw2 @g1 @qaz @hx)
   refine qaa qny.eq_1 ?_
   refine W_gc ?_
   refine wR0 2000 [4,5,7,8,10,12,13,14,15,82,83,84,94,95,96,97] fX ?_
   refine wT fX ?_
   refine wR0 2100 [4,5,7,8,10,12,13,14,15,17,82,83,84,94,95,96] fX ?_
   refine wR0 2200 [4,5,7,8,10,12,13,14,15,82,83,84,94,95,96,102] fX ?_
   refine wT @hx ?_
   refine wR0 2300 [4,5,7,8,10,12,13,14,15,82,83,84,94,95,96] fX ?_
   refine wR0 2400 [4,5,7,8,10,12,13,14,15,82,83,84,94,95,96] fX ?_
   refine wN ?_
   refine qa1 [99999, 402, 409, 803, 1602] (by simp [inL]) (by simp [inL, T.cl, qc9, qam]) (by simp [qap, inL, Slot.cl, T.cl, clL, qat, qam]) ?_
   exact hQ'
theorem qqb (X : List V) (i : Nat) (h : i < X.length) : (qac X).getD (i : Int).toNat .undef = encV (X.getD i v0) := by
 rw [qdn]
 simp [List.getD_eq_getElem?_getD, List.getElem?_eq_getElem h]
def qsi (m : Md) (r : Rl) (l : List (Int × Int)) (y : V) : Prop := ∃ k, y = cfgV r.to_ k ∧ OkC m r.to_ k ∧ k.length + r.takes.length = l.length + r.makes.length ∧ r.makes.length ≤ qbW k
theorem qdx {m : Md} (g : Gmd m) (d : Dk) (i : Nat) (hi : i < m.rules.length) (l : List (Int × Int)) (hl : l.length ≤ 12) (X : List V) (hX : ∀ y ∈ X, qsi m (qaB m i) l y) (hXl : X.length ≤ 10000) (ht3 : (qaB m i).takes.length ≤ 3) (hm3 : (qaB m i).makes.length ≤ 3) (e : Int) (qa : Int) (la : List (Int × Int)) (Q : IExit → (Nat → T) → Heap → Prop) : ∀ (rest pre : List V) (n : Nat), X = pre ++ rest → pre.length = n →
 (∀ k : Int, Q (.exit 0) (ofL [(4, .ref 402 10 0), (5, .int .i64 i), (7, .list (qax l)), (8, .int .i64 0), (10, .int .i64 e), (82, .list (qac X)), (83, .int .i64 X.length), (84, .int .i64 k), (85, .bool false)]) (hpL [(99999, dkB d), (402, sM m), (409, .dead), (803, sV qa la)])) →
 WL Tryz.prog 167 qqJ (ofL [(4, .ref 402 10 0), (5, .int .i64 i), (7, .list (qax l)), (8, .int .i64 0), (10, .int .i64 e), (82, .list (qac X)), (83, .int .i64 X.length), (84, .int .i64 n)]) (hpL [(99999, dkB d), (402, sM m), (409, .dead), (803, sV qa la)]) Q := by
 have hgr : (qaL m.rules).getD (i : Int).toNat .undef = .agg (rlC (qaB m i)) := qhl m i (by simpa using hi)
 have hgl : (i : Int) < ((qaL m.rules).length : Int) := by rw [qaM]; omega
 intro rest
 induction rest with
 | nil =>
  intro pre n he hn hQ
  have hd : decide ((n : Int) < (X.length : Int)) = false := decide_eq_false (by rw [he, List.append_nil]; omega)
  have fX := @hd
  refine qaa qqJ.eq_1 ?_
  refine wR0 1500 [4,5,7,8,10,82,83,84,85] fX ?_
  refine wF @hd ?_
  refine wX ?_
  refine wN ?_
  exact hQ _
 | cons y rest ih =>
  intro pre n he hn hQ
  obtain ⟨k, hy, o, hk1, hk2⟩ := hX y (by rw [he]; simp)
  have hok := o.len
  have hlt : n < X.length := by rw [he]; simp; omega
  have hd : decide ((n : Int) < (X.length : Int)) = true := decide_eq_true (by omega)
  have hw : IntKind.wrap .i64 ((n : Int) + 1) = ((n + 1 : Nat) : Int) := by rw [wrap64 (by omega) (by omega)]; rfl
  have e1 : X.getD n v0 = y := by rw [he, ← hn]; simp [List.getD_eq_getElem?_getD]
  have g1 : (qac X).getD (n : Int).toNat .undef = encC (qaB m i).to_ k := by rw [qqb X n hlt, e1, hy]; rfl
  have hb1 : (n : Int) < ((qac X).length : Int) := by rw [qag]; omega
  have hT := o.tokens_tp g
  have hz : ((0 : Int) != 0) = false := rfl
  have hpl : (qax k).length = k.length := qaP k
  have hpl2 : (qax l).length = l.length := qaP l
  have hw1 : IntKind.wrap .i64 ((l.length : Int) + ((qaB m i).makes.length : Int)) = (l.length : Int) + (qaB m i).makes.length := wrap64 (by omega) (by omega)
  have hw2 : IntKind.wrap .i64 ((l.length : Int) + ((qaB m i).makes.length : Int) - ((qaB m i).takes.length : Int)) = (k.length : Int) := by rw [wrap64 (by omega) (by omega)]; omega
  have hn1 : ((k.length : Int) != (k.length : Int)) = false := by simp
  have hn2 : decide ((qbW k : Int) < ((qaB m i).makes.length : Int)) = false := decide_eq_false (by omega)
  have hn3 : ((qaB m i).to_ != (qaB m i).to_) = false := by simp
  have hc0 : (qac (cks (qaB m i).to_ k)).getD (0 : Int).toNat .undef = .agg [.int .i64 (qaB m i).to_, .list []] := rfl
  have hcl : (0 : Int) < ((qac (cks (qaB m i).to_ k)).length : Int) := by rw [qag]; simp [cks]
  have hQ' := ih (pre ++ [y]) (n + 1) (by simpa using he) (by simp [hn]) hQ
  have fX := (cJ8 @hd @hw @g1 @hz @hpl @hpl2 @hw1 (cJ8 @hw2 @hn1 @hn2 @hn3 @hgr @hc0 @qai @qaR))
  refine qaa qqJ.eq_1 ?_
  refine W_gc ?_
  refine wR0 1500 [4,5,7,8,10,82,83,84,85] fX ?_
  refine wT fX ?_
  refine wR0 1600 [4,5,7,8,10,12,82,83,84] fX ?_
  refine wRn 1700 [4,5,7,8,10,12,13,14,82,83,84] (cJ2 @mdC.eq_1 fX) ?_
  refine rC (cJ2 @mdC.eq_1 fX) ?_
  refine ⟨_, hT, rE (cJ2 @mdC.eq_1 fX) ?_⟩
  refine wR0 1800 [4,5,7,8,10,12,13,14,15,82,83,84] fX ?_
  refine wR0 1900 [4,5,7,8,10,12,13,14,15,82,83,84,94,95,96] fX ?_
  refine wL ?_
  refine qa4 [4, 5, 7, 8, 10, 12, 13, 14, 15, 82, 83, 84, 94, 95, 96] ?_
  refine qkB m d i l k (by omega) X X.length n e qa _ la _ _ k [] 0 rfl rfl ?_
  ·intro j
   refine wN ?_
   refine wR0 2500 [4,5,7,8,10,82,83,84,155] (cJ3 @mdC.eq_1 @rlC.eq_1 fX) ?_
   refine wF fX ?_
   refine wR0 2700 [4,5,7,8,10,82,83,84] fX ?_
   refine wN ?_
   refine qa1 [99999, 402, 409, 803] (by simp [inL]) (by simp [inL, T.cl, qc9, qam]) (by simp [qap, inL, Slot.cl, T.cl, clL, qat, qam]) ?_
   exact hQ'
theorem qmF {m : Md} {r : Rl} (hk : m.kind = 5) (h : qbk m r = true) : 0 ≤ r.from_ ∧ r.from_ < m.states.length := by
 rw [qbk, Bool.and_eq_true, qkt] at h
 have := h.1
 simp [btw, hk] at this
 omega
theorem qix (l : List V) : (qa6 (qby l)).length ≤ l.length := by
 have := qfH (qby l)
 rw [qcw] at this
 exact this
set_option maxHeartbeats 20000000 in
theorem qqw (l : List Int) : TP Tryz.prog 6 [.list (qaf l)] (.bool true) := by
 have hfew := qnN l
 by_cases hl : l.length ≤ 400
 ·have hb : decide (l.length ≤ 400) = true := decide_eq_true hl
  rw [hb] at hfew
  have hnew := qnz l
  obtain ⟨m, d1, g, hk, hd1, hM⟩ := qge (dk0 l) (qod hl)
  simp only [qau] at hM
  have hmc : ∀ D, clL D (mdC m) = true := fun D => by simp
  have hmo := qca m
  have hrl : (qaL m.rules).length = m.rules.length := qaM m.rules
  by_cases hne0 : m.rules.length = 0
  ·have hne : ((m.rules.length : Int) == 0) = true := by simp [hne0]
   have fX := (cJ2 @hrl @hne)
   refine qak fn6 (by simp) ?_
   unfold i6
   simp only [argL]
   refine wR0 0 [0] fX ?_
   refine wRn 100 [0,24] fX ?_
   refine rC fX ?_
   refine ⟨_, qbO, rN fX ?_⟩
   refine rC fX ?_
   refine ⟨_, hfew, rE fX ?_⟩
   refine wF fX ?_
   refine wRn 300 [3] fX ?_
   refine rU [] [(99999, dkB (dk0 l))] fX ?_
   refine ⟨_, hnew, rE fX ?_⟩
   refine wRn 400 [3,4] (cJ2 @mdC.eq_1 fX) ?_
   refine rU [(99999, dkB (dk0 l))] [(99999, dkB d1)] (cJ2 @mdC.eq_1 fX) ?_
   refine ⟨_, hM.full1, rE (cJ2 @mdC.eq_1 fX) ?_⟩
   refine wR0 500 [3,4,33] (cJ2 @mdC.eq_1 fX) ?_
   refine wT @hne ?_
   refine wR0 600 [2] fX ?_
   refine wP ?_
   exact .same rfl
  have hne : ((m.rules.length : Int) == 0) = false := beq_eq_false_iff_ne.2 (by omega)
  obtain ⟨x, d2, hxb, hd2, hI⟩ := qaS d1 m.rules.length hd1
  obtain ⟨i, rfl⟩ := Int.eq_ofNat_of_zero_le hxb.1
  have h1n : (1 : Int) ≤ (m.rules.length : Int) := by omega
  have hi : i < m.rules.length := by
   have := hxb.2.2 h1n
   omega
  obtain ⟨s, xs, d3, o, hd3, hC0⟩ := qnf g d2 hd2
  have hC : TC Tryz.prog 14 [dkR, qau m] (hpL [(99999, dkB d2)]) (.agg [.int .i64 0, .sl 409 4 2 0 2]) (hpL [(99999, dkB d3), (409, .live ⟨25, [.int .i64 s, .list [], .int .i64 0, .list (qac (tokL xs))]⟩)]) := hC0
  have hmem : qaB m i ∈ m.rules := by
   rw [qaB, List.getD_eq_getElem?_getD]
   simp [List.getElem?_eq_getElem hi]
  obtain ⟨hrm, ht3, hm3⟩ := qgn hk g.check hmem
  obtain ⟨hf0, hf1⟩ := qmF hk hrm
  have o' : OkC m (qaB m i).from_ xs := ⟨hf0, hf1, o.len, o.tok, o.asc⟩
  have hfz : ∀ (H : Heap) (D : Nat → Bool) (ty : TypeId), H 409 = .live ⟨ty, [.int .i64 (qaB m i).from_, .list [], .int .i64 0, .list (qac (tokL xs))]⟩ → D 409 = false → Fz H D (.sl 409 4 2 0 2) (.list (qac (cks (qaB m i).from_ xs))) := fun H D ty h hd => .slL h hd rfl rfl rfl rfl rfl (.cons (.same rfl) (.cons (.same rfl) (.cons (.same rfl) (.cons (.same (by simp [T.cl, qam])) .nil))))
  have hX1 := o'.tokens_tp g
  have hAp0 := qma m i (cfgV (qaB m i).from_ xs) g.fit o'.fit
  have hgr : (qaL m.rules).getD (i : Int).toNat .undef = .agg (rlC (qaB m i)) := qhl m i (by simpa using hi)
  have hgl : (i : Int) < ((qaL m.rules).length : Int) := by rw [qaM]; omega
  have hz2 : ((0 : Int) == 0) = true := rfl
  have hz3 : ((1 : Int) == 0) = false := rfl
  have hz4 : ((1 : Int) == 1) = true := rfl
  have htl : (qay (qaB m i).takes).length = (qaB m i).takes.length := qaR _
  have hmemX := fun y h => qmQ o' g i hi rfl (y := y) h
  rcases o'.applyR g i hi rfl with ea | ⟨ea, hv⟩
  ·rw [ea] at hAp0 hmemX
   have hAp : TP Tryz.prog 17 [qau m, .int .i64 i, encC (qaB m i).from_ xs] (.tup [.list (qac []), .int .i64 1]) := hAp0
   have hgood : ∀ y ∈ ([] : List V), qsi m (qaB m i) xs y := fun y h => by cases h
   have hXl : (qac []).length = ([] : List V).length := rfl
   rcases hA : (((qaB m i).takes.length : Int) == 0) with _ | _
   ·have fX := (cJ8 @hrl @hne @hgr @hz2 @hz3 @hz4 @htl @hA)
    refine qak fn6 (by simp) ?_
    unfold i6
    simp only [argL]
    refine wR0 0 [0] fX ?_
    refine wRn 100 [0,24] fX ?_
    refine rC fX ?_
    refine ⟨_, qbO, rN fX ?_⟩
    refine rC fX ?_
    refine ⟨_, hfew, rE fX ?_⟩
    refine wF fX ?_
    refine wRn 300 [3] fX ?_
    refine rU [] [(99999, dkB (dk0 l))] fX ?_
    refine ⟨_, hnew, rE fX ?_⟩
    refine wRn 400 [3,4] (cJ2 @mdC.eq_1 fX) ?_
    refine rU [(99999, dkB (dk0 l))] [(99999, dkB d1)] (cJ2 @mdC.eq_1 fX) ?_
    refine ⟨_, hM.full1, rE (cJ2 @mdC.eq_1 fX) ?_⟩
    refine wR0 500 [3,4,33] (cJ2 @mdC.eq_1 fX) ?_
    refine wF @hne ?_
    refine wRn 700 [3,4,5] (cJ2 @mdC.eq_1 fX) ?_
    refine rU [(99999, dkB d1)] [(99999, dkB d2)] (cJ2 @mdC.eq_1 fX) ?_
    refine ⟨_, hI.full1, rE (cJ2 @mdC.eq_1 fX) ?_⟩
    refine wRn 800 [4,5,6] (cJ2 @mdC.eq_1 fX) ?_
    refine rU [(99999, dkB d2)] [(99999, dkB d3), (409, .live ⟨25, [.int .i64 s, .list [], .int .i64 0, .list (qac (tokL xs))]⟩)] (cJ2 @mdC.eq_1 fX) ?_
    refine ⟨_, hC.fullL (by simp) (by simp [qbc, qaA, qaO, qaX]), rE (cJ2 @mdC.eq_1 fX) ?_⟩
    refine wR0 900 [4,5,6] (cJ3 @mdC.eq_1 @rlC.eq_1 fX) ?_
    simp only [thn]
    refine qcx (l' := [(4, .ref 402 10 0), (5, .int .i64 i), (6, .ref 803 2 0)]) (hl' := [(99999, dkB d3), (402, sM m), (409, .dead), (803, sV (qaB m i).from_ xs)]) [99999, 402, 803] (.cons (.same rfl) (.cons (.same rfl) (.cons (.same rfl) .nil))) (.keep rfl (qaJ _) (.keep rfl (.liveS (hmc _) hmo) (.dead rfl (fun h => by cases h) (.keep rfl (.liveL (.cons (.same rfl) (.cons (hfz _ _ _ rfl rfl) .nil)) rfl) .nil)))) ?_
    refine wRn 1000 [4,5,6,7,8] (cJ2 @mdC.eq_1 fX) ?_
    refine rC (cJ2 @mdC.eq_1 fX) ?_
    refine ⟨_, hX1, rE (cJ2 @mdC.eq_1 fX) ?_⟩
    refine wRn 1100 [4,5,7,8,9,10] (cJ2 @mdC.eq_1 fX) ?_
    refine rC (cJ2 @mdC.eq_1 fX) ?_
    refine ⟨_, hAp, rE (cJ2 @mdC.eq_1 fX) ?_⟩
    refine wR0 1200 [4,5,7,8,9,10,81] (cJ3 @mdC.eq_1 @rlC.eq_1 fX) ?_
    refine wF fX ?_
    refine wR0 1400 [4,5,7,8,10,82,83,84] fX ?_
    refine wL ?_
    refine qa4 [4, 5, 7, 8, 10, 82, 83, 84] ?_
    refine qdx g d3 i hi xs o.len [] hgood (by simp) ht3 hm3 1 _ _ _ [] [] 0 rfl rfl ?_
    ·intro j
     refine wN ?_
     refine wR0 2800 [2] fX ?_
     refine wP ?_
     exact .same rfl
   ·have fX := (cJ8 @hrl @hne @hgr @hz2 @hz3 @hz4 @htl @hA)
    refine qak fn6 (by simp) ?_
    unfold i6
    simp only [argL]
    refine wR0 0 [0] fX ?_
    refine wRn 100 [0,24] fX ?_
    refine rC fX ?_
    refine ⟨_, qbO, rN fX ?_⟩
    refine rC fX ?_
    refine ⟨_, hfew, rE fX ?_⟩
    refine wF fX ?_
    refine wRn 300 [3] fX ?_
    refine rU [] [(99999, dkB (dk0 l))] fX ?_
    refine ⟨_, hnew, rE fX ?_⟩
    refine wRn 400 [3,4] (cJ2 @mdC.eq_1 fX) ?_
    refine rU [(99999, dkB (dk0 l))] [(99999, dkB d1)] (cJ2 @mdC.eq_1 fX) ?_
    refine ⟨_, hM.full1, rE (cJ2 @mdC.eq_1 fX) ?_⟩
    refine wR0 500 [3,4,33] (cJ2 @mdC.eq_1 fX) ?_
    refine wF @hne ?_
    refine wRn 700 [3,4,5] (cJ2 @mdC.eq_1 fX) ?_
    refine rU [(99999, dkB d1)] [(99999, dkB d2)] (cJ2 @mdC.eq_1 fX) ?_
    refine ⟨_, hI.full1, rE (cJ2 @mdC.eq_1 fX) ?_⟩
    refine wRn 800 [4,5,6] (cJ2 @mdC.eq_1 fX) ?_
    refine rU [(99999, dkB d2)] [(99999, dkB d3), (409, .live ⟨25, [.int .i64 s, .list [], .int .i64 0, .list (qac (tokL xs))]⟩)] (cJ2 @mdC.eq_1 fX) ?_
    refine ⟨_, hC.fullL (by simp) (by simp [qbc, qaA, qaO, qaX]), rE (cJ2 @mdC.eq_1 fX) ?_⟩
    refine wR0 900 [4,5,6] (cJ3 @mdC.eq_1 @rlC.eq_1 fX) ?_
    simp only [thn]
    refine qcx (l' := [(4, .ref 402 10 0), (5, .int .i64 i), (6, .ref 803 2 0)]) (hl' := [(99999, dkB d3), (402, sM m), (409, .dead), (803, sV (qaB m i).from_ xs)]) [99999, 402, 803] (.cons (.same rfl) (.cons (.same rfl) (.cons (.same rfl) .nil))) (.keep rfl (qaJ _) (.keep rfl (.liveS (hmc _) hmo) (.dead rfl (fun h => by cases h) (.keep rfl (.liveL (.cons (.same rfl) (.cons (hfz _ _ _ rfl rfl) .nil)) rfl) .nil)))) ?_
    refine wRn 1000 [4,5,6,7,8] (cJ2 @mdC.eq_1 fX) ?_
    refine rC (cJ2 @mdC.eq_1 fX) ?_
    refine ⟨_, hX1, rE (cJ2 @mdC.eq_1 fX) ?_⟩
    refine wRn 1100 [4,5,7,8,9,10] (cJ2 @mdC.eq_1 fX) ?_
    refine rC (cJ2 @mdC.eq_1 fX) ?_
    refine ⟨_, hAp, rE (cJ2 @mdC.eq_1 fX) ?_⟩
    refine wR0 1200 [4,5,7,8,9,10,81] (cJ3 @mdC.eq_1 @rlC.eq_1 fX) ?_
    refine wF fX ?_
    refine wR0 1400 [4,5,7,8,10,82,83,84] fX ?_
    refine wL ?_
    refine qa4 [4, 5, 7, 8, 10, 82, 83, 84] ?_
    refine qdx g d3 i hi xs o.len [] hgood (by simp) ht3 hm3 1 _ _ _ [] [] 0 rfl rfl ?_
    ·intro j
     refine wN ?_
     refine wR0 2800 [2] fX ?_
     refine wP ?_
     exact .same rfl
  ·have hn1 : (qaB m i).takes = [] → (qbz m i (cfgV (qaB m i).from_ xs)).1.length = 1 := fun ht => qk2 o' g i hi rfl ht (by rw [ea])
   rw [ea] at hAp0 hmemX hn1
   have hlen := qix (qbu (qaB m i) xs)
   have hbl := qhW (qaB m i) xs ht3 o.len
   generalize qa6 (qby (qbu (qaB m i) xs)) = X at hAp0 hmemX hn1 hlen
   have hAp : TP Tryz.prog 17 [qau m, .int .i64 i, encC (qaB m i).from_ xs] (.tup [.list (qac X), .int .i64 0]) := hAp0
   have hgood : ∀ y ∈ X, qsi m (qaB m i) xs y := fun y h => hmemX y h
   have hXl : (qac X).length = X.length := qag X
   rcases hA : (((qaB m i).takes.length : Int) == 0) with _ | _
   ·have fX := (cJ8 @hrl @hne @hgr @hz2 @hz3 @hz4 @htl (cJ2 @hA @hXl))
    refine qak fn6 (by simp) ?_
    unfold i6
    simp only [argL]
    refine wR0 0 [0] fX ?_
    refine wRn 100 [0,24] fX ?_
    refine rC fX ?_
    refine ⟨_, qbO, rN fX ?_⟩
    refine rC fX ?_
    refine ⟨_, hfew, rE fX ?_⟩
    refine wF fX ?_
    refine wRn 300 [3] fX ?_
    refine rU [] [(99999, dkB (dk0 l))] fX ?_
    refine ⟨_, hnew, rE fX ?_⟩
    refine wRn 400 [3,4] (cJ2 @mdC.eq_1 fX) ?_
    refine rU [(99999, dkB (dk0 l))] [(99999, dkB d1)] (cJ2 @mdC.eq_1 fX) ?_
    refine ⟨_, hM.full1, rE (cJ2 @mdC.eq_1 fX) ?_⟩
    refine wR0 500 [3,4,33] (cJ2 @mdC.eq_1 fX) ?_
    refine wF @hne ?_
    refine wRn 700 [3,4,5] (cJ2 @mdC.eq_1 fX) ?_
    refine rU [(99999, dkB d1)] [(99999, dkB d2)] (cJ2 @mdC.eq_1 fX) ?_
    refine ⟨_, hI.full1, rE (cJ2 @mdC.eq_1 fX) ?_⟩
    refine wRn 800 [4,5,6] (cJ2 @mdC.eq_1 fX) ?_
    refine rU [(99999, dkB d2)] [(99999, dkB d3), (409, .live ⟨25, [.int .i64 s, .list [], .int .i64 0, .list (qac (tokL xs))]⟩)] (cJ2 @mdC.eq_1 fX) ?_
    refine ⟨_, hC.fullL (by simp) (by simp [qbc, qaA, qaO, qaX]), rE (cJ2 @mdC.eq_1 fX) ?_⟩
    refine wR0 900 [4,5,6] (cJ3 @mdC.eq_1 @rlC.eq_1 fX) ?_
    simp only [thn]
    refine qcx (l' := [(4, .ref 402 10 0), (5, .int .i64 i), (6, .ref 803 2 0)]) (hl' := [(99999, dkB d3), (402, sM m), (409, .dead), (803, sV (qaB m i).from_ xs)]) [99999, 402, 803] (.cons (.same rfl) (.cons (.same rfl) (.cons (.same rfl) .nil))) (.keep rfl (qaJ _) (.keep rfl (.liveS (hmc _) hmo) (.dead rfl (fun h => by cases h) (.keep rfl (.liveL (.cons (.same rfl) (.cons (hfz _ _ _ rfl rfl) .nil)) rfl) .nil)))) ?_
    refine wRn 1000 [4,5,6,7,8] (cJ2 @mdC.eq_1 fX) ?_
    refine rC (cJ2 @mdC.eq_1 fX) ?_
    refine ⟨_, hX1, rE (cJ2 @mdC.eq_1 fX) ?_⟩
    refine wRn 1100 [4,5,7,8,9,10] (cJ2 @mdC.eq_1 fX) ?_
    refine rC (cJ2 @mdC.eq_1 fX) ?_
    refine ⟨_, hAp, rE (cJ2 @mdC.eq_1 fX) ?_⟩
    refine wR0 1200 [4,5,7,8,9,10,81] (cJ3 @mdC.eq_1 @rlC.eq_1 fX) ?_
    refine wF fX ?_
    refine wR0 1400 [4,5,7,8,10,82,83,84] fX ?_
    refine wL ?_
    refine qa4 [4, 5, 7, 8, 10, 82, 83, 84] ?_
    refine qdx g d3 i hi xs o.len X hgood (by omega) ht3 hm3 0 _ _ _ X [] 0 rfl rfl ?_
    ·intro j
     refine wN ?_
     refine wR0 2800 [2] fX ?_
     refine wP ?_
     exact .same rfl
   ·have hX0 : ((X.length : Int) != 1) = false := by
     have : X.length = 1 := hn1 (List.eq_nil_of_length_eq_zero (by simpa using hA))
     simp [this]
    have fX := (cJ8 @hrl @hne @hgr @hz2 @hz3 @hz4 @htl (cJ3 @hA @hXl @hX0))
    refine qak fn6 (by simp) ?_
    unfold i6
    simp only [argL]
    refine wR0 0 [0] fX ?_
    refine wRn 100 [0,24] fX ?_
    refine rC fX ?_
    refine ⟨_, qbO, rN fX ?_⟩
    refine rC fX ?_
    refine ⟨_, hfew, rE fX ?_⟩
    refine wF fX ?_
    refine wRn 300 [3] fX ?_
    refine rU [] [(99999, dkB (dk0 l))] fX ?_
    refine ⟨_, hnew, rE fX ?_⟩
    refine wRn 400 [3,4] (cJ2 @mdC.eq_1 fX) ?_
    refine rU [(99999, dkB (dk0 l))] [(99999, dkB d1)] (cJ2 @mdC.eq_1 fX) ?_
    refine ⟨_, hM.full1, rE (cJ2 @mdC.eq_1 fX) ?_⟩
    refine wR0 500 [3,4,33] (cJ2 @mdC.eq_1 fX) ?_
    refine wF @hne ?_
    refine wRn 700 [3,4,5] (cJ2 @mdC.eq_1 fX) ?_
    refine rU [(99999, dkB d1)] [(99999, dkB d2)] (cJ2 @mdC.eq_1 fX) ?_
    refine ⟨_, hI.full1, rE (cJ2 @mdC.eq_1 fX) ?_⟩
    refine wRn 800 [4,5,6] (cJ2 @mdC.eq_1 fX) ?_
    refine rU [(99999, dkB d2)] [(99999, dkB d3), (409, .live ⟨25, [.int .i64 s, .list [], .int .i64 0, .list (qac (tokL xs))]⟩)] (cJ2 @mdC.eq_1 fX) ?_
    refine ⟨_, hC.fullL (by simp) (by simp [qbc, qaA, qaO, qaX]), rE (cJ2 @mdC.eq_1 fX) ?_⟩
    refine wR0 900 [4,5,6] (cJ3 @mdC.eq_1 @rlC.eq_1 fX) ?_
    simp only [thn]
    refine qcx (l' := [(4, .ref 402 10 0), (5, .int .i64 i), (6, .ref 803 2 0)]) (hl' := [(99999, dkB d3), (402, sM m), (409, .dead), (803, sV (qaB m i).from_ xs)]) [99999, 402, 803] (.cons (.same rfl) (.cons (.same rfl) (.cons (.same rfl) .nil))) (.keep rfl (qaJ _) (.keep rfl (.liveS (hmc _) hmo) (.dead rfl (fun h => by cases h) (.keep rfl (.liveL (.cons (.same rfl) (.cons (hfz _ _ _ rfl rfl) .nil)) rfl) .nil)))) ?_
    refine wRn 1000 [4,5,6,7,8] (cJ2 @mdC.eq_1 fX) ?_
    refine rC (cJ2 @mdC.eq_1 fX) ?_
    refine ⟨_, hX1, rE (cJ2 @mdC.eq_1 fX) ?_⟩
    refine wRn 1100 [4,5,7,8,9,10] (cJ2 @mdC.eq_1 fX) ?_
    refine rC (cJ2 @mdC.eq_1 fX) ?_
    refine ⟨_, hAp, rE (cJ2 @mdC.eq_1 fX) ?_⟩
    refine wR0 1200 [4,5,7,8,9,10,81] (cJ3 @mdC.eq_1 @rlC.eq_1 fX) ?_
    refine wF fX ?_
    refine wR0 1400 [4,5,7,8,10,82,83,84] fX ?_
    refine wL ?_
    refine qa4 [4, 5, 7, 8, 10, 82, 83, 84] ?_
    refine qdx g d3 i hi xs o.len X hgood (by omega) ht3 hm3 0 _ _ _ X [] 0 rfl rfl ?_
    ·intro j
     refine wN ?_
     refine wR0 2800 [2] fX ?_
     refine wP ?_
     exact .same rfl
 ·have hb : decide (l.length ≤ 400) = false := decide_eq_false hl
  rw [hb] at hfew
  refine qak fn6 (by simp) ?_
  unfold i6
  simp only [argL]
  refine wR0 0 [0] cJ0 ?_
  refine wRn 100 [0,24] cJ0 ?_
  refine rC cJ0 ?_
  refine ⟨_, qbO, rN cJ0 ?_⟩
  refine rC cJ0 ?_
  refine ⟨_, hfew, rE cJ0 ?_⟩
  refine wT cJ0 ?_
  refine wRn 200 [2] cJ0 ?_
  refine rC cJ0 ?_
  refine ⟨_, qbO, rE cJ0 ?_⟩
  refine wP ?_
  exact .same rfl
end
end Go.Proofs.YtikhhnopcjgjpaaGreat
