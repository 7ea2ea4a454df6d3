/- Contracts of functions of the program, for all arguments that they name. -/
import Derived.Test.YtikhhnopcjgjpaaGreatK27
namespace Go.Proofs.YtikhhnopcjgjpaaGreat
set_option linter.unusedVariables false
section
open Go.RowKit
set_option maxHeartbeats 2000000
theorem qpa {m : Md} {c : V} (h : qbD m c = 0) : m.kind = 5 ∧ qaI m = 0 ∧ qaT m c = true := by
 unfold qbD at h
 split at h
 ·rename_i h1; exact absurd h h1
 ·rename_i h1
  split at h
  ·cases h
  ·rename_i h2
   split at h
   ·cases h
   ·rename_i h3
    exact ⟨by simpa using h2, by simpa using h1, by simpa using h3⟩
theorem qmi {m : Md} {c : V} (hk : m.kind = 5) (h : qaI m = 0) (hv : qaT m c = true) : qbD m c = 0 := by
 unfold qbD
 rw [if_neg (by simp [h]), if_neg (by simp [hk]), if_neg (by simp [hv])]
def qcz (m : Md) (c : V) : List (Int × Int) × Int := if qbD m c ≠ 0 then ([], qbD m c) else (qm1 c, 0)
def qfS (m : Md) (c : V) : V × Int := if qbD m c ≠ 0 then (v0, qbD m c) else (qco (qlB c) ((qm1 c).map (qbE m)), 0)
theorem qcp (m : Md) (c : V) (hm : m.fit) (hc : c.fit) : TP Tryz.prog 22 [qau m, encV c] (.tup [.list (qax (qcz m c).1), .int .i64 (qcz m c).2]) := by
 have hck := qkd m c hm hc
 by_cases h0 : qbD m c = 0
 ·obtain ⟨hk, hm0, hv⟩ := qpa h0
  obtain ⟨s, xs, rfl, h1, h2, h3, h4, h5⟩ := qeX hk hm0 hv
  have ht := qkL s xs (by omega)
  have hr : qcz m (cfgV s xs) = (xs, 0) := by rw [qcz, if_neg (by simp [h0]), qbL]
  rw [hr]
  rw [h0] at hck
  have hd : ((0 : Int) != 0) = false := rfl
  simp only [cfgV, encV, qac] at hck ht
  rcases xs with _ | ⟨x, l⟩
  ·refine qak fn22 (by simp) ?_
   unfold i22
   simp only [argL, encV, qau, mdC, cfgV, qac]
   refine wR0 0 [2,3] cJ0 ?_
   refine wRn 100 [3,6] cJ0 ?_
   refine rC cJ0 ?_
   refine ⟨_, hck, rE cJ0 ?_⟩
   refine wR0 200 [3,6,11] cJ0 ?_
   refine wF @hd ?_
   refine wRn 400 [4,5] cJ0 ?_
   refine rC cJ0 ?_
   refine ⟨_, ht, rE cJ0 ?_⟩
   refine wP ?_
   exact Frz.tupL (.cons .nil (.cons (.same rfl) .nil))
  ·refine qak fn22 (by simp) ?_
   unfold i22
   simp only [argL, encV, qau, mdC, cfgV, qac]
   refine wR0 0 [2,3] cJ0 ?_
   refine wRn 100 [3,6] cJ0 ?_
   refine rC cJ0 ?_
   refine ⟨_, hck, rE cJ0 ?_⟩
   refine wR0 200 [3,6,11] cJ0 ?_
   refine wF @hd ?_
   refine wRn 400 [4,5] cJ0 ?_
   refine rU [] [(513, .live ⟨50, qbd (x :: l)⟩)] cJ0 ?_
   refine ⟨_, ht, rE cJ0 ?_⟩
   refine wP ?_
   exact Frz.tupL (.cons (qgc (x :: l) rfl rfl rfl) (.cons (.same rfl) .nil))
 ·have hr : qcz m c = ([], qbD m c) := by rw [qcz, if_pos h0]
  have hd : (qbD m c != 0) = true := by simpa using h0
  rw [hr]
  rcases c with ⟨n, ks⟩
  refine qak fn22 (by simp) ?_
  unfold i22
  simp only [argL, encV, qau, mdC]
  refine wR0 0 [2,3] cJ0 ?_
  refine wRn 100 [3,6] cJ0 ?_
  refine rC cJ0 ?_
  refine ⟨_, hck, rE cJ0 ?_⟩
  refine wR0 200 [3,6,11] cJ0 ?_
  refine wT @hd ?_
  refine wR0 300 [4,5] cJ0 ?_
  refine wP ?_
  exact Frz.tupL (.cons .nil (.cons (.same rfl) .nil))
theorem qmS (pre rest : List (Int × Int)) (p a : Int) (n : Nat) (h : pre.length = n) : List.take 1 (List.drop (n * 2 + 1) (qbd (pre ++ (p, a) :: rest))) = [.int .i64 a] := by
 have hl := qbA pre
 rw [h] at hl
 rw [qcq, show n * 2 + 1 = (qbd pre).length + 1 by omega, ← List.drop_drop, List.drop_left]
 rfl
theorem qkP (pre rest : List (Int × Int)) (p a b : Int) (n : Nat) (h : pre.length = n) : List.take (n * 2 + 1) (qbd (pre ++ (p, a) :: rest)) ++ [.int .i64 b] ++ List.drop (n * 2 + 1 + 1) (qbd (pre ++ (p, a) :: rest)) = qbd (pre ++ (p, b) :: rest) := by
 have hl := qbA pre
 rw [h] at hl
 have e1 : List.take (n * 2 + 1) (qbd (pre ++ (p, a) :: rest)) = qbd pre ++ [.int .i64 p] := by
  rw [qcq, show n * 2 + 1 = (qbd pre).length + 1 by omega, List.take_length_add_append]; rfl
 have e2 : List.drop (n * 2 + 1 + 1) (qbd (pre ++ (p, a) :: rest)) = qbd rest := by
  rw [qcq, show n * 2 + 1 + 1 = (qbd pre).length + 2 by omega, ← List.drop_drop, List.drop_left]; rfl
 rw [e1, e2, qcq]
 simp [qbd]
theorem qoR (m : Md) (s : Int) (xs : List (Int × Int)) (N : Nat) (hN : xs.length = N) (hl : N ≤ 1000) (hb : ∀ x ∈ xs, 0 ≤ x.2 ∧ x.2 ≤ 1000) (ha : 0 ≤ m.age ∧ m.age ≤ 1000) (Q : IExit → (Nat → T) → Heap → Prop) : ∀ (rest pre : List (Int × Int)) (n : Nat), pre.length = n → n + rest.length = N → (∀ x ∈ rest, 0 ≤ x.2 ∧ x.2 ≤ 1000) → pre ++ rest.map (qbE m) = xs.map (qbE m) →
 (∀ i : Int, Q (.exit 0) (ofL [(2, .ref 0 10 0), (3, .ref 1 2 0), (4, .ref 2 2 0), (7, .sl 513 (N * 2) 2 0 N), (21, .int .i64 N), (22, .int .i64 i), (23, .bool false)]) (hpL [(0, .live ⟨34, mdC m⟩), (1, .live ⟨25, (encV (cfgV s xs)).cells⟩), (2, .live ⟨25, [.int .i64 0, .nil]⟩), (513, .live ⟨50, qbd (xs.map (qbE m))⟩)])) →
 WL Tryz.prog 52 qjH (ofL [(2, .ref 0 10 0), (3, .ref 1 2 0), (4, .ref 2 2 0), (7, .sl 513 (N * 2) 2 0 N), (21, .int .i64 N), (22, .int .i64 n)]) (hpL [(0, .live ⟨34, mdC m⟩), (1, .live ⟨25, (encV (cfgV s xs)).cells⟩), (2, .live ⟨25, [.int .i64 0, .nil]⟩), (513, .live ⟨50, qbd (pre ++ rest)⟩)]) Q := by
 intro rest
 induction rest with
 | nil =>
  intro pre n hn hr hbr he hQ
  have hd : decide ((n : Int) < (N : Int)) = false := decide_eq_false (by simp at hr; omega)
  simp only [List.map_nil, List.append_nil] at he
  rw [List.append_nil, he]
  have fX := @hd
  refine qaa qjH.eq_1 ?_
  refine wR0 600 [2,3,4,7,21,22,23] fX ?_
  refine wF @hd ?_
  refine wX ?_
  refine wN ?_
  exact hQ _
 | cons k rest ih =>
  intro pre n hn hr hbr he hQ
  rcases k with ⟨p, a⟩
  have hab := hbr (p, a) (by simp)
  simp only at hab
  have hlt : (n : Int) < (N : Int) := by simp at hr; omega
  have hd : decide ((n : Int) < (N : Int)) = true := decide_eq_true hlt
  have hw : IntKind.wrap .i64 ((n : Int) + 1) = ((n + 1 : Nat) : Int) := by rw [wrap64 (by omega) (by omega)]; rfl
  have hw1 : IntKind.wrap .i64 (a + 1) = a + 1 := wrap64 (by omega) (by omega)
  have hw2 : IntKind.wrap .i64 (m.age + 1) = m.age + 1 := wrap64 (by omega) (by omega)
  have hlen : (qbd (pre ++ (p, a) :: rest)).length = N * 2 := by rw [qbA]; simp at hr ⊢; omega
  have ho : ((n : Int)).toNat * 2 + Int.toNat 1 * 1 = n * 2 + 1 := by simp
  have hmn : (if m.age + 1 < a + 1 then m.age + 1 else a + 1) = min (a + 1) (m.age + 1) := by rw [Int.min_def]; split <;> split <;> omega
  have hrd := qmS pre rest p a n hn
  have hwr := qkP pre rest p a (min (a + 1) (m.age + 1)) n hn
  have hQ' := ih (pre ++ [qbE m (p, a)]) (n + 1) (by simp [hn]) (by simp at hr ⊢; omega) (fun x hx => hbr x (List.mem_cons_of_mem _ hx)) (by simpa using he) hQ
  have fX := (cJ8 @hd @hw @hw1 @hw2 @hlen @ho @hrd (cJ2 @hmn @hwr))
  refine qaa qjH.eq_1 ?_
  refine wR0 600 [2,3,4,7,21,22,23] fX ?_
  refine wT fX ?_
  refine wR0 700 [2,3,4,7,8,21,22] fX ?_
  refine wR0 800 [2,3,4,7,21,22] (cJ2 @mdC.eq_1 fX) ?_
  refine wR0 900 [2,3,4,7,21,22] fX ?_
  refine wN ?_
  have e9 : pre ++ (p, min (a + 1) (m.age + 1)) :: rest = (pre ++ [qbE m (p, a)]) ++ rest := (by simp [qbE])
  rw [e9]
  exact hQ'
theorem tick_tp (m : Md) (c : V) (hm : m.fit) (hc : c.fit) : TP Tryz.prog 20 [qau m, encV c] (.tup [encV (qfS m c).1, .int .i64 (qfS m c).2]) := by
 have hck := qkd m c hm hc
 by_cases h0 : qbD m c = 0
 ·obtain ⟨hk, hm0, hv⟩ := qpa h0
  obtain ⟨s, xs, rfl, h1, h2, h3, h4, h5⟩ := qeX hk hm0 hv
  have hbd := qfM hk hm0
  have ht := qkL s xs (by omega)
  have hr : qfS m (cfgV s xs) = (qco s (xs.map (qbE m)), 0) := by rw [qfS, if_neg (by simp [h0]), qbL, qb2]
  have hb := qlp m s (xs.map (qbE m)) hm (by simp; omega)
  rcases hbv : qco s (xs.map (qbE m)) with ⟨b0, bks⟩
  rw [hbv] at hb hr
  rw [hr]
  rw [h0] at hck
  have hd : ((0 : Int) != 0) = false := rfl
  have hmo := qca m
  simp only [encV] at hb
  rcases xs with _ | ⟨x, l⟩
  ·simp only [cfgV, encV, qac, qcB, qcy] at hck ht
   have hl0 : (0 : Int) < (([T.agg [.int .i64 s, .list []], T.agg [.int .i64 0, .list (qac (tokL []))]] : List T).length : Int) := by simp
   have hz0 : ([T.agg [.int .i64 s, .list []], T.agg [.int .i64 0, .list (qac (tokL []))]] : List T).getD (0 : Int).toNat .undef = .agg [.int .i64 s, .list []] := rfl
   refine qak fn20 (by simp) ?_
   unfold i20
   simp only [argL, encV, qau, mdC, cfgV, qac]
   refine wR0 0 [2,3,4] cJ0 ?_
   refine wRn 100 [2,3,4,6] cJ0 ?_
   refine rC cJ0 ?_
   refine ⟨_, hck, rE cJ0 ?_⟩
   refine wR0 200 [2,3,4,6,15] cJ0 ?_
   refine wF @hd ?_
   refine wRn 400 [2,3,4,7] cJ0 ?_
   refine rC cJ0 ?_
   refine ⟨_, ht, rE cJ0 ?_⟩
   refine wR0 500 [2,3,4,7,21,22] cJ0 ?_
   refine wL ?_
   refine qaa qjH.eq_1 ?_
   refine wR0 600 [2,3,4,7,21,22,23] cJ0 ?_
   refine wF (cJ3 @Int.lt_irrefl @decide_false @Int.ofNat_zero) ?_
   refine wX ?_
   refine wRn 1000 [4,9] @hz0 ?_
   refine rG [] @hz0 ?_
   refine ⟨_, _, hb, (by (exact .cons (.same (by simp [T.cl, clL])) (.cons (.same rfl) (.cons .nil .nil)))), rE @hz0 ?_⟩
   refine wR0 1100 [4,5] cJ0 ?_
   refine wP ?_
   exact Frz.tupL (.cons (.same (by simp [mkEl, esz, T.cl, clL, qam])) (.cons (.same rfl) .nil))
  ·have hlen : (x :: l).length ≤ 12 := h3
   have hfl : ((x :: l).map (qbE m)).length = l.length + 1 := by simp
   simp only [cfgV, encV, qac] at hck ht
   have hl0 : (0 : Int) < (([T.agg [.int .i64 s, .list []], T.agg [.int .i64 0, .list (qac (tokL (x :: l)))]] : List T).length : Int) := by simp
   have hz0 : ([T.agg [.int .i64 s, .list []], T.agg [.int .i64 0, .list (qac (tokL (x :: l)))]] : List T).getD (0 : Int).toNat .undef = .agg [.int .i64 s, .list []] := rfl
   refine qak fn20 (by simp) ?_
   unfold i20
   simp only [argL, encV, qau, mdC, cfgV, qac]
   refine wR0 0 [2,3,4] cJ0 ?_
   refine wRn 100 [2,3,4,6] cJ0 ?_
   refine rC cJ0 ?_
   refine ⟨_, hck, rE cJ0 ?_⟩
   refine wR0 200 [2,3,4,6,15] cJ0 ?_
   refine wF @hd ?_
   refine wRn 400 [2,3,4,7] cJ0 ?_
   refine rU [] [(513, .live ⟨50, qbd (x :: l)⟩)] cJ0 ?_
   refine ⟨_, ht, rE cJ0 ?_⟩
   refine wR0 500 [2,3,4,7,21,22] cJ0 ?_
   refine wL ?_
   refine qoR m s (x :: l) (l.length + 1) rfl (by simp at hlen; omega) (fun y hy => by have := h4 y hy; obtain ⟨_, _, a3, a4⟩ := this; omega) (by omega) _ (x :: l) [] 0 rfl (by simp) (fun y hy => by have := h4 y hy; obtain ⟨_, _, a3, a4⟩ := this; omega) rfl ?_
   ·intro i
    refine wN ?_
    simp only [cfgV, encV, qac, T.cells, mdC]
    refine wRn 1000 [4,9] @hz0 ?_
    refine rG [(513, .live ⟨_, _⟩)] @hz0 ?_
    refine ⟨_, _, hb, (by (exact .cons (.same (by simp [T.cl, clL])) (.cons (.same rfl) (.cons (qgc _ rfl (by rw [hfl]) (by rw [hfl])) .nil)))), rE @hz0 ?_⟩
    refine wR0 1100 [4,5] cJ0 ?_
    refine wP ?_
    exact Frz.tupL (.cons (.same (by simp [mkEl, esz, T.cl, clL, qam])) (.cons (.same rfl) .nil))
 ·have hr : qfS m c = (v0, qbD m c) := by rw [qfS, if_pos h0]
  have hd : (qbD m c != 0) = true := by simpa using h0
  rw [hr]
  rcases c with ⟨n, ks⟩
  refine qak fn20 (by simp) ?_
  unfold i20
  simp only [argL, encV, qau, mdC]
  refine wR0 0 [2,3,4] cJ0 ?_
  refine wRn 100 [2,3,4,6] cJ0 ?_
  refine rC cJ0 ?_
  refine ⟨_, hck, rE cJ0 ?_⟩
  refine wR0 200 [2,3,4,6,15] cJ0 ?_
  refine wT @hd ?_
  refine wR0 300 [4,5] cJ0 ?_
  refine wP ?_
  exact Frz.tupL (.cons (.aggL (.cons (.same rfl) (.cons .nil .nil)) rfl) (.cons (.same rfl) .nil))
end
section
open Go.RowKit
set_option maxHeartbeats 2000000
attribute [local simp] qaQ
theorem qk0 (xss : List (List (Int × Int))) (hs : xss.flatten.length ≤ 1000000) (hl : xss.length ≤ 1000000) : TP Tryz.prog 47 [.list (llsP xss)] (.list (qax xss.flatten)) := by
 by_cases h : xss.flatten = []
 ·rw [h]; exact qqn xss hl h
 ·exact (qsp xss hs hl h).pure (qgc xss.flatten rfl rfl (qbA _))
abbrev sM (m : Md) : Slot := .live ⟨34, mdC m⟩
abbrev sR (r : Rl) : Slot := .live ⟨60, rlC r⟩
abbrev sD (made : List (Int × Int)) : Slot := .live ⟨46, [.list (qax made)]⟩
abbrev sO (x : T) : Slot := .live ⟨23, [x]⟩
abbrev sF (b : Bool) : Slot := .live ⟨4, [.bool b]⟩
abbrev sT (t : Tk) : Slot := .live ⟨64, [.int .i64 t.place, .int .i64 t.low, .int .i64 t.high]⟩
abbrev qd3 : List T := [.ref 0 10 0, .ref 1005 14 0, .ref 1300 1 0, .ref 1900 1 0, .ref 2000 1 0]
def stA (m : Md) (r : Rl) (made : List (Int × Int)) (acc : List V) (ok : Bool) : List (Nat × Slot) := [(0, sM m), (1005, sR r), (1300, sD made), (1900, sO (rowT 700 acc)), (2000, sF ok)] ++ rowH 700 25 acc
def bV (r : Rl) (made : List (Int × Int)) (rest : List (Int × Int)) : V := qco r.to_ (rest ++ made)
theorem qrL (m : Md) (r : Rl) (made : List (Int × Int)) (acc : List V) (ok : Bool) (rest : List (Int × Int)) (hm : m.fit) (hl : rest.length + made.length ≤ 1000) (ha : acc.length ≤ 100000) :
 TC Tryz.prog 45 (.list (qax rest) :: qd3) (hpL (stA m r made acc ok)) (.tup []) (hpL (stA m r made (acc ++ [bV r made rest]) (ok && qaT m (bV r made rest)))) := by
 have hcat := qk0 [rest, made] (by simp; omega) (by simp)
 have hb := qlp m r.to_ (rest ++ made) hm (by simp; omega)
 have e1 : [rest, made].flatten = rest ++ made := by simp
 rw [e1] at hcat
 have eb : bV r made rest = qco r.to_ (rest ++ made) := rfl
 rw [eb]
 rcases hbv : qco r.to_ (rest ++ made) with ⟨b0, bks⟩
 rw [hbv] at hb
 simp only [encV] at hb
 simp only [llsP, List.map_cons, List.map_nil] at hcat
 have hmc : ∀ D, clL D (mdC m) = true := fun D => by simp
 have hrc : ∀ D, clL D (rlC r) = true := fun D => by simp
 rcases acc with _ | ⟨a, l⟩
 ·have h9 : TC Tryz.prog 45 (.list (qax rest) :: qd3) (hpL [(0, sM m), (1005, sR r), (1300, sD made), (1900, sO .nil), (2000, sF ok)]) (.tup []) (hpL [(0, sM m), (1005, sR r), (1300, sD made), (1900, sO (.sl 103 2 2 0 1)), (2000, sF (ok && qaT m (.mk b0 bks))), (103, .live ⟨25, [.int .i64 b0, .list (qac bks)]⟩)]) := by
   refine qb6 (l0 := [(0, sM m), (1005, sR r), (1300, sD made), (1900, sO .nil), (2000, sF ok)]) (hl := [(0, sM m), (1005, sR r), (1300, sD made), (1900, sO (.sl 103 2 2 0 1)), (2000, sF (ok && qaT m (.mk b0 bks))), (5, .dead), (11, .live ⟨25, [.int .i64 b0, .list (qac bks)]⟩), (102, .live ⟨25, [.int .i64 b0, .list (qac bks)]⟩), (103, .live ⟨25, [.int .i64 b0, .list (qac bks)]⟩)]) [0, 1005, 1300, 1900, 2000, 103] ?_ (by simp [inL]) (by simp [T.cl, clL]) (by simp [qap, inL, Slot.cl, clL, T.cl, qam])
   cases ok
   all_goals skip
   ·have fX := (cJ4 @qaz @qcF @mdC.eq_1 @rlC.eq_1)
    refine qcg fn45 (by simp) ?_
    unfold i45
    simp only [argL]
    refine wRn 0 [4,5,7,8] fX ?_
    refine rG [(5, .live ⟨_, _⟩)] fX ?_
    refine ⟨_, _, hcat, fZt, rN fX ?_⟩
    refine rC fX ?_
    refine ⟨_, hb, rE fX ?_⟩
    refine wR0 100 [] fX ?_
    exact ⟨by simp, rfl, rfl⟩
   ·have fX := (cJ4 @qaz @qcF @mdC.eq_1 @rlC.eq_1)
    refine qcg fn45 (by simp) ?_
    unfold i45
    simp only [argL]
    refine wRn 0 [4,5,7,8] fX ?_
    refine rG [(5, .live ⟨_, _⟩)] fX ?_
    refine ⟨_, _, hcat, fZt, rN fX ?_⟩
    refine rC fX ?_
    refine ⟨_, hb, rE fX ?_⟩
    refine wR0 100 [] fX ?_
    exact ⟨by simp, rfl, rfl⟩
  have r1 : ∀ σ : Nat → Nat, renL σ (mdC m) = mdC m := fun σ => qbZ _ (mdC_cl _ m)
  have r2 : ∀ σ : Nat → Nat, renL σ (rlC r) = rlC r := fun σ => qbZ _ (rlC_cl _ r)
  have r3 : ∀ σ : Nat → Nat, renL σ (qax made) = qax made := fun σ => qbZ _ (qc9 _ made)
  have r4 : ∀ σ : Nat → Nat, renL σ (qax rest) = qax rest := fun σ => qbZ _ (qc9 _ rest)
  have r5 : ∀ σ : Nat → Nat, renL σ (qac bks) = qac bks := fun σ => qbZ _ (qam _ bks)
  refine qrl [(103, 700)] h9 ?_ ?_ rfl ?_
  ·simp [renL, T.ren, swps, swp, r4]
  ·simp [renL, T.ren, swps, swp, Slot.ren, r1, r2, r3, stA, rowT, rowH]
  ·simp [renL, T.ren, swps, swp, Slot.ren, r1, r2, r3, r5, stA, rowT, rowH, qao, V.n, V.kids]
 ·have hla : l.length + 1 ≤ 100000 := by simpa using ha
  have hs : qao (a :: (l ++ [V.mk b0 bks])) = qao (a :: l) ++ [.int .i64 b0, .list (qac bks)] := qbU (a :: l) (.mk b0 bks)
  have hm2 : (l.length + 1 + 1) * 2 = (l.length + 1) * 2 + 2 := by omega
  simp only [stA, rowT, rowH, List.cons_append, List.nil_append, hs, List.length_append, List.length_cons, List.length_nil, Nat.zero_add, hm2]
  refine qb6 (r := .tup []) (l0 := [(0, sM m), (1005, sR r), (1300, sD made), (1900, sO (.sl 700 ((l.length + 1) * 2) 2 0 (l.length + 1))), (2000, sF ok), (700, .live ⟨25, qao (a :: l)⟩)]) (hl := [(0, sM m), (1005, sR r), (1300, sD made), (1900, sO (.sl 700 ((l.length + 1) * 2 + 2) 2 0 (l.length + 1 + 1))), (2000, sF (ok && qaT m (.mk b0 bks))), (700, .live ⟨25, qao (a :: l) ++ [.int .i64 b0, .list (qac bks)]⟩), (5, .dead), (11, .live ⟨25, [.int .i64 b0, .list (qac bks)]⟩), (102, .live ⟨25, [.int .i64 b0, .list (qac bks)]⟩)]) [0, 1005, 1300, 1900, 2000, 700] ?_ rfl rfl (by simp [qap, inL, Slot.cl, clL, qaw, T.cl, qam])
  cases ok
  ·have fX := (cJ5 @qaz @qcF @mdC.eq_1 @rlC.eq_1 @qaE)
   refine qcg fn45 (by simp) ?_
   unfold i45
   simp only [argL]
   refine wRn 0 [4,5,7,8] fX ?_
   refine rG [(5, .live ⟨_, _⟩)] fX ?_
   refine ⟨_, _, hcat, fZt, rN fX ?_⟩
   refine rC fX ?_
   refine ⟨_, hb, rE fX ?_⟩
   refine wR0 100 [] fX ?_
   exact ⟨by simp, rfl, rfl⟩
  ·have fX := (cJ5 @qaz @qcF @mdC.eq_1 @rlC.eq_1 @qaE)
   refine qcg fn45 (by simp) ?_
   unfold i45
   simp only [argL]
   refine wRn 0 [4,5,7,8] fX ?_
   refine rG [(5, .live ⟨_, _⟩)] fX ?_
   refine ⟨_, _, hcat, fZt, rN fX ?_⟩
   refine rC fX ?_
   refine ⟨_, hb, rE fX ?_⟩
   refine wR0 100 [] fX ?_
   exact ⟨by simp, rfl, rfl⟩
end
end Go.Proofs.YtikhhnopcjgjpaaGreat
