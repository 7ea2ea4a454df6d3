/- Contracts of functions of the program, for all arguments that they name. -/
import Derived.Test.YtikhhnopcjgjpaaGreatK23
import Derived.Test.YtikhhnopcjgjpaaGreatK26
import Derived.Test.YtikhhnopcjgjpaaGreatK27
import Derived.Test.YtikhhnopcjgjpaaGreatK28
import Derived.Test.YtikhhnopcjgjpaaGreatK30
import Derived.Test.YtikhhnopcjgjpaaGreatK32
namespace Go.Proofs.YtikhhnopcjgjpaaGreat
set_option linter.unusedVariables false
section
open Go.RowKit
set_option maxHeartbeats 2000000
theorem qsu (c d : UInt8) : (⟨#[c]⟩ : ByteArray) ++ (ByteArray.empty.push d) = nm2 (c, d) := by
 apply ByteArray.ext
 simp [nm2, ByteArray.push, ByteArray.empty, ByteArray.emptyWithCapacity]
 try rfl
theorem qo0 (c : UInt8) (i : Nat) (hi : i ≤ 9) : (⟨#[c]⟩ : ByteArray) ++ qe5 [IntKind.wrap .u8 (48 + (i : Int))] = nm2 (c, UInt8.ofNat (48 + i)) := by
 have e : IntKind.wrap .u8 (48 + (i : Int)) = ((48 + i : Nat) : Int) := by rw [IntKind.wrap_u8]; omega
 rw [e]
 exact qsu c _
def qaD (c : UInt8) (n : Nat) : List ByteArray := (nmP c n).map nm2
theorem qkA (c : UInt8) (n : Nat) : qaD c (n + 1) = qaD c n ++ [nm2 (c, UInt8.ofNat (48 + n))] := by simp [qaD, nmP, List.range_succ]
theorem qbT (c : UInt8) (n : Nat) : (qaD c n).length = n := by simp [qaD, nmP]
def qng (id : Nat) (done : List ByteArray) : T := match done with
 | [] => .nil
 | x :: l => .sl id (l.length + 1) 0 0 (l.length + 1)
def qmG (id ty : Nat) (done : List ByteArray) : List (Nat × Slot) := match done with
 | [] => []
 | x :: l => [(id, .live ⟨ty, qan (x :: l)⟩)]
theorem qm7 (c : UInt8) (n : Nat) (hn : n ≤ 9) (Q : IExit → (Nat → T) → Heap → Prop)
 (hQ : ∀ i : Int, Q (.exit 0) (ofL [(0, .str ⟨#[c]⟩), (1, .int .i64 n), (5, qng 409 (qaD c n)), (6, .int .i64 i), (9, .bool false)]) (hpL (qmG 409 9 (qaD c n)))) :
 ∀ (k i : Nat), i + k = n → WL Tryz.prog 23 qkl (ofL [(0, .str ⟨#[c]⟩), (1, .int .i64 n), (5, qng 409 (qaD c i)), (6, .int .i64 i)]) (hpL (qmG 409 9 (qaD c i))) Q := by
 intro k
 induction k with
 | zero =>
  intro i hi
  have hd : decide ((i : Int) < (n : Int)) = false := decide_eq_false (by omega)
  have e : i = n := by omega
  subst e
  have fX := @hd
  refine qaa qkl.eq_1 ?_
  refine wR0 300 [0,1,5,6,9] fX ?_
  refine wF @hd ?_
  refine wX ?_
  refine wN ?_
  exact hQ _
 | succ k ih =>
  intro i hi
  have hd : decide ((i : Int) < (n : Int)) = true := decide_eq_true (by omega)
  have hw : IntKind.wrap .i64 ((i : Int) + 1) = ((i + 1 : Nat) : Int) := by rw [wrap64 (by omega) (by omega)]; rfl
  have hw48 : IntKind.wrap .i64 (48 + (i : Int)) = 48 + (i : Int) := wrap64 (by omega) (by omega)
  have hnb := qo0 c i (by omega)
  have hsz : (⟨#[c]⟩ : ByteArray).size = 1 := rfl
  have hbz : (qe5 [IntKind.wrap .u8 (48 + (i : Int))]).size = 1 := rfl
  have hQ' := ih (i + 1) (by omega)
  have h11 : 1 + 1 ≤ 1000000 := by omega
  have hll := qbT c i
  rw [qkA] at hQ'
  rcases hnm : qaD c i with _ | ⟨z, l⟩
  ·rw [hnm] at hQ'
   simp only [qng, qmG, List.nil_append] at hQ' ⊢
   have fX := (cJ8 @hd @hw @hw48 @qaz @binS.eq_1 @binS.eq_2 @binS.eq_3 (cJ8 @req.eq_34 @req.eq_35 @req.eq_36 @req.eq_37 @Req.run.eq_1 @Req.run.eq_8 @Req.run.eq_9 (cJ7 @Req.run.eq_10 @Req.run.eq_11 @qbH.eq_1 @qbH.eq_2 @hsz @hbz @hnb)))
   refine qaa qkl.eq_1 ?_
   refine W_gc ?_
   refine wR0 300 [0,1,5,6,9] fX ?_
   refine wT fX ?_
   refine wR0 400 [0,1,5,6] fX ?_
   refine wR0 500 [0,1,5,6] fX ?_
   refine wN ?_
   refine qa1 [409] (by simp [inL]) (by simp [inL, T.cl]) (by simp [qap, inL, Slot.cl, T.cl, clL]) ?_
   simpa [qap, inL, qan] using hQ'
  ·rw [hnm] at hQ' hll
   have hlb : l.length + 1 ≤ 9 := by simp at hll; omega
   have hel : (qan (z :: l)).length = l.length + 1 := by simp [qan]
   simp only [qng, qmG, List.cons_append] at hQ' ⊢
   have fX := (cJ8 @hd @hw @hw48 @qaz @binS.eq_1 @binS.eq_2 @binS.eq_3 (cJ8 @req.eq_34 @req.eq_35 @req.eq_36 @req.eq_37 @Req.run.eq_1 @Req.run.eq_8 @Req.run.eq_9 (cJ8 @Req.run.eq_10 @Req.run.eq_11 @qbH.eq_1 @qbH.eq_2 @hsz @hbz @hnb @hel)))
   refine qaa qkl.eq_1 ?_
   refine W_gc ?_
   refine wR0 300 [0,1,5,6,9] fX ?_
   refine wT fX ?_
   refine wR0 400 [0,1,5,6] fX ?_
   refine wR0 500 [0,1,5,6] fX ?_
   refine wN ?_
   refine qa1 [409] (by simp [inL]) (by simp [inL, T.cl]) (by simp [qap, inL, Slot.cl, T.cl, clL, qaw]) ?_
   simpa [qap, inL, qan] using hQ'
theorem qmj (c : UInt8) (n : Nat) (hn : n ≤ 9) : TP Tryz.prog 28 [.str ⟨#[c]⟩, .int .i64 n] (.list (qan (qaD c n))) := by
 have hlp := fun Q hQ => qm7 c n hn Q hQ n 0 (by omega)
 refine qak fn28 (by simp) ?_
 unfold i28
 simp only [argL]
 refine wR0 0 [0,1] cJ0 ?_
 refine wR0 100 [0,1,5] cJ0 ?_
 refine wR0 200 [0,1,5,6] cJ0 ?_
 refine wL ?_
 refine hlp _ ?_
 ·intro i
  refine wN ?_
  refine wN ?_
  rcases hnm : qaD c n with _ | ⟨z, l⟩
  ·skip
   refine wN ?_
   simp only [qng, qmG]
   refine wR0 600 [4] cJ0 ?_
   refine wP ?_
   first | exact .nil | exact qgb (z :: l) rfl rfl rfl
  ·skip
   refine wN ?_
   simp only [qng, qmG]
   refine wR0 600 [4] cJ0 ?_
   refine wP ?_
   first | exact .nil | exact qgb (z :: l) rfl rfl rfl
def qdQ (m : Md) : Nat := if m.kind = 4 ∨ m.kind = 5 then 1 else m.places.length
def qbJ (m : Md) : V := .mk 0 (qeJ (0 :: List.replicate (qdQ m) 0))
theorem qpw (i : Nat) : qcI (0 :: List.replicate (i + 1) 0) = qcI (0 :: List.replicate i 0) ++ [.int .i64 0, .nil] := by
 rw [List.replicate_succ', ← List.cons_append, qhw]
theorem qmC (i : Nat) : (qcI (0 :: List.replicate i 0)).length = (i + 1) * 2 := by rw [qeW]; simp
theorem qmD (m : Md) (n : Nat) (hn : n ≤ 1000) (Q : IExit → (Nat → T) → Heap → Prop)
 (hQ : ∀ i : Int, Q (.exit 0) (ofL [(2, .ref 1 2 0), (3, .ref 103 2 0), (4, .int .i64 n), (5, .int .i64 i), (22, .bool false)]) (hpL [(0, sM m), (1, .live ⟨25, [.int .i64 0, .nil]⟩), (101, .live ⟨25, qcI (0 :: List.replicate n 0)⟩), (103, .live ⟨25, [.int .i64 0, .sl 101 ((n + 1) * 2) 2 0 (n + 1)]⟩)])) :
 ∀ (k i : Nat), i + k = n → WL Tryz.prog 32 qms (ofL [(2, .ref 1 2 0), (3, .ref 103 2 0), (4, .int .i64 n), (5, .int .i64 i)]) (hpL [(0, sM m), (1, .live ⟨25, [.int .i64 0, .nil]⟩), (101, .live ⟨25, qcI (0 :: List.replicate i 0)⟩), (103, .live ⟨25, [.int .i64 0, .sl 101 ((i + 1) * 2) 2 0 (i + 1)]⟩)]) Q := by
 have hmc : ∀ D, clL D (mdC m) = true := fun D => by simp
 intro k
 induction k with
 | zero =>
  intro i hi
  have hd : decide ((i : Int) < (n : Int)) = false := decide_eq_false (by omega)
  have e : i = n := by omega
  subst e
  have fX := @hd
  refine qaa qms.eq_1 ?_
  refine wR0 600 [2,3,4,5,22] fX ?_
  refine wF @hd ?_
  refine wX ?_
  refine wN ?_
  exact hQ _
 | succ k ih =>
  intro i hi
  have hd : decide ((i : Int) < (n : Int)) = true := decide_eq_true (by omega)
  have hw : IntKind.wrap .i64 ((i : Int) + 1) = ((i + 1 : Nat) : Int) := by rw [wrap64 (by omega) (by omega)]; rfl
  have hQ' := ih (i + 1) (by omega)
  rw [qpw] at hQ'
  have hm2 : (i + 1 + 1) * 2 = (i + 1) * 2 + 2 := by omega
  rw [hm2] at hQ'
  have fX := (cJ4 @hd @hw @qaz @qmC)
  refine qaa qms.eq_1 ?_
  refine W_gc ?_
  refine wR0 600 [2,3,4,5,22] fX ?_
  refine wT fX ?_
  refine wR0 700 [2,3,4,5] fX ?_
  refine wR0 800 [2,3,4,5] fX ?_
  refine wN ?_
  refine qa1 [0, 1, 101, 103] (by simp [inL]) (by simp [inL, T.cl]) (by simp [qap, inL, Slot.cl, T.cl, clL, qaw, qh4, hmc]) ?_
  simpa [qap, inL] using hQ'
theorem qpL (m : Md) (hp : m.places.length ≤ 1000) : TP Tryz.prog 65 [qau m] (encV (qbJ m)) := by
 have hl0 : qcI [0] = [.int .i64 0, .nil] := rfl
 have hsp := qad m.places
 have hlp := fun (n : Nat) (hn : n ≤ 1000) Q hQ => qmD m n hn Q hQ n 0 (by omega)
 have hfin : ∀ (n : Nat) (H : Heap) (ty : TypeId), H 101 = .live ⟨ty, qcI (0 :: List.replicate n 0)⟩ → Frz H (.sl 101 ((n + 1) * 2) 2 0 (n + 1)) (.list (qac (qeJ (0 :: List.replicate n 0)))) := fun n H ty h => qid _ h (by simp) (by simp)
 by_cases hk4 : m.kind = 4
 ·have b4 : (m.kind == 4) = true := by simp [hk4]
  have hn : qdQ m = 1 := by rw [qdQ, if_pos (.inl hk4)]
  rw [qbJ, hn]
  have fX := (cJ3 @b4 @qaz @hsp)
  refine qak fn65 (by simp) ?_
  unfold i65
  simp only [argL, encV, qau, mdC]
  refine wR0 0 [1,2] fX ?_
  refine wR0 100 [1,2,3] fX ?_
  refine wR0 200 [1,2,3,4] fX ?_
  refine wR0 300 [2,3,4,19] fX ?_
  refine wT fX ?_
  refine wR0 400 [2,3,4] fX ?_
  refine wR0 500 [2,3,4,5] fX ?_
  refine wL ?_
  refine hlp 1 (by omega) _ ?_
  ·intro i
   refine wN ?_
   refine wR0 900 [2] fX ?_
   refine wP ?_
   exact qaV (hfin 1 _ _ rfl) rfl
 ·have b4 : (m.kind == 4) = false := by simpa using hk4
  by_cases hk5 : m.kind = 5
  ·have b5 : (m.kind == 5) = true := by simp [hk5]
   have hn : qdQ m = 1 := by rw [qdQ, if_pos (.inr hk5)]
   rw [qbJ, hn]
   have fX := (cJ4 @b4 @b5 @qaz @hsp)
   refine qak fn65 (by simp) ?_
   unfold i65
   simp only [argL, encV, qau, mdC]
   refine wR0 0 [1,2] fX ?_
   refine wR0 100 [1,2,3] fX ?_
   refine wR0 200 [1,2,3,4] fX ?_
   refine wR0 300 [2,3,4,19] fX ?_
   refine wT fX ?_
   refine wR0 400 [2,3,4] fX ?_
   refine wR0 500 [2,3,4,5] fX ?_
   refine wL ?_
   refine hlp 1 (by omega) _ ?_
   ·intro i
    refine wN ?_
    refine wR0 900 [2] fX ?_
    refine wP ?_
    exact qaV (hfin 1 _ _ rfl) rfl
  ·have b5 : (m.kind == 5) = false := by simpa using hk5
   have hn : qdQ m = m.places.length := by rw [qdQ, if_neg (by omega)]
   rw [qbJ, hn]
   have fX := (cJ4 @b4 @b5 @qaz @hsp)
   refine qak fn65 (by simp) ?_
   unfold i65
   simp only [argL, encV, qau, mdC]
   refine wR0 0 [1,2] fX ?_
   refine wR0 100 [1,2,3] fX ?_
   refine wR0 200 [1,2,3,4] fX ?_
   refine wR0 300 [2,3,4,19] fX ?_
   refine wF fX ?_
   refine wR0 500 [2,3,4,5] fX ?_
   refine wL ?_
   refine hlp m.places.length hp _ ?_
   ·intro i
    refine wN ?_
    refine wR0 900 [2] fX ?_
    refine wP ?_
    exact qaV (hfin m.places.length _ _ rfl) rfl
def qc2 (m : Md) (st : V) : Md := { m with rules := [], start := st }
def qcG (m : Md) : Ty := if qaI (qc2 m m.start) = 0 then qaF m else if qaI (qc2 m (qbJ m)) = 0 then qaF m else .mk 1 0 [] []
theorem qiE {m : Md} (hm : m.fit) {st : V} (hs : st.fit) : (qc2 m st).fit :=
 ⟨hm.states, hm.places, hm.letters, hm.ranks, by simp [qc2], fun r hr => by simp [qc2] at hr, hs, hm.names, hm.kd⟩
theorem qjU {m : Md} (hm : m.fit) : (qbJ m).fit := by
 have := hm.places
 simp only [qbJ, V.fit]
 refine ⟨?_, qdv fun v hv => ?_⟩
 ·rw [qki]; simp [qdQ]; split <;> omega
 ·obtain ⟨w, _, rfl⟩ := List.mem_map.1 hv
  simp [V.fit, fitL]
abbrev sB (m : Md) (st : V) : Slot := .live ⟨34, [.int .i64 m.kind, .list (qan m.states), .list (qan m.places), .list (qan m.letters), .list (qaf m.ranks), .int .i64 m.levels, .int .i64 m.age, .nil, .int .i64 st.n, .list (qac st.kids)]⟩
abbrev sY : Slot := .live ⟨54, [.int .i64 0, .int .i64 0, .nil, .nil]⟩
theorem qdq (m : Md) (st : V) (hm : m.fit) (hs : st.fit) (i : Nat) (hi : i < 2) (Q : IExit → (Nat → T) → Heap → Prop)
 (h0 : qaI (qc2 m st) = 0 → Q .ret (ofL [(2, .ref 1 4 0)]) (hpL [(0, sM m), (1, .live ⟨54, (qal (qaF m)).cells⟩), (101, sB m st), (505, .live ⟨54, (qal (qaF m)).cells⟩)]))
 (h1 : qaI (qc2 m st) ≠ 0 → WL Tryz.prog 25 qgY (ofL [(2, .ref 1 4 0), (3, .ref 101 10 0), (4, .int .i64 ((i + 1 : Nat) : Int))]) (hpL [(0, sM m), (1, sY), (101, sB m (qbJ m))]) Q) :
 WL Tryz.prog 25 qgY (ofL [(2, .ref 1 4 0), (3, .ref 101 10 0), (4, .int .i64 i)]) (hpL [(0, sM m), (1, sY), (101, sB m st)]) Q := by
 have hmc : ∀ D, clL D (mdC m) = true := fun D => by simp
 have hd : decide ((i : Int) < 2) = true := decide_eq_true (by omega)
 have hw : IntKind.wrap .i64 ((i : Int) + 1) = ((i + 1 : Nat) : Int) := by rw [wrap64 (by omega) (by omega)]; rfl
 have ht := qpX (qc2 m st) (qiE hm hs)
 have hl := qpL (qc2 m st) hm.places
 have el : qbJ (qc2 m st) = qbJ m := rfl
 rw [el] at hl
 rcases hlv : qbJ m with ⟨l0, lks⟩
 rw [hlv] at hl h1
 simp only [encV] at hl
 by_cases hc : qaI (qc2 m st) = 0
 ·have et : qjj (qc2 m st) = (qaF m, 0) := by rw [qjj, if_pos hc]; rfl
  rw [et] at ht
  have h0' := h0 hc
  rcases hty : qaF m with ⟨tk, ts, trs, tps⟩
  rw [hty] at ht h0'
  simp only [qal] at ht h0'
  have fX := (cJ2 @hd @hw)
  refine qaa qgY.eq_1 ?_
  refine W_gc ?_
  refine wR0 400 [2,3,4,10] fX ?_
  refine wT fX ?_
  refine wRn 500 [2,3,4,5,6] fX ?_
  refine rG [] fX ?_
  refine ⟨_, _, ht, (by (exact .cons (.aggL (.cons (.same rfl) (.cons (.same (by simp [T.cl])) (.cons (.same (by simp [T.cl])) (.cons (.same (by simp [T.cl])) (.cons (.same (by simp [T.cl, qat])) (.cons (.same rfl) (.cons (.same rfl) (.cons .nil (.cons (.same rfl) (.cons (.same (by simp [T.cl, qam])) .nil)))))))))) rfl) .nil)), rE fX ?_⟩
  refine wR0 600 [2,3,4,5,19] fX ?_
  refine wT fX ?_
  refine wR0 700 [2] fX ?_
  refine wE ?_
  refine wN ?_
  exact h0'
 ·have et : qjj (qc2 m st) = (.mk 0 0 [] [], qaI (qc2 m st)) := by rw [qjj, if_neg hc]
  rw [et] at ht
  have hcb : (qaI (qc2 m st) == 0) = false := by simpa using hc
  have h1' := h1 hc
  simp only [qal, qah, qas] at ht
  have fX := (cJ3 @hd @hw @hcb)
  refine qaa qgY.eq_1 ?_
  refine W_gc ?_
  refine wR0 400 [2,3,4,10] fX ?_
  refine wT fX ?_
  refine wRn 500 [2,3,4,5,6] fX ?_
  refine rG [] fX ?_
  refine ⟨_, _, ht, (by (exact .cons (.aggL (.cons (.same rfl) (.cons (.same (by simp [T.cl])) (.cons (.same (by simp [T.cl])) (.cons (.same (by simp [T.cl])) (.cons (.same (by simp [T.cl, qat])) (.cons (.same rfl) (.cons (.same rfl) (.cons .nil (.cons (.same rfl) (.cons (.same (by simp [T.cl, qam])) .nil)))))))))) rfl) .nil)), rE fX ?_⟩
  refine wR0 600 [2,3,4,5,19] fX ?_
  refine wF fX ?_
  refine wRn 800 [2,3,4] fX ?_
  refine rG [] fX ?_
  refine ⟨_, _, hl, (by (exact .cons (.aggL (.cons (.same rfl) (.cons (.same (by simp [T.cl])) (.cons (.same (by simp [T.cl])) (.cons (.same (by simp [T.cl])) (.cons (.same (by simp [T.cl, qat])) (.cons (.same rfl) (.cons (.same rfl) (.cons .nil (.cons (.same rfl) (.cons (.same (by simp [T.cl, qam])) .nil)))))))))) rfl) .nil)), rE fX ?_⟩
  refine wR0 900 [2,3,4] fX ?_
  refine wN ?_
  refine qa1 [0, 1, 101] (by simp [inL]) (by simp [inL, T.cl]) (by simp [qap, inL, Slot.cl, T.cl, clL, hmc, qat, qam]) ?_
  (simp [qap, inL])
  exact h1'
theorem qom (m : Md) (st : V) (Q : IExit → (Nat → T) → Heap → Prop)
 (hQ : Q (.exit 0) (ofL [(2, .ref 1 4 0), (3, .ref 101 10 0), (4, .int .i64 ((1 + 1 : Nat) : Int)), (10, .bool false)]) (hpL [(0, sM m), (1, sY), (101, sB m st)])) :
 WL Tryz.prog 25 qgY (ofL [(2, .ref 1 4 0), (3, .ref 101 10 0), (4, .int .i64 ((1 + 1 : Nat) : Int))]) (hpL [(0, sM m), (1, sY), (101, sB m st)]) Q := by
 have hd : decide (((1 + 1 : Nat) : Int) < 2) = false := rfl
 have fX := @hd
 refine qaa qgY.eq_1 ?_
 refine wR0 400 [2,3,4,10] fX ?_
 refine wF @hd ?_
 refine wX ?_
 refine wN ?_
 exact hQ
theorem qoQ (m : Md) (hm : m.fit) : TP Tryz.prog 36 [qau m] (qal (qcG m)) := by
 have hfin : ∀ {H : Heap} {x : T} (t : Ty), x = .agg (qal t).cells → Frz H x (qal t) := fun t h => by
  rw [h, qbG]; exact .same (qi5 _ t)
 by_cases h1 : qaI (qc2 m m.start) = 0
 ·have et : qcG m = qaF m := by rw [qcG, if_pos h1]
  rw [et]
  rcases hty : qaF m with ⟨tk, ts, trs, tps⟩
  refine qak fn36 (by simp) ?_
  unfold i36
  simp only [argL, qau, mdC]
  refine wR0 0 [1,2] cJ0 ?_
  refine wR0 100 [2,3] cJ0 ?_
  refine wR0 200 [2,3] cJ0 ?_
  refine wR0 300 [2,3,4] cJ0 ?_
  refine wL ?_
  refine qdq m m.start hm hm.start 0 (by omega) _ (fun _ => ?_) (fun h => absurd h1 h)
  ·skip
   refine wN ?_
   exact ⟨by simp, _, rfl, by (rw [hty]; exact .same (by simp [mkEl, esz, qal, T.cl, T.cells, clL, qat, qbx]))⟩
 ·by_cases h2 : qaI (qc2 m (qbJ m)) = 0
  ·have et : qcG m = qaF m := by rw [qcG, if_neg h1, if_pos h2]
   rw [et]
   rcases hty : qaF m with ⟨tk, ts, trs, tps⟩
   refine qak fn36 (by simp) ?_
   unfold i36
   simp only [argL, qau, mdC]
   refine wR0 0 [1,2] cJ0 ?_
   refine wR0 100 [2,3] cJ0 ?_
   refine wR0 200 [2,3] cJ0 ?_
   refine wR0 300 [2,3,4] cJ0 ?_
   refine wL ?_
   refine qdq m m.start hm hm.start 0 (by omega) _ (fun h => absurd h h1) (fun _ => qdq m (qbJ m) hm (qjU hm) 1 (by omega) _ (fun _ => ?_) (fun h => absurd h2 h))
   ·skip
    refine wN ?_
    exact ⟨by simp, _, rfl, by (rw [hty]; exact .same (by simp [mkEl, esz, qal, T.cl, T.cells, clL, qat, qbx]))⟩
  ·have et : qcG m = .mk 1 0 [] [] := by rw [qcG, if_neg h1, if_neg h2]
   rw [et]
   refine qak fn36 (by simp) ?_
   unfold i36
   simp only [argL, qau, mdC]
   refine wR0 0 [1,2] cJ0 ?_
   refine wR0 100 [2,3] cJ0 ?_
   refine wR0 200 [2,3] cJ0 ?_
   refine wR0 300 [2,3,4] cJ0 ?_
   refine wL ?_
   refine qdq m m.start hm hm.start 0 (by omega) _ (fun h => absurd h h1) (fun _ => qdq m (qbJ m) hm (qjU hm) 1 (by omega) _ (fun h => absurd h h2) (fun _ => qom m (qbJ m) _ ?_))
   ·skip
    refine wN ?_
    refine wR0 1000 [2] cJ0 ?_
    refine wP ?_
    exact .aggL (.cons (.same rfl) (.cons (.same rfl) (.cons .nil (.cons .nil .nil)))) rfl
def cfM (m : Md) : Md := qc2 m v0
theorem qgK (m : Md) (d : Dk) (hm : m.fit) (hv : qar (qcG (cfM m)) 8 = true) (hf : (qcG (cfM m)).fit) (hd : d.ok) :
 ∃ (v : V) (d' : Dk), v.fit ∧ (qko (qcG (cfM m)) → qa3 (qcG (cfM m)) v = true) ∧ d'.ok ∧ TC Tryz.prog 14 [dkR, qau m] (hpL [(99999, dkB d)]) (encV v) (hpL [(99999, dkB d')]) := by
 have ht := qoQ (cfM m) (qiE hm (by simp [v0, V.fit, fitL]))
 obtain ⟨⟨a, bs⟩, d', h1, h2, h3, h4⟩ := qpV (qcG (cfM m)) d hf hv hd
 refine ⟨.mk a bs, d', h1, h2, h3, ?_⟩
 rcases hty : qcG (cfM m) with ⟨tk, ts, trs, tps⟩
 rw [hty] at ht h4
 simp only [qal, encV] at ht h4
 refine qbI fn14 (by simp) ?_
 unfold i14
 simp only [argL, encV, qau, mdC]
 refine wR0 0 [0,3,4] cJ0 ?_
 refine wR0 100 [0,4,5] cJ0 ?_
 refine wR0 200 [0,4,5] cJ0 ?_
 refine wR0 300 [0,4,5] cJ0 ?_
 refine wRn 400 [4] cJ0 ?_
 refine rG [] cJ0 ?_
 refine ⟨_, _, ht, (by (exact .cons (.aggL (.cons (.same rfl) (.cons (.same (by simp [T.cl])) (.cons (.same (by simp [T.cl])) (.cons (.same (by simp [T.cl])) (.cons (.same (by simp [T.cl, qat])) (.cons (.same rfl) (.cons (.same rfl) (.cons .nil (.cons (.same rfl) (.cons .nil .nil)))))))))) rfl) .nil)), rN cJ0 ?_⟩
 refine rU [(99999, dkB d)] [(99999, dkB d')] cJ0 ?_
 refine ⟨_, h4.full1, rE cJ0 ?_⟩
 refine wE ?_
 refine wN ?_
 exact ⟨by simp, _, _, _, rfl, rfl, .same (by simp [mkEl, esz, T.cl, clL, qam]), .keep rfl (qaJ _) (.dead rfl (fun h => by cases h) (.dead rfl (fun h => by cases h) (.dead rfl (fun h => by cases h) .nil))), rfl⟩
end
section
open Go.RowKit
theorem qdK (m : Md) (hk : m.kind = 5) (h1 : 1 ≤ m.states.length ∧ m.states.length ≤ 8) (h2 : 1 ≤ m.places.length ∧ m.places.length ≤ 6) (h3 : 0 ≤ m.age ∧ m.age ≤ 3) : qar (qaF m) 8 = true := by
 rw [qim hk]
 simp [qaZ, qbf, qaN, qar, qaW]
 omega
theorem qf8 (m : Md) (hk : m.kind = 5) : qko (qaF m) := by
 rw [qim hk]
 refine ⟨_, rfl, fun p hp => ?_⟩
 simp only [List.mem_cons, List.not_mem_nil, or_false] at hp
 rcases hp with rfl | rfl <;> simp [qaN, qbf, Ty.k]
theorem qry (m : Md) (hk : m.kind = 5) : qbJ m = cfgV 0 [] := by
 simp [qbJ, qdQ, hk, qeJ, cfgV, tokL]
def nmL (n1 n2 : Nat) (js : List Nat) : List (UInt8 × UInt8) := nmP 113 n1 ++ nmP 112 n2 ++ js.map fun j => (114, UInt8.ofNat (48 + j))
theorem qqF (n1 n2 : Nat) (js : List Nat) (h1 : n1 ≤ 9) (h2 : n2 ≤ 9) (hj : ∀ j ∈ js, j ≤ 9) : ∀ x ∈ nmL n1 n2 js, qmA x = true := by
 have hg : ∀ (c : UInt8) (i : Nat), 97 ≤ c.toNat → c.toNat ≤ 122 → i ≤ 9 → qmA (c, UInt8.ofNat (48 + i)) = true := fun c i h1 h2 hi => by
  have e : (UInt8.ofNat (48 + i)).toNat = 48 + i := by simp [UInt8.toNat_ofNat']; omega
  simp only [qmA, e, Bool.and_eq_true, decide_eq_true_eq]
  omega
 intro x hx
 simp only [nmL, nmP, List.mem_append, List.mem_map, List.mem_range] at hx
 rcases hx with (⟨i, hi, rfl⟩ | ⟨i, hi, rfl⟩) | ⟨j, hjm, rfl⟩
 ·exact hg _ i (by decide) (by decide) (by omega)
 ·exact hg _ i (by decide) (by decide) (by omega)
 ·exact hg _ j (by decide) (by decide) (hj j hjm)
theorem qqT {i j : Nat} (hi : i ≤ 9) (hj : j ≤ 9) (h : UInt8.ofNat (48 + i) = UInt8.ofNat (48 + j)) : i = j := by
 have e1 : (UInt8.ofNat (48 + i)).toNat = 48 + i := by simp [UInt8.toNat_ofNat']; omega
 have e2 : (UInt8.ofNat (48 + j)).toNat = 48 + j := by simp [UInt8.toNat_ofNat']; omega
 have := congrArg UInt8.toNat h
 omega
theorem qoG (n1 n2 : Nat) (js : List Nat) (h1 : n1 ≤ 9) (h2 : n2 ≤ 9) (hj : ∀ j ∈ js, j ≤ 9) (hn : js.Nodup) : (nmL n1 n2 js).Nodup := by
 have hnp : ∀ (c : UInt8) (l : List Nat), (∀ j ∈ l, j ≤ 9) → l.Nodup → (l.map fun j => (c, UInt8.ofNat (48 + j))).Nodup := fun c l hl hn => by
  rw [List.nodup_iff_pairwise_ne, List.pairwise_map]
  refine (List.nodup_iff_pairwise_ne.1 hn).imp_of_mem fun {a b} ha hb hab e => ?_
  simp only [Prod.mk.injEq, true_and] at e
  exact hab (qqT (hl a ha) (hl b hb) e)
 rw [nmL, List.nodup_append, List.nodup_append]
 refine ⟨⟨hnp _ _ (fun j hj => by simp at hj; omega) List.nodup_range, hnp _ _ (fun j hj => by simp at hj; omega) List.nodup_range, ?_⟩, hnp _ _ hj hn, ?_⟩
 ·intro a ha b hb e
  simp only [nmP, List.mem_map, List.mem_range] at ha hb
  obtain ⟨i, _, rfl⟩ := ha
  obtain ⟨k, _, rfl⟩ := hb
  simp at e
 ·intro a ha b hb e
  simp only [nmP, List.mem_append, List.mem_map, List.mem_range] at ha hb
  obtain ⟨k, _, rfl⟩ := hb
  rcases ha with ⟨i, _, rfl⟩ | ⟨i, _, rfl⟩ <;> simp at e
structure Tm (m : Md) : Prop where
 kind : m.kind = 5
 n1 : 1 ≤ m.states.length ∧ m.states.length ≤ 3
 n2 : 1 ≤ m.places.length ∧ m.places.length ≤ 3
 age : 0 ≤ m.age ∧ m.age ≤ 2
 letters : m.letters = []
 ranks : m.ranks = []
 levels : m.levels = 0
 sts : m.states = qaD 113 m.states.length
 pls : m.places = qaD 112 m.places.length
theorem Tm.sized {m : Md} (h : Tm m) (hr : m.rules.length ≤ 12) : qa2 m = true ∧ qcC m = true ∧ btw m.kind 1 6 = true := by
 have hl : limC m.kind = [1, 6, 0, 0, 0, 0, 0, 3] := by rw [h.kind]; rfl
 have := h.n1; have := h.n2; have := h.age
 refine ⟨?_, ?_, ?_⟩
 ·simp [qa2, btw, hl, h.letters, h.levels]; omega
 ·simp [qcC, h.kind, h.ranks]
 ·simp [btw, h.kind]
theorem Tm.check {m : Md} (h : Tm m) (hr : m.rules.length ≤ 12) (hok : ∀ r ∈ m.rules, qbk m r = true) (js : List Nat) (hjs : m.rules.map (·.name) = js.map fun j => nm2 (114, UInt8.ofNat (48 + j))) (hj9 : ∀ j ∈ js, j ≤ 9) (hjn : js.Nodup) :
 qaI m = if qa3 (qaF m) m.start = true then 0 else 17 := by
 obtain ⟨h1, h2, h3⟩ := h.sized hr
 have h4 : qeN m = true := by
  have e : qba m = (nmL m.states.length m.places.length js).map nm2 := by
   rw [qba, h.letters, hjs, List.append_nil, nmL, List.map_append, List.map_append, List.map_map]
   conv => lhs; rw [h.sts, h.pls]
   rfl
  rw [qeN, e]
  have := h.n1; have := h.n2
  exact qow _ [] (by simpa using qoG _ _ js (by omega) (by omega) hj9 hjn) (qqF _ _ js (by omega) (by omega) hj9)
 have h5 : (m.rules.any fun r => !qbk m r) = false := by
  rw [List.any_eq_false]
  intro r hm
  simp [hok r hm]
 have h6 : qbl m = qa3 (qaF m) m.start := by rw [qbl, if_neg (by rw [h.kind]; omega)]
 rw [qaI, h1, h2, h3, h4, h5, h6]
 simp
 rcases qa3 (qaF m) m.start with _ | _ <;> simp
theorem Tm.bare {m : Md} (h : Tm m) (st : V) : qaI (qc2 m st) = if qa3 (qaF m) st = true then 0 else 17 :=
 Tm.check (m := qc2 m st) ⟨h.kind, h.n1, h.n2, h.age, h.letters, h.ranks, h.levels, h.sts, h.pls⟩ (by simp [qc2]) (by simp [qc2]) [] rfl (by simp) List.nodup_nil
theorem Tm.least {m : Md} (h : Tm m) : qa3 (qaF m) (qbJ m) = true := by
 have := h.n1; have := h.n2; have := h.age
 rw [qry m h.kind, qa3, Bool.and_eq_true, Bool.and_eq_true]
 refine ⟨⟨?_, ?_⟩, ?_⟩
 ·simp [qbo, qdK m h.kind (by omega) (by omega) (by omega)]
 ·simpa using qiY 0 [] (by simp)
 ·exact (qiq h.kind _).2 ⟨0, [], rfl, by omega, by omega, by simp, by simp, rfl⟩
theorem Tm.typeF {m : Md} (h : Tm m) : qcG m = qaF m := by
 rw [qcG]
 split
 ·rfl
 ·have := h.bare (qbJ m)
  rw [if_pos h.least] at this
  rw [if_pos this]
theorem Tm.cf {m : Md} (h : Tm m) : Tm (cfM m) := ⟨h.kind, h.n1, h.n2, h.age, h.letters, h.ranks, h.levels, h.sts, h.pls⟩
theorem Tm.right {m : Md} (h : Tm m) {r : Rl} (hr : qmU m r) (nm : ByteArray) : qbk m { r with name := nm } = true := by
 obtain ⟨f, t, ks, ms, rfl, hf, ht, hk, hko, hm⟩ := hr
 have hks : (ks.any fun k => qfR m.places.length m.age k) = false := by
  rw [List.any_eq_false]
  intro k hk
  obtain ⟨a1, a2, a3, a4, a5⟩ := hko k hk
  simp [qfR, btw]; omega
 have hk2 : m.kind ≠ 1 ∧ ¬ (m.kind = 2 ∨ m.kind = 3) ∧ m.kind ≠ 4 := by rw [h.kind]; decide
 have hms : ascI ms = true ∧ (ms.all fun x => btw x 0 ((m.places.length : Int) - 1)) = true ∧ decide ((ms.length : Int) ≤ 3) = true := by
  rcases hm with rfl | ⟨p, rfl, h1, h2⟩
  ·exact ⟨rfl, rfl, rfl⟩
  ·refine ⟨by simp [ascI], ?_, rfl⟩
   simp [btw]; omega
 have hf' : btw f 0 ((m.states.length : Int) - 1) = true := by simp [btw]; omega
 have ht' : btw t 0 ((m.states.length : Int) - 1) = true := by simp [btw]; omega
 have hkl : decide ((ks.length : Int) ≤ 3) = true := decide_eq_true (by omega)
 simp only [qbk, qkt, qlh, qjI, if_neg hk2.1, if_neg hk2.2.1, if_neg hk2.2.2, if_pos h.kind, qkK, qnm, qfq, qeu, hms.1, hms.2.1, hms.2.2, hf', ht', hkl, hks, beq_self_eq_true, Bool.true_or, Bool.and_true, Bool.not_false]
end
end Go.Proofs.YtikhhnopcjgjpaaGreat
