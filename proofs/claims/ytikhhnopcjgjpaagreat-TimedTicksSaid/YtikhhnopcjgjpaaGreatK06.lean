/- Contracts of functions of the program, for all arguments that they name. -/
import Derived.Test.YtikhhnopcjgjpaaGreatK05
namespace Go.Proofs.YtikhhnopcjgjpaaGreat
set_option linter.unusedVariables false
section
open Go.RowKit
set_option maxHeartbeats 2000000
def qaf (l : List Int) : List T := l.map (.int .i64)
theorem qai (l : List Int) : (qaf l).length = l.length := by simp [qaf]
theorem qbK (pre : List Int) (k : Int) (ks : List Int) : (qaf (pre ++ k :: ks)).getD pre.length .undef = .int .i64 k := by
 simp [qaf, List.getD_eq_getElem?_getD]
theorem qat (D : Nat → Bool) (l : List Int) : clL D (qaf l) = true := by
 induction l with
 | nil => rfl
 | cons x l ih => simpa [qaf, clL, T.cl] using ih
inductive Ty where
 | mk (k s : Int) (rs : List Int) (ps : List Ty)
instance : Inhabited Ty := ⟨.mk 0 0 [] []⟩
def Ty.k : Ty → Int | .mk k _ _ _ => k
def Ty.s : Ty → Int | .mk _ s _ _ => s
def Ty.rs : Ty → List Int | .mk _ _ rs _ => rs
def Ty.ps : Ty → List Ty | .mk _ _ _ ps => ps
mutual
def qal : Ty → T
 | .mk k s rs ps => .agg [.int .i64 k, .int .i64 s, .list (qaf rs), .list (qah ps)]
def qah : List Ty → List T
 | [] => []
 | p :: ps => qal p :: qah ps
end
theorem qdo : ∀ ps, qah ps = ps.map qal
 | [] => rfl
 | k :: ps => by simp [qah, qdo ps]
theorem qaj (ps : List Ty) : (qah ps).length = ps.length := by rw [qdo, List.length_map]
theorem qcK (pre : List Ty) (k : Ty) (ps : List Ty) : (qah (pre ++ k :: ps)).getD pre.length .undef = qal k := by
 rw [qdo]; simp [List.getD_eq_getElem?_getD]
theorem qbt (v : Ty) : (qal v).cells.length = 4 := by cases v; rfl
theorem qbG (v : Ty) : T.agg (qal v).cells = qal v := by cases v; rfl
mutual
theorem qi5 (D : Nat → Bool) : ∀ v : Ty, (qal v).cl D = true
 | .mk k s rs ps => by simp [qal, T.cl, clL, qat, qbx D ps]
theorem qbx (D : Nat → Bool) : ∀ ps : List Ty, clL D (qah ps) = true
 | [] => rfl
 | p :: ps => by simp [qah, clL, qi5 D p, qbx D ps]
end
attribute [simp] qcT qam qat qi5 qbx
theorem qeD {p : Ty} {ps : List Ty} (h : p ∈ ps) (k s : Int) (rs : List Int) : SizeOf.sizeOf p < SizeOf.sizeOf (Ty.mk k s rs ps) := by
 have := List.sizeOf_lt_of_mem h
 simp only [Ty.mk.sizeOf_spec]; omega
mutual
def qdR (n : Int) : V → Bool
 | .mk a ks => qe3 n ks && (decide (a ≥ 0) && decide (a < n))
def qe3 (n : Int) : List V → Bool
 | [] => true
 | k :: ks => qdR n k && qe3 n ks
end
theorem qna (N n : Int) (ks : List V) (hl : ks.length ≤ 1000000) (Q : IExit → (Nat → T) → Heap → Prop) : ∀ (rest pre : List V) (i : Nat), ks = pre ++ rest → pre.length = i →
 (∀ k ∈ rest, TP Tryz.prog 145 [.int .i64 n, encV k] (.bool (qdR n k))) →
 (qe3 n rest = true → ∀ i : Int, Q (.exit 0) (ofL [(0, .int .i64 n), (3, .ref 0 2 0), (5, .int .i64 i), (10, .bool false)]) (hpL [(0, .live ⟨25, [.int .i64 N, .list (qac ks)]⟩)])) →
 (qe3 n rest = false → Q .ret (ofL [(4, .bool false)]) (hpL [(0, .live ⟨25, [.int .i64 N, .list (qac ks)]⟩)])) →
 WL Tryz.prog 30 qiV (ofL [(0, .int .i64 n), (3, .ref 0 2 0), (5, .int .i64 i)]) (hpL [(0, .live ⟨25, [.int .i64 N, .list (qac ks)]⟩)]) Q := by
 intro rest
 induction rest with
 | nil =>
  intro pre i he hn hk hQ0 hQ1
  have hd : decide ((i : Int) < ((qac ks).length : Int)) = false := by simp [qag, he, hn]
  refine qaa qiV.eq_1 ?_
  refine wN ?_
  refine wR0 200 [0,3,5,10] @hd ?_
  refine wN ?_
  refine qae (eV cJ0) ?_
  simp only [Bool.false_eq_true, if_false]
  refine wN ?_
  refine qbp ?_
  (try simp only [thn])
  exact hQ0 rfl _
 | cons k rest ih =>
  intro pre i he hn hk hQ0 hQ1
  have hlt : (i : Int) < ((qac ks).length : Int) := by simp [qag, he]; omega
  have hlb : i ≤ 1000000 := by rw [he] at hl; simp at hl; omega
  have hd : decide ((i : Int) < ((qac ks).length : Int)) = true := decide_eq_true hlt
  have hg : (qac ks).getD (i : Int).toNat .undef = encV k := by rw [Int.toNat_natCast, he, ← hn]; exact qa0 _ _ _
  have hw : IntKind.wrap .i64 ((i : Int) + 1) = (i : Int) + 1 := wrap64 (by omega) (by omega)
  refine qaa qiV.eq_1 ?_
  refine wN ?_
  refine wR0 200 [0,3,5,10] @hd ?_
  refine wN ?_
  refine qae (eV cJ0) ?_
  simp only [if_true]
  refine wN ?_
  have fX := (cJ3 @hg @qda @qbX)
  refine wRn 300 [0,3,5,20] fX ?_
  refine rC fX ?_
  refine ⟨_, hk k (List.mem_cons_self ..), rE fX ?_⟩
  refine wN ?_
  by_cases hc : qdR n k = true
  ·have hb : (!qdR n k) = false := by simp [hc]
   refine qae (eV cJ0) ?_
   simp only [hb, Bool.false_eq_true, if_false]
   refine wN ?_
   refine wR0 500 [0,3,5] @hw ?_
   refine wN ?_
   have := ih (pre ++ [k]) (i + 1) (by simp [he]) (by simp; omega) (fun k' hk' => hk k' (List.mem_cons_of_mem _ hk')) (by simpa [qe3, hc] using hQ0) (by simpa [qe3, hc] using hQ1)
   simpa using this
  ·have hb : (!qdR n k) = true := by simp [hc]
   refine qae (eV cJ0) ?_
   simp only [hb, if_true]
   refine wN ?_
   refine wR0 400 [4] cJ0 ?_
   refine wN ?_
   refine qaC ?_
   (try simp only [thn, inB])
   exact hQ1 (by simp [qe3, hc])
theorem ql2 : ∀ (v : V) (n : Int), v.fit → TP Tryz.prog 145 [.int .i64 n, encV v] (.bool (qdR n v))
 | .mk N ks, n, hv => by
  have hv' := V.fit_kids hv
  simp only [V.kids] at hv'
  refine qak fn145 (by simp) ?_
  unfold i145
  simp only [argL, encV]
  refine wN ?_
  refine wR0 0 [0,3] cJ0 ?_
  refine wN ?_
  refine wR0 100 [0,3,5] cJ0 ?_
  refine wN ?_
  refine qbF ?_
  refine qna N n ks hv'.1 _ ks [] 0 rfl rfl (fun k hk => ql2 k n (hv'.2 k hk)) ?_ ?_
  ·intro h i
   simp only [inB, if_true, thn]
   refine wR0 600 [4] cJ0 ?_
   refine wN ?_
   refine qaC ?_
   (try simp only)
   exact ⟨by simp, _, rfl, by simp only [qdR, h, Bool.true_and]; exact .same rfl⟩
  ·intro h
   simp only [inB, thn]
   exact ⟨by simp, _, rfl, by simp only [qdR, h, Bool.false_and]; exact .same rfl⟩
termination_by v => SizeOf.sizeOf v
decreasing_by exact qcJ hk N
def qd0 (x : Int) : Bool := decide (x < 0) || decide (x ≥ 6)
def qdy (l : List Int) : Bool := !l.any qd0 && (decide ((l.length : Int) ≥ 1) && decide ((l.length : Int) ≤ 6))
theorem qm4 (xs : List Int) (hl : xs.length ≤ 1000000) (Q : IExit → (Nat → T) → Heap → Prop) : ∀ (rest pre : List Int) (i : Nat), xs = pre ++ rest → pre.length = i →
 (rest.any qd0 = false → ∀ i : Int, Q (.exit 0) (ofL [(0, .list (qaf xs)), (3, .int .i64 i), (7, .bool false)]) (hpL [])) →
 (rest.any qd0 = true → Q .ret (ofL [(2, .bool false)]) (hpL [])) →
 WL Tryz.prog 30 qis (ofL [(0, .list (qaf xs)), (3, .int .i64 i)]) (hpL []) Q := by
 intro rest
 induction rest with
 | nil =>
  intro pre i he hn hQ0 hQ1
  have hd : decide ((i : Int) < ((qaf xs).length : Int)) = false := by simp [qai, he, hn]
  refine qaa qis.eq_1 ?_
  refine wN ?_
  refine wR0 200 [0,3,7] @hd ?_
  refine wN ?_
  refine qae (eV cJ0) ?_
  simp only [Bool.false_eq_true, if_false]
  refine wN ?_
  refine qbp ?_
  (try simp only [thn])
  exact hQ0 rfl _
 | cons k rest ih =>
  intro pre i he hn hQ0 hQ1
  have hlt : (i : Int) < ((qaf xs).length : Int) := by simp [qai, he]; omega
  have hlb : i ≤ 1000000 := by rw [he] at hl; simp at hl; omega
  have hd : decide ((i : Int) < ((qaf xs).length : Int)) = true := decide_eq_true hlt
  have hg : (qaf xs).getD (i : Int).toNat .undef = .int .i64 k := by rw [Int.toNat_natCast, he, ← hn]; exact qbK _ _ _
  have hw : IntKind.wrap .i64 ((i : Int) + 1) = (i : Int) + 1 := wrap64 (by omega) (by omega)
  refine qaa qis.eq_1 ?_
  refine wN ?_
  refine wR0 200 [0,3,7] @hd ?_
  refine wN ?_
  refine qae (eV cJ0) ?_
  simp only [if_true]
  refine wN ?_
  refine wR0 300 [0,3,21] @hg ?_
  refine wN ?_
  by_cases hc : qd0 k = true
  ·have hb : (decide (k < 0) || decide (k ≥ 6)) = true := hc
   refine qae (eV cJ0) ?_
   simp only [hb, if_true]
   refine wN ?_
   refine wR0 400 [2] cJ0 ?_
   refine wN ?_
   refine qaC ?_
   (try simp only [thn, inB])
   exact hQ1 (by simp [hc])
  ·have hb : (decide (k < 0) || decide (k ≥ 6)) = false := by simpa [qd0] using hc
   refine qae (eV cJ0) ?_
   simp only [hb, Bool.false_eq_true, if_false]
   refine wN ?_
   refine wR0 500 [0,3] @hw ?_
   refine wN ?_
   have := ih (pre ++ [k]) (i + 1) (by simp [he]) (by simp; omega) (by simpa [hc] using hQ0) (by simpa [hc] using hQ1)
   simpa using this
theorem qqQ (xs : List Int) (hl : xs.length ≤ 1000000) : TP Tryz.prog 150 [.list (qaf xs)] (.bool (qdy xs)) := by
 refine qak fn150 (by simp) ?_
 unfold i150
 simp only [argL]
 refine wN ?_
 refine wR0 0 [0] cJ0 ?_
 refine wN ?_
 refine wR0 100 [0,3] cJ0 ?_
 refine wN ?_
 refine qbF ?_
 refine qm4 xs hl _ xs [] 0 rfl rfl ?_ ?_
 ·intro h i
  simp only [inB, if_true, thn]
  refine wR0 600 [2] cJ0 ?_
  refine wN ?_
  refine qaC ?_
  (try simp only)
  exact ⟨by simp, _, rfl, by simp only [qdy, h, Bool.not_false, Bool.true_and, qai]; exact .same rfl⟩
 ·intro h
  simp only [inB, thn]
  exact ⟨by simp, _, rfl, by simp only [qdy, h, Bool.not_true, Bool.false_and]; exact .same rfl⟩
end
section
open Go.RowKit
set_option maxHeartbeats 2000000
theorem qab {H : Heap} {b c : Bool} (h : b = c) : Frz H (.bool b) (.bool c) := h ▸ .same rfl
theorem qaK {H : Heap} {b c : Int} (h : b = c) : Frz H (.int .i64 b) (.int .i64 c) := h ▸ .same rfl
mutual
def Ty.fit : Ty → Prop
 | .mk _ _ rs ps => rs.length ≤ 1000000 ∧ ps.length ≤ 1000000 ∧ qeI ps
def qeI : List Ty → Prop
 | [] => True
 | p :: ps => p.fit ∧ qeI ps
end
theorem qjv : ∀ {ps : List Ty}, qeI ps → ∀ k ∈ ps, k.fit
 | [], _, k, hk => by cases hk
 | x :: ps, h, k, hk => by
  simp only [qeI] at h
  rcases List.mem_cons.1 hk with rfl | hk
  ·exact h.1
  ·exact qjv h.2 k hk
theorem Ty.fit_all {k s : Int} {rs : List Int} {ps : List Ty} (h : (Ty.mk k s rs ps).fit) : rs.length ≤ 1000000 ∧ ps.length ≤ 1000000 ∧ ∀ p ∈ ps, p.fit := by
 simp only [Ty.fit] at h; exact ⟨h.1, h.2.1, qjv h.2.2⟩
mutual
def qar : Ty → Int → Bool
 | .mk k s rs ps, d =>
  if d = 0 then false else if 0 < rs.length ∧ k ≠ 7 then false
  else if k = 1 then (s == 0) && ((ps.length : Int) == 0)
  else if k = 2 ∨ k = 6 then decide (s ≥ 1) && decide (s ≤ 16) && ((ps.length : Int) == 0)
  else if k = 7 then decide (s ≥ 1) && decide (s ≤ 6) && ((ps.length : Int) == 0) && ((rs.length : Int) == s) && qdy rs
  else if k = 4 ∨ k = 5 then (s == 0) && ((ps.length : Int) == 1) && qaW ps (d - 1)
  else if k = 3 then (s == 0) && !decide ((ps.length : Int) < 1) && !decide ((ps.length : Int) > 8) && qaW ps (d - 1)
  else false
def qaW : List Ty → Int → Bool
 | [], _ => true
 | p :: ps, d => qar p d && qaW ps d
end
theorem qj4 (k s d : Int) (rs : List Int) (ps : List Ty) (hd0 : 0 < d) (hd1 : d ≤ 1000) (hl : ps.length ≤ 1000000) (Q : IExit → (Nat → T) → Heap → Prop) : ∀ (rest pre : List Ty) (i : Nat), ps = pre ++ rest → pre.length = i →
 (∀ p ∈ rest, TP Tryz.prog 102 [qal p, .int .i64 (d - 1)] (.bool (qar p (d - 1)))) →
 (qaW rest (d - 1) = true → ∀ i : Int, Q (.exit 1) (ofL [(1, .int .i64 d), (2, .ref 0 4 0), (5, .int .i64 i), (120, .bool false)]) (hpL [(0, .live ⟨54, [.int .i64 k, .int .i64 s, .list (qaf rs), .list (qah ps)]⟩)])) →
 (qaW rest (d - 1) = false → Q .ret (ofL [(4, .bool false)]) (hpL [(0, .live ⟨54, [.int .i64 k, .int .i64 s, .list (qaf rs), .list (qah ps)]⟩)])) →
 WL Tryz.prog 132 qiu (ofL [(1, .int .i64 d), (2, .ref 0 4 0), (5, .int .i64 i)]) (hpL [(0, .live ⟨54, [.int .i64 k, .int .i64 s, .list (qaf rs), .list (qah ps)]⟩)]) Q := by
 intro rest
 induction rest with
 | nil =>
  intro pre i he hn hk hQ0 hQ1
  have hd : decide ((i : Int) < ((qah ps).length : Int)) = false := by simp [qaj, he, hn]
  refine qaa qiu.eq_1 ?_
  refine wN ?_
  refine wR0 1800 [1,2,5,120] @hd ?_
  refine wN ?_
  refine qae (eV cJ0) ?_
  simp only [Bool.false_eq_true, if_false]
  refine wN ?_
  refine qbp ?_
  (try simp only [thn])
  exact hQ0 rfl _
 | cons p rest ih =>
  intro pre i he hn hk hQ0 hQ1
  have hlt : (i : Int) < ((qah ps).length : Int) := by simp [qaj, he]; omega
  have hlb : i ≤ 1000000 := by rw [he] at hl; simp at hl; omega
  have hd : decide ((i : Int) < ((qah ps).length : Int)) = true := decide_eq_true hlt
  have hg : (qah ps).getD (i : Int).toNat .undef = qal p := by rw [Int.toNat_natCast, he, ← hn]; exact qcK _ _ _
  have hw : IntKind.wrap .i64 ((i : Int) + 1) = (i : Int) + 1 := wrap64 (by omega) (by omega)
  have hw2 : IntKind.wrap .i64 (d - 1) = d - 1 := wrap64 (by omega) (by omega)
  refine qaa qiu.eq_1 ?_
  refine wN ?_
  refine wR0 1800 [1,2,5,120] @hd ?_
  refine wN ?_
  refine qae (eV cJ0) ?_
  simp only [if_true]
  refine wN ?_
  have fX := (cJ4 @hg @qbG @qbt @hw2)
  refine wRn 1900 [1,2,5,131] fX ?_
  refine rC fX ?_
  refine ⟨_, hk p (List.mem_cons_self ..), rE fX ?_⟩
  refine wN ?_
  by_cases hc : qar p (d - 1) = true
  ·have hb : (!qar p (d - 1)) = false := by simp [hc]
   refine qae (eV cJ0) ?_
   simp only [hb, Bool.false_eq_true, if_false]
   refine wN ?_
   refine wR0 2100 [1,2,5] @hw ?_
   refine wN ?_
   have := ih (pre ++ [p]) (i + 1) (by simp [he]) (by simp; omega) (fun k' hk' => hk k' (List.mem_cons_of_mem _ hk')) (by simpa [qaW, hc] using hQ0) (by simpa [qaW, hc] using hQ1)
   simpa using this
  ·have hb : (!qar p (d - 1)) = true := by simp [hc]
   refine qae (eV cJ0) ?_
   simp only [hb, if_true]
   refine wN ?_
   refine wR0 2000 [4] cJ0 ?_
   refine wN ?_
   refine qaC ?_
   (try simp only [thn, inB])
   exact hQ1 (by simp [qaW, hc])
set_option maxHeartbeats 4000000 in
theorem qf3 : ∀ (t : Ty) (d : Int), t.fit → 0 ≤ d → d ≤ 1000 → TP Tryz.prog 102 [qal t, .int .i64 d] (.bool (qar t d))
 | .mk k s rs ps, d, ht, h0, h1 => by
  obtain ⟨hf1, hf2, hf3⟩ := Ty.fit_all ht
  refine qak fn102 (by simp) ?_
  unfold i102
  simp only [argL, qal]
  refine wR0 0 [1,2] cJ0 ?_
  refine wN ?_
  by_cases hd0 : d = 0
  ·subst hd0
   refine wR0 100 [1,2,18] cJ0 ?_
   refine wN ?_
   refine qae (eV cJ0) ?_
   simp only [if_true]
   refine wN ?_
   refine wR0 200 [4] cJ0 ?_
   refine wN ?_
   refine qaC ?_
   (try simp only [thn])
   exact ⟨by simp, _, rfl, by exact qab (by simp [qar])⟩
  have hdb : (d == 0) = false := by simp [hd0]
  have hw2 : IntKind.wrap .i64 (d - 1) = d - 1 := wrap64 (by omega) (by omega)
  refine wR0 100 [1,2,18] @hdb ?_
  refine wN ?_
  by_cases hr : 0 < rs.length ∧ k ≠ 7
  ·have hr1 : (decide (((qaf rs).length : Int) > 0) && (k != 7)) = true := by simp [qai, hr.2]; omega
   refine qae (eV cJ0) ?_
   simp only [hr1, if_true]
   refine wN ?_
   refine wR0 200 [4] cJ0 ?_
   refine wN ?_
   refine qaC ?_
   (try simp only [thn])
   exact ⟨by simp, _, rfl, by exact qab (by simp only [qar, if_neg hd0, if_pos hr])⟩
  have hb18 : (decide (((qaf rs).length : Int) > 0) && (k != 7)) = false := by
   simp only [qai, Bool.and_eq_false_iff, decide_eq_false_iff_not, bne_eq_false_iff_eq]
   by_cases h7 : k = 7
   ·exact .inr h7
   ·left; intro hx; exact hr ⟨by omega, h7⟩
  refine qae (eV cJ0) ?_
  simp only [hb18, Bool.false_eq_true, if_false]
  refine wN ?_
  refine wR0 300 [1,2,20] cJ0 ?_
  refine wN ?_
  refine wR0 400 [1,2,20,21] cJ0 ?_
  refine wN ?_
  by_cases k1 : k = 1
  ·subst k1
   refine qae (eV cJ0) ?_
   simp only [if_true]
   refine wN ?_
   refine wR0 500 [4] cJ0 ?_
   refine wN ?_
   refine qaC ?_
   (try simp only [thn, inB])
   exact ⟨by simp, _, rfl, by exact qab (by simp only [qar, if_neg hd0, if_neg hr, qaj, if_true])⟩
  have k1b : (k == 1) = false := by simp [k1]
  refine qae (eV cJ0) ?_
  simp only [k1b, Bool.false_eq_true, if_false]
  refine wN ?_
  by_cases k26 : k = 2 ∨ k = 6
  ·have e26 : (qar (.mk k s rs ps) d) = (decide (s ≥ 1) && decide (s ≤ 16) && ((ps.length : Int) == 0)) := by simp only [qar, if_neg hd0, if_neg hr, if_neg k1, if_pos k26]
   by_cases k2 : k = 2
   ·have k2b : (k == 2) = true := by simp [k2]
    refine wR0 600 [1,2,20,32] cJ0 ?_
    refine wN ?_
    refine qae (eV cJ0) ?_
    simp only [k2b, if_true]
    refine wN ?_
    refine qae (eV cJ0) ?_
    simp only [if_true]
    refine wN ?_
    refine wR0 800 [4] cJ0 ?_
    refine wN ?_
    refine qaC ?_
    (try simp only [thn, inB])
    exact ⟨by simp, _, rfl, by exact qab (by simp only [e26, qaj])⟩
   ·have k2b : (k == 2) = false := by simp [k2]
    have k6b : (k == 6) = true := by rcases k26 with h | h <;> simp [h] at k2 ⊢
    refine wR0 600 [1,2,20,32] cJ0 ?_
    refine wN ?_
    refine qae (eV cJ0) ?_
    simp only [k2b, Bool.false_eq_true, if_false]
    refine wN ?_
    refine wR0 700 [1,2,20,32] cJ0 ?_
    refine wN ?_
    refine qae (eV cJ0) ?_
    simp only [k6b, if_true]
    refine wN ?_
    refine wR0 800 [4] cJ0 ?_
    refine wN ?_
    refine qaC ?_
    (try simp only [thn, inB])
    exact ⟨by simp, _, rfl, by exact qab (by simp only [e26, qaj])⟩
  have k2b : (k == 2) = false := by simp; omega
  have k6b : (k == 6) = false := by simp; omega
  refine wR0 600 [1,2,20,32] cJ0 ?_
  refine wN ?_
  refine qae (eV cJ0) ?_
  simp only [k2b, Bool.false_eq_true, if_false]
  refine wN ?_
  refine wR0 700 [1,2,20,32] cJ0 ?_
  refine wN ?_
  refine qae (eV cJ0) ?_
  simp only [k6b, Bool.false_eq_true, if_false]
  refine wN ?_
  refine wR0 900 [1,2,20,49] cJ0 ?_
  refine wN ?_
  by_cases k7 : k = 7
  ·have e7 : (qar (.mk k s rs ps) d) = (decide (s ≥ 1) && decide (s ≤ 6) && ((ps.length : Int) == 0) && ((rs.length : Int) == s) && qdy rs) := by simp only [qar, if_neg hd0, if_neg hr, if_neg k1, if_neg k26, if_pos k7]
   have k7b : (k == 7) = true := by simp [k7]
   refine qae (eV cJ0) ?_
   simp only [k7b, if_true]
   refine wN ?_
   rcases hall : (decide (s ≥ 1) && decide (s ≤ 6) && (((qah ps).length : Int) == 0) && (((qaf rs).length : Int) == s)) with _ | _
   ·refine wR0 1000 [4] @hall ?_
    refine wN ?_
    refine qaC ?_
    (try simp only [thn, inB])
    exact ⟨by simp, _, rfl, by exact qab (by simp only [e7, qaj, qai] at hall ⊢; simp only [hall, Bool.false_and])⟩
   ·refine wRn 1000 [4] @hall ?_
    refine rC @hall ?_
    refine ⟨_, qqQ rs hf1, rE @hall ?_⟩
    refine wN ?_
    refine qaC ?_
    (try simp only [thn, inB])
    exact ⟨by simp, _, rfl, by exact qab (by simp only [e7, qaj, qai] at hall ⊢; simp only [hall, Bool.true_and])⟩
  have k7b : (k == 7) = false := by simp [k7]
  refine qae (eV cJ0) ?_
  simp only [k7b, Bool.false_eq_true, if_false]
  refine wN ?_
  by_cases k45 : k = 4 ∨ k = 5
  ·have e45 : (qar (.mk k s rs ps) d) = ((s == 0) && ((ps.length : Int) == 1) && qaW ps (d - 1)) := by simp only [qar, if_neg hd0, if_neg hr, if_neg k1, if_neg k26, if_neg k7, if_pos k45]
   by_cases k4 : k = 4
   ·have k4b : (k == 4) = true := by simp [k4]
    refine wR0 1100 [1,2,20,78] cJ0 ?_
    refine wN ?_
    refine qae (eV cJ0) ?_
    simp only [k4b, if_true]
    refine wN ?_
    refine qae (eV cJ0) ?_
    simp only [if_true]
    refine wN ?_
    rcases hall : ((s == 0) && (((qah ps).length : Int) == 1)) with _ | _
    ·refine wR0 1300 [4] @hall ?_
     refine wN ?_
     refine qaC ?_
     (try simp only [thn, inB])
     exact ⟨by simp, _, rfl, by exact qab (by simp only [qaj] at hall; simp only [e45, hall, Bool.false_and])⟩
    ·have hl1 : ps.length = 1 := by simp [qaj] at hall; omega
     obtain ⟨p, hp⟩ := List.length_eq_one_iff.1 hl1
     have hk : p ∈ ps := by simp [hp]
     have hlt : (0 : Int) < ((qah ps).length : Int) := by simp [qaj, hl1]
     have hg : (qah ps).getD (0 : Int).toNat .undef = qal p := by rw [hp]; rfl
     have fX := (cJ5 @hall @hg @qbG @qbt @hw2)
     refine wRn 1300 [4] fX ?_
     refine rC fX ?_
     refine ⟨_, qf3 p (d - 1) (hf3 p hk) (by omega) (by omega), rE fX ?_⟩
     refine wN ?_
     refine qaC ?_
     (try simp only [thn, inB])
     exact ⟨by simp, _, rfl, by exact qab (by simp only [qaj] at hall; rw [e45, hall, Bool.true_and, hp]; simp [qaW])⟩
   ·have k4b : (k == 4) = false := by simp [k4]
    have k5b : (k == 5) = true := by rcases k45 with h | h <;> simp [h] at k4 ⊢
    refine wR0 1100 [1,2,20,78] cJ0 ?_
    refine wN ?_
    refine qae (eV cJ0) ?_
    simp only [k4b, Bool.false_eq_true, if_false]
    refine wN ?_
    refine wR0 1200 [1,2,20,78] cJ0 ?_
    refine wN ?_
    refine qae (eV cJ0) ?_
    simp only [k5b, if_true]
    refine wN ?_
    rcases hall : ((s == 0) && (((qah ps).length : Int) == 1)) with _ | _
    ·refine wR0 1300 [4] @hall ?_
     refine wN ?_
     refine qaC ?_
     (try simp only [thn, inB])
     exact ⟨by simp, _, rfl, by exact qab (by simp only [qaj] at hall; simp only [e45, hall, Bool.false_and])⟩
    ·have hl1 : ps.length = 1 := by simp [qaj] at hall; omega
     obtain ⟨p, hp⟩ := List.length_eq_one_iff.1 hl1
     have hk : p ∈ ps := by simp [hp]
     have hlt : (0 : Int) < ((qah ps).length : Int) := by simp [qaj, hl1]
     have hg : (qah ps).getD (0 : Int).toNat .undef = qal p := by rw [hp]; rfl
     have fX := (cJ5 @hall @hg @qbG @qbt @hw2)
     refine wRn 1300 [4] fX ?_
     refine rC fX ?_
     refine ⟨_, qf3 p (d - 1) (hf3 p hk) (by omega) (by omega), rE fX ?_⟩
     refine wN ?_
     refine qaC ?_
     (try simp only [thn, inB])
     exact ⟨by simp, _, rfl, by exact qab (by simp only [qaj] at hall; rw [e45, hall, Bool.true_and, hp]; simp [qaW])⟩
  have k4b : (k == 4) = false := by simp; omega
  have k5b : (k == 5) = false := by simp; omega
  refine wR0 1100 [1,2,20,78] cJ0 ?_
  refine wN ?_
  refine qae (eV cJ0) ?_
  simp only [k4b, Bool.false_eq_true, if_false]
  refine wN ?_
  refine wR0 1200 [1,2,20,78] cJ0 ?_
  refine wN ?_
  refine qae (eV cJ0) ?_
  simp only [k5b, Bool.false_eq_true, if_false]
  refine wN ?_
  refine wR0 1400 [1,2,99] cJ0 ?_
  refine wN ?_
  by_cases k3 : k = 3
  ·have k3b : (k == 3) = true := by simp [k3]
   have e3 : (qar (.mk k s rs ps) d) = ((s == 0) && !decide ((ps.length : Int) < 1) && !decide ((ps.length : Int) > 8) && qaW ps (d - 1)) := by simp only [qar, if_neg hd0, if_neg hr, if_neg k1, if_neg k26, if_neg k7, if_neg k45, if_pos k3]
   refine qae (eV cJ0) ?_
   simp only [k3b, if_true]
   refine wN ?_
   refine wR0 1500 [1,2,115] cJ0 ?_
   refine wN ?_
   rcases hall : ((s != 0) || decide (((qah ps).length : Int) < 1) || decide (((qah ps).length : Int) > 8)) with _ | _
   ·refine qae (eV cJ0) ?_
    simp only [Bool.false_eq_true, if_false]
    refine wN ?_
    refine wR0 1700 [1,2,5] cJ0 ?_
    refine wN ?_
    refine qbF ?_
    simp only [qaj, Bool.or_eq_false_iff, bne_eq_false_iff_eq] at hall
    refine qj4 k s d rs ps (by omega) (by omega) hf2 _ ps [] 0 rfl rfl (fun p hk => qf3 p (d - 1) (hf3 p hk) (by omega) (by omega)) ?_ ?_
    ·intro h i
     simp only [inB, if_true, thn]
     refine wR0 2200 [4] cJ0 ?_
     refine wN ?_
     refine qaC ?_
     (try simp only [thn, inB])
     exact ⟨by simp, _, rfl, by exact qab (by rw [e3, h]; simp [hall])⟩
    ·intro h
     simp only [inB, thn]
     exact ⟨by simp, _, rfl, qab (by simp [e3, h])⟩
   ·refine qae (eV cJ0) ?_
    simp only [if_true]
    refine wN ?_
    refine wR0 1600 [4] cJ0 ?_
    refine wN ?_
    refine qaC ?_
    (try simp only [thn, inB])
    exact ⟨by simp, _, rfl, by exact qab (by simp only [qaj, bne] at hall; rw [e3]; revert hall; cases (s == 0) <;> cases decide ((ps.length : Int) < 1) <;> cases decide ((ps.length : Int) > 8) <;> simp)⟩
  have k3b : (k == 3) = false := by simp [k3]
  refine qae (eV cJ0) ?_
  simp only [k3b, Bool.false_eq_true, if_false]
  refine wN ?_
  refine wR0 2300 [4] cJ0 ?_
  refine wN ?_
  refine qaC ?_
  (try simp only)
  exact ⟨by simp, _, rfl, by exact qab (by simp only [qar, if_neg hd0, if_neg hr, if_neg k1, if_neg k26, if_neg k7, if_neg k45, if_neg k3])⟩
termination_by t => SizeOf.sizeOf t
decreasing_by all_goals exact qeD hk k s rs
def qbo (t : Ty) : Int := if qar t 8 then 0 else 6
theorem qeR (t : Ty) (ht : t.fit) : TP Tryz.prog 66 [qal t] (.int .i64 (qbo t)) := by
 rcases t with ⟨k, s, rs, ps⟩
 refine qak fn66 (by simp) ?_
 unfold i66
 simp only [argL, qal]
 refine wN ?_
 refine wR0 0 [1] cJ0 ?_
 refine wN ?_
 refine wRn 100 [5] cJ0 ?_
 refine rC cJ0 ?_
 refine ⟨_, qf3 (.mk k s rs ps) 8 ht (by omega) (by omega), rE cJ0 ?_⟩
 refine wN ?_
 rcases hv : qar (.mk k s rs ps) 8 with _ | _
 ·refine qae (eV cJ0) ?_
  simp only [Bool.not_false, if_true]
  refine wN ?_
  refine wR0 200 [2] cJ0 ?_
  refine wN ?_
  refine qaC ?_
  (try simp only [thn])
  exact ⟨by simp, _, rfl, by exact qaK (by simp [qbo, hv])⟩
 ·refine qae (eV cJ0) ?_
  simp only [Bool.not_true, Bool.false_eq_true, if_false]
  refine wN ?_
  refine wR0 300 [2] cJ0 ?_
  refine wN ?_
  refine qaC ?_
  (try simp only)
  exact ⟨by simp, _, rfl, by exact qaK (by simp [qbo, hv])⟩
end
end Go.Proofs.YtikhhnopcjgjpaaGreat
