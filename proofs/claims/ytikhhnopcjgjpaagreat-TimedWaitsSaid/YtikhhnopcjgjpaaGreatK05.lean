/- Contracts of functions of the program, for all arguments that they name. -/
import Derived.Test.YtikhhnopcjgjpaaGreatK03
import Derived.Test.YtikhhnopcjgjpaaGreatK04
namespace Go.Proofs.YtikhhnopcjgjpaaGreat
set_option linter.unusedVariables false
section
open Go.RowKit
inductive V where
 | mk (n : Int) (ks : List V)
instance : Inhabited V := ⟨.mk 0 []⟩
def V.n : V → Int | .mk n _ => n
def V.kids : V → List V | .mk _ ks => ks
mutual
def encV : V → T
 | .mk n ks => .agg [.int .i64 n, .list (qac ks)]
def qac : List V → List T
 | [] => []
 | k :: ks => encV k :: qac ks
end
theorem qdn : ∀ ks, qac ks = ks.map encV
 | [] => rfl
 | k :: ks => by simp [qac, qdn ks]
theorem qag (ks : List V) : (qac ks).length = ks.length := by rw [qdn, List.length_map]
theorem qa0 (pre : List V) (k : V) (ks : List V) : (qac (pre ++ k :: ks)).getD pre.length .undef = encV k := by
 rw [qdn]; simp [List.getD_eq_getElem?_getD]
theorem qbX (v : V) : (encV v).cells.length = 2 := by cases v; rfl
theorem qda (v : V) : T.agg (encV v).cells = encV v := by cases v; rfl
theorem qd5 (v : V) : encV v = .agg [.int .i64 v.n, .list (qac v.kids)] := by cases v; rfl
theorem qmN (v : V) : (encV v).cells = [.int .i64 v.n, .list (qac v.kids)] := by cases v; rfl
mutual
theorem qcT (D : Nat → Bool) : ∀ v : V, (encV v).cl D = true
 | .mk n ks => by simp [encV, T.cl, clL, qam D ks]
theorem qam (D : Nat → Bool) : ∀ ks : List V, clL D (qac ks) = true
 | [] => rfl
 | k :: ks => by simp [qac, clL, qcT D k, qam D ks]
end
theorem qgP (ks : List V) : sizedB 2 (qac ks) = true := by
 rw [qdn, sizedB, List.all_eq_true]
 intro x hx
 obtain ⟨v, _, rfl⟩ := List.mem_map.1 hx
 simp [qbX, esz]
mutual
def V.fit : V → Prop
 | .mk _ ks => ks.length ≤ 1000000 ∧ fitL ks
def fitL : List V → Prop
 | [] => True
 | k :: ks => k.fit ∧ fitL ks
end
theorem qlm : ∀ {ks : List V}, fitL ks → ∀ k ∈ ks, k.fit
 | [], _, k, hk => by cases hk
 | x :: ks, h, k, hk => by
  simp only [fitL] at h
  rcases List.mem_cons.1 hk with rfl | hk
  ·exact h.1
  ·exact qlm h.2 k hk
theorem qdv : ∀ {ks : List V}, (∀ k ∈ ks, k.fit) → fitL ks
 | [], _ => trivial
 | x :: ks, h => ⟨h x (List.mem_cons_self ..), qdv fun k hk => h k (List.mem_cons_of_mem _ hk)⟩
theorem V.fit_kids {v : V} (h : v.fit) : v.kids.length ≤ 1000000 ∧ ∀ k ∈ v.kids, k.fit := by
 cases v; simp only [V.fit] at h; exact ⟨h.1, qlm h.2⟩
theorem wrap64 {n : Int} (h1 : -9223372036854775808 ≤ n) (h2 : n ≤ 9223372036854775807) : IntKind.wrap .i64 n = n := by rw [IntKind.wrap_i64]; omega
end
section
open Go.RowKit
set_option maxHeartbeats 2000000
def ordI (a b : Int) : Int := if a < b then -1 else if b < a then 1 else 0
theorem qlO (a b : Int) : TP Tryz.prog 86 [.int .i64 a, .int .i64 b] (.int .i64 (ordI a b)) := by
 refine qak fn86 (by simp) ?_
 unfold i86
 simp only [argL]
 refine qbC ?_
 refine wR0 0 [0,1] cJ0 ?_
 simp only [thn]
 refine qbC ?_
 refine qbC ?_
 refine wR0 100 [0,1,7] cJ0 ?_
 simp only [thn]
 refine qae (eV cJ0) ?_
 by_cases hc : a < b
 ·simp only [hc, decide_true, if_true]
  refine qbC ?_
  refine wR0 200 [4] cJ0 ?_
  simp only [thn]
  refine qaC ?_
  exact ⟨.inl rfl, _, rfl, by simp only [ordI, hc, if_true]; exact .same rfl⟩
 ·simp only [hc, decide_false, Bool.false_eq_true, if_false]
  refine qct ?_
  simp only [thn]
  refine qbC ?_
  refine qbC ?_
  refine wR0 300 [10] cJ0 ?_
  simp only [thn]
  refine qae (eV cJ0) ?_
  by_cases hd : b < a
  ·have hg : a > b := hd
   simp only [hg, decide_true, if_true]
   refine qbC ?_
   refine wR0 400 [4] cJ0 ?_
   simp only [thn]
   refine qaC ?_
   exact ⟨.inl rfl, _, rfl, by simp only [ordI, hc, hd, if_true, if_false]; exact .same rfl⟩
  ·have hg : ¬ a > b := hd
   simp only [hg, decide_false, Bool.false_eq_true, if_false]
   refine qct ?_
   simp only [thn]
   refine qbC ?_
   refine wR0 500 [4] cJ0 ?_
   simp only [thn]
   refine qaC ?_
   exact ⟨.inl rfl, _, rfl, by simp only [ordI, hc, hd, if_false]; exact .same rfl⟩
mutual
def cmpV : V → V → Int
 | .mk a ks, .mk b ls => if a ≠ b then ordI a b else if ks.length ≠ ls.length then ordI ks.length ls.length else cmpL ks ls
def cmpL : List V → List V → Int
 | k :: ks, l :: ls => if cmpV k l ≠ 0 then cmpV k l else cmpL ks ls
 | _, _ => 0
end
theorem qp5 (A B : Int) (Q : IExit → (Nat → T) → Heap → Prop) : ∀ (xs ys prx pry : List V), xs.length = ys.length → prx.length = pry.length → (prx ++ xs).length ≤ 1000000 →
 (∀ k ∈ xs, ∀ l ∈ ys, TP Tryz.prog 58 [encV k, encV l] (.int .i64 (cmpV k l))) →
 (∀ l, cmpL xs ys = 0 → Q (.exit 0) (ofL l) (hpL [(0, .live ⟨25, [.int .i64 A, .list (qac (prx ++ xs))]⟩), (1, .live ⟨25, [.int .i64 B, .list (qac (pry ++ ys))]⟩)])) →
 (cmpL xs ys ≠ 0 → Q .ret (ofL [(4, .int .i64 (cmpL xs ys))]) (hpL [(0, .live ⟨25, [.int .i64 A, .list (qac (prx ++ xs))]⟩), (1, .live ⟨25, [.int .i64 B, .list (qac (pry ++ ys))]⟩)])) →
 WL Tryz.prog 52 qlX (ofL [(2, .ref 0 2 0), (3, .ref 1 2 0), (5, .int .i64 prx.length)]) (hpL [(0, .live ⟨25, [.int .i64 A, .list (qac (prx ++ xs))]⟩), (1, .live ⟨25, [.int .i64 B, .list (qac (pry ++ ys))]⟩)]) Q := by
 intro xs
 induction xs with
 | nil =>
  intro ys prx pry h1 h2 h3 hk hQ0 hQ1
  have hy : ys = [] := List.eq_nil_of_length_eq_zero h1.symm
  subst hy
  have hd : decide ((prx.length : Int) < ((qac prx).length : Int)) = false := by simp [qag]
  refine qaa qlX.eq_1 ?_
  refine qbC ?_
  refine qbC ?_
  refine wR0 600 [2,3,5,35] @hd ?_
  simp only [thn]
  refine qae (eV cJ0) ?_
  simp only [Bool.false_eq_true, if_false]
  refine qbp ?_
  simp only [thn]
  have := hQ0 [(2, .ref 0 2 0), (3, .ref 1 2 0), (5, .int .i64 prx.length), (35, .bool false)] rfl
  simpa using this
 | cons k xs ih =>
  intro ys prx pry h1 h2 h3 hk hQ0 hQ1
  cases ys with
  | nil => simp at h1
  | cons l ys =>
   have hlt : (prx.length : Int) < ((qac (prx ++ k :: xs)).length : Int) := by simp [qag]; omega
   have hlt2 : (prx.length : Int) < ((qac (pry ++ l :: ys)).length : Int) := by simp [qag]; omega
   have hd : decide ((prx.length : Int) < ((qac (prx ++ k :: xs)).length : Int)) = true := decide_eq_true hlt
   have hg1 : (qac (prx ++ k :: xs)).getD (prx.length : Int).toNat .undef = encV k := by rw [Int.toNat_natCast]; exact qa0 _ _ _
   have hg2 : (qac (pry ++ l :: ys)).getD (prx.length : Int).toNat .undef = encV l := by rw [Int.toNat_natCast, h2]; exact qa0 _ _ _
   have hlb : prx.length ≤ 1000000 := by simp at h3; omega
   have hw : IntKind.wrap .i64 ((prx.length : Int) + 1) = (prx.length : Int) + 1 := wrap64 (by omega) (by omega)
   refine qaa qlX.eq_1 ?_
   refine qbC ?_
   refine qbC ?_
   refine wR0 600 [2,3,5,35] @hd ?_
   simp only [thn]
   refine qae (eV cJ0) ?_
   simp only [if_true]
   refine qct ?_
   simp only [thn]
   refine qbC ?_
   refine qci ?_
   refine qbC ?_
   have fX := (cJ4 @hg1 @hg2 @qda @qbX)
   refine wRn 700 [2,3,5,6] fX ?_
   refine rC fX ?_
   refine ⟨_, hk k (List.mem_cons_self ..) l (List.mem_cons_self ..), rE fX ?_⟩
   simp only [thn]
   refine qbC ?_
   refine wR0 800 [2,3,5,6,50] cJ0 ?_
   simp only [thn]
   refine qae (eV cJ0) ?_
   by_cases hc : cmpV k l = 0
   ·have hb : (cmpV k l != 0) = false := by simp [hc]
    simp only [hb, Bool.false_eq_true, if_false]
    refine qct ?_
    simp only [thn, inB]
    refine wR0 1000 [2,3,5] @hw ?_
    simp only [thn]
    have e : cmpL (k :: xs) (l :: ys) = cmpL xs ys := by simp [cmpL, hc]
    rw [e] at hQ0 hQ1
    have := ih ys (prx ++ [k]) (pry ++ [l]) (by simpa using h1) (by simp [h2]) (by simpa using h3) (fun k' hk' l' hl' => hk k' (List.mem_cons_of_mem _ hk') l' (List.mem_cons_of_mem _ hl')) (by simpa using hQ0) (by simpa using hQ1)
    simpa using this
   ·have hb : (cmpV k l != 0) = true := by simp [hc]
    have e : cmpL (k :: xs) (l :: ys) = cmpV k l := by simp [cmpL, hc]
    simp only [hb, if_true]
    refine qbC ?_
    refine wR0 900 [4] cJ0 ?_
    simp only [thn]
    refine qaC ?_
    simp only [thn, inB]
    have := hQ1 (by rw [e]; exact hc)
    rw [e] at this
    exact this
theorem qcJ {k : V} {ks : List V} (h : k ∈ ks) (n : Int) : SizeOf.sizeOf k < SizeOf.sizeOf (V.mk n ks) := by
 have := List.sizeOf_lt_of_mem h
 simp only [V.mk.sizeOf_spec]; omega
theorem qml : ∀ (v u : V), v.fit → TP Tryz.prog 58 [encV v, encV u] (.int .i64 (cmpV v u))
 | .mk A xs, .mk B ys, hv => by
  have hv' := V.fit_kids hv
  simp only [V.kids] at hv'
  refine qak fn58 (by simp) ?_
  unfold i58
  simp only [argL, encV]
  refine qbC ?_
  refine wR0 0 [2,3] cJ0 ?_
  simp only [thn]
  refine qbC ?_
  refine qbC ?_
  refine wR0 100 [2,3,11] cJ0 ?_
  simp only [thn]
  refine qae (eV cJ0) ?_
  by_cases hc : A = B
  ·have hb : (A != B) = false := by simp [hc]
   simp only [hb, Bool.false_eq_true, if_false]
   refine qct ?_
   simp only [thn]
   refine qbC ?_
   refine qbC ?_
   refine wR0 300 [2,3,23] cJ0 ?_
   simp only [thn]
   refine qae (eV cJ0) ?_
   by_cases hd : xs.length = ys.length
   ·have hb2 : (((qac xs).length : Int) != ((qac ys).length : Int)) = false := by simp [qag, hd]
    simp only [hb2, Bool.false_eq_true, if_false]
    refine qct ?_
    simp only [thn]
    refine qbC ?_
    refine qbC ?_
    refine wR0 500 [2,3,5] cJ0 ?_
    simp only [thn]
    refine qci ?_
    refine qbF ?_
    have e : cmpV (.mk A xs) (.mk B ys) = cmpL xs ys := by simp [cmpV, hc, hd]
    have hloop := qp5 A B (inB 0 (thn (fun env' H' => W Tryz.prog 52 (.seq (.reg [⟨some 4, .op (.mv (.con (.int .i64 0))), none⟩] [] false) .ret) env' H' fun e env' H' => (e = .ret ∨ e = .normal) ∧ ∃ x, resT env' H' [(4, none)] = some x ∧ Frz H' x (.int .i64 (cmpV (.mk A xs) (.mk B ys)))) fun e env' H' => (e = .ret ∨ e = .normal) ∧ ∃ x, resT env' H' [(4, none)] = some x ∧ Frz H' x (.int .i64 (cmpV (.mk A xs) (.mk B ys))))) xs ys [] [] hd rfl (by simpa using hv'.1) (fun k hk l hl => qml k l (hv'.2 k hk)) ?_ ?_
    ·simpa using hloop
    ·intro l h0
     simp only [inB, thn, if_true]
     refine qbC ?_
     refine wR0 1100 [4] cJ0 ?_
     simp only [thn]
     refine qaC ?_
     exact ⟨.inl rfl, _, rfl, by rw [e, h0]; exact .same rfl⟩
    ·intro h0
     simp only [inB, thn]
     exact ⟨by simp, _, rfl, by rw [e]; exact .same rfl⟩
   ·have hb2 : (((qac xs).length : Int) != ((qac ys).length : Int)) = true := by simp [qag]; omega
    simp only [hb2, if_true]
    refine qbC ?_
    refine wRn 400 [4] cJ0 ?_
    refine rC cJ0 ?_
    refine ⟨_, qlO _ _, rE cJ0 ?_⟩
    simp only [thn]
    refine qaC ?_
    exact ⟨.inl rfl, _, rfl, by simp only [cmpV, hc, hd, qag, ne_eq, not_true_eq_false, not_false_eq_true, if_true, if_false]; exact .same rfl⟩
  ·have hb : (A != B) = true := by simp [hc]
   simp only [hb, if_true]
   refine qbC ?_
   refine wRn 200 [4] cJ0 ?_
   refine rC cJ0 ?_
   refine ⟨_, qlO _ _, rE cJ0 ?_⟩
   simp only [thn]
   refine qaC ?_
   exact ⟨.inl rfl, _, rfl, by simp only [cmpV, hc, ne_eq, not_false_eq_true, if_true]; exact .same rfl⟩
termination_by v => SizeOf.sizeOf v
decreasing_by exact qcJ hk A
mutual
def qbw : V → Int → Int
 | .mk _ ks, most => qcV ks 1 most
def qcV : List V → Int → Int → Int
 | [], n, _ => n
 | k :: ks, n, most => if n ≤ most then qcV ks (n + qbw k (most - n)) most else n
end
mutual
theorem size_le : ∀ (v : V) (most : Int), 0 ≤ most → 1 ≤ qbw v most ∧ qbw v most ≤ most + 1
 | .mk n ks, most, h => by
  have := qmd ks 1 most (by omega) (by omega)
  simp only [qbw]; omega
theorem qmd : ∀ (ks : List V) (n most : Int), 1 ≤ n → n ≤ most + 1 → n ≤ qcV ks n most ∧ qcV ks n most ≤ most + 1
 | [], n, most, h1, h2 => by simp only [qcV]; omega
 | k :: ks, n, most, h1, h2 => by
  simp only [qcV]
  split
  ·have := size_le k (most - n) (by omega)
   have := qmd ks (n + qbw k (most - n)) most (by omega) (by omega)
   omega
  ·omega
end
theorem qpb (most : Int) (hm0 : 0 ≤ most) (hm1 : most ≤ 1000000) (N : Int) (ks : List V) (hl : ks.length ≤ 1000000) (Q : IExit → (Nat → T) → Heap → Prop) : ∀ (rest pre : List V) (n : Int), ks = pre ++ rest → 1 ≤ n → n ≤ most + 1 →
 (∀ k ∈ rest, ∀ m : Int, 0 ≤ m → m ≤ 1000000 → TP Tryz.prog 67 [encV k, .int .i64 m] (.int .i64 (qbw k m))) →
 (∀ i : Int, Q (.exit 0) (ofL [(1, .int .i64 most), (2, .ref 0 2 0), (5, .int .i64 (qcV rest n most)), (6, .int .i64 i), (16, .bool false)]) (hpL [(0, .live ⟨25, [.int .i64 N, .list (qac ks)]⟩)])) →
 WL Tryz.prog 31 qll (ofL [(1, .int .i64 most), (2, .ref 0 2 0), (5, .int .i64 n), (6, .int .i64 pre.length)]) (hpL [(0, .live ⟨25, [.int .i64 N, .list (qac ks)]⟩)]) Q := by
 intro rest
 induction rest with
 | nil =>
  intro pre n he h1 h2 hk hQ
  have hd : decide ((pre.length : Int) < ((qac ks).length : Int)) = false := by simp [qag, he]
  refine qaa qll.eq_1 ?_
  refine wN ?_
  refine wR0 300 [1,2,5,6,16] @hd ?_
  refine wN ?_
  refine qae (eV cJ0) ?_
  simp only [Bool.false_eq_true, if_false]
  refine wN ?_
  refine qbp ?_
  (try simp only [thn])
  exact hQ _
 | cons k rest ih =>
  intro pre n he h1 h2 hk hQ
  have hlen : (pre.length : Int) < ((qac ks).length : Int) := by simp [qag, he]; omega
  have hlb : pre.length ≤ 1000000 := by rw [he] at hl; simp at hl; omega
  have hd : decide ((pre.length : Int) < ((qac ks).length : Int)) = true := decide_eq_true hlen
  refine qaa qll.eq_1 ?_
  refine wN ?_
  refine wR0 300 [1,2,5,6,16] @hd ?_
  refine wN ?_
  by_cases hn : n ≤ most
  ·have hd2 : decide (n ≤ most) = true := decide_eq_true hn
   refine qae (eV cJ0) ?_
   simp only [hd2, if_true]
   refine wN ?_
   have hsz := size_le k (most - n) (by omega)
   have hw1 : IntKind.wrap .i64 (most - n) = most - n := wrap64 (by omega) (by omega)
   have hw2 : IntKind.wrap .i64 (n + qbw k (most - n)) = n + qbw k (most - n) := wrap64 (by omega) (by omega)
   have hw3 : IntKind.wrap .i64 ((pre.length : Int) + 1) = (pre.length : Int) + 1 := wrap64 (by omega) (by omega)
   have hg : (qac ks).getD (pre.length : Int).toNat .undef = encV k := by rw [Int.toNat_natCast, he]; exact qa0 _ _ _
   have fX := (cJ5 @hg @qda @qbX @hw1 @hw2)
   refine wRn 400 [1,2,5,6] fX ?_
   refine rC fX ?_
   refine ⟨_, hk k (List.mem_cons_self ..) (most - n) (by omega) (by omega), rE fX ?_⟩
   refine wN ?_
   refine wR0 500 [1,2,5,6] @hw3 ?_
   refine wN ?_
   have := ih (pre ++ [k]) (n + qbw k (most - n)) (by simp [he]) (by omega) (by omega) (fun k' hk' => hk k' (List.mem_cons_of_mem _ hk')) (fun i => by
    have := hQ i
    simpa only [qcV, if_pos hn] using this)
   simpa using this
  ·have hd2 : decide (n ≤ most) = false := decide_eq_false hn
   refine qae (eV cJ0) ?_
   simp only [hd2, Bool.false_eq_true, if_false]
   refine wN ?_
   refine qbp ?_
   (try simp only [thn])
   have := hQ pre.length
   simpa only [qcV, if_neg hn] using this
theorem qeK : ∀ (v : V) (most : Int), v.fit → 0 ≤ most → most ≤ 1000000 → TP Tryz.prog 67 [encV v, .int .i64 most] (.int .i64 (qbw v most))
 | .mk N ks, most, hv, h0, h1 => by
  have hv' := V.fit_kids hv
  simp only [V.kids] at hv'
  refine qak fn67 (by simp) ?_
  unfold i67
  simp only [argL, encV]
  refine wN ?_
  refine wR0 0 [1,2] cJ0 ?_
  refine wN ?_
  refine wR0 100 [1,2,5] cJ0 ?_
  refine wN ?_
  refine wR0 200 [1,2,5,6] cJ0 ?_
  refine wN ?_
  refine qbF ?_
  refine qpb most h0 h1 N ks hv'.1 _ ks [] 1 rfl (by omega) (by omega) (fun k hk m hm0 hm1 => qeK k m (hv'.2 k hk) hm0 hm1) ?_
  intro i
  simp only [inB, if_true, thn]
  refine wR0 600 [4] cJ0 ?_
  refine wN ?_
  refine qaC ?_
  (try simp only)
  exact ⟨by simp, _, rfl, by simp only [qbw]; exact .same rfl⟩
termination_by v => SizeOf.sizeOf v
decreasing_by exact qcJ hk N
def qqs (a b : V) : Bool := cmpV a b == 0
theorem qoA (a b : V) (h : a.fit) : TP Tryz.prog 24 [encV a, encV b] (.bool (qqs a b)) := by
 rcases a with ⟨A, xs⟩
 rcases b with ⟨B, ys⟩
 refine qak fn24 (by simp) ?_
 unfold i24
 simp only [argL, encV]
 refine wN ?_
 refine wR0 0 [2,3] cJ0 ?_
 refine wN ?_
 refine wRn 100 [4] cJ0 ?_
 refine rC cJ0 ?_
 refine ⟨_, qml (.mk A xs) (.mk B ys) h, rE cJ0 ?_⟩
 refine wN ?_
 refine qaC ?_
 (try simp only)
 exact ⟨by simp, _, rfl, by exact .same rfl⟩
def qao : List V → List T
 | [] => []
 | k :: ks => .int .i64 k.n :: .list (qac k.kids) :: qao ks
theorem qaE : ∀ ks : List V, (qao ks).length = ks.length * 2
 | [] => rfl
 | k :: ks => by simp [qao, qaE ks]; omega
theorem qbU : ∀ (ks : List V) (k : V), qao (ks ++ [k]) = qao ks ++ [.int .i64 k.n, .list (qac k.kids)]
 | [], k => rfl
 | x :: ks, k => by simp [qao, qbU ks k]
theorem qbV : ∀ ks : List V, qao ks = flat (qac ks)
 | [] => rfl
 | k :: ks => by rw [qac, qbe, qmN, qao, qbV ks]; rfl
theorem qaQ (D : Nat → Bool) : ∀ ks : List V, clL D (qao ks) = true
 | [] => rfl
 | k :: ks => by simp [qao, clL, T.cl, qam, qaQ D ks]
theorem qbv : ∀ ks : List V, Ones (qao ks)
 | [] => fun c hc => by cases hc
 | k :: ks => fun c hc => by
  simp only [qao, List.mem_cons] at hc
  rcases hc with rfl | rfl | hc
  ·rfl
  ·rfl
  ·exact qbv ks c hc
theorem qdT (ks : List V) : qcA (esz 2) (qac ks) := fun x hx => by
 rw [qdn] at hx
 obtain ⟨v, _, rfl⟩ := List.mem_map.1 hx
 exact qbX v
theorem qb8 {H : Heap} {id ty n tot : Nat} (ks : List V) (hb : H id = .live ⟨ty, qao ks⟩) (hn : n = ks.length) (ht : tot = ks.length * 2) : Frz H (.sl id tot 2 0 n) (.list (qac ks)) := by
 subst hn ht
 refine Frz.sl hb (qaE ks) (by simp [esz]) (qag ks) (qdT ks) (by rw [← qbV]; exact qbv ks) fun k hk => ?_
 rw [← qbV, Nat.zero_add]
 exact .same (qa7 (qaQ _ ks) k)
theorem qaV {H : Heap} {n : Int} {x y : T} (h : Frz H x y) (ho : y.one = true) : Frz H (.agg [.int .i64 n, x]) (.agg [.int .i64 n, y]) := by
 refine Frz.agg rfl (fun c hc => ?_) fun i hi => ?_
 ·simp only [List.mem_cons, List.not_mem_nil, or_false] at hc
  rcases hc with rfl | rfl
  ·rfl
  ·exact ho
 ·match i, hi with
  | 0, _ => exact .same rfl
  | 1, _ => exact h
def rowT (id : Nat) (done : List V) : T := match done with
 | [] => .nil
 | d :: ds => .sl id ((ds.length + 1) * 2) 2 0 (ds.length + 1)
def rowH (id ty : Nat) (done : List V) : List (Nat × Slot) := match done with
 | [] => []
 | d :: ds => [(id, .live ⟨ty, qao (d :: ds)⟩)]
theorem qjJ (N : Int) (ks : List V) (hl : ks.length ≤ 1000000) (Q : IExit → (Nat → T) → Heap → Prop) : ∀ (rest pre : List V) (n : Nat), ks = pre ++ rest → pre.length = n →
 (∀ k ∈ rest, TP Tryz.prog 37 [encV k] (encV k)) →
 (∀ i : Int, Q (.exit 0) (ofL [(1, .ref 0 2 0), (2, .ref 1 2 0), (3, .ref 103 2 0), (4, .int .i64 i), (12, .bool false)])
  (hpL ([(0, .live ⟨25, [.int .i64 N, .list (qac ks)]⟩), (1, .live ⟨25, [.int .i64 0, .nil]⟩), (103, .live ⟨25, [.int .i64 N, rowT 409 ks]⟩)] ++ rowH 409 25 ks))) →
 WL Tryz.prog 27 qkk (ofL [(1, .ref 0 2 0), (2, .ref 1 2 0), (3, .ref 103 2 0), (4, .int .i64 n)])
  (hpL ([(0, .live ⟨25, [.int .i64 N, .list (qac ks)]⟩), (1, .live ⟨25, [.int .i64 0, .nil]⟩), (103, .live ⟨25, [.int .i64 N, rowT 409 pre]⟩)] ++ rowH 409 25 pre)) Q := by
 intro rest
 induction rest with
 | nil =>
  intro pre n he hn hk hQ
  have hd : decide ((n : Int) < ((qac ks).length : Int)) = false := by simp [qag, he, hn]
  simp only [List.append_nil] at he
  subst he
  simp only [List.cons_append, List.nil_append] at hQ ⊢
  refine qaa qkk.eq_1 ?_
  refine wN ?_
  refine wR0 300 [1,2,3,4,12] @hd ?_
  refine wN ?_
  refine qae (eV cJ0) ?_
  simp only [Bool.false_eq_true, if_false]
  refine wN ?_
  refine qbp ?_
  (try simp only [thn])
  exact hQ _
 | cons k rest ih =>
  intro pre n he hn hk hQ
  rcases k with ⟨a, bs⟩
  have hlt : (n : Int) < ((qac ks).length : Int) := by simp [qag, he]; omega
  have hlb : n ≤ 1000000 := by rw [he] at hl; simp at hl; omega
  have hd : decide ((n : Int) < ((qac ks).length : Int)) = true := decide_eq_true hlt
  have hg : (qac ks).getD (n : Int).toNat .undef = .agg [.int .i64 a, .list (qac bs)] := by rw [Int.toNat_natCast, he, ← hn]; exact qa0 _ (.mk a bs) _
  have hw : IntKind.wrap .i64 ((n : Int) + 1) = (n : Int) + 1 := wrap64 (by omega) (by omega)
  cases pre with
  | nil =>
   simp only [rowT, rowH, List.append_nil]
   refine qaa qkk.eq_1 ?_
   refine W_gc ?_
   refine wN ?_
   refine wR0 300 [1,2,3,4,12] @hd ?_
   refine wN ?_
   refine qae (eV cJ0) ?_
   simp only [if_true]
   refine wN ?_
   have fX := (cJ2 @hg @encV.eq_1)
   refine wRn 400 [1,2,3,4] fX ?_
   refine rC fX ?_
   refine ⟨_, hk (.mk a bs) (List.mem_cons_self ..), rE fX ?_⟩
   refine wN ?_
   refine wR0 500 [1,2,3,4] @hw ?_
   refine wN ?_
   refine qa1 [0, 1, 103, 409] (by simp [inL]) (by simp [inL, T.cl]) (by simp [qap, inL, Slot.cl, T.cl, clL, qam]) ?_
   have := ih [V.mk a bs] (n + 1) (by simpa using he) (by simp at hn; simp; omega) (fun k' hk' => hk k' (List.mem_cons_of_mem _ hk')) (by simpa using hQ)
   simpa [qap, inL, rowT, rowH, qao, V.n, V.kids] using this
  | cons p pre =>
   have hp : pre.length + 1 ≤ 1000000 := by simp at hn; omega
   simp only [rowT, rowH, List.cons_append, List.nil_append]
   refine qaa qkk.eq_1 ?_
   refine W_gc ?_
   refine wN ?_
   refine wR0 300 [1,2,3,4,12] @hd ?_
   refine wN ?_
   refine qae (eV cJ0) ?_
   simp only [if_true]
   refine wN ?_
   have fX := (cJ3 @hg @encV.eq_1 @qaE)
   refine wRn 400 [1,2,3,4] fX ?_
   refine rC fX ?_
   refine ⟨_, hk (.mk a bs) (List.mem_cons_self ..), rE fX ?_⟩
   refine wN ?_
   refine wR0 500 [1,2,3,4] @hw ?_
   refine wN ?_
   refine qa1 [0, 1, 103, 409] (by simp [inL]) (by simp [inL, T.cl]) (by simp [qap, inL, Slot.cl, T.cl, clL, qam, qaQ, qaw]) ?_
   have := ih (p :: (pre ++ [V.mk a bs])) (n + 1) (by simpa using he) (by simp at hn; simp; omega) (fun k' hk' => hk k' (List.mem_cons_of_mem _ hk')) (by simpa using hQ)
   have hs : qao (p :: (pre ++ [V.mk a bs])) = qao (p :: pre) ++ [.int .i64 a, .list (qac bs)] := qbU (p :: pre) (.mk a bs)
   have hm : (pre.length + 1 + 1) * 2 = (pre.length + 1) * 2 + 2 := by omega
   simp only [rowT, rowH, hs, List.length_append, List.length_cons, List.length_nil, Nat.zero_add, hm] at this
   simpa [qap, inL] using this
theorem qkY : ∀ v : V, v.fit → TP Tryz.prog 37 [encV v] (encV v)
 | .mk N ks, hv => by
  have hv' := V.fit_kids hv
  simp only [V.kids] at hv'
  refine qak fn37 (by simp) ?_
  unfold i37
  simp only [argL, encV]
  refine wN ?_
  refine wR0 0 [1,2] cJ0 ?_
  refine wN ?_
  refine wR0 100 [1,2,3] cJ0 ?_
  refine wN ?_
  refine wR0 200 [1,2,3,4] cJ0 ?_
  refine wN ?_
  refine qbF ?_
  refine qjJ N ks hv'.1 _ ks [] 0 rfl rfl (fun k hk => qkY k (hv'.2 k hk)) ?_
  intro i
  simp only [inB, if_true, thn]
  cases ks with
  | nil =>
   simp only [rowT, rowH, List.append_nil]
   refine wR0 600 [2] cJ0 ?_
   refine wN ?_
   refine qaC ?_
   exact ⟨by simp, _, rfl, qaV .nil rfl⟩
  | cons k ks =>
   simp only [rowT, rowH, List.cons_append, List.nil_append]
   refine wR0 600 [2] cJ0 ?_
   refine wN ?_
   refine qaC ?_
   exact ⟨by simp, _, rfl, qaV (qb8 (k :: ks) rfl rfl rfl) rfl⟩
termination_by v => SizeOf.sizeOf v
decreasing_by exact qcJ hk N
end
end Go.Proofs.YtikhhnopcjgjpaaGreat
