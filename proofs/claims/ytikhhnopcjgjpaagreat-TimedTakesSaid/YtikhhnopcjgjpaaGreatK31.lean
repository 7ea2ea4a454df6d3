/- Contracts of functions of the program, for all arguments that they name. -/
import Derived.Test.YtikhhnopcjgjpaaGreatK30
namespace Go.Proofs.YtikhhnopcjgjpaaGreat
set_option linter.unusedVariables false
section
open Go.RowKit
set_option maxHeartbeats 2000000
attribute [local simp] qaQ
theorem qhl (m : Md) (i : Int) (h : i.toNat < m.rules.length) : (qaL m.rules).getD i.toNat .undef = .agg (rlC (qaB m i)) := by
 simp [qaL, qaB, qbs, List.getD_eq_getElem?_getD, h]
theorem qmE (r : Rl) (l : List (Int × Int)) (hr : r.makes.length ≤ 3) (hl : l.length ≤ 12) : (∀ v ∈ qbu r l, v.fit) := by
 intro v hv
 obtain ⟨rest, hrest, rfl⟩ := List.mem_map.1 hv
 have := qgq _ _ _ hrest
 rw [bV, qco]
 refine qi7 _ _ ?_
 rw [qeV]; simp [qdL]; omega
theorem qhW (r : Rl) (l : List (Int × Int)) (hr : r.takes.length ≤ 3) (hl : l.length ≤ 12) : (qbu r l).length ≤ 1728 := by
 have := qja r.takes l hl
 have h2 : 12 ^ r.takes.length ≤ 12 ^ 3 := Nat.pow_le_pow_right (by omega) hr
 rw [qbu, List.length_map]
 omega
theorem qlb {H : Heap} {D : Nat → Bool} {id ty n tot : Nat} (l : List (Int × Int)) (hb : H id = .live ⟨ty, qbd l⟩) (hd : D id = false) (hn : n = l.length) (ht : tot = l.length * 2) : Fz H D (.sl id tot 2 0 n) (.list (qax l)) := by
 subst hn ht
 refine Fz.sl hb hd (qbA l) (by simp [esz]) (qaP l) (qfP l) (by rw [← qcM]; exact qfl l) fun k hk => ?_
 rw [← qcM, Nat.zero_add]
 exact .same (qa7 (qej _ l) k)
set_option maxHeartbeats 20000000 in
theorem qma (m : Md) (i : Int) (c : V) (hm : m.fit) (hc : c.fit) : TP Tryz.prog 17 [qau m, .int .i64 i, encV c] (.tup [.list (qac (qbz m i c).1), .int .i64 (qbz m i c).2]) := by
 have hck := qgM m hm
 by_cases h1 : qaI m = 0
 case neg =>
  have hr : qbz m i c = ([], qaI m) := by rw [qbz, if_pos h1]
  rw [hr]
  have hd : (qaI m != 0) = true := by simpa using h1
  rcases c with ⟨n, ks⟩
  refine qak fn17 (by simp) ?_
  unfold i17
  simp only [argL, encV, qau, mdC]
  refine wR0 0 [1,3,5] cJ0 ?_
  refine wRn 100 [1,3,5,8] cJ0 ?_
  refine rC cJ0 ?_
  refine ⟨_, hck, rE cJ0 ?_⟩
  refine wR0 200 [1,3,5,8,18] cJ0 ?_
  refine wT @hd ?_
  refine wR0 300 [6,7] cJ0 ?_
  refine wP ?_
  exact Frz.tupL (.cons .nil (.cons (.same rfl) .nil))
 rw [h1] at hck
 have hd1 : ((0 : Int) != 0) = false := rfl
 by_cases h2 : m.kind = 5
 case neg =>
  have hr : qbz m i c = ([], 15) := by rw [qbz, if_neg (by simp [h1]), if_pos h2]
  rw [hr]
  have hd : (m.kind != 5) = true := by simpa using h2
  rcases c with ⟨n, ks⟩
  refine qak fn17 (by simp) ?_
  unfold i17
  simp only [argL, encV, qau, mdC]
  refine wR0 0 [1,3,5] cJ0 ?_
  refine wRn 100 [1,3,5,8] cJ0 ?_
  refine rC cJ0 ?_
  refine ⟨_, hck, rE cJ0 ?_⟩
  refine wR0 200 [1,3,5,8,18] cJ0 ?_
  refine wF @hd1 ?_
  refine wR0 400 [1,3,5,20] cJ0 ?_
  refine wT @hd ?_
  refine wR0 500 [6,7] cJ0 ?_
  refine wP ?_
  exact Frz.tupL (.cons .nil (.cons (.same rfl) .nil))
 have hd2 : (m.kind != 5) = false := by simp [h2]
 by_cases h3 : i < 0 ∨ i ≥ m.rules.length
 case pos =>
  have hr : qbz m i c = ([], 16) := by rw [qbz, if_neg (by simp [h1]), if_neg (by simp [h2]), if_pos h3]
  rw [hr]
  rcases c with ⟨n, ks⟩
  rcases hi : decide (i < 0) with _ | _
  ·have hge : decide (i ≥ ((qaL m.rules).length : Int)) = true := decide_eq_true (by rw [qaM]; have := of_decide_eq_false hi; omega)
   have fX := (cJ2 @hi @hge)
   refine qak fn17 (by simp) ?_
   unfold i17
   simp only [argL, encV, qau, mdC]
   refine wR0 0 [1,3,5] fX ?_
   refine wRn 100 [1,3,5,8] fX ?_
   refine rC fX ?_
   refine ⟨_, hck, rE fX ?_⟩
   refine wR0 200 [1,3,5,8,18] fX ?_
   refine wF @hd1 ?_
   refine wR0 400 [1,3,5,20] fX ?_
   refine wF @hd2 ?_
   refine wR0 600 [1,3,5,24] fX ?_
   refine wT fX ?_
   refine wR0 700 [6,7] fX ?_
   refine wP ?_
   exact Frz.tupL (.cons .nil (.cons (.same rfl) .nil))
  ·have fX := @hi
   refine qak fn17 (by simp) ?_
   unfold i17
   simp only [argL, encV, qau, mdC]
   refine wR0 0 [1,3,5] fX ?_
   refine wRn 100 [1,3,5,8] fX ?_
   refine rC fX ?_
   refine ⟨_, hck, rE fX ?_⟩
   refine wR0 200 [1,3,5,8,18] fX ?_
   refine wF @hd1 ?_
   refine wR0 400 [1,3,5,20] fX ?_
   refine wF @hd2 ?_
   refine wR0 600 [1,3,5,24] fX ?_
   refine wT fX ?_
   refine wR0 700 [6,7] fX ?_
   refine wP ?_
   exact Frz.tupL (.cons .nil (.cons (.same rfl) .nil))
 have hi0 : 0 ≤ i := by omega
 have hin : i < m.rules.length := by omega
 have hi : decide (i < 0) = false := decide_eq_false (by omega)
 have hge : decide (i ≥ ((qaL m.rules).length : Int)) = false := decide_eq_false (by rw [qaM]; omega)
 have hvv := qgV m c hm hc
 rcases h4 : qaT m c with _ | _
 ·have hr : qbz m i c = ([], 17) := by rw [qbz, if_neg (by simp [h1]), if_neg (by simp [h2]), if_neg h3, if_pos h4]
  rw [hr]
  rw [h4] at hvv
  rcases c with ⟨n, ks⟩
  have fX := (cJ2 @hi @hge)
  refine qak fn17 (by simp) ?_
  unfold i17
  simp only [argL, encV, qau, mdC]
  refine wR0 0 [1,3,5] fX ?_
  refine wRn 100 [1,3,5,8] fX ?_
  refine rC fX ?_
  refine ⟨_, hck, rE fX ?_⟩
  refine wR0 200 [1,3,5,8,18] fX ?_
  refine wF @hd1 ?_
  refine wR0 400 [1,3,5,20] fX ?_
  refine wF @hd2 ?_
  refine wR0 600 [1,3,5,24] fX ?_
  refine wF fX ?_
  refine wRn 800 [1,3,5,34] fX ?_
  refine rC fX ?_
  refine ⟨_, hvv, rE fX ?_⟩
  refine wT @Bool.not_false ?_
  refine wR0 900 [6,7] fX ?_
  refine wP ?_
  exact Frz.tupL (.cons .nil (.cons (.same rfl) .nil))
 rw [h4] at hvv
 obtain ⟨s, xs, rfl, _, _, hxl, hxo, hxa⟩ := qeX h2 h1 h4
 have hil : i.toNat < m.rules.length := by omega
 have hg := qhl m i hil
 have hmem : qaB m i ∈ m.rules := by simp [qaB, List.getD_eq_getElem?_getD, hil]
 obtain ⟨_, htk, hmk⟩ := qgn h2 h1 hmem
 have hrr : qbz m i (cfgV s xs) = if s ≠ (qaB m i).from_ then ([], 0) else if ((qbu (qaB m i) xs).all fun v => qaT m v) = false then ([], 1) else (qa6 (qby (qbu (qaB m i) xs)), 0) := by
  rw [qbz, if_neg (by simp [h1]), if_neg (by simp [h2]), if_neg h3, if_neg (by simp [h4]), qb2, qbL]
 rw [hrr]
 have hlt14 : i < ((qaL m.rules).length : Int) := by rw [qaM]; exact hin
 generalize qaB m i = r at hg htk hmk
 have hto := qrq s xs (by omega)
 have hl0 : (0 : Int) < (([T.agg [.int .i64 s, .list []], T.agg [.int .i64 0, .list (qac (tokL xs))]] : List T).length : Int) := by simp
 have hz0 : ([T.agg [.int .i64 s, .list []], T.agg [.int .i64 0, .list (qac (tokL xs))]] : List T).getD (0 : Int).toNat .undef = .agg [.int .i64 s, .list []] := rfl
 simp only [cfgV, encV, qac] at hvv hto
 by_cases h5 : s = r.from_
 case neg =>
  rw [if_pos h5]
  have hd : (s != r.from_) = true := by simpa using h5
  have fX := (cJ3 @hi @hge @hz0)
  refine qak fn17 (by simp) ?_
  unfold i17
  simp only [argL, encV, qau, mdC, cfgV, qac]
  refine wR0 0 [1,3,5] fX ?_
  refine wRn 100 [1,3,5,8] fX ?_
  refine rC fX ?_
  refine ⟨_, hck, rE fX ?_⟩
  refine wR0 200 [1,3,5,8,18] fX ?_
  refine wF @hd1 ?_
  refine wR0 400 [1,3,5,20] fX ?_
  refine wF @hd2 ?_
  refine wR0 600 [1,3,5,24] fX ?_
  refine wF fX ?_
  refine wRn 800 [1,3,5,34] fX ?_
  refine rC fX ?_
  refine ⟨_, hvv, rE fX ?_⟩
  refine wF @Bool.not_true ?_
  refine wR0 1000 [3,5,9] (cJ3 @hg @rlC.eq_1 fX) ?_
  refine wR0 1100 [3,5,9,51] fX ?_
  refine wT @hd ?_
  refine wR0 1200 [6,7] fX ?_
  refine wP ?_
  exact Frz.tupL (.cons .nil (.cons (.same rfl) .nil))
 rw [if_neg (by simp [h5])]
 have hd5 : (s != r.from_) = false := by simp [h5]
 have hcall := qno m r (qdL r) hm (by simp [qdL]; omega) r.takes xs [] true (by omega) hxl (by
  have h2 : 12 ^ r.takes.length ≤ 12 ^ 3 := Nat.pow_le_pow_right (by omega) htk
  simp; omega)
 have hbf := qmE r xs hmk hxl
 have hbl := qhW r xs htk hxl
 have hbe : (chP qbB r.takes xs).map (bV r (qdL r)) = qbu r xs := rfl
 rw [hbe, List.nil_append, Bool.true_and] at hcall
 have hmc : ∀ D, clL D (mdC m) = true := fun D => by simp
 have hrc : ∀ D, clL D (rlC r) = true := fun D => by simp
 have hmo := qca m
 have hro : Ones (rlC r) := fun c hc => by
  have : (rlC r).all T.one = true := rfl
  exact List.all_eq_true.1 this c hc
 have hcs : ∀ D, clL D [T.int .i64 0, .list [.agg [.int .i64 s, .list []], .agg [.int .i64 0, .list (qac (tokL xs))]]] = true := fun D => by simp [clL, T.cl, qam]
 rcases hmd : qdL r with _ | ⟨z, ml⟩
 ·rw [hmd] at hcall
  rcases hbv : qbu r xs with _ | ⟨b, bs⟩
  ·have hok : (([] : List V).all fun v => qaT m v) = true := rfl
   rw [hbv, hok] at hcall
   rw [hok, if_neg (by simp)]
   have hnc := qhd 51
   have hsn := qdI 49
   simp only [stA, rowT, rowH, List.append_nil] at hcall
   have fX := (cJ3 @hi @hge @hz0)
   refine qak fn17 (by simp) ?_
   unfold i17
   simp only [argL, encV, qau, mdC, cfgV, qac]
   refine wR0 0 [1,3,5] fX ?_
   refine wRn 100 [1,3,5,8] fX ?_
   refine rC fX ?_
   refine ⟨_, hck, rE fX ?_⟩
   refine wR0 200 [1,3,5,8,18] fX ?_
   refine wF @hd1 ?_
   refine wR0 400 [1,3,5,20] fX ?_
   refine wF @hd2 ?_
   refine wR0 600 [1,3,5,24] fX ?_
   refine wF fX ?_
   refine wRn 800 [1,3,5,34] fX ?_
   refine rC fX ?_
   refine ⟨_, hvv, rE fX ?_⟩
   refine wF @Bool.not_true ?_
   refine wR0 1000 [3,5,9] (cJ3 @hg @rlC.eq_1 fX) ?_
   refine wR0 1100 [3,5,9,51] fX ?_
   refine wF @hd5 ?_
   refine wR0 1300 [3,5,9,10] fX ?_
   refine wR0 1400 [3,5,9,10,53,54,55] fX ?_
   refine wL ?_
   refine qdk m r _ hcs (by omega) _ r.makes [] 0 rfl rfl ?_
   ·intro i
    refine wN ?_
    rw [hmd]
    simp only [qcB, qcy, List.append_nil]
    refine qcx (l' := [(3, .ref 0 10 0), (5, .ref 1 2 0), (9, .ref 1005 14 0), (10, .ref 1300 1 0), (53, .undef), (54, .undef), (55, .undef), (56, .undef)]) (hl' := [(0, sM m), (1, _), (1005, sR r), (1300, sD [])]) [0, 1, 1005, 1300] (.cons (.same rfl) (.cons (.same rfl) (.cons (.same rfl) (.cons (.same rfl) (.drop (.drop (.drop (.drop .nil)))))))) (.keep rfl (.liveS (hmc _) hmo) (.keep rfl (.liveA (hcs _) rfl) (.keep rfl (.liveS (hrc _) hro) (.keep rfl (.liveL (.cons .nil .nil) rfl) .nil)))) ?_
    refine wR0 1900 [3,5,9,10,13] fX ?_
    refine wR0 2000 [3,5,9,10,13,14] fX ?_
    refine wRn 2100 [13,14] (cJ2 @rlC.eq_1 fX) ?_
    refine rC (cJ2 @rlC.eq_1 fX) ?_
    refine ⟨_, hto, rN (cJ2 @rlC.eq_1 fX) ?_⟩
    refine rU [(0, sM m), (1005, sR r), (1300, sD []), (1900, sO .nil), (2000, sF true)] [(0, sM m), (1005, sR r), (1300, sD []), (1900, sO .nil), (2000, sF true)] (cJ2 @rlC.eq_1 fX) ?_
    refine ⟨_, hcall.fullL (by simp) (by simp [qbc, qaA, qaO]), rE (cJ2 @rlC.eq_1 fX) ?_⟩
    refine wR0 2200 [13,72] fX ?_
    refine wF @Bool.not_true ?_
    refine wRn 2400 [13] fX ?_
    refine rC fX ?_
    refine ⟨_, hsn, rE fX ?_⟩
    refine wRn 2500 [6,7] fX ?_
    refine rC fX ?_
    refine ⟨_, hnc, rE fX ?_⟩
    refine wP ?_
    exact Frz.tupL (.cons (.same rfl) (.cons (.same rfl) .nil))
  ·rw [hbv] at hbf hbl
   have hll : bs.length + 1 ≤ 1728 := by simpa using hbl
   rcases hok : ((b :: bs).all fun v => qaT m v) with _ | _
   ·rw [hbv, hok] at hcall
    rw [if_pos rfl]
    simp only [stA, rowT, rowH, List.cons_append, List.nil_append, List.append_nil] at hcall
    have fX := (cJ3 @hi @hge @hz0)
    refine qak fn17 (by simp) ?_
    unfold i17
    simp only [argL, encV, qau, mdC, cfgV, qac]
    refine wR0 0 [1,3,5] fX ?_
    refine wRn 100 [1,3,5,8] fX ?_
    refine rC fX ?_
    refine ⟨_, hck, rE fX ?_⟩
    refine wR0 200 [1,3,5,8,18] fX ?_
    refine wF @hd1 ?_
    refine wR0 400 [1,3,5,20] fX ?_
    refine wF @hd2 ?_
    refine wR0 600 [1,3,5,24] fX ?_
    refine wF fX ?_
    refine wRn 800 [1,3,5,34] fX ?_
    refine rC fX ?_
    refine ⟨_, hvv, rE fX ?_⟩
    refine wF @Bool.not_true ?_
    refine wR0 1000 [3,5,9] (cJ3 @hg @rlC.eq_1 fX) ?_
    refine wR0 1100 [3,5,9,51] fX ?_
    refine wF @hd5 ?_
    refine wR0 1300 [3,5,9,10] fX ?_
    refine wR0 1400 [3,5,9,10,53,54,55] fX ?_
    refine wL ?_
    refine qdk m r _ hcs (by omega) _ r.makes [] 0 rfl rfl ?_
    ·intro i
     refine wN ?_
     rw [hmd]
     simp only [qcB, qcy, List.append_nil]
     refine qcx (l' := [(3, .ref 0 10 0), (5, .ref 1 2 0), (9, .ref 1005 14 0), (10, .ref 1300 1 0), (53, .undef), (54, .undef), (55, .undef), (56, .undef)]) (hl' := [(0, sM m), (1, _), (1005, sR r), (1300, sD [])]) [0, 1, 1005, 1300] (.cons (.same rfl) (.cons (.same rfl) (.cons (.same rfl) (.cons (.same rfl) (.drop (.drop (.drop (.drop .nil)))))))) (.keep rfl (.liveS (hmc _) hmo) (.keep rfl (.liveA (hcs _) rfl) (.keep rfl (.liveS (hrc _) hro) (.keep rfl (.liveL (.cons .nil .nil) rfl) .nil)))) ?_
     refine wR0 1900 [3,5,9,10,13] fX ?_
     refine wR0 2000 [3,5,9,10,13,14] fX ?_
     refine wRn 2100 [13,14] (cJ2 @rlC.eq_1 fX) ?_
     refine rC (cJ2 @rlC.eq_1 fX) ?_
     refine ⟨_, hto, rN (cJ2 @rlC.eq_1 fX) ?_⟩
     refine rU [(0, sM m), (1005, sR r), (1300, sD []), (1900, sO .nil), (2000, sF true)] [(0, sM m), (1005, sR r), (1300, sD []), (1900, sO (.sl 700 ((bs.length + 1) * 2) 2 0 (bs.length + 1))), (2000, sF false), (700, .live ⟨25, qao (b :: bs)⟩)] (cJ2 @rlC.eq_1 fX) ?_
     refine ⟨_, hcall.fullL (by simp) (by simp [qbc, qaA, qaO, qaX]), rE (cJ2 @rlC.eq_1 fX) ?_⟩
     refine wR0 2200 [13,72] fX ?_
     refine wT @Bool.not_false ?_
     refine wR0 2300 [6,7] fX ?_
     refine wP ?_
     exact Frz.tupL (.cons .nil (.cons (.same rfl) .nil))
   ·rw [hbv, hok] at hcall
    rw [if_neg (by simp)]
    have hso := qi8 700 25 (b :: bs) (by simp) (by simp; omega) hbf
    rw [List.length_cons] at hso
    have hfs : ∀ v ∈ qby (b :: bs), v.fit := fun v hv => hbf v ((qcf _).mem_iff.1 hv)
    have hne : qby (b :: bs) ≠ [] := fun h => by have := qcw (b :: bs); rw [h] at this; simp at this
    have hco := qhI 51 (qby (b :: bs)) hne (by rw [qcw]; simp; omega) hfs qn6
    have htl := qka (qby (b :: bs))
    rw [qcw, List.length_cons] at hco htl
    simp only [stA, rowT, rowH, List.cons_append, List.nil_append, List.append_nil] at hcall
    have fX := (cJ3 @hi @hge @hz0)
    refine qak fn17 (by simp) ?_
    unfold i17
    simp only [argL, encV, qau, mdC, cfgV, qac]
    refine wR0 0 [1,3,5] fX ?_
    refine wRn 100 [1,3,5,8] fX ?_
    refine rC fX ?_
    refine ⟨_, hck, rE fX ?_⟩
    refine wR0 200 [1,3,5,8,18] fX ?_
    refine wF @hd1 ?_
    refine wR0 400 [1,3,5,20] fX ?_
    refine wF @hd2 ?_
    refine wR0 600 [1,3,5,24] fX ?_
    refine wF fX ?_
    refine wRn 800 [1,3,5,34] fX ?_
    refine rC fX ?_
    refine ⟨_, hvv, rE fX ?_⟩
    refine wF @Bool.not_true ?_
    refine wR0 1000 [3,5,9] (cJ3 @hg @rlC.eq_1 fX) ?_
    refine wR0 1100 [3,5,9,51] fX ?_
    refine wF @hd5 ?_
    refine wR0 1300 [3,5,9,10] fX ?_
    refine wR0 1400 [3,5,9,10,53,54,55] fX ?_
    refine wL ?_
    refine qdk m r _ hcs (by omega) _ r.makes [] 0 rfl rfl ?_
    ·intro i
     refine wN ?_
     rw [hmd]
     simp only [qcB, qcy, List.append_nil]
     refine qcx (l' := [(3, .ref 0 10 0), (5, .ref 1 2 0), (9, .ref 1005 14 0), (10, .ref 1300 1 0), (53, .undef), (54, .undef), (55, .undef), (56, .undef)]) (hl' := [(0, sM m), (1, _), (1005, sR r), (1300, sD [])]) [0, 1, 1005, 1300] (.cons (.same rfl) (.cons (.same rfl) (.cons (.same rfl) (.cons (.same rfl) (.drop (.drop (.drop (.drop .nil)))))))) (.keep rfl (.liveS (hmc _) hmo) (.keep rfl (.liveA (hcs _) rfl) (.keep rfl (.liveS (hrc _) hro) (.keep rfl (.liveL (.cons .nil .nil) rfl) .nil)))) ?_
     refine wR0 1900 [3,5,9,10,13] fX ?_
     refine wR0 2000 [3,5,9,10,13,14] fX ?_
     refine wRn 2100 [13,14] (cJ2 @rlC.eq_1 fX) ?_
     refine rC (cJ2 @rlC.eq_1 fX) ?_
     refine ⟨_, hto, rN (cJ2 @rlC.eq_1 fX) ?_⟩
     refine rU [(0, sM m), (1005, sR r), (1300, sD []), (1900, sO .nil), (2000, sF true)] [(0, sM m), (1005, sR r), (1300, sD []), (1900, sO (.sl 700 ((bs.length + 1) * 2) 2 0 (bs.length + 1))), (2000, sF true), (700, .live ⟨25, qao (b :: bs)⟩)] (cJ2 @rlC.eq_1 fX) ?_
     refine ⟨_, hcall.fullL (by simp) (by simp [qbc, qaA, qaO, qaX]), rE (cJ2 @rlC.eq_1 fX) ?_⟩
     refine wR0 2200 [13,72] fX ?_
     refine wF @Bool.not_true ?_
     refine wRn 2400 [13] fX ?_
     refine rU [(700, .live ⟨25, qao (b :: bs)⟩)] [(700, .live ⟨25, qao (qby (b :: bs))⟩)] fX ?_
     refine ⟨_, hso.full1, rE fX ?_⟩
     refine wRn 2500 [6,7] fX ?_
     refine rU [(700, .live ⟨25, qao (qby (b :: bs))⟩)] [(700, .live ⟨25, qao (qa6 (qby (b :: bs))) ++ qfU (qby (b :: bs))⟩)] fX ?_
     refine ⟨_, hco.full1, rE fX ?_⟩
     refine wP ?_
     exact Frz.tupL (.cons (qlI (qa6 (qby (b :: bs))) (qfU (qby (b :: bs))) rfl htl) (.cons (.same rfl) .nil))
 ·rw [hmd] at hcall
  rcases hbv : qbu r xs with _ | ⟨b, bs⟩
  ·have hok : (([] : List V).all fun v => qaT m v) = true := rfl
   rw [hbv, hok] at hcall
   rw [hok, if_neg (by simp)]
   have hnc := qhd 51
   have hsn := qdI 49
   simp only [stA, rowT, rowH, List.append_nil] at hcall
   have fX := (cJ3 @hi @hge @hz0)
   refine qak fn17 (by simp) ?_
   unfold i17
   simp only [argL, encV, qau, mdC, cfgV, qac]
   refine wR0 0 [1,3,5] fX ?_
   refine wRn 100 [1,3,5,8] fX ?_
   refine rC fX ?_
   refine ⟨_, hck, rE fX ?_⟩
   refine wR0 200 [1,3,5,8,18] fX ?_
   refine wF @hd1 ?_
   refine wR0 400 [1,3,5,20] fX ?_
   refine wF @hd2 ?_
   refine wR0 600 [1,3,5,24] fX ?_
   refine wF fX ?_
   refine wRn 800 [1,3,5,34] fX ?_
   refine rC fX ?_
   refine ⟨_, hvv, rE fX ?_⟩
   refine wF @Bool.not_true ?_
   refine wR0 1000 [3,5,9] (cJ3 @hg @rlC.eq_1 fX) ?_
   refine wR0 1100 [3,5,9,51] fX ?_
   refine wF @hd5 ?_
   refine wR0 1300 [3,5,9,10] fX ?_
   refine wR0 1400 [3,5,9,10,53,54,55] fX ?_
   refine wL ?_
   refine qdk m r _ hcs (by omega) _ r.makes [] 0 rfl rfl ?_
   ·intro i
    refine wN ?_
    rw [hmd]
    simp only [qcB, qcy, List.cons_append, List.nil_append]
    refine qcx (l' := [(3, .ref 0 10 0), (5, .ref 1 2 0), (9, .ref 1005 14 0), (10, .ref 1300 1 0), (53, .undef), (54, .undef), (55, .undef), (56, .undef)]) (hl' := [(0, sM m), (1, _), (1005, sR r), (1300, sD (z :: ml)), (1704, .dead)]) [0, 1, 1005, 1300] (.cons (.same rfl) (.cons (.same rfl) (.cons (.same rfl) (.cons (.same rfl) (.drop (.drop (.drop (.drop .nil)))))))) (.keep rfl (.liveS (hmc _) hmo) (.keep rfl (.liveA (hcs _) rfl) (.keep rfl (.liveS (hrc _) hro) (.keep rfl (.liveL (.cons (qlb (z :: ml) rfl rfl rfl rfl) .nil) rfl) (.dead rfl (fun h => by cases h) .nil))))) ?_
    refine wR0 1900 [3,5,9,10,13] fX ?_
    refine wR0 2000 [3,5,9,10,13,14] fX ?_
    refine wRn 2100 [13,14] (cJ2 @rlC.eq_1 fX) ?_
    refine rC (cJ2 @rlC.eq_1 fX) ?_
    refine ⟨_, hto, rN (cJ2 @rlC.eq_1 fX) ?_⟩
    refine rU [(0, sM m), (1005, sR r), (1300, sD (z :: ml)), (1900, sO .nil), (2000, sF true)] [(0, sM m), (1005, sR r), (1300, sD (z :: ml)), (1900, sO .nil), (2000, sF true)] (cJ2 @rlC.eq_1 fX) ?_
    refine ⟨_, hcall.fullL (by simp) (by simp [qbc, qaA, qaO]), rE (cJ2 @rlC.eq_1 fX) ?_⟩
    refine wR0 2200 [13,72] fX ?_
    refine wF @Bool.not_true ?_
    refine wRn 2400 [13] fX ?_
    refine rC fX ?_
    refine ⟨_, hsn, rE fX ?_⟩
    refine wRn 2500 [6,7] fX ?_
    refine rC fX ?_
    refine ⟨_, hnc, rE fX ?_⟩
    refine wP ?_
    exact Frz.tupL (.cons (.same rfl) (.cons (.same rfl) .nil))
  ·rw [hbv] at hbf hbl
   have hll : bs.length + 1 ≤ 1728 := by simpa using hbl
   rcases hok : ((b :: bs).all fun v => qaT m v) with _ | _
   ·rw [hbv, hok] at hcall
    rw [if_pos rfl]
    simp only [stA, rowT, rowH, List.cons_append, List.nil_append, List.append_nil] at hcall
    have fX := (cJ3 @hi @hge @hz0)
    refine qak fn17 (by simp) ?_
    unfold i17
    simp only [argL, encV, qau, mdC, cfgV, qac]
    refine wR0 0 [1,3,5] fX ?_
    refine wRn 100 [1,3,5,8] fX ?_
    refine rC fX ?_
    refine ⟨_, hck, rE fX ?_⟩
    refine wR0 200 [1,3,5,8,18] fX ?_
    refine wF @hd1 ?_
    refine wR0 400 [1,3,5,20] fX ?_
    refine wF @hd2 ?_
    refine wR0 600 [1,3,5,24] fX ?_
    refine wF fX ?_
    refine wRn 800 [1,3,5,34] fX ?_
    refine rC fX ?_
    refine ⟨_, hvv, rE fX ?_⟩
    refine wF @Bool.not_true ?_
    refine wR0 1000 [3,5,9] (cJ3 @hg @rlC.eq_1 fX) ?_
    refine wR0 1100 [3,5,9,51] fX ?_
    refine wF @hd5 ?_
    refine wR0 1300 [3,5,9,10] fX ?_
    refine wR0 1400 [3,5,9,10,53,54,55] fX ?_
    refine wL ?_
    refine qdk m r _ hcs (by omega) _ r.makes [] 0 rfl rfl ?_
    ·intro i
     refine wN ?_
     rw [hmd]
     simp only [qcB, qcy, List.cons_append, List.nil_append]
     refine qcx (l' := [(3, .ref 0 10 0), (5, .ref 1 2 0), (9, .ref 1005 14 0), (10, .ref 1300 1 0), (53, .undef), (54, .undef), (55, .undef), (56, .undef)]) (hl' := [(0, sM m), (1, _), (1005, sR r), (1300, sD (z :: ml)), (1704, .dead)]) [0, 1, 1005, 1300] (.cons (.same rfl) (.cons (.same rfl) (.cons (.same rfl) (.cons (.same rfl) (.drop (.drop (.drop (.drop .nil)))))))) (.keep rfl (.liveS (hmc _) hmo) (.keep rfl (.liveA (hcs _) rfl) (.keep rfl (.liveS (hrc _) hro) (.keep rfl (.liveL (.cons (qlb (z :: ml) rfl rfl rfl rfl) .nil) rfl) (.dead rfl (fun h => by cases h) .nil))))) ?_
     refine wR0 1900 [3,5,9,10,13] fX ?_
     refine wR0 2000 [3,5,9,10,13,14] fX ?_
     refine wRn 2100 [13,14] (cJ2 @rlC.eq_1 fX) ?_
     refine rC (cJ2 @rlC.eq_1 fX) ?_
     refine ⟨_, hto, rN (cJ2 @rlC.eq_1 fX) ?_⟩
     refine rU [(0, sM m), (1005, sR r), (1300, sD (z :: ml)), (1900, sO .nil), (2000, sF true)] [(0, sM m), (1005, sR r), (1300, sD (z :: ml)), (1900, sO (.sl 700 ((bs.length + 1) * 2) 2 0 (bs.length + 1))), (2000, sF false), (700, .live ⟨25, qao (b :: bs)⟩)] (cJ2 @rlC.eq_1 fX) ?_
     refine ⟨_, hcall.fullL (by simp) (by simp [qbc, qaA, qaO, qaX]), rE (cJ2 @rlC.eq_1 fX) ?_⟩
     refine wR0 2200 [13,72] fX ?_
     refine wT @Bool.not_false ?_
     refine wR0 2300 [6,7] fX ?_
     refine wP ?_
     exact Frz.tupL (.cons .nil (.cons (.same rfl) .nil))
   ·rw [hbv, hok] at hcall
    rw [if_neg (by simp)]
    have hso := qi8 700 25 (b :: bs) (by simp) (by simp; omega) hbf
    rw [List.length_cons] at hso
    have hfs : ∀ v ∈ qby (b :: bs), v.fit := fun v hv => hbf v ((qcf _).mem_iff.1 hv)
    have hne : qby (b :: bs) ≠ [] := fun h => by have := qcw (b :: bs); rw [h] at this; simp at this
    have hco := qhI 51 (qby (b :: bs)) hne (by rw [qcw]; simp; omega) hfs qn6
    have htl := qka (qby (b :: bs))
    rw [qcw, List.length_cons] at hco htl
    simp only [stA, rowT, rowH, List.cons_append, List.nil_append, List.append_nil] at hcall
    have fX := (cJ3 @hi @hge @hz0)
    refine qak fn17 (by simp) ?_
    unfold i17
    simp only [argL, encV, qau, mdC, cfgV, qac]
    refine wR0 0 [1,3,5] fX ?_
    refine wRn 100 [1,3,5,8] fX ?_
    refine rC fX ?_
    refine ⟨_, hck, rE fX ?_⟩
    refine wR0 200 [1,3,5,8,18] fX ?_
    refine wF @hd1 ?_
    refine wR0 400 [1,3,5,20] fX ?_
    refine wF @hd2 ?_
    refine wR0 600 [1,3,5,24] fX ?_
    refine wF fX ?_
    refine wRn 800 [1,3,5,34] fX ?_
    refine rC fX ?_
    refine ⟨_, hvv, rE fX ?_⟩
    refine wF @Bool.not_true ?_
    refine wR0 1000 [3,5,9] (cJ3 @hg @rlC.eq_1 fX) ?_
    refine wR0 1100 [3,5,9,51] fX ?_
    refine wF @hd5 ?_
    refine wR0 1300 [3,5,9,10] fX ?_
    refine wR0 1400 [3,5,9,10,53,54,55] fX ?_
    refine wL ?_
    refine qdk m r _ hcs (by omega) _ r.makes [] 0 rfl rfl ?_
    ·intro i
     refine wN ?_
     rw [hmd]
     simp only [qcB, qcy, List.cons_append, List.nil_append]
     refine qcx (l' := [(3, .ref 0 10 0), (5, .ref 1 2 0), (9, .ref 1005 14 0), (10, .ref 1300 1 0), (53, .undef), (54, .undef), (55, .undef), (56, .undef)]) (hl' := [(0, sM m), (1, _), (1005, sR r), (1300, sD (z :: ml)), (1704, .dead)]) [0, 1, 1005, 1300] (.cons (.same rfl) (.cons (.same rfl) (.cons (.same rfl) (.cons (.same rfl) (.drop (.drop (.drop (.drop .nil)))))))) (.keep rfl (.liveS (hmc _) hmo) (.keep rfl (.liveA (hcs _) rfl) (.keep rfl (.liveS (hrc _) hro) (.keep rfl (.liveL (.cons (qlb (z :: ml) rfl rfl rfl rfl) .nil) rfl) (.dead rfl (fun h => by cases h) .nil))))) ?_
     refine wR0 1900 [3,5,9,10,13] fX ?_
     refine wR0 2000 [3,5,9,10,13,14] fX ?_
     refine wRn 2100 [13,14] (cJ2 @rlC.eq_1 fX) ?_
     refine rC (cJ2 @rlC.eq_1 fX) ?_
     refine ⟨_, hto, rN (cJ2 @rlC.eq_1 fX) ?_⟩
     refine rU [(0, sM m), (1005, sR r), (1300, sD (z :: ml)), (1900, sO .nil), (2000, sF true)] [(0, sM m), (1005, sR r), (1300, sD (z :: ml)), (1900, sO (.sl 700 ((bs.length + 1) * 2) 2 0 (bs.length + 1))), (2000, sF true), (700, .live ⟨25, qao (b :: bs)⟩)] (cJ2 @rlC.eq_1 fX) ?_
     refine ⟨_, hcall.fullL (by simp) (by simp [qbc, qaA, qaO, qaX]), rE (cJ2 @rlC.eq_1 fX) ?_⟩
     refine wR0 2200 [13,72] fX ?_
     refine wF @Bool.not_true ?_
     refine wRn 2400 [13] fX ?_
     refine rU [(700, .live ⟨25, qao (b :: bs)⟩)] [(700, .live ⟨25, qao (qby (b :: bs))⟩)] fX ?_
     refine ⟨_, hso.full1, rE fX ?_⟩
     refine wRn 2500 [6,7] fX ?_
     refine rU [(700, .live ⟨25, qao (qby (b :: bs))⟩)] [(700, .live ⟨25, qao (qa6 (qby (b :: bs))) ++ qfU (qby (b :: bs))⟩)] fX ?_
     refine ⟨_, hco.full1, rE fX ?_⟩
     refine wP ?_
     exact Frz.tupL (.cons (qlI (qa6 (qby (b :: bs))) (qfU (qby (b :: bs))) rfl htl) (.cons (.same rfl) .nil))
end
end Go.Proofs.YtikhhnopcjgjpaaGreat
