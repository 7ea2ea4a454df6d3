/- Contracts of functions of the program, for all arguments that they name. -/
import Derived.Test.YtikhhnopcjgjpaaGreatK17
namespace Go.Proofs.YtikhhnopcjgjpaaGreat
set_option linter.unusedVariables false
section
open Go.RowKit
set_option maxHeartbeats 2000000
attribute [simp] qc9 qej
theorem qsc : TC Tryz.prog 80 [.nil, .int .i64 0] (hpL []) .nil (hpL []) := by
 have h1 : decide ((0 : Int) < 0) = false := rfl
 have h2 : decide ((0 : Int) > 0) = false := rfl
 have hw : IntKind.wrap .i64 ((0 : Int) - (0 - 0)) = 0 := rfl
 have hw2 : IntKind.wrap .i64 ((0 : Int) - 0) = 0 := rfl
 have fX := (cJ4 @h1 @h2 @hw @hw2)
 refine qcg fn80 (by simp) ?_
 unfold i80
 simp only [argL]
 refine wR0 0 [0,1] fX ?_
 refine wR0 100 [0,1,6] fX ?_
 refine wF fX ?_
 refine wR0 300 [0,1] fX ?_
 refine wR0 400 [0,1,16] fX ?_
 refine wF fX ?_
 refine wR0 600 [4] fX ?_
 refine wE ?_
 refine wN ?_
 first | exact ⟨by simp, rfl, rfl⟩ | exact ⟨by simp, rfl, trivial⟩
theorem qqW (n : Nat) (hn : 0 < n) (hl : n ≤ 1000000) : TC Tryz.prog 80 [.nil, .int .i64 n] (hpL []) (.sl 508 0 2 0 0) (hpL [(505, .dead), (508, .live ⟨50, []⟩)]) := by
 have h1 : decide ((n : Int) < 0) = false := decide_eq_false (by omega)
 have h2 : decide ((n : Int) > 0) = true := decide_eq_true (by omega)
 have hw : IntKind.wrap .i64 ((n : Int) - 0) = (n : Int) := by rw [Int.sub_zero]; exact wrap64 (by omega) (by omega)
 have hw2 : IntKind.wrap .i64 ((0 : Int) - 0) = 0 := rfl
 have fX := (cJ4 @h1 @h2 @hw @hw2)
 refine qcg fn80 (by simp) ?_
 unfold i80
 simp only [argL]
 refine wR0 0 [0,1] fX ?_
 refine wR0 100 [0,1,6] fX ?_
 refine wF @h1 ?_
 refine wR0 300 [0,1] fX ?_
 refine wR0 400 [0,1,16] fX ?_
 refine wT @h2 ?_
 refine wR 500 [0] ?_
 refine rN1 fX ?_
 refine rN1 fX ?_
 refine rN1 fX ?_
 refine rN1 fX ?_
 refine rN1 fX ?_
 refine rN1 fX ?_
 refine rN1 fX ?_
 refine rN1 fX ?_
 refine rCut fX ?_
 refine rE fX ?_
 refine wR0 600 [4] fX ?_
 refine wE ?_
 refine wN ?_
 first | exact ⟨by simp, rfl, rfl⟩ | exact ⟨by simp, rfl, trivial⟩
theorem qrM (n : Nat) (hn : 0 < n) (hl : n ≤ 1000000) : TC Tryz.prog 80 [.nil, .int .i64 n] (hpL []) (.sl 508 0 2 0 0) (hpL [(508, .live ⟨50, []⟩)]) :=
 qb6 [508] (qqW n hn hl) (by simp) (by simp [T.cl, inL]) (by simp [qap, inL, Slot.cl, clL])
def llsP (xss : List (List (Int × Int))) : List T := xss.map fun l => .list (qax l)
theorem qiR (pre : List (List (Int × Int))) (l : List (Int × Int)) (rest : List (List (Int × Int))) : (llsP (pre ++ l :: rest)).getD pre.length .undef = .list (qax l) := by simp [llsP, List.getD_eq_getElem?_getD]
theorem qd7 (xss : List (List (Int × Int))) : (llsP xss).length = xss.length := by simp [llsP]
theorem qoF (xss : List (List (Int × Int))) (hs : xss.flatten.length ≤ 1000000) (hl : xss.length ≤ 1000000) (Q : IExit → (Nat → T) → Heap → Prop) : ∀ (rest pre : List (List (Int × Int))) (i : Nat), xss = pre ++ rest → pre.length = i →
 (∀ i : Int, Q (.exit 0) (ofL [(0, .list (llsP xss)), (3, .int .i64 xss.flatten.length), (9, .list (llsP xss)), (10, .int .i64 (llsP xss).length), (11, .int .i64 i), (12, .bool false)]) (hpL [])) →
 WL Tryz.prog 36 qlJ (ofL [(0, .list (llsP xss)), (3, .int .i64 pre.flatten.length), (9, .list (llsP xss)), (10, .int .i64 (llsP xss).length), (11, .int .i64 i)]) (hpL []) Q := by
 intro rest
 induction rest with
 | nil =>
  intro pre i he hn hQ
  have hd : decide ((i : Int) < ((llsP xss).length : Int)) = false := by simp [qd7, he, hn]
  simp only [List.append_nil] at he
  subst he
  have fX := @hd
  refine qaa qlJ.eq_1 ?_
  refine wR0 300 [0,3,9,10,11,12] fX ?_
  refine wF @hd ?_
  refine wX ?_
  refine wN ?_
  exact hQ _
 | cons k rest ih =>
  intro pre i he hn hQ
  have hlt : (i : Int) < ((llsP xss).length : Int) := by simp [qd7, he]; omega
  have hlb : i ≤ 1000000 := by rw [he] at hl; simp at hl; omega
  have hd : decide ((i : Int) < ((llsP xss).length : Int)) = true := decide_eq_true hlt
  have hg : (llsP xss).getD (i : Int).toNat .undef = .list (qax k) := by rw [Int.toNat_natCast, he, ← hn]; exact qiR _ k _
  have hw : IntKind.wrap .i64 ((i : Int) + 1) = (i : Int) + 1 := wrap64 (by omega) (by omega)
  have hsum : (pre ++ [k]).flatten.length ≤ 1000000 := by rw [he] at hs; simp at hs ⊢; omega
  have hw2 : IntKind.wrap .i64 ((pre.flatten.length : Int) + ((qax k).length : Int)) = ((pre ++ [k]).flatten.length : Int) := by rw [qaP]; simp at hsum ⊢; exact wrap64 (by omega) (by omega)
  have hd2 : decide (((pre ++ [k]).flatten.length : Int) < 0) = false := decide_eq_false (by omega)
  have fX := (cJ5 @hd @hg @hw @hw2 @hd2)
  refine qaa qlJ.eq_1 ?_
  refine wR0 300 [0,3,9,10,11,12] fX ?_
  refine wT @hd ?_
  refine wR0 400 [0,3,5,9,10,11] fX ?_
  refine wR0 500 [0,3,9,10,11] fX ?_
  refine wR0 600 [0,3,9,10,11,20] fX ?_
  refine wF @hd2 ?_
  refine wR0 800 [0,3,9,10,11] fX ?_
  refine wN ?_
  exact ih (pre ++ [k]) (i + 1) (by simp [he]) (by simp; omega) hQ
theorem qsq (xss : List (List (Int × Int))) (hs : xss.flatten.length ≤ 1000000) (hl : xss.length ≤ 1000000) (Q : IExit → (Nat → T) → Heap → Prop) : ∀ (rest pre : List (List (Int × Int))) (i : Nat) (done : List (Int × Int)), xss = pre ++ rest → pre.length = i → pre.flatten = done →
 (∀ (i : Int) (done : List (Int × Int)), done = xss.flatten → Q (.exit 2) (ofL [(6, .sl 508 (done.length * 2) 2 0 done.length), (25, .list (llsP xss)), (26, .int .i64 (llsP xss).length), (27, .int .i64 i), (28, .bool false)]) (hpL [(508, .live ⟨50, qbd done⟩)])) →
 WL Tryz.prog 36 qfO (ofL [(6, .sl 508 (done.length * 2) 2 0 done.length), (25, .list (llsP xss)), (26, .int .i64 (llsP xss).length), (27, .int .i64 i)]) (hpL [(508, .live ⟨50, qbd done⟩)]) Q := by
 intro rest
 induction rest with
 | nil =>
  intro pre i done he hn hdn hQ
  have hd : decide ((i : Int) < ((llsP xss).length : Int)) = false := by simp [qd7, he, hn]
  simp only [List.append_nil] at he
  have fX := @hd
  refine qaa qfO.eq_1 ?_
  refine wR0 1100 [6,25,26,27,28] fX ?_
  refine wF @hd ?_
  refine wX ?_
  refine wN ?_
  exact hQ _ done (by rw [he, hdn])
 | cons k rest ih =>
  intro pre i done he hn hdn hQ
  have hlt : (i : Int) < ((llsP xss).length : Int) := by simp [qd7, he]; omega
  have hlb : i ≤ 1000000 := by rw [he] at hl; simp at hl; omega
  have hd : decide ((i : Int) < ((llsP xss).length : Int)) = true := decide_eq_true hlt
  have hg : (llsP xss).getD (i : Int).toNat .undef = .list (qax k) := by rw [Int.toNat_natCast, he, ← hn]; exact qiR _ k _
  have hw : IntKind.wrap .i64 ((i : Int) + 1) = (i : Int) + 1 := wrap64 (by omega) (by omega)
  have hsum : done.length + k.length ≤ 1000000 := by rw [he] at hs; rw [← hdn]; simp at hs ⊢; omega
  cases k with
  | nil =>
   have hg' : (llsP xss).getD (i : Int).toNat .undef = .list [] := hg
   have fX := (cJ3 @hd @hg' @hw)
   refine qaa qfO.eq_1 ?_
   refine wR0 1100 [6,25,26,27,28] fX ?_
   refine wT @hd ?_
   refine wR0 1200 [6,8,25,26,27] fX ?_
   refine wR0 1300 [6,25,26,27] fX ?_
   refine wR0 1400 [6,25,26,27] fX ?_
   refine wN ?_
   exact ih (pre ++ [[]]) (i + 1) done (by simp [he]) (by simp; omega) (by simp [hdn]) hQ
  | cons y k =>
   have hne : qax (y :: k) ≠ [] := by simp [qax]
   have hszd := qgN (y :: k)
   have hlen : (qbd done).length = done.length * 2 := qbA _
   have hkl := qaP (y :: k)
   have hkf : flat (qax (y :: k)) = qbd (y :: k) := (qcM _).symm
   have hkfl : (qbd (y :: k)).length = (y :: k).length * 2 := qbA _
   have hsum' : done.length + (y :: k).length ≤ 1000000000 := by omega
   have hpos : 0 < (y :: k).length := by simp
   generalize hyk : y :: k = yk at *
   have fX := (cJ8 @hd @hg @hw @hne @hszd @hlen @hkl (cJ6 @hkf @hkfl @ne_eq.{1} @not_false_eq_true @true_and @and_true))
   refine qaa qfO.eq_1 ?_
   refine wR0 1100 [6,25,26,27,28] fX ?_
   refine wT @hd ?_
   refine wR0 1200 [6,8,25,26,27] fX ?_
   refine wR0 1300 [6,25,26,27] fX ?_
   refine wR0 1400 [6,25,26,27] fX ?_
   refine wN ?_
   have := ih (pre ++ [yk]) (i + 1) (done ++ yk) (by simp [he]) (by simp; omega) (by simp [hdn]) hQ
   rw [qcq] at this
   simp only [List.length_append] at this
   try simp only [Nat.add_mul] at this
   exact this
theorem qsp (xss : List (List (Int × Int))) (hs : xss.flatten.length ≤ 1000000) (hl : xss.length ≤ 1000000) (hne : xss.flatten ≠ []) : TC Tryz.prog 47 [.list (llsP xss)] (hpL []) (.sl 508 ((qbd xss.flatten).length) 2 0 xss.flatten.length) (hpL [(508, .live ⟨50, qbd xss.flatten⟩)]) := by
 have hpos : 0 < xss.flatten.length := by cases h : xss.flatten with | nil => exact absurd h hne | cons _ _ => simp
 have hg := qrM xss.flatten.length hpos hs
 refine qcg fn47 (by simp) ?_
 unfold i47
 simp only [argL]
 refine wR0 0 [0] cJ0 ?_
 refine wR0 100 [0,3] cJ0 ?_
 refine wR0 200 [0,3,9,10,11] cJ0 ?_
 refine wL ?_
 refine qoF xss hs hl _ xss [] 0 rfl rfl ?_
 ·intro i
  refine wN ?_
  refine wRn 900 [0,6] cJ0 ?_
  refine rU [] [(508, .live ⟨50, []⟩)] cJ0 ?_
  refine ⟨_, hg, rE cJ0 ?_⟩
  refine wR0 1000 [6,25,26,27] cJ0 ?_
  refine wL ?_
  refine qsq xss hs hl _ xss [] 0 [] rfl rfl rfl ?_
  ·intro i dn hdn
   refine wN ?_
   refine wR0 1500 [2] cJ0 ?_
   refine wE ?_
   refine wN ?_
   exact ⟨by simp, by subst hdn; simp only [qbA]; rfl, by subst hdn; rfl⟩
theorem qqm (xss : List (List (Int × Int))) (hz : ∀ l ∈ xss, l = []) (hl : xss.length ≤ 1000000) (Q : IExit → (Nat → T) → Heap → Prop) : ∀ (rest pre : List (List (Int × Int))) (i : Nat), xss = pre ++ rest → pre.length = i →
 (∀ (i : Int), Q (.exit 2) (ofL [(6, .nil), (25, .list (llsP xss)), (26, .int .i64 (llsP xss).length), (27, .int .i64 i), (28, .bool false)]) (hpL [])) →
 WL Tryz.prog 36 qfO (ofL [(6, .nil), (25, .list (llsP xss)), (26, .int .i64 (llsP xss).length), (27, .int .i64 i)]) (hpL []) Q := by
 intro rest
 induction rest with
 | nil =>
  intro pre i he hn hQ
  have hd : decide ((i : Int) < ((llsP xss).length : Int)) = false := by simp [qd7, he, hn]
  have fX := @hd
  refine qaa qfO.eq_1 ?_
  refine wR0 1100 [6,25,26,27,28] fX ?_
  refine wF @hd ?_
  refine wX ?_
  refine wN ?_
  exact hQ _
 | cons k rest ih =>
  intro pre i he hn hQ
  have hk : k = [] := hz k (by rw [he]; simp)
  subst hk
  have hlt : (i : Int) < ((llsP xss).length : Int) := by simp [qd7, he]; omega
  have hlb : i ≤ 1000000 := by rw [he] at hl; simp at hl; omega
  have hd : decide ((i : Int) < ((llsP xss).length : Int)) = true := decide_eq_true hlt
  have hg : (llsP xss).getD (i : Int).toNat .undef = .list [] := by rw [Int.toNat_natCast, he, ← hn]; exact qiR _ [] _
  have hw : IntKind.wrap .i64 ((i : Int) + 1) = (i : Int) + 1 := wrap64 (by omega) (by omega)
  have fX := (cJ3 @hd @hg @hw)
  refine qaa qfO.eq_1 ?_
  refine wR0 1100 [6,25,26,27,28] fX ?_
  refine wT @hd ?_
  refine wR0 1200 [6,8,25,26,27] fX ?_
  refine wR0 1300 [6,25,26,27] fX ?_
  refine wR0 1400 [6,25,26,27] fX ?_
  refine wN ?_
  exact ih (pre ++ [[]]) (i + 1) (by simp [he]) (by simp; omega) hQ
theorem qqn (xss : List (List (Int × Int))) (hl : xss.length ≤ 1000000) (hz : xss.flatten = []) : TP Tryz.prog 47 [.list (llsP xss)] (.list []) := by
 have hz1 : ∀ l ∈ xss, l = [] := fun l hl => by simpa using List.flatten_eq_nil_iff.1 hz l hl
 have hz2 : xss.flatten.length = 0 := by rw [hz]; rfl
 refine qak fn47 (by simp) ?_
 unfold i47
 simp only [argL]
 refine wR0 0 [0] cJ0 ?_
 refine wR0 100 [0,3] cJ0 ?_
 refine wR0 200 [0,3,9,10,11] cJ0 ?_
 refine wL ?_
 refine qoF xss (by omega) hl _ xss [] 0 rfl rfl ?_
 ·intro i
  refine wN ?_
  refine wRn 900 [0,6] @hz2 ?_
  refine rC @hz2 ?_
  refine ⟨_, qsc, rE @hz2 ?_⟩
  refine wR0 1000 [6,25,26,27] cJ0 ?_
  refine wL ?_
  refine qqm xss hz1 hl _ xss [] 0 rfl rfl ?_
  ·intro i
   refine wN ?_
   refine wR0 1500 [2] cJ0 ?_
   refine wP ?_
   exact .nil
end
section
open Go.RowKit
set_option maxHeartbeats 2000000
theorem qjY (m : Md) (hk : m.kind = 1) : TP Tryz.prog 88 [qau m] (.bool (qa2 m)) := by
 have kb1 : (m.kind == 1) = true := by rw [hk]; rfl
 have kb2 : (m.kind == 2) = false := by rw [hk]; rfl
 have kb3 : (m.kind == 3) = false := by rw [hk]; rfl
 have kb4 : (m.kind == 4) = false := by rw [hk]; rfl
 have kb5 : (m.kind == 5) = false := by rw [hk]; rfl
 have kb6 : (m.kind == 6) = false := by rw [hk]; rfl
 have kn1 : (m.kind != 1) = !true := by rw [hk]; rfl
 have kn3 : (m.kind != 3) = !false := by rw [hk]; rfl
 have kn6 : (m.kind != 6) = !false := by rw [hk]; rfl
 have hl : limC m.kind = [1, 6, 0, 0, 0, 0, 0, 0] := by rw [hk]; rfl
 have hs : qa2 m = (btw m.states.length 1 8 && decide ((m.rules.length : Int) ≤ 12) && btw m.places.length 1 6 && btw m.letters.length 0 0 && btw m.levels 0 0 && btw m.age 0 0) := by rw [qa2, hl]; rfl
 have fX := (cJ8 @kb1 @kb2 @kb3 @kb4 @kb5 @kb6 @Bool.true_or (cJ3 @Bool.false_or @qad @qaM))
 refine qak fn88 (by simp) ?_
 unfold i88
 simp only [argL, qau, mdC]
 refine wR0 0 [1] fX ?_
 refine wR0 100 [1,3] fX ?_
 refine wR0 200 [1,3,4] fX ?_
 refine wR0 300 [1,3,4,5,6] fX ?_
 refine wR0 400 [1,4,5,6,28] fX ?_
 refine wT fX ?_
 refine wR0 500 [1,4,5,6] fX ?_
 refine wR0 600 [1,4,5,6,29] fX ?_
 refine wF fX ?_
 refine wRn 800 [1,4,49] fX ?_
 refine rC fX ?_
 refine ⟨_, qaq _ _ _, rN fX ?_⟩
 refine rCi fX ?_
 refine ⟨_, fun hw => qaq _ _ _, rE fX ?_⟩
 refine wS cJ0 (fun hc800 => ?_) (fun hc800 => ?_)
 ·skip
  refine wR0 900 [2] fX ?_
  refine wP ?_
  exact qab (by rw [hs]; grind)
 ·skip
  refine wR0 1000 [1,4,5,6] fX ?_
  refine wR0 1100 [1,5,6,55] fX ?_
  refine wF fX ?_
  refine wRn 1300 [1,62] fX ?_
  refine rC fX ?_
  refine ⟨_, qaq _ _ _, rE fX ?_⟩
  refine wS cJ0 (fun hc1300 => ?_) (fun hc1300 => ?_)
  ·skip
   refine wR0 1400 [2] fX ?_
   refine wP ?_
   exact qab (by rw [hs]; grind)
  ·skip
   refine wR0 1500 [1,5,6] fX ?_
   refine wR0 1600 [1,5,6,65] fX ?_
   refine wF fX ?_
   refine wRn 1800 [1,71] fX ?_
   refine rC fX ?_
   refine ⟨_, qaq _ _ _, rE fX ?_⟩
   refine wS cJ0 (fun hc1800 => ?_) (fun hc1800 => ?_)
   ·skip
    refine wR0 1900 [2] fX ?_
    refine wP ?_
    exact qab (by rw [hs]; grind)
   ·skip
    refine wR0 2000 [1,74] fX ?_
    refine wF fX ?_
    refine wR0 2200 [2] fX ?_
    refine wP ?_
    exact qab (by rw [hs]; have : (m.age == 0) = btw m.age 0 0 := (by rw [Bool.eq_iff_iff]; simp [btw]; omega); grind)
theorem qjg (m : Md) (hk : m.kind = 2) : TP Tryz.prog 88 [qau m] (.bool (qa2 m)) := by
 have kb1 : (m.kind == 1) = false := by rw [hk]; rfl
 have kb2 : (m.kind == 2) = true := by rw [hk]; rfl
 have kb3 : (m.kind == 3) = false := by rw [hk]; rfl
 have kb4 : (m.kind == 4) = false := by rw [hk]; rfl
 have kb5 : (m.kind == 5) = false := by rw [hk]; rfl
 have kb6 : (m.kind == 6) = false := by rw [hk]; rfl
 have kn1 : (m.kind != 1) = !false := by rw [hk]; rfl
 have kn3 : (m.kind != 3) = !false := by rw [hk]; rfl
 have kn6 : (m.kind != 6) = !false := by rw [hk]; rfl
 have hl : limC m.kind = [1, 2, 1, 6, 0, 0, 0, 0] := by rw [hk]; rfl
 have hs : qa2 m = (btw m.states.length 1 8 && decide ((m.rules.length : Int) ≤ 12) && btw m.places.length 1 2 && btw m.letters.length 1 6 && btw m.levels 0 0 && btw m.age 0 0) := by rw [qa2, hl]; rfl
 have fX := (cJ8 @kb1 @kb2 @kb3 @kb4 @kb5 @kb6 @Bool.true_or (cJ3 @Bool.false_or @qad @qaM))
 refine qak fn88 (by simp) ?_
 unfold i88
 simp only [argL, qau, mdC]
 refine wR0 0 [1] fX ?_
 refine wR0 100 [1,3] fX ?_
 refine wR0 200 [1,3,4] fX ?_
 refine wR0 300 [1,3,4,5,6] fX ?_
 refine wR0 400 [1,4,5,6,28] fX ?_
 refine wF fX ?_
 refine wR0 600 [1,4,5,6,29] fX ?_
 refine wT fX ?_
 refine wR0 700 [1,4,5,6] fX ?_
 refine wRn 800 [1,4,49] fX ?_
 refine rC fX ?_
 refine ⟨_, qaq _ _ _, rN fX ?_⟩
 refine rCi fX ?_
 refine ⟨_, fun hw => qaq _ _ _, rE fX ?_⟩
 refine wS cJ0 (fun hc800 => ?_) (fun hc800 => ?_)
 ·skip
  refine wR0 900 [2] fX ?_
  refine wP ?_
  exact qab (by rw [hs]; grind)
 ·skip
  refine wR0 1000 [1,4,5,6] fX ?_
  refine wR0 1100 [1,5,6,55] fX ?_
  refine wT fX ?_
  refine wR0 1200 [1,5,6] fX ?_
  refine wRn 1300 [1,62] fX ?_
  refine rC fX ?_
  refine ⟨_, qaq _ _ _, rE fX ?_⟩
  refine wS cJ0 (fun hc1300 => ?_) (fun hc1300 => ?_)
  ·skip
   refine wR0 1400 [2] fX ?_
   refine wP ?_
   exact qab (by rw [hs]; grind)
  ·skip
   refine wR0 1500 [1,5,6] fX ?_
   refine wR0 1600 [1,5,6,65] fX ?_
   refine wF fX ?_
   refine wRn 1800 [1,71] fX ?_
   refine rC fX ?_
   refine ⟨_, qaq _ _ _, rE fX ?_⟩
   refine wS cJ0 (fun hc1800 => ?_) (fun hc1800 => ?_)
   ·skip
    refine wR0 1900 [2] fX ?_
    refine wP ?_
    exact qab (by rw [hs]; grind)
   ·skip
    refine wR0 2000 [1,74] fX ?_
    refine wF fX ?_
    refine wR0 2200 [2] fX ?_
    refine wP ?_
    exact qab (by rw [hs]; have : (m.age == 0) = btw m.age 0 0 := (by rw [Bool.eq_iff_iff]; simp [btw]; omega); grind)
theorem qjk (m : Md) (hk : m.kind = 3) : TP Tryz.prog 88 [qau m] (.bool (qa2 m)) := by
 have kb1 : (m.kind == 1) = false := by rw [hk]; rfl
 have kb2 : (m.kind == 2) = false := by rw [hk]; rfl
 have kb3 : (m.kind == 3) = true := by rw [hk]; rfl
 have kb4 : (m.kind == 4) = false := by rw [hk]; rfl
 have kb5 : (m.kind == 5) = false := by rw [hk]; rfl
 have kb6 : (m.kind == 6) = false := by rw [hk]; rfl
 have kn1 : (m.kind != 1) = !false := by rw [hk]; rfl
 have kn3 : (m.kind != 3) = !true := by rw [hk]; rfl
 have kn6 : (m.kind != 6) = !false := by rw [hk]; rfl
 have hl : limC m.kind = [1, 2, 1, 6, 0, 0, 0, 0] := by rw [hk]; rfl
 have hs : qa2 m = (btw m.states.length 1 8 && decide ((m.rules.length : Int) ≤ 12) && btw m.places.length 1 2 && btw m.letters.length 1 6 && btw m.levels 0 0 && btw m.age 0 0) := by rw [qa2, hl]; rfl
 have fX := (cJ8 @kb1 @kb2 @kb3 @kb4 @kb5 @kb6 @Bool.true_or (cJ3 @Bool.false_or @qad @qaM))
 refine qak fn88 (by simp) ?_
 unfold i88
 simp only [argL, qau, mdC]
 refine wR0 0 [1] fX ?_
 refine wR0 100 [1,3] fX ?_
 refine wR0 200 [1,3,4] fX ?_
 refine wR0 300 [1,3,4,5,6] fX ?_
 refine wR0 400 [1,4,5,6,28] fX ?_
 refine wF fX ?_
 refine wR0 600 [1,4,5,6,29] fX ?_
 refine wT fX ?_
 refine wR0 700 [1,4,5,6] fX ?_
 refine wRn 800 [1,4,49] fX ?_
 refine rC fX ?_
 refine ⟨_, qaq _ _ _, rN fX ?_⟩
 refine rCi fX ?_
 refine ⟨_, fun hw => qaq _ _ _, rE fX ?_⟩
 refine wS cJ0 (fun hc800 => ?_) (fun hc800 => ?_)
 ·skip
  refine wR0 900 [2] fX ?_
  refine wP ?_
  exact qab (by rw [hs]; grind)
 ·skip
  refine wR0 1000 [1,4,5,6] fX ?_
  refine wR0 1100 [1,5,6,55] fX ?_
  refine wT fX ?_
  refine wR0 1200 [1,5,6] fX ?_
  refine wRn 1300 [1,62] fX ?_
  refine rC fX ?_
  refine ⟨_, qaq _ _ _, rE fX ?_⟩
  refine wS cJ0 (fun hc1300 => ?_) (fun hc1300 => ?_)
  ·skip
   refine wR0 1400 [2] fX ?_
   refine wP ?_
   exact qab (by rw [hs]; grind)
  ·skip
   refine wR0 1500 [1,5,6] fX ?_
   refine wR0 1600 [1,5,6,65] fX ?_
   refine wF fX ?_
   refine wRn 1800 [1,71] fX ?_
   refine rC fX ?_
   refine ⟨_, qaq _ _ _, rE fX ?_⟩
   refine wS cJ0 (fun hc1800 => ?_) (fun hc1800 => ?_)
   ·skip
    refine wR0 1900 [2] fX ?_
    refine wP ?_
    exact qab (by rw [hs]; grind)
   ·skip
    refine wR0 2000 [1,74] fX ?_
    refine wF fX ?_
    refine wR0 2200 [2] fX ?_
    refine wP ?_
    exact qab (by rw [hs]; have : (m.age == 0) = btw m.age 0 0 := (by rw [Bool.eq_iff_iff]; simp [btw]; omega); grind)
theorem qjT (m : Md) (hk : m.kind = 4) : TP Tryz.prog 88 [qau m] (.bool (qa2 m)) := by
 have kb1 : (m.kind == 1) = false := by rw [hk]; rfl
 have kb2 : (m.kind == 2) = false := by rw [hk]; rfl
 have kb3 : (m.kind == 3) = false := by rw [hk]; rfl
 have kb4 : (m.kind == 4) = true := by rw [hk]; rfl
 have kb5 : (m.kind == 5) = false := by rw [hk]; rfl
 have kb6 : (m.kind == 6) = false := by rw [hk]; rfl
 have kn1 : (m.kind != 1) = !false := by rw [hk]; rfl
 have kn3 : (m.kind != 3) = !false := by rw [hk]; rfl
 have kn6 : (m.kind != 6) = !false := by rw [hk]; rfl
 have hl : limC m.kind = [0, 0, 1, 6, 1, 2, 0, 0] := by rw [hk]; rfl
 have hs : qa2 m = (btw m.states.length 1 8 && decide ((m.rules.length : Int) ≤ 12) && btw m.places.length 0 0 && btw m.letters.length 1 6 && btw m.levels 1 2 && btw m.age 0 0) := by rw [qa2, hl]; rfl
 have fX := (cJ8 @kb1 @kb2 @kb3 @kb4 @kb5 @kb6 @Bool.true_or (cJ3 @Bool.false_or @qad @qaM))
 refine qak fn88 (by simp) ?_
 unfold i88
 simp only [argL, qau, mdC]
 refine wR0 0 [1] fX ?_
 refine wR0 100 [1,3] fX ?_
 refine wR0 200 [1,3,4] fX ?_
 refine wR0 300 [1,3,4,5,6] fX ?_
 refine wR0 400 [1,4,5,6,28] fX ?_
 refine wF fX ?_
 refine wR0 600 [1,4,5,6,29] fX ?_
 refine wF fX ?_
 refine wRn 800 [1,4,49] fX ?_
 refine rC fX ?_
 refine ⟨_, qaq _ _ _, rN fX ?_⟩
 refine rCi fX ?_
 refine ⟨_, fun hw => qaq _ _ _, rE fX ?_⟩
 refine wS cJ0 (fun hc800 => ?_) (fun hc800 => ?_)
 ·skip
  refine wR0 900 [2] fX ?_
  refine wP ?_
  exact qab (by rw [hs]; grind)
 ·skip
  refine wR0 1000 [1,4,5,6] fX ?_
  refine wR0 1100 [1,5,6,55] fX ?_
  refine wT fX ?_
  refine wR0 1200 [1,5,6] fX ?_
  refine wRn 1300 [1,62] fX ?_
  refine rC fX ?_
  refine ⟨_, qaq _ _ _, rE fX ?_⟩
  refine wS cJ0 (fun hc1300 => ?_) (fun hc1300 => ?_)
  ·skip
   refine wR0 1400 [2] fX ?_
   refine wP ?_
   exact qab (by rw [hs]; grind)
  ·skip
   refine wR0 1500 [1,5,6] fX ?_
   refine wR0 1600 [1,5,6,65] fX ?_
   refine wT fX ?_
   refine wR0 1700 [1,5,6] fX ?_
   refine wRn 1800 [1,71] fX ?_
   refine rC fX ?_
   refine ⟨_, qaq _ _ _, rE fX ?_⟩
   refine wS cJ0 (fun hc1800 => ?_) (fun hc1800 => ?_)
   ·skip
    refine wR0 1900 [2] fX ?_
    refine wP ?_
    exact qab (by rw [hs]; grind)
   ·skip
    refine wR0 2000 [1,74] fX ?_
    refine wF fX ?_
    refine wR0 2200 [2] fX ?_
    refine wP ?_
    exact qab (by rw [hs]; have : (m.age == 0) = btw m.age 0 0 := (by rw [Bool.eq_iff_iff]; simp [btw]; omega); grind)
theorem qkp (m : Md) (hk : m.kind = 5) : TP Tryz.prog 88 [qau m] (.bool (qa2 m)) := by
 have kb1 : (m.kind == 1) = false := by rw [hk]; rfl
 have kb2 : (m.kind == 2) = false := by rw [hk]; rfl
 have kb3 : (m.kind == 3) = false := by rw [hk]; rfl
 have kb4 : (m.kind == 4) = false := by rw [hk]; rfl
 have kb5 : (m.kind == 5) = true := by rw [hk]; rfl
 have kb6 : (m.kind == 6) = false := by rw [hk]; rfl
 have kn1 : (m.kind != 1) = !false := by rw [hk]; rfl
 have kn3 : (m.kind != 3) = !false := by rw [hk]; rfl
 have kn6 : (m.kind != 6) = !false := by rw [hk]; rfl
 have hl : limC m.kind = [1, 6, 0, 0, 0, 0, 0, 3] := by rw [hk]; rfl
 have hs : qa2 m = (btw m.states.length 1 8 && decide ((m.rules.length : Int) ≤ 12) && btw m.places.length 1 6 && btw m.letters.length 0 0 && btw m.levels 0 0 && btw m.age 0 3) := by rw [qa2, hl]; rfl
 have fX := (cJ8 @kb1 @kb2 @kb3 @kb4 @kb5 @kb6 @Bool.true_or (cJ3 @Bool.false_or @qad @qaM))
 refine qak fn88 (by simp) ?_
 unfold i88
 simp only [argL, qau, mdC]
 refine wR0 0 [1] fX ?_
 refine wR0 100 [1,3] fX ?_
 refine wR0 200 [1,3,4] fX ?_
 refine wR0 300 [1,3,4,5,6] fX ?_
 refine wR0 400 [1,4,5,6,28] fX ?_
 refine wT fX ?_
 refine wR0 500 [1,4,5,6] fX ?_
 refine wR0 600 [1,4,5,6,29] fX ?_
 refine wF fX ?_
 refine wRn 800 [1,4,49] fX ?_
 refine rC fX ?_
 refine ⟨_, qaq _ _ _, rN fX ?_⟩
 refine rCi fX ?_
 refine ⟨_, fun hw => qaq _ _ _, rE fX ?_⟩
 refine wS cJ0 (fun hc800 => ?_) (fun hc800 => ?_)
 ·skip
  refine wR0 900 [2] fX ?_
  refine wP ?_
  exact qab (by rw [hs]; grind)
 ·skip
  refine wR0 1000 [1,4,5,6] fX ?_
  refine wR0 1100 [1,5,6,55] fX ?_
  refine wF fX ?_
  refine wRn 1300 [1,62] fX ?_
  refine rC fX ?_
  refine ⟨_, qaq _ _ _, rE fX ?_⟩
  refine wS cJ0 (fun hc1300 => ?_) (fun hc1300 => ?_)
  ·skip
   refine wR0 1400 [2] fX ?_
   refine wP ?_
   exact qab (by rw [hs]; grind)
  ·skip
   refine wR0 1500 [1,5,6] fX ?_
   refine wR0 1600 [1,5,6,65] fX ?_
   refine wF fX ?_
   refine wRn 1800 [1,71] fX ?_
   refine rC fX ?_
   refine ⟨_, qaq _ _ _, rE fX ?_⟩
   refine wS cJ0 (fun hc1800 => ?_) (fun hc1800 => ?_)
   ·skip
    refine wR0 1900 [2] fX ?_
    refine wP ?_
    exact qab (by rw [hs]; grind)
   ·skip
    refine wR0 2000 [1,74] fX ?_
    refine wT fX ?_
    refine wRn 2100 [2] fX ?_
    refine rC fX ?_
    refine ⟨_, qaq _ _ _, rE fX ?_⟩
    refine wP ?_
    exact qab (by rw [hs]; grind)
theorem qjt (m : Md) (hk : m.kind = 6) : TP Tryz.prog 88 [qau m] (.bool (qa2 m)) := by
 have kb1 : (m.kind == 1) = false := by rw [hk]; rfl
 have kb2 : (m.kind == 2) = false := by rw [hk]; rfl
 have kb3 : (m.kind == 3) = false := by rw [hk]; rfl
 have kb4 : (m.kind == 4) = false := by rw [hk]; rfl
 have kb5 : (m.kind == 5) = false := by rw [hk]; rfl
 have kb6 : (m.kind == 6) = true := by rw [hk]; rfl
 have kn1 : (m.kind != 1) = !false := by rw [hk]; rfl
 have kn3 : (m.kind != 3) = !false := by rw [hk]; rfl
 have kn6 : (m.kind != 6) = !true := by rw [hk]; rfl
 have hl : limC m.kind = [1, 6, 0, 0, 0, 0, 0, 0] := by rw [hk]; rfl
 have hs : qa2 m = (btw m.states.length 1 8 && decide ((m.rules.length : Int) ≤ 12) && btw m.places.length 1 6 && btw m.letters.length 0 0 && btw m.levels 0 0 && btw m.age 0 0) := by rw [qa2, hl]; rfl
 have fX := (cJ8 @kb1 @kb2 @kb3 @kb4 @kb5 @kb6 @Bool.true_or (cJ3 @Bool.false_or @qad @qaM))
 refine qak fn88 (by simp) ?_
 unfold i88
 simp only [argL, qau, mdC]
 refine wR0 0 [1] fX ?_
 refine wR0 100 [1,3] fX ?_
 refine wR0 200 [1,3,4] fX ?_
 refine wR0 300 [1,3,4,5,6] fX ?_
 refine wR0 400 [1,4,5,6,28] fX ?_
 refine wT fX ?_
 refine wR0 500 [1,4,5,6] fX ?_
 refine wR0 600 [1,4,5,6,29] fX ?_
 refine wF fX ?_
 refine wRn 800 [1,4,49] fX ?_
 refine rC fX ?_
 refine ⟨_, qaq _ _ _, rN fX ?_⟩
 refine rCi fX ?_
 refine ⟨_, fun hw => qaq _ _ _, rE fX ?_⟩
 refine wS cJ0 (fun hc800 => ?_) (fun hc800 => ?_)
 ·skip
  refine wR0 900 [2] fX ?_
  refine wP ?_
  exact qab (by rw [hs]; grind)
 ·skip
  refine wR0 1000 [1,4,5,6] fX ?_
  refine wR0 1100 [1,5,6,55] fX ?_
  refine wF fX ?_
  refine wRn 1300 [1,62] fX ?_
  refine rC fX ?_
  refine ⟨_, qaq _ _ _, rE fX ?_⟩
  refine wS cJ0 (fun hc1300 => ?_) (fun hc1300 => ?_)
  ·skip
   refine wR0 1400 [2] fX ?_
   refine wP ?_
   exact qab (by rw [hs]; grind)
  ·skip
   refine wR0 1500 [1,5,6] fX ?_
   refine wR0 1600 [1,5,6,65] fX ?_
   refine wF fX ?_
   refine wRn 1800 [1,71] fX ?_
   refine rC fX ?_
   refine ⟨_, qaq _ _ _, rE fX ?_⟩
   refine wS cJ0 (fun hc1800 => ?_) (fun hc1800 => ?_)
   ·skip
    refine wR0 1900 [2] fX ?_
    refine wP ?_
    exact qab (by rw [hs]; grind)
   ·skip
    refine wR0 2000 [1,74] fX ?_
    refine wF fX ?_
    refine wR0 2200 [2] fX ?_
    refine wP ?_
    exact qab (by rw [hs]; have : (m.age == 0) = btw m.age 0 0 := (by rw [Bool.eq_iff_iff]; simp [btw]; omega); grind)
theorem qeh {m : Md} (h : btw m.kind 1 6 = true) : m.kind = 1 ∨ m.kind = 2 ∨ m.kind = 3 ∨ m.kind = 4 ∨ m.kind = 5 ∨ m.kind = 6 := by
 simp [btw] at h; omega
theorem qkV (m : Md) (h : btw m.kind 1 6 = true) : TP Tryz.prog 88 [qau m] (.bool (qa2 m)) := by
 rcases qeh h with h | h | h | h | h | h
 ·exact qjY m h
 ·exact qjg m h
 ·exact qjk m h
 ·exact qjT m h
 ·exact qkp m h
 ·exact qjt m h
end
end Go.Proofs.YtikhhnopcjgjpaaGreat
