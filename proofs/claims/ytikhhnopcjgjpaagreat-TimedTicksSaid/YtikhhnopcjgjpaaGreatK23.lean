/- Contracts of functions of the program, for all arguments that they name. -/
import Derived.Test.YtikhhnopcjgjpaaGreatK17
import Derived.Test.YtikhhnopcjgjpaaGreatK22
namespace Go.Proofs.YtikhhnopcjgjpaaGreat
set_option linter.unusedVariables false
section
open Go.RowKit
set_option maxHeartbeats 2000000
theorem qfw {m : Md} (hm : m.fit) (h : qaI m = 0) : m.sane := by
 unfold qaI at h
 split at h
 ·cases h
 ·rename_i hk
  split at h
  ·cases h
  ·rename_i hs
   split at h
   ·cases h
   ·rename_i hr
    exact qft hm (by simpa using hk) (by simpa using hs) (by simpa using hr)
theorem typedM_fit' {m : Md} (hm : m.fit) : (qaF m).fit := qfB m hm.places hm.ranks
def qaT (m : Md) (c : V) : Bool := qaI m == 0 && qa3 (qaF m) c
theorem qgV (m : Md) (c : V) (hm : m.fit) (hc : c.fit) : TP Tryz.prog 42 [qau m, encV c] (.bool (qaT m c)) := by
 rcases c with ⟨n, ks⟩
 refine qak fn42 (by simp) ?_
 unfold i42
 simp only [argL, encV, qau, mdC]
 refine wR0 0 [2,3] cJ0 ?_
 refine wRn 100 [4] cJ0 ?_
 refine rC cJ0 ?_
 refine ⟨_, qgM m hm, rN cJ0 ?_⟩
 refine rCi cJ0 ?_
 refine ⟨_, fun hw => qlP m (qfw hm (by simpa using hw)), rN cJ0 ?_⟩
 refine rCi cJ0 ?_
 refine ⟨_, fun hw => qkq (qaF m) (.mk n ks) (typedM_fit' hm) hc, rE cJ0 ?_⟩
 refine wP ?_
 exact qab rfl
theorem qpQ (n : Nat) (hn : 0 < n) (hl : n ≤ 1000000) : TC Tryz.prog 175 [.nil, .int .i64 n] (hpL []) (.sl 508 0 2 0 0) (hpL [(505, .dead), (508, .live ⟨25, []⟩)]) := by
 have h1 : decide ((n : Int) < 0) = false := decide_eq_false (by omega)
 have h2 : decide ((n : Int) > 0) = true := decide_eq_true (by omega)
 have hw : IntKind.wrap .i64 ((n : Int) - 0) = (n : Int) := by rw [Int.sub_zero]; exact wrap64 (by omega) (by omega)
 have hw2 : IntKind.wrap .i64 ((0 : Int) - 0) = 0 := rfl
 have fX := (cJ4 @h1 @h2 @hw @hw2)
 refine qcg fn175 (by simp) ?_
 unfold i175
 simp only [argL]
 refine wR0 0 [0,1] fX ?_
 refine wR0 100 [0,1,6] fX ?_
 refine wF @h1 ?_
 refine wR0 300 [0,1] fX ?_
 refine wR0 400 [0,1,16] fX ?_
 refine wT @h2 ?_
 refine wR 500 [0] ?_
 refine rN1 fX ?_
 refine rN1 fX ?_
 refine rN1 fX ?_
 refine rN1 fX ?_
 refine rN1 fX ?_
 refine rN1 fX ?_
 refine rN1 fX ?_
 refine rN1 fX ?_
 refine rCut fX ?_
 refine rE fX ?_
 refine wR0 600 [4] fX ?_
 refine wE ?_
 refine wN ?_
 first | exact ⟨by simp, rfl, rfl⟩ | exact ⟨by simp, rfl, trivial⟩
theorem qro (n : Nat) (hn : 0 < n) (hl : n ≤ 1000000) : TC Tryz.prog 175 [.nil, .int .i64 n] (hpL []) (.sl 508 0 2 0 0) (hpL [(508, .live ⟨25, []⟩)]) :=
 qb6 [508] (qpQ n hn hl) (by simp) (by simp [T.cl, inL]) (by simp [qap, inL, Slot.cl, clL])
def llsV (xss : List (List V)) : List T := xss.map fun l => .list (qac l)
theorem qlS (pre : List (List V)) (l : List V) (rest : List (List V)) : (llsV (pre ++ l :: rest)).getD pre.length .undef = .list (qac l) := by simp [llsV, List.getD_eq_getElem?_getD]
theorem qf5 (xss : List (List V)) : (llsV xss).length = xss.length := by simp [llsV]
theorem qrY (xss : List (List V)) (hs : xss.flatten.length ≤ 1000000) (hl : xss.length ≤ 1000000) (Q : IExit → (Nat → T) → Heap → Prop) : ∀ (rest pre : List (List V)) (i : Nat), xss = pre ++ rest → pre.length = i →
 (∀ i : Int, Q (.exit 0) (ofL [(0, .list (llsV xss)), (3, .int .i64 xss.flatten.length), (9, .list (llsV xss)), (10, .int .i64 (llsV xss).length), (11, .int .i64 i), (12, .bool false)]) (hpL [])) →
 WL Tryz.prog 36 qh2 (ofL [(0, .list (llsV xss)), (3, .int .i64 pre.flatten.length), (9, .list (llsV xss)), (10, .int .i64 (llsV xss).length), (11, .int .i64 i)]) (hpL []) Q := by
 intro rest
 induction rest with
 | nil =>
  intro pre i he hn hQ
  have hd : decide ((i : Int) < ((llsV xss).length : Int)) = false := by simp [qf5, he, hn]
  simp only [List.append_nil] at he
  subst he
  have fX := @hd
  refine qaa qh2.eq_1 ?_
  refine wR0 300 [0,3,9,10,11,12] fX ?_
  refine wF @hd ?_
  refine wX ?_
  refine wN ?_
  exact hQ _
 | cons k rest ih =>
  intro pre i he hn hQ
  have hlt : (i : Int) < ((llsV xss).length : Int) := by simp [qf5, he]; omega
  have hlb : i ≤ 1000000 := by rw [he] at hl; simp at hl; omega
  have hd : decide ((i : Int) < ((llsV xss).length : Int)) = true := decide_eq_true hlt
  have hg : (llsV xss).getD (i : Int).toNat .undef = .list (qac k) := by rw [Int.toNat_natCast, he, ← hn]; exact qlS _ k _
  have hw : IntKind.wrap .i64 ((i : Int) + 1) = (i : Int) + 1 := wrap64 (by omega) (by omega)
  have hsum : (pre ++ [k]).flatten.length ≤ 1000000 := by rw [he] at hs; simp at hs ⊢; omega
  have hw2 : IntKind.wrap .i64 ((pre.flatten.length : Int) + ((qac k).length : Int)) = ((pre ++ [k]).flatten.length : Int) := by rw [qag]; simp at hsum ⊢; exact wrap64 (by omega) (by omega)
  have hd2 : decide (((pre ++ [k]).flatten.length : Int) < 0) = false := decide_eq_false (by omega)
  have fX := (cJ5 @hd @hg @hw @hw2 @hd2)
  refine qaa qh2.eq_1 ?_
  refine wR0 300 [0,3,9,10,11,12] fX ?_
  refine wT @hd ?_
  refine wR0 400 [0,3,5,9,10,11] fX ?_
  refine wR0 500 [0,3,9,10,11] fX ?_
  refine wR0 600 [0,3,9,10,11,20] fX ?_
  refine wF @hd2 ?_
  refine wR0 800 [0,3,9,10,11] fX ?_
  refine wN ?_
  exact ih (pre ++ [k]) (i + 1) (by simp [he]) (by simp; omega) hQ
theorem qr7 (xss : List (List V)) (hs : xss.flatten.length ≤ 1000000) (hl : xss.length ≤ 1000000) (Q : IExit → (Nat → T) → Heap → Prop) : ∀ (rest pre : List (List V)) (i : Nat) (done : List V), xss = pre ++ rest → pre.length = i → pre.flatten = done →
 (∀ (i : Int) (done : List V), done = xss.flatten → Q (.exit 2) (ofL [(6, .sl 508 (done.length * 2) 2 0 done.length), (25, .list (llsV xss)), (26, .int .i64 (llsV xss).length), (27, .int .i64 i), (28, .bool false)]) (hpL [(508, .live ⟨25, qao done⟩)])) →
 WL Tryz.prog 36 qgL (ofL [(6, .sl 508 (done.length * 2) 2 0 done.length), (25, .list (llsV xss)), (26, .int .i64 (llsV xss).length), (27, .int .i64 i)]) (hpL [(508, .live ⟨25, qao done⟩)]) Q := by
 intro rest
 induction rest with
 | nil =>
  intro pre i done he hn hdn hQ
  have hd : decide ((i : Int) < ((llsV xss).length : Int)) = false := by simp [qf5, he, hn]
  simp only [List.append_nil] at he
  have fX := @hd
  refine qaa qgL.eq_1 ?_
  refine wR0 1100 [6,25,26,27,28] fX ?_
  refine wF @hd ?_
  refine wX ?_
  refine wN ?_
  exact hQ _ done (by rw [he, hdn])
 | cons k rest ih =>
  intro pre i done he hn hdn hQ
  have hlt : (i : Int) < ((llsV xss).length : Int) := by simp [qf5, he]; omega
  have hlb : i ≤ 1000000 := by rw [he] at hl; simp at hl; omega
  have hd : decide ((i : Int) < ((llsV xss).length : Int)) = true := decide_eq_true hlt
  have hg : (llsV xss).getD (i : Int).toNat .undef = .list (qac k) := by rw [Int.toNat_natCast, he, ← hn]; exact qlS _ k _
  have hw : IntKind.wrap .i64 ((i : Int) + 1) = (i : Int) + 1 := wrap64 (by omega) (by omega)
  have hsum : done.length + k.length ≤ 1000000 := by rw [he] at hs; rw [← hdn]; simp at hs ⊢; omega
  cases k with
  | nil =>
   have hg' : (llsV xss).getD (i : Int).toNat .undef = .list [] := hg
   have fX := (cJ3 @hd @hg' @hw)
   refine qaa qgL.eq_1 ?_
   refine wR0 1100 [6,25,26,27,28] fX ?_
   refine wT @hd ?_
   refine wR0 1200 [6,8,25,26,27] fX ?_
   refine wR0 1300 [6,25,26,27] fX ?_
   refine wR0 1400 [6,25,26,27] fX ?_
   refine wN ?_
   exact ih (pre ++ [[]]) (i + 1) done (by simp [he]) (by simp; omega) (by simp [hdn]) hQ
  | cons y k =>
   have hne : qac (y :: k) ≠ [] := by simp [qac]
   have hszd := qgP (y :: k)
   have hlen : (qao done).length = done.length * 2 := qaE _
   have hkl := qag (y :: k)
   have hkf : flat (qac (y :: k)) = qao (y :: k) := (qbV _).symm
   have hkfl : (qao (y :: k)).length = (y :: k).length * 2 := qaE _
   have hsum' : done.length + (y :: k).length ≤ 1000000000 := by omega
   have hpos : 0 < (y :: k).length := by simp
   generalize hyk : y :: k = yk at *
   have fX := (cJ8 @hd @hg @hw @hne @hszd @hlen @hkl (cJ6 @hkf @hkfl @ne_eq.{1} @not_false_eq_true @true_and @and_true))
   refine qaa qgL.eq_1 ?_
   refine wR0 1100 [6,25,26,27,28] fX ?_
   refine wT @hd ?_
   refine wR0 1200 [6,8,25,26,27] fX ?_
   refine wR0 1300 [6,25,26,27] fX ?_
   refine wR0 1400 [6,25,26,27] fX ?_
   refine wN ?_
   have := ih (pre ++ [yk]) (i + 1) (done ++ yk) (by simp [he]) (by simp; omega) (by simp [hdn]) hQ
   rw [qa9] at this
   simp only [List.length_append] at this
   try simp only [Nat.add_mul] at this
   exact this
theorem qrC (xss : List (List V)) (hs : xss.flatten.length ≤ 1000000) (hl : xss.length ≤ 1000000) (hne : xss.flatten ≠ []) : TC Tryz.prog 126 [.list (llsV xss)] (hpL []) (.sl 508 ((qao xss.flatten).length) 2 0 xss.flatten.length) (hpL [(508, .live ⟨25, qao xss.flatten⟩)]) := by
 have hpos : 0 < xss.flatten.length := by cases h : xss.flatten with | nil => exact absurd h hne | cons _ _ => simp
 have hg := qro xss.flatten.length hpos hs
 refine qcg fn126 (by simp) ?_
 unfold i126
 simp only [argL]
 refine wR0 0 [0] cJ0 ?_
 refine wR0 100 [0,3] cJ0 ?_
 refine wR0 200 [0,3,9,10,11] cJ0 ?_
 refine wL ?_
 refine qrY xss hs hl _ xss [] 0 rfl rfl ?_
 ·intro i
  refine wN ?_
  refine wRn 900 [0,6] cJ0 ?_
  refine rU [] [(508, .live ⟨25, []⟩)] cJ0 ?_
  refine ⟨_, hg, rE cJ0 ?_⟩
  refine wR0 1000 [6,25,26,27] cJ0 ?_
  refine wL ?_
  refine qr7 xss hs hl _ xss [] 0 [] rfl rfl rfl ?_
  ·intro i dn hdn
   refine wN ?_
   refine wR0 1500 [2] cJ0 ?_
   refine wE ?_
   refine wN ?_
   exact ⟨by simp, by subst hdn; simp only [qaE]; rfl, by subst hdn; rfl⟩
end
section
open Go.RowKit
def actsR (m : Md) (r : Rl) : Bool := btw r.act 0 2 && btw r.chan 0 ((m.places.length : Int) - 1) && btw r.lett 0 ((m.letters.length : Int) - 1) && !(r.act == 0 && (r.chan != 0 || r.lett != 0))
def qlQ (low : Int) (cnt cou chn nes tim bra : Bool) (m : Md) (r : Rl) : Bool :=
 btw r.from_ low ((m.states.length : Int) - 1) && btw r.to_ 0 ((m.states.length : Int) - 1) &&
 (if cnt then qkX r.need m.places.length 0 16 && qkX r.give m.places.length 0 16 else !decide ((r.need.length : Int) > 0) && !decide ((r.give.length : Int) > 0)) &&
 (!decide ((r.move.length : Int) > 0) || (cou && qkX r.move m.places.length (-1) ((m.places.length : Int) - 1))) &&
 (if chn then actsR m r else !(r.chan != 0) && !(r.act != 0) && !(r.lett != 0)) &&
 (if nes then fewR r.path m.levels ((m.letters.length : Int) - 1) && fewR r.next m.levels ((m.letters.length : Int) - 1) && !((r.path.length : Int) + r.next.length == 0) else !decide ((r.path.length : Int) > 0) && !decide ((r.next.length : Int) > 0)) &&
 (if tim then qjo m r else !decide ((r.takes.length : Int) > 0) && !decide ((r.makes.length : Int) > 0)) &&
 (if bra then (if r.from_ == -1 then r.second == -1 && r.need.all fun x => btw x 0 0 else btw r.second (-1) ((m.states.length : Int) - 1)) else r.second == 0)
theorem fB {H : Heap} {a b : Bool} (h : a = b := by simp only [qlQ, eq_self, if_true, Bool.false_eq_true, if_false, Bool.false_and, Bool.true_and, Bool.or_false]; grind) : Frz H (.bool a) (.bool b) := qab h
end
section
open Go.RowKit
set_option maxHeartbeats 2000000
set_option maxHeartbeats 8000000 in
theorem qne (m : Md) (r : Rl) (hm : m.fit) (hr : r.fit) (ha : 0 ≤ m.age ∧ m.age ≤ 1000) (hk : m.kind = 5) : TP Tryz.prog 91 [qau m, qbs r] (.bool (qlQ 0 false false false false true false m r)) := by
 have kb1 : (m.kind == 1) = false := by rw [hk]; rfl
 have kb2 : (m.kind == 2) = false := by rw [hk]; rfl
 have kb3 : (m.kind == 3) = false := by rw [hk]; rfl
 have kb4 : (m.kind == 4) = false := by rw [hk]; rfl
 have kb5 : (m.kind == 5) = true := by rw [hk]; rfl
 have kb6 : (m.kind == 6) = false := by rw [hk]; rfl
 have kn1 : (m.kind != 1) = !false := by rw [hk]; rfl
 have kn6 : (m.kind != 6) = !false := by rw [hk]; rfl
 have hms := hm.states
 have hmp := hm.places
 have hml := hm.letters
 have hpn := hr.path
 have hnn := hr.next
 have hw1 : IntKind.wrap .i64 ((m.states.length : Int) - 1) = (m.states.length : Int) - 1 := wrap64 (by omega) (by omega)
 have hw2 : IntKind.wrap .i64 ((m.places.length : Int) - 1) = (m.places.length : Int) - 1 := wrap64 (by omega) (by omega)
 have hw3 : IntKind.wrap .i64 ((m.letters.length : Int) - 1) = (m.letters.length : Int) - 1 := wrap64 (by omega) (by omega)
 have hw4 : IntKind.wrap .i64 ((r.path.length : Int) + (r.next.length : Int)) = (r.path.length : Int) + (r.next.length : Int) := wrap64 (by omega) (by omega)
 rcases hmv : decide ((r.move.length : Int) > 0) with _ | _
 ·have fX := (cJ8 @qad @qai @qaR @kb1 @kb2 @kb3 @kb4 (cJ8 @kb5 @kb6 @kn1 @kn6 @hw1 @hw2 @hw3 (cJ7 @hw4 @hmv @hw1 @Bool.not_true @Bool.not_false @Bool.true_or @Bool.false_or)))
  refine qak fn91 (by simp) ?_
  unfold i91
  simp only [argL, qau, mdC, qbs, rlC]
  refine wR0 0 [2,3] fX ?_
  refine wR0 100 [2,3,5] fX ?_
  refine wR0 200 [2,3,5,10] fX ?_
  refine wF fX ?_
  refine wRn 400 [2,3,29] fX ?_
  refine rC fX ?_
  refine ⟨_, qaq _ _ _, rN fX ?_⟩
  refine rCi fX ?_
  refine ⟨_, fun hw => qaq _ _ _, rE fX ?_⟩
  refine wS cJ0 (fun hc400 => ?_) (fun hc400 => ?_)
  ·skip
   refine wR0 500 [4] fX ?_
   refine wP ?_
   exact fB
  ·skip
   refine wR0 600 [2,3,6] fX ?_
   refine wR0 700 [2,3,6,7] fX ?_
   refine wR0 800 [2,3,7,46] fX ?_
   refine wF fX ?_
   refine wR0 1100 [2,3,7,72] fX ?_
   refine wS cJ0 (fun hc1100 => ?_) (fun hc1100 => ?_)
   ·skip
    refine wR0 1200 [4] fX ?_
    refine wP ?_
    exact fB
   ·skip
    refine wR0 1300 [2,3,7,94] fX ?_
    refine wF fX ?_
    refine wR0 1500 [2,3,95] fX ?_
    refine wF fX ?_
    refine wR0 1800 [2,3,147] fX ?_
    refine wS cJ0 (fun hc1800 => ?_) (fun hc1800 => ?_)
    ·skip
     refine wR0 1900 [4] fX ?_
     refine wP ?_
     exact fB
    ·skip
     refine wR0 2000 [2,3,150] fX ?_
     refine wF fX ?_
     refine wR0 2300 [2,3,192] fX ?_
     refine wS cJ0 (fun hc2300 => ?_) (fun hc2300 => ?_)
     ·skip
      refine wR0 2400 [4] fX ?_
      refine wP ?_
      exact fB
     ·skip
      refine wR0 2500 [2,3,195] fX ?_
      refine wT fX ?_
      refine wRn 2600 [2,3,199] fX ?_
      refine rC fX ?_
      refine ⟨_, qpv m r hm.places ha hr, rE fX ?_⟩
      refine wS cJ0 (fun hc2600 => ?_) (fun hc2600 => ?_)
      ·skip
       refine wR0 2700 [4] fX ?_
       refine wP ?_
       exact fB
      ·skip
       refine wR0 3000 [2,3,212] fX ?_
       refine wT fX ?_
       refine wR0 3100 [4] fX ?_
       refine wP ?_
       exact fB
 ·have fX := (cJ8 @qad @qai @qaR @kb1 @kb2 @kb3 @kb4 (cJ8 @kb5 @kb6 @kn1 @kn6 @hw1 @hw2 @hw3 (cJ7 @hw4 @hmv @hw1 @Bool.not_true @Bool.not_false @Bool.true_or @Bool.false_or)))
  refine qak fn91 (by simp) ?_
  unfold i91
  simp only [argL, qau, mdC, qbs, rlC]
  refine wR0 0 [2,3] fX ?_
  refine wR0 100 [2,3,5] fX ?_
  refine wR0 200 [2,3,5,10] fX ?_
  refine wF fX ?_
  refine wRn 400 [2,3,29] fX ?_
  refine rC fX ?_
  refine ⟨_, qaq _ _ _, rN fX ?_⟩
  refine rCi fX ?_
  refine ⟨_, fun hw => qaq _ _ _, rE fX ?_⟩
  refine wS cJ0 (fun hc400 => ?_) (fun hc400 => ?_)
  ·skip
   refine wR0 500 [4] fX ?_
   refine wP ?_
   exact fB
  ·skip
   refine wR0 600 [2,3,6] fX ?_
   refine wR0 700 [2,3,6,7] fX ?_
   refine wR0 800 [2,3,7,46] fX ?_
   refine wF fX ?_
   refine wR0 1100 [2,3,7,72] fX ?_
   refine wS cJ0 (fun hc1100 => ?_) (fun hc1100 => ?_)
   ·skip
    refine wR0 1200 [4] fX ?_
    refine wP ?_
    exact fB
   ·skip
    refine wR0 1300 [2,3,7,94] fX ?_
    refine wT fX ?_
    refine wR0 1400 [4] fX ?_
    refine wP ?_
    exact fB
end
section
open Go.RowKit
theorem lenE {α : Type} (l : List α) : (!decide ((l.length : Int) > 0)) = (l.length == 0) := by
 rw [Bool.eq_iff_iff]; simp only [Bool.not_eq_true', decide_eq_false_iff_not, beq_iff_eq]; omega
theorem bneE (x : Int) : (!(x != 0)) = (x == 0) := by simp [bne]
theorem gt3 {α : Type} (l : List α) : (!decide ((l.length : Int) > 3)) = decide ((l.length : Int) ≤ 3) := by
 rw [Bool.eq_iff_iff]; simp only [Bool.not_eq_true', decide_eq_false_iff_not, decide_eq_true_eq]; omega
theorem refl3 (a : ByteArray) : (a.toList == a.toList) = true := by simp
theorem qo6 (m : Md) (r : Rl) (hk : m.kind = 5) : qlQ 0 false false false false true false m r = qbk m r := by
 have hb : (m.kind == 6) = false := by rw [hk]; rfl
 have h1 : m.kind ≠ 1 := by omega
 have h2 : ¬ (m.kind = 2 ∨ m.kind = 3) := by omega
 have h4 : m.kind ≠ 4 := by omega
 simp only [qlQ, qbk, qkt, qlh, qjI, if_neg h1, if_neg h2, if_neg h4, if_pos hk, hb, eq_self, if_true, Bool.false_eq_true, if_false, qkK, qjo, fewR, Bool.not_or, Bool.not_not, gt3, lenE, bneE, qnm, qfq, qpk, qeu, beq_self_eq_true, Bool.false_and, Bool.true_and, Bool.and_true, Bool.or_false]
 grind
end
section
open Go.RowKit
set_option maxHeartbeats 2000000
theorem ql7 {m : Md} (hk : m.kind = 2 ∨ m.kind = 3) (h : qa2 m = true) : 0 < m.places.length ∧ 0 < m.letters.length := by
 have hl : limC m.kind = [1, 2, 1, 6, 0, 0, 0, 0] := by rcases hk with h | h <;> rw [h] <;> rfl
 simp [qa2, btw, hl] at h
 omega
theorem qoC (m : Md) (r : Rl) (hm : m.fit) (hr : r.fit) (ha : 0 ≤ m.age ∧ m.age ≤ 1000) (hk : btw m.kind 1 6 = true) (hs : qa2 m = true) : TP Tryz.prog 91 [qau m, qbs r] (.bool (qbk m r)) := by
 rcases qeh hk with h | h | h | h | h | h
 ·exact absurd hm.kd (by unfold kindOk; omega)
 ·have := ql7 (.inl h) hs
  exact absurd hm.kd (by unfold kindOk; omega)
 ·have := ql7 (.inr h) hs
  exact absurd hm.kd (by unfold kindOk; omega)
 ·exact absurd hm.kd (by unfold kindOk; omega)
 ·rw [← qo6 m r h]; exact qne m r hm hr ha h
 ·exact absurd hm.kd (by unfold kindOk; omega)
theorem qkM (m : Md) (hl : m.rules.length ≤ 1000) (hr : ∀ r ∈ m.rules, TP Tryz.prog 91 [qau m, qbs r] (.bool (qbk m r))) (Q : IExit → (Nat → T) → Heap → Prop) : ∀ (rest pre : List Rl) (i : Nat), m.rules = pre ++ rest → pre.length = i →
 ((rest.any fun r => !qbk m r) = false → ∀ i : Int, Q (.exit 0) (ofL [(1, .ref 0 10 0), (3, .int .i64 i), (21, .bool false)]) (hpL [(0, .live ⟨34, mdC m⟩)])) →
 ((rest.any fun r => !qbk m r) = true → Q .ret (ofL [(2, .int .i64 16)]) (hpL [(0, .live ⟨34, mdC m⟩)])) →
 WL Tryz.prog 52 ql4 (ofL [(1, .ref 0 10 0), (3, .int .i64 i)]) (hpL [(0, .live ⟨34, mdC m⟩)]) Q := by
 simp only [mdC]
 intro rest
 induction rest with
 | nil =>
  intro pre i he hn hQ0 hQ1
  have hd : decide ((i : Int) < ((qaL m.rules).length : Int)) = false := by simp [qaM, he, hn]
  have fX := @hd
  refine qaa ql4.eq_1 ?_
  refine wR0 1000 [1,3,21] fX ?_
  refine wF @hd ?_
  refine wX ?_
  refine wN ?_
  exact hQ0 rfl _
 | cons k rest ih =>
  intro pre i he hn hQ0 hQ1
  have hlt : (i : Int) < ((qaL m.rules).length : Int) := by simp [qaM, he]; omega
  have hlb : i ≤ 1000 := by rw [he] at hl; simp at hl; omega
  have hd : decide ((i : Int) < ((qaL m.rules).length : Int)) = true := decide_eq_true hlt
  have hg : (qaL m.rules).getD (i : Int).toNat .undef = .agg (rlC k) := by rw [Int.toNat_natCast, he, ← hn]; exact qd8 _ k _
  have hw : IntKind.wrap .i64 ((i : Int) + 1) = (i : Int) + 1 := wrap64 (by omega) (by omega)
  have hrk := hr k (by rw [he]; simp)
  simp only [rlC] at hg
  have fX := (cJ3 @hd @hg @hw)
  refine qaa ql4.eq_1 ?_
  refine wR0 1000 [1,3,21] fX ?_
  refine wT @hd ?_
  refine wRn 1100 [1,3,31] fX ?_
  refine rC fX ?_
  refine ⟨_, hrk, rE fX ?_⟩
  refine wS cJ0 (fun hc1100 => ?_) (fun hc1100 => ?_)
  ·skip
   refine wR0 1200 [2] fX ?_
   refine wE ?_
   refine wN ?_
   exact hQ1 (by rw [List.any_cons, hc1100, Bool.true_or])
  ·skip
   refine wR0 1300 [1,3] fX ?_
   refine wN ?_
   have e : ((k :: rest).any fun r => !qbk m r) = (rest.any fun r => !qbk m r) := (by rw [List.any_cons, hc1100, Bool.false_or])
   rw [e] at hQ0 hQ1
   exact ih (pre ++ [k]) (i + 1) (by simp [he]) (by simp; omega) hQ0 hQ1
set_option maxHeartbeats 4000000 in
theorem qg5 (m : Md) (hm : m.fit) : TP Tryz.prog 59 [qau m] (.int .i64 (qaI m)) := by
 have hrt := qpt m hm
 rcases hk : btw m.kind 1 6 with _ | _
 ·have hb := qaq m.kind 1 6
  rw [hk] at hb
  have fX := @Bool.not_false
  refine qak fn59 (by simp) ?_
  unfold i59
  simp only [argL, qau, mdC]
  refine wR0 0 [1] fX ?_
  refine wRn 100 [1,7] fX ?_
  refine rC fX ?_
  refine ⟨_, hb, rE fX ?_⟩
  refine wT fX ?_
  refine wR0 200 [2] fX ?_
  refine wP ?_
  exact qaK (by rw [qaI, if_pos hk])
 ·have hb := qaq m.kind 1 6
  rw [hk] at hb
  have hst := qkV m hk
  rcases hs : qa2 m with _ | _
  ·rw [hs] at hst
   have fX := (cJ2 @Bool.not_false @Bool.not_true)
   refine qak fn59 (by simp) ?_
   unfold i59
   simp only [argL, qau, mdC]
   refine wR0 0 [1] fX ?_
   refine wRn 100 [1,7] fX ?_
   refine rC fX ?_
   refine ⟨_, hb, rE fX ?_⟩
   refine wF fX ?_
   refine wRn 300 [1,10] fX ?_
   refine rC fX ?_
   refine ⟨_, hst, rE fX ?_⟩
   refine wT fX ?_
   refine wR0 400 [2] fX ?_
   refine wP ?_
   exact qaK (by rw [qaI, if_neg (by simp [hk]), if_pos hs])
  ·rw [hs] at hst
   rcases hr : qcC m with _ | _
   ·rw [hr] at hrt
    have fX := (cJ2 @Bool.not_false @Bool.not_true)
    refine qak fn59 (by simp) ?_
    unfold i59
    simp only [argL, qau, mdC]
    refine wR0 0 [1] fX ?_
    refine wRn 100 [1,7] fX ?_
    refine rC fX ?_
    refine ⟨_, hb, rE fX ?_⟩
    refine wF fX ?_
    refine wRn 300 [1,10] fX ?_
    refine rC fX ?_
    refine ⟨_, hst, rE fX ?_⟩
    refine wF fX ?_
    refine wRn 500 [1,13] fX ?_
    refine rC fX ?_
    refine ⟨_, hrt, rE fX ?_⟩
    refine wT fX ?_
    refine wR0 600 [2] fX ?_
    refine wP ?_
    exact qaK (by rw [qaI, if_neg (by simp [hk]), if_neg (by simp [hs]), if_pos hr])
   ·rw [hr] at hrt
    have hsn := qft hm hk hs hr
    have hch : qaI m = if qeN m = false then 13 else if (m.rules.any fun r => !qbk m r) = true then 16 else if qbl m = false then 17 else 0 := by rw [qaI, if_neg (by simp [hk]), if_neg (by simp [hs]), if_neg (by simp [hr])]
    have ht := qhf m hsn
    have hv := qcP (qaF m) m.start (qfB m hm.places hm.ranks) hm.start
    rw [qd5] at hv
    rcases hty : qaF m with ⟨tk, ts, trs, tps⟩
    rw [hty] at ht hv
    simp only [qal] at ht hv
    have fX := (cJ2 @Bool.not_false @Bool.not_true)
    refine qak fn59 (by simp) ?_
    unfold i59
    simp only [argL, qau, mdC]
    refine wR0 0 [1] fX ?_
    refine wRn 100 [1,7] fX ?_
    refine rC fX ?_
    refine ⟨_, hb, rE fX ?_⟩
    refine wF fX ?_
    refine wRn 300 [1,10] fX ?_
    refine rC fX ?_
    refine ⟨_, hst, rE fX ?_⟩
    refine wF fX ?_
    refine wRn 500 [1,13] fX ?_
    refine rC fX ?_
    refine ⟨_, hrt, rE fX ?_⟩
    refine wF fX ?_
    refine wRn 700 [1,16] fX ?_
    refine rC fX ?_
    refine ⟨_, qnV m hm (qkj hs), rE fX ?_⟩
    refine wS cJ0 (fun hc700 => ?_) (fun hc700 => ?_)
    ·skip
     refine wR0 800 [2] fX ?_
     refine wP ?_
     exact qaK (by simp at hc700; rw [hch, if_pos hc700])
    ·skip
     refine wR0 900 [1,3] fX ?_
     simp only [thn]
     simp only [Bool.not_eq_false'] at hc700
     have hch2 : qaI m = if (m.rules.any fun r => !qbk m r) = true then 16 else if qbl m = false then 17 else 0 := (by rw [hch, if_neg (by simp [hc700])])
     refine wL ?_
     refine qkM m hm.rules (fun r hr => qoC m r hm (hm.rule r hr) hsn.age hk hs) _ m.rules [] 0 rfl rfl ?_ ?_
     ·intro h i
      refine wN ?_
      refine wR0 1400 [1,34] fX ?_
      simp only [thn]
      have hch3 : qaI m = if qbl m = false then 17 else 0 := (by rw [hch2, if_neg (by simp only [h]; simp)])
      refine wS cJ0 (fun hc1400 => ?_) (fun hc1400 => ?_)
      ·skip
       refine wR0 1500 [45] fX ?_
       refine wS cJ0 (fun hc1500 => ?_) (fun hc1500 => ?_)
       ·skip
        refine wR0 1600 [2] fX ?_
        refine wP ?_
        exact qaK (by simp at hc1400; have hbg : qbl m = false := (by rw [qbl, if_pos hc1400, Bool.eq_false_iff]; intro hb; simp only [Bool.and_eq_true, beq_iff_eq] at hb; have hb2 := hb.2; simp [qag, hb.1] at hc1500; omega); rw [hch3, if_pos hbg])
       ·skip
        refine wR0 1700 [2] fX ?_
        refine wP ?_
        exact qaK (by simp at hc1400; have hbg : qbl m = true := (by rw [qbl, if_pos hc1400]; simp [qag] at hc1500; simp [hc1500]); rw [hch3, if_neg (by simp [hbg])])
      ·skip
       refine wN ?_
       simp only [mdC]
       refine wRn 1800 [51] fX ?_
       refine rC fX ?_
       refine ⟨_, ht, rN fX ?_⟩
       refine rC fX ?_
       refine ⟨_, hv, rE fX ?_⟩
       refine wS cJ0 (fun hc1800 => ?_) (fun hc1800 => ?_)
       ·skip
        refine wR0 1900 [2] fX ?_
        refine wP ?_
        exact qaK (by simp at hc1400 hc1800; have hbg : qbl m = false := (by rw [qbl, if_neg hc1400, hty]; exact hc1800); rw [hch3, if_pos hbg])
       ·skip
        refine wR0 2000 [2] fX ?_
        refine wP ?_
        exact qaK (by simp at hc1400 hc1800; have hbg : qbl m = true := (by rw [qbl, if_neg hc1400, hty]; exact hc1800); rw [hch3, if_neg (by simp [hbg])])
     ·intro h
      refine wN ?_
      exact ⟨by simp, _, rfl, by exact qaK (by rw [hch2, if_pos h])⟩
def qjj (m : Md) : Ty × Int := if qaI m = 0 then (qaF m, 0) else (.mk 0 0 [] [], qaI m)
theorem qpX (m : Md) (hm : m.fit) : TP Tryz.prog 25 [qau m] (.tup [qal (qjj m).1, .int .i64 (qjj m).2]) := by
 rcases hty : qaF m with ⟨tk, ts, trs, tps⟩
 by_cases h0 : qaI m = 0
 ·have ht := qhf m (qfw hm h0)
  rw [hty, qal] at ht
  have hc := qg5 m hm
  rw [h0] at hc
  have hd : ((0 : Int) != 0) = false := rfl
  refine qak fn25 (by simp) ?_
  unfold i25
  simp only [argL, qau, mdC]
  refine wR0 0 [1,2] cJ0 ?_
  refine wRn 100 [1,2,4] cJ0 ?_
  refine rC cJ0 ?_
  refine ⟨_, hc, rE cJ0 ?_⟩
  refine wR0 200 [1,2,4,8] cJ0 ?_
  refine wF @hd ?_
  refine wRn 400 [2,3] cJ0 ?_
  refine rC cJ0 ?_
  refine ⟨_, ht, rE cJ0 ?_⟩
  refine wP ?_
  (rw [qjj, if_pos h0, hty]; simp only [qal]; refine Frz.tupL (.cons (.same (by simp [mkEl, esz, clL, T.cl])) (.cons (.same rfl) .nil)))
 ·have hd : (qaI m != 0) = true := by simpa using h0
  refine qak fn25 (by simp) ?_
  unfold i25
  simp only [argL, qau, mdC]
  refine wR0 0 [1,2] cJ0 ?_
  refine wRn 100 [1,2,4] cJ0 ?_
  refine rC cJ0 ?_
  refine ⟨_, qg5 m hm, rE cJ0 ?_⟩
  refine wR0 200 [1,2,4,8] cJ0 ?_
  refine wT @hd ?_
  refine wR0 300 [2,3] cJ0 ?_
  refine wP ?_
  (rw [qjj, if_neg h0]; simp only [qal, qah, qas]; (first | exact fF | exact fZt))
def qso (s : Int) (ps : List V) : V := .mk 0 (.mk s [] :: ps)
theorem qsd (s : Int) (ps : List V) (hl : ps.length ≤ 100000) (hf : ∀ k ∈ ps, k.fit) : TP Tryz.prog 79 [.int .i64 s, .list (qac ps)] (encV (qso s ps)) := by
 have hc := qrC [[.mk s []], ps] (by simp; omega) (by simp) (by simp)
 have e : [[V.mk s []], ps].flatten = .mk s [] :: ps := by simp
 rw [e] at hc
 simp only [llsV, List.map_cons, List.map_nil, qac, encV, qaE] at hc
 have fX := (cJ2 @qc0 @qcF)
 refine qak fn79 (by simp) ?_
 unfold i79
 simp only [argL]
 refine wR0 0 [0,1,4] fX ?_
 refine wRn 100 [4] fX ?_
 refine rC fX ?_
 refine ⟨_, qnJ ps (by omega) hf, rN fX ?_⟩
 refine rGc [(102, .live ⟨_, _⟩), (105, .live ⟨_, _⟩)] [(508, .live ⟨25, qao (.mk s [] :: ps)⟩)] fX ?_
 refine ⟨_, _, hc, fZt, rE fX ?_⟩
 refine wP ?_
 (simp only [qso, encV]; exact Frz.aggL (.cons (.same rfl) (.cons (qb8 (.mk s [] :: ps) rfl rfl rfl) .nil)) rfl)
def qbD (m : Md) (c : V) : Int := if qaI m ≠ 0 then qaI m else if m.kind ≠ 5 then 15 else if qaT m c = false then 17 else 0
theorem qkd (m : Md) (c : V) (hm : m.fit) (hc : c.fit) : TP Tryz.prog 57 [qau m, encV c] (.int .i64 (qbD m c)) := by
 rcases c with ⟨n, ks⟩
 refine qak fn57 (by simp) ?_
 unfold i57
 simp only [argL, encV, qau, mdC, encV]
 refine wR0 0 [2,3] cJ0 ?_
 refine wRn 100 [2,3,5] cJ0 ?_
 refine rC cJ0 ?_
 refine ⟨_, qgM m hm, rE cJ0 ?_⟩
 refine wR0 200 [2,3,5,9] cJ0 ?_
 refine wS cJ0 (fun hc200 => ?_) (fun hc200 => ?_)
 ·skip
  refine wR0 300 [4] cJ0 ?_
  refine wP ?_
  exact qaK (by simp at hc200; rw [qbD, if_pos hc200])
 ·skip
  refine wR0 400 [2,3,11] cJ0 ?_
  refine wS cJ0 (fun hc400 => ?_) (fun hc400 => ?_)
  ·skip
   refine wR0 500 [4] cJ0 ?_
   refine wP ?_
   exact qaK (by simp at hc200 hc400; rw [qbD, if_neg (by simp [hc200]), if_pos hc400])
  ·skip
   refine wRn 600 [15] cJ0 ?_
   refine rC cJ0 ?_
   refine ⟨_, qgV m (.mk n ks) hm hc, rE cJ0 ?_⟩
   refine wS cJ0 (fun hc600 => ?_) (fun hc600 => ?_)
   ·skip
    refine wR0 700 [4] cJ0 ?_
    refine wP ?_
    exact qaK (by simp at hc200 hc400 hc600; rw [qbD, if_neg (by simp [hc200]), if_neg (by simp [hc400]), if_pos hc600])
   ·skip
    refine wR0 800 [4] cJ0 ?_
    refine wP ?_
    exact qaK (by simp at hc200 hc400 hc600; rw [qbD, if_neg (by simp [hc200]), if_neg (by simp [hc400]), if_neg (by simp [hc600])])
end
end Go.Proofs.YtikhhnopcjgjpaaGreat
