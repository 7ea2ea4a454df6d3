/- Contracts of functions of the program, for all arguments that they name. -/
import Derived.Test.YtikhhnopcjgjpaaGreatK03
import Derived.Test.YtikhhnopcjgjpaaGreatK13
import Derived.Test.YtikhhnopcjgjpaaGreatK16
namespace Go.Proofs.YtikhhnopcjgjpaaGreat
set_option linter.unusedVariables false
section
open Go.RowKit
set_option maxHeartbeats 2000000
theorem qnj (n lo hi : Int) (xs : List Int) (hl : xs.length ≤ 1000000) (Q : IExit → (Nat → T) → Heap → Prop) : ∀ (rest pre : List Int) (i : Nat), xs = pre ++ rest → pre.length = i →
 ((rest.all fun x => btw x lo hi) = true → ∀ i : Int, Q (.exit 0) (ofL [(0, .list (qaf xs)), (1, .int .i64 n), (2, .int .i64 lo), (3, .int .i64 hi), (9, .int .i64 i), (13, .bool false)]) (hpL [])) →
 ((rest.all fun x => btw x lo hi) = false → Q .ret (ofL [(8, .bool false)]) (hpL [])) →
 WL Tryz.prog 28 qiT (ofL [(0, .list (qaf xs)), (1, .int .i64 n), (2, .int .i64 lo), (3, .int .i64 hi), (9, .int .i64 i)]) (hpL []) Q := by
 intro rest
 induction rest with
 | nil =>
  intro pre i he hn hQ0 hQ1
  have hd : decide ((i : Int) < ((qaf xs).length : Int)) = false := by simp [qai, he, hn]
  have fX := @hd
  refine qaa qiT.eq_1 ?_
  refine wR0 200 [0,1,2,3,9,13] fX ?_
  refine wF @hd ?_
  refine wX ?_
  refine wN ?_
  exact hQ0 rfl _
 | cons k rest ih =>
  intro pre i he hn hQ0 hQ1
  have hlt : (i : Int) < ((qaf xs).length : Int) := by simp [qai, he]; omega
  have hlb : i ≤ 1000000 := by rw [he] at hl; simp at hl; omega
  have hd : decide ((i : Int) < ((qaf xs).length : Int)) = true := decide_eq_true hlt
  have hg : (qaf xs).getD (i : Int).toNat .undef = .int .i64 k := by rw [Int.toNat_natCast, he, ← hn]; exact qbK _ k _
  have hw : IntKind.wrap .i64 ((i : Int) + 1) = (i : Int) + 1 := wrap64 (by omega) (by omega)
  have fX := (cJ3 @hd @hg @hw)
  refine qaa qiT.eq_1 ?_
  refine wR0 200 [0,1,2,3,9,13] fX ?_
  refine wT @hd ?_
  refine wRn 300 [0,1,2,3,9,23] fX ?_
  refine rC fX ?_
  refine ⟨_, qaq k lo hi, rE fX ?_⟩
  refine wS cJ0 (fun hc300 => ?_) (fun hc300 => ?_)
  ·skip
   refine wR0 400 [8] fX ?_
   refine wE ?_
   refine wN ?_
   simp at hc300
   exact hQ1 (by simp [hc300])
  ·skip
   refine wR0 500 [0,1,2,3,9] fX ?_
   refine wN ?_
   simp at hc300
   have e : ((k :: rest).all fun x => btw x lo hi) = (rest.all fun x => btw x lo hi) := (by simp [hc300])
   rw [e] at hQ0 hQ1
   exact ih (pre ++ [k]) (i + 1) (by simp [he]) (by simp; omega) hQ0 hQ1
def qkX (xs : List Int) (n lo hi : Int) : Bool := (xs.all fun x => btw x lo hi) && ((xs.length : Int) == n)
theorem qqN (xs : List Int) (n lo hi : Int) (hl : xs.length ≤ 1000000) : TP Tryz.prog 141 [.list (qaf xs), .int .i64 n, .int .i64 lo, .int .i64 hi] (.bool (qkX xs n lo hi)) := by
 refine qak fn141 (by simp) ?_
 unfold i141
 simp only [argL]
 refine wR0 0 [0,1,2,3] cJ0 ?_
 refine wR0 100 [0,1,2,3,9] cJ0 ?_
 refine wL ?_
 refine qnj n lo hi xs hl _ xs [] 0 rfl rfl ?_ ?_
 ·intro h i
  refine wN ?_
  refine wR0 600 [8] cJ0 ?_
  refine wP ?_
  exact qab (by rw [qkX, h, qai, Bool.true_and])
 ·intro h
  refine wN ?_
  exact ⟨by simp, _, rfl, by exact qab (by rw [qkX, h, Bool.false_and])⟩
def fewR (xs : List Int) (n hi : Int) : Bool := decide ((xs.length : Int) ≤ n) && xs.all fun x => btw x 0 hi
theorem qsr (xs : List Int) (n hi : Int) (hl : xs.length ≤ 1000000) : TP Tryz.prog 142 [.list (qaf xs), .int .i64 n, .int .i64 hi] (.bool (fewR xs n hi)) := by
 refine qak fn142 (by simp) ?_
 unfold i142
 simp only [argL]
 refine wR0 0 [0,1,2] cJ0 ?_
 refine wRn 100 [6] cJ0 ?_
 refine rCi cJ0 ?_
 refine ⟨_, fun hw => qqN xs ((qaf xs).length : Int) 0 hi hl, rE cJ0 ?_⟩
 refine wP ?_
 exact qab (by simp [fewR, qkX, qai])
theorem qk3 (m : Md) (hl : m.ranks.length ≤ 1000000) (Q : IExit → (Nat → T) → Heap → Prop) : ∀ (rest pre : List Int) (i : Nat), m.ranks = pre ++ rest → pre.length = i →
 ((rest.all fun x => btw x 0 5) = true → ∀ i : Int, Q (.exit 0) (ofL [(1, .ref 0 10 0), (3, .int .i64 i), (22, .bool false)]) (hpL [(0, .live ⟨34, mdC m⟩)])) →
 ((rest.all fun x => btw x 0 5) = false → Q .ret (ofL [(2, .bool false)]) (hpL [(0, .live ⟨34, mdC m⟩)])) →
 WL Tryz.prog 32 qlj (ofL [(1, .ref 0 10 0), (3, .int .i64 i)]) (hpL [(0, .live ⟨34, mdC m⟩)]) Q := by
 intro rest
 simp only [mdC]
 induction rest with
 | nil =>
  intro pre i he hn hQ0 hQ1
  have hd : decide ((i : Int) < ((qaf m.ranks).length : Int)) = false := by simp [qai, he, hn]
  have fX := @hd
  refine qaa qlj.eq_1 ?_
  refine wR0 600 [1,3,22] fX ?_
  refine wF @hd ?_
  refine wX ?_
  refine wN ?_
  exact hQ0 rfl _
 | cons k rest ih =>
  intro pre i he hn hQ0 hQ1
  have hlt : (i : Int) < ((qaf m.ranks).length : Int) := by simp [qai, he]; omega
  have hlb : i ≤ 1000000 := by rw [he] at hl; simp at hl; omega
  have hd : decide ((i : Int) < ((qaf m.ranks).length : Int)) = true := decide_eq_true hlt
  have hg : (qaf m.ranks).getD (i : Int).toNat .undef = .int .i64 k := by rw [Int.toNat_natCast, he, ← hn]; exact qbK _ k _
  have hw : IntKind.wrap .i64 ((i : Int) + 1) = (i : Int) + 1 := wrap64 (by omega) (by omega)
  have fX := (cJ3 @hd @hg @hw)
  refine qaa qlj.eq_1 ?_
  refine wR0 600 [1,3,22] fX ?_
  refine wT @hd ?_
  refine wRn 700 [1,3,31] fX ?_
  refine rC fX ?_
  refine ⟨_, qaq k 0 5, rE fX ?_⟩
  refine wS cJ0 (fun hc700 => ?_) (fun hc700 => ?_)
  ·skip
   refine wR0 800 [2] fX ?_
   refine wE ?_
   refine wN ?_
   simp at hc700
   exact hQ1 (by simp [hc700])
  ·skip
   refine wR0 900 [1,3] fX ?_
   refine wN ?_
   simp at hc700
   have e : ((k :: rest).all fun x => btw x 0 5) = (rest.all fun x => btw x 0 5) := (by simp [hc700])
   rw [e] at hQ0 hQ1
   exact ih (pre ++ [k]) (i + 1) (by simp [he]) (by simp; omega) hQ0 hQ1
theorem qpt (m : Md) (hm : m.fit) : TP Tryz.prog 89 [qau m] (.bool (qcC m)) := by
 have hr := hm.ranks
 refine qak fn89 (by simp) ?_
 unfold i89
 simp only [argL, qau, mdC]
 refine wR0 0 [1] cJ0 ?_
 refine wR0 100 [1,6] cJ0 ?_
 refine wS cJ0 (fun hc100 => ?_) (fun hc100 => ?_)
 ·skip
  refine wR0 200 [2] cJ0 ?_
  refine wP ?_
  exact qab (by simp at hc100; rw [qcC, if_pos hc100, qai])
 ·skip
  refine wR0 300 [1,17] cJ0 ?_
  refine wS cJ0 (fun hc300 => ?_) (fun hc300 => ?_)
  ·skip
   refine wR0 400 [2] cJ0 ?_
   refine wP ?_
   exact qab (by simp at hc100; simp [qai, qad] at hc300; rw [qcC, if_neg (by simp [hc100])]; simp; omega)
  ·skip
   refine wR0 500 [1,3] cJ0 ?_
   simp only [thn]
   have hlen : ((m.ranks.length : Int) == m.letters.length) = true := (by simpa [qai, qad] using hc300)
   refine wL ?_
   refine qk3 m hr _ m.ranks [] 0 rfl rfl ?_ ?_
   ·intro h i
    refine wN ?_
    refine wR0 1000 [2] cJ0 ?_
    refine wP ?_
    exact qab (by simp at hc100; rw [qcC, if_neg (by simp [hc100]), hlen, Bool.true_and, ← List.all_eq_not_any_not, h])
   ·intro h
    refine wN ?_
    exact ⟨by simp, _, rfl, by exact qab (by simp at hc100; rw [qcC, if_neg (by simp [hc100]), hlen, Bool.true_and, ← List.all_eq_not_any_not, h])⟩
theorem qnT (m : Md) (r : Rl) (hp : m.places.length ≤ 1000) (hm : 0 ≤ m.age ∧ m.age ≤ 1000) (hl : r.takes.length ≤ 1000000) (Q : IExit → (Nat → T) → Heap → Prop) : ∀ (rest pre : List Tk) (i : Nat), r.takes = pre ++ rest → pre.length = i →
 ((rest.any fun t => qfR m.places.length m.age t) = false → ∀ i : Int, Q (.exit 0) (ofL [(2, .ref 0 10 0), (3, .ref 1 14 0), (5, .int .i64 i), (26, .bool false)]) (hpL [(0, .live ⟨34, mdC m⟩), (1, .live ⟨60, rlC r⟩)])) →
 ((rest.any fun t => qfR m.places.length m.age t) = true → ∀ l, Q .ret (ofL [(4, .bool false)]) (hpL l)) →
 WL Tryz.prog 81 qiW (ofL [(2, .ref 0 10 0), (3, .ref 1 14 0), (5, .int .i64 i)]) (hpL [(0, .live ⟨34, mdC m⟩), (1, .live ⟨60, rlC r⟩)]) Q := by
 intro rest
 simp only [mdC, rlC]
 induction rest with
 | nil =>
  intro pre i he hn hQ0 hQ1
  have hd : decide ((i : Int) < ((qay r.takes).length : Int)) = false := by simp [qaR, he, hn]
  have fX := @hd
  refine qaa qiW.eq_1 ?_
  refine wR0 400 [2,3,5,26] fX ?_
  refine wF @hd ?_
  refine wX ?_
  refine wN ?_
  exact hQ0 rfl _
 | cons k rest ih =>
  intro pre i he hn hQ0 hQ1
  have hlt : (i : Int) < ((qay r.takes).length : Int) := by simp [qaR, he]; omega
  have hlb : i ≤ 1000000 := by rw [he] at hl; simp at hl; omega
  have hd : decide ((i : Int) < ((qay r.takes).length : Int)) = true := decide_eq_true hlt
  have hg : (qay r.takes).getD (i : Int).toNat .undef = .agg [.int .i64 k.place, .int .i64 k.low, .int .i64 k.high] := by rw [Int.toNat_natCast, he, ← hn]; exact qd9 _ k _
  have hw : IntKind.wrap .i64 ((i : Int) + 1) = (i : Int) + 1 := wrap64 (by omega) (by omega)
  have hw2 : IntKind.wrap .i64 (((qan m.places).length : Int) - 1) = ((qan m.places).length : Int) - 1 := by rw [qad]; exact wrap64 (by omega) (by omega)
  have hw3 : IntKind.wrap .i64 (m.age + 1) = m.age + 1 := wrap64 (by omega) (by omega)
  have hbad : qfR m.places.length m.age k = (!btw k.place 0 (((qan m.places).length : Int) - 1) || decide (k.low < 0) || decide (k.low > k.high) || decide (k.high > m.age + 1)) := by rw [qad]; rfl
  have fX := (cJ5 @hd @hg @hw @hw2 @hw3)
  refine qaa qiW.eq_1 ?_
  refine W_gc ?_
  refine wR0 400 [2,3,5,26] fX ?_
  refine wT @hd ?_
  refine wR0 500 [2,3,5,6] fX ?_
  refine wRn 600 [2,3,5,61] fX ?_
  refine rC fX ?_
  refine ⟨_, qaq _ _ _, rE fX ?_⟩
  refine wS cJ0 (fun hc600 => ?_) (fun hc600 => ?_)
  ·skip
   refine wR0 700 [4] fX ?_
   refine wE ?_
   refine wN ?_
   rw [← hbad] at hc600
   exact hQ1 (by simp [hc600]) _
  ·skip
   refine wR0 800 [2,3,5] fX ?_
   refine wN ?_
   rw [← hbad] at hc600
   have e : ((k :: rest).any fun t => qfR m.places.length m.age t) = (rest.any fun t => qfR m.places.length m.age t) := (by simp [hc600])
   rw [e] at hQ0 hQ1
   refine qa1 [0, 1] (by simp [inL]) (by simp [inL, T.cl]) (by simp [qap, inL, Slot.cl, T.cl, clL]) ?_
   have := ih (pre ++ [k]) (i + 1) (by simp [he]) (by simp; omega) hQ0 hQ1
   simpa [qap, inL] using this
theorem qpm (r : Rl) (hh : List (Nat × Slot)) (hb : hpL hh 1 = .live ⟨60, rlC r⟩) (hl : r.makes.length ≤ 1000000) (Q : IExit → (Nat → T) → Heap → Prop) : ∀ (rest pre : List Int) (x : Int) (i : Nat), r.makes = pre ++ x :: rest → pre.length + 1 = i →
 (ascI (x :: rest) = true → ∀ i : Int, Q (.exit 2) (ofL [(3, .ref 1 14 0), (7, .int .i64 i), (66, .bool false)]) (hpL hh)) →
 (ascI (x :: rest) = false → Q .ret (ofL [(4, .bool false)]) (hpL hh)) →
 WL Tryz.prog 81 qfu (ofL [(3, .ref 1 14 0), (7, .int .i64 i)]) (hpL hh) Q := by
 intro rest
 simp only [rlC] at hb
 induction rest with
 | nil =>
  intro pre x i he hn hQ0 hQ1
  have hd : decide ((i : Int) < ((qaf r.makes).length : Int)) = false := by simp [qai, he]; omega
  have fX := (cJ2 @hd @hb)
  refine qaa qfu.eq_1 ?_
  refine wR0 1000 [3,7,66] fX ?_
  refine wF @hd ?_
  refine wX ?_
  refine wN ?_
  exact hQ0 rfl _
 | cons k rest ih =>
  intro pre x i he hn hQ0 hQ1
  have hlt : (i : Int) < ((qaf r.makes).length : Int) := by simp [qai, he]; omega
  have hlt2 : (i : Int) - 1 < ((qaf r.makes).length : Int) := by omega
  have hi1 : 1 ≤ i := by omega
  have hlb : i ≤ 1000000 := by rw [he] at hl; simp at hl; omega
  have hd : decide ((i : Int) < ((qaf r.makes).length : Int)) = true := decide_eq_true hlt
  have hg : (qaf r.makes).getD (i : Int).toNat .undef = .int .i64 k := by
   have h := qbK (pre ++ [x]) k rest
   rw [Int.toNat_natCast, he, show i = (pre ++ [x]).length by simp; omega]; simpa using h
  have hg2 : (qaf r.makes).getD ((i : Int) - 1).toNat .undef = .int .i64 x := by
   have h := qbK pre x (k :: rest)
   rw [he, show ((i : Int) - 1).toNat = pre.length by omega]; exact h
  have hw : IntKind.wrap .i64 ((i : Int) + 1) = (i : Int) + 1 := wrap64 (by omega) (by omega)
  have hw2 : IntKind.wrap .i64 ((i : Int) - 1) = (i : Int) - 1 := wrap64 (by omega) (by omega)
  have fX := (cJ6 @hd @hg @hg2 @hw @hw2 @hb)
  refine qaa qfu.eq_1 ?_
  refine wR0 1000 [3,7,66] fX ?_
  refine wT @hd ?_
  refine wR0 1100 [3,7,80] fX ?_
  refine wS cJ0 (fun hc1100 => ?_) (fun hc1100 => ?_)
  ·skip
   refine wR0 1200 [4] fX ?_
   refine wE ?_
   refine wN ?_
   exact hQ1 (by rw [ascI, hc1100]; rfl)
  ·skip
   refine wR0 1300 [3,7] fX ?_
   refine wN ?_
   have e : ascI (x :: k :: rest) = ascI (k :: rest) := (by rw [ascI, hc1100]; rfl)
   rw [e] at hQ0 hQ1
   exact ih (pre ++ [x]) k (i + 1) (by simp [he]) (by simp; omega) hQ0 hQ1
theorem rtimed_l1' (r : Rl) (hh : List (Nat × Slot)) (hb : hpL hh 1 = .live ⟨60, rlC r⟩) (hl : r.makes.length ≤ 1000000) (Q : IExit → (Nat → T) → Heap → Prop)
 (hQ0 : ascI r.makes = true → ∀ i : Int, Q (.exit 2) (ofL [(3, .ref 1 14 0), (7, .int .i64 i), (66, .bool false)]) (hpL hh)) (hQ1 : ascI r.makes = false → Q .ret (ofL [(4, .bool false)]) (hpL hh)) :
 WL Tryz.prog 81 qfu (ofL [(3, .ref 1 14 0), (7, .int .i64 1)]) (hpL hh) Q := by
 rcases hmk : r.makes with _ | ⟨x, mk⟩
 ·have hd : decide ((1 : Int) < ((qaf r.makes).length : Int)) = false := by simp [qai, hmk]
  simp only [rlC] at hb
  have fX := (cJ2 @hd @hb)
  refine qaa qfu.eq_1 ?_
  refine wR0 1000 [3,7,66] fX ?_
  refine wF @hd ?_
  refine wX ?_
  refine wN ?_
  exact hQ0 (by rw [hmk]; rfl) _
 ·rw [hmk] at hQ0 hQ1
  exact qpm r hh hb hl Q mk [] x 1 (by rw [hmk]; rfl) rfl hQ0 hQ1
def qjo (m : Md) (r : Rl) : Bool := !(decide ((r.takes.length : Int) > 3) || !fewR r.makes 3 ((m.places.length : Int) - 1)) && !(r.takes.any fun t => qfR m.places.length m.age t) && ascI r.makes
set_option maxHeartbeats 4000000 in
theorem qpv (m : Md) (r : Rl) (hp : m.places.length ≤ 1000) (hm : 0 ≤ m.age ∧ m.age ≤ 1000) (hr : r.fit) : TP Tryz.prog 143 [qau m, qbs r] (.bool (qjo m r)) := by
 have hw2 : IntKind.wrap .i64 (((qan m.places).length : Int) - 1) = ((qan m.places).length : Int) - 1 := by rw [qad]; exact wrap64 (by omega) (by omega)
 have h1 := hr.takes
 have hmk := hr.makes
 have fX := @hw2
 refine qak fn143 (by simp) ?_
 unfold i143
 simp only [argL, qau, mdC, qbs, rlC]
 refine wR0 0 [2,3] fX ?_
 refine wRn 100 [2,3,21] fX ?_
 refine rCi fX ?_
 refine ⟨_, fun hw => qsr r.makes 3 _ hmk, rE fX ?_⟩
 simp only [thn]
 have e0 : ∀ c, (decide (((qay r.takes).length : Int) > 3) || !fewR r.makes 3 (((qan m.places).length : Int) - 1)) = c → qjo m r = (!c && !(r.takes.any fun t => qfR m.places.length m.age t) && ascI r.makes) := (by rintro c rfl; simp only [qjo, qaR, qad])
 refine wS cJ0 (fun hc100 => ?_) (fun hc100 => ?_)
 ·skip
  refine wR0 200 [4] fX ?_
  refine wP ?_
  exact qab (by rw [e0 _ hc100]; rfl)
 ·skip
  refine wR0 300 [2,3,5] fX ?_
  refine wL ?_
  refine qnT m r hp hm h1 _ r.takes [] 0 rfl rfl ?_ ?_
  ·intro h i
   refine wN ?_
   refine wR0 900 [3,7] fX ?_
   refine wL ?_
   refine rtimed_l1' r _ rfl hmk _ ?_ ?_
   ·intro h2 i
    refine wN ?_
    refine wR0 1400 [4] fX ?_
    refine wP ?_
    exact qab (by rw [e0 _ hc100, h, h2]; rfl)
   ·intro h2
    refine wN ?_
    exact ⟨by simp, _, rfl, by exact qab (by rw [e0 _ hc100, h, h2]; rfl)⟩
  ·intro h l
   refine wN ?_
   exact ⟨by simp, _, rfl, by exact qab (by rw [e0 _ hc100, h]; rfl)⟩
theorem qc0 (zs : List T) : repl 1 zs = zs := by simp [repl]
theorem qcF (zs : List T) : repl 2 zs = zs ++ zs := by simp [repl]
theorem repl3 (zs : List T) : repl 3 zs = zs ++ (zs ++ zs) := by simp [repl]
theorem qas : qaf [] = [] := rfl
def qaN (n : Int) : Ty := .mk 2 n [] []
def qbf (k : Int) (t : Ty) : Ty := .mk k 0 [] [t]
def qdU (l : Int) (lv : Int) : Ty := if lv > 1 then qbf 5 (.mk 3 0 [] [qaN l, qbf 5 (qaN l)]) else qbf 5 (qaN l)
theorem qbS (l : Int) : qdU l 1 = qbf 5 (qaN l) := rfl
theorem qb0 (l : Int) : qdU l 2 = qbf 5 (.mk 3 0 [] [qaN l, qbf 5 (qaN l)]) := rfl
def qaZ (ps : List Ty) : Ty := .mk 3 0 [] ps
theorem qdh (n : Int) : TP Tryz.prog 122 [.int .i64 n] (qal (qaN n)) := by
 refine qak fn122 (by simp) ?_
 unfold i122
 simp only [argL]
 refine wR0 0 [0,2] cJ0 ?_
 refine wR0 100 [2] cJ0 ?_
 refine wP ?_
 (refine eG ?_; (try simp only [qaN, qal, qah, qas]); (first | exact fF | exact fZt))
theorem qf2 (k tk ts : Int) (trs : List Int) (tps : List Ty) : TP Tryz.prog 124 [.int .i64 k, qal (.mk tk ts trs tps)] (qal (qbf k (.mk tk ts trs tps))) := by
 have fX := (cJ2 @qc0 @qcF)
 refine qak fn124 (by simp) ?_
 unfold i124
 simp only [argL, qal]
 refine wR0 0 [0,3,4] fX ?_
 refine wR0 100 [4] fX ?_
 refine wP ?_
 (refine eG ?_; (try simp only [qbf, qal, qah, qas]); (first | exact fF | exact fZt))
theorem qhQ (l : Int) : TP Tryz.prog 123 [.int .i64 l, .int .i64 1] (qal (qdU l 1)) := by
 have hd : decide ((1 : Int) > 1) = false := rfl
 have h1 := qdh l
 have h2 := qf2 5 2 l [] []
 simp only [qaN, qbf, qal, qas, qah] at h1 h2
 have fX := (cJ3 @hd @qc0 @qcF)
 refine qak fn123 (by simp) ?_
 unfold i123
 simp only [argL]
 refine wR0 0 [0,1,4] fX ?_
 refine wRn 100 [0,1,4,5] fX ?_
 refine rC fX ?_
 refine ⟨_, h1, rE fX ?_⟩
 refine wR0 200 [0,1,4,5,9] fX ?_
 refine wF @hd ?_
 refine wRn 400 [4] fX ?_
 refine rC fX ?_
 refine ⟨_, h2, rE fX ?_⟩
 refine wP ?_
 (refine eG ?_; (try simp only [qbS, qaN, qbf, qal, qah, qas]); (first | exact fF | exact fZt))
theorem qmX (l : Int) : TP Tryz.prog 123 [.int .i64 l, .int .i64 2] (qal (qdU l 2)) := by
 have hd : decide ((2 : Int) > 1) = true := rfl
 have hw : IntKind.wrap .i64 ((2 : Int) - 1) = 1 := rfl
 have h1 := qdh l
 have h3 := qhQ l
 have h4 := qf2 5 3 0 [] [qaN l, qbf 5 (qaN l)]
 simp only [qaN, qbf, qal, qas, qah] at h4
 simp only [qbS, qaN, qbf, qal, qas, qah] at h1 h3
 have fX := (cJ4 @hd @hw @qc0 @qcF)
 refine qak fn123 (by simp) ?_
 unfold i123
 simp only [argL]
 refine wR0 0 [0,1,4] fX ?_
 refine wRn 100 [0,1,4,5] fX ?_
 refine rC fX ?_
 refine ⟨_, h1, rE fX ?_⟩
 refine wR0 200 [0,1,4,5,9] fX ?_
 refine wT @hd ?_
 refine wRn 300 [4,5] fX ?_
 refine rC fX ?_
 refine ⟨_, h3, rE fX ?_⟩
 refine wRn 400 [4] fX ?_
 refine rG [(305, .live ⟨_, _⟩)] fX ?_
 refine ⟨_, _, h4, (by ((try simp only [qaN, qbf, qal, qah, qas]); (first | exact fF | exact fZt))), rE fX ?_⟩
 refine wP ?_
 (refine eG ?_; (try simp only [qb0, qaN, qbf, qal, qah, qas]); (first | exact fF | exact fZt))
def tokV (p a : Int) : V := .mk 0 [.mk p [], .mk a []]
def encP (x : Int × Int) : T := .agg [.int .i64 x.1, .int .i64 x.2]
def qax (l : List (Int × Int)) : List T := l.map encP
def qbd (l : List (Int × Int)) : List T := l.flatMap fun x => [.int .i64 x.1, .int .i64 x.2]
theorem qaP (l : List (Int × Int)) : (qax l).length = l.length := by simp [qax]
theorem qgZ (pre : List (Int × Int)) (k : Int × Int) (rest : List (Int × Int)) : (qax (pre ++ k :: rest)).getD pre.length .undef = encP k := by simp [qax, List.getD_eq_getElem?_getD]
theorem qc5 (xs ys : List (Int × Int)) : qax (xs ++ ys) = qax xs ++ qax ys := by simp [qax]
theorem qgN (l : List (Int × Int)) : sizedB 2 (qax l) = true := by
 rw [sizedB, List.all_eq_true]
 intro x hx
 obtain ⟨v, _, rfl⟩ := List.mem_map.1 hx
 rfl
theorem qc9 (D : Nat → Bool) : ∀ l, clL D (qax l) = true
 | [] => rfl
 | x :: l => by have := qc9 D l; simp only [qax] at this; simp [qax, encP, clL, T.cl, this]
theorem qbA : ∀ l : List (Int × Int), (qbd l).length = l.length * 2
 | [] => rfl
 | x :: l => by have := qbA l; simp only [qbd] at this; simp [qbd, this]; omega
theorem qcq (xs ys : List (Int × Int)) : qbd (xs ++ ys) = qbd xs ++ qbd ys := by simp [qbd]
theorem qcM : ∀ l : List (Int × Int), qbd l = flat (qax l)
 | [] => rfl
 | x :: l => by have := qcM l; simp only [qbd, qax] at this; simp [qbd, qax, encP, qbe, this, T.cells]
theorem qej (D : Nat → Bool) : ∀ l, clL D (qbd l) = true
 | [] => rfl
 | x :: l => by have := qej D l; simp only [qbd] at this; simp [qbd, clL, T.cl, this]
theorem qfl : ∀ l, Ones (qbd l)
 | [] => fun c hc => by cases hc
 | x :: l => fun c hc => by
  have := qfl l
  simp only [qbd, List.flatMap_cons, List.cons_append, List.nil_append, List.mem_cons] at hc
  rcases hc with rfl | rfl | hc
  ·rfl
  ·rfl
  ·exact this c hc
theorem qfP (l : List (Int × Int)) : qcA (esz 2) (qax l) := fun x hx => by
 obtain ⟨v, _, rfl⟩ := List.mem_map.1 hx
 rfl
theorem qgc {H : Heap} {id ty n tot : Nat} (l : List (Int × Int)) (hb : H id = .live ⟨ty, qbd l⟩) (hn : n = l.length) (ht : tot = l.length * 2) : Frz H (.sl id tot 2 0 n) (.list (qax l)) := by
 subst hn ht
 refine Frz.sl hb (qbA l) (by simp [esz]) (qaP l) (qfP l) (by rw [← qcM]; exact qfl l) fun k hk => ?_
 rw [← qcM, Nat.zero_add]
 exact .same (qa7 (qej _ l) k)
def qcB (id : Nat) (done : List (Int × Int)) : T := match done with
 | [] => .nil
 | d :: ds => .sl id ((ds.length + 1) * 2) 2 0 (ds.length + 1)
def qcy (id ty : Nat) (done : List (Int × Int)) : List (Nat × Slot) := match done with
 | [] => []
 | d :: ds => [(id, .live ⟨ty, qbd (d :: ds)⟩)]
def tokL (l : List (Int × Int)) : List V := l.map fun x => tokV x.1 x.2
def cfgV (s : Int) (l : List (Int × Int)) : V := .mk 0 [.mk s [], .mk 0 (tokL l)]
theorem qqg (pre : List (Int × Int)) (k : Int × Int) (rest : List (Int × Int)) : (qac (tokL (pre ++ k :: rest))).getD pre.length .undef = .agg [.int .i64 0, .list [.agg [.int .i64 k.1, .list []], .agg [.int .i64 k.2, .list []]]] := by
 have := qa0 (tokL pre) (tokV k.1 k.2) (tokL rest)
 simp only [tokL, List.length_map] at this
 simp only [tokL, List.map_append, List.map_cons]
 rw [this]; rfl
theorem qoE (s : Int) (xs : List (Int × Int)) (hl : xs.length ≤ 1000000) (Q : IExit → (Nat → T) → Heap → Prop) : ∀ (rest pre : List (Int × Int)) (n : Nat), xs = pre ++ rest → pre.length = n →
 (∀ i : Int, Q (.exit 0) (ofL [(3, qcB 513 xs), (10, .list (qac (tokL xs))), (11, .int .i64 (qac (tokL xs)).length), (12, .int .i64 i), (13, .bool false)]) (hpL ((0, .live ⟨25, [.int .i64 0, .list [.agg [.int .i64 s, .list []], .agg [.int .i64 0, .list (qac (tokL xs))]]]⟩) :: qcy 513 50 xs))) →
 WL Tryz.prog 32 qjN (ofL [(3, qcB 513 pre), (10, .list (qac (tokL xs))), (11, .int .i64 (qac (tokL xs)).length), (12, .int .i64 n)]) (hpL ((0, .live ⟨25, [.int .i64 0, .list [.agg [.int .i64 s, .list []], .agg [.int .i64 0, .list (qac (tokL xs))]]]⟩) :: qcy 513 50 pre)) Q := by
 intro rest
 induction rest with
 | nil =>
  intro pre n he hn hQ
  have hd : decide ((n : Int) < ((qac (tokL xs)).length : Int)) = false := by simp [qag, tokL, he, hn]
  simp only [List.append_nil] at he
  subst he
  have fX := @hd
  refine qaa qjN.eq_1 ?_
  refine wR0 300 [3,10,11,12,13] fX ?_
  refine wF @hd ?_
  refine wX ?_
  refine wN ?_
  exact hQ _
 | cons k rest ih =>
  intro pre n he hn hQ
  have hlt : (n : Int) < ((qac (tokL xs)).length : Int) := by simp [qag, tokL, he]; omega
  have hlb : n ≤ 1000000 := by rw [he] at hl; simp at hl; omega
  have hd : decide ((n : Int) < ((qac (tokL xs)).length : Int)) = true := decide_eq_true hlt
  have hg : (qac (tokL xs)).getD (n : Int).toNat .undef = .agg [.int .i64 0, .list [.agg [.int .i64 k.1, .list []], .agg [.int .i64 k.2, .list []]]] := by rw [Int.toNat_natCast, he, ← hn]; exact qqg _ k _
  have hw : IntKind.wrap .i64 ((n : Int) + 1) = (n : Int) + 1 := wrap64 (by omega) (by omega)
  have hb0 : (0 : Int) < (([T.agg [.int .i64 k.1, .list []], T.agg [.int .i64 k.2, .list []]] : List T).length : Int) := by simp
  have hb1 : (1 : Int) < (([T.agg [.int .i64 k.1, .list []], T.agg [.int .i64 k.2, .list []]] : List T).length : Int) := by simp
  have hz0 : ([T.agg [.int .i64 k.1, .list []], T.agg [.int .i64 k.2, .list []]] : List T).getD (0 : Int).toNat .undef = .agg [.int .i64 k.1, .list []] := rfl
  have hz1 : ([T.agg [.int .i64 k.1, .list []], T.agg [.int .i64 k.2, .list []]] : List T).getD (1 : Int).toNat .undef = .agg [.int .i64 k.2, .list []] := rfl
  have hkc : ∀ D, clL D (qac (tokL xs)) = true := fun D => qam D _
  cases pre with
  | nil =>
   simp only [qcB, qcy]
   have fX := (cJ6 @hd @hg @hw @hz0 @hz1 @qc0)
   refine qaa qjN.eq_1 ?_
   refine W_gc ?_
   refine wR0 300 [3,10,11,12,13] fX ?_
   refine wT fX ?_
   refine wR0 400 [3,5,10,11,12] fX ?_
   refine wR0 500 [3,10,11,12] fX ?_
   refine wR0 600 [3,10,11,12] fX ?_
   refine wN ?_
   refine qa1 [0, 513] (by simp [inL]) (by simp [inL, T.cl]) (by simp [qap, inL, Slot.cl, T.cl, clL, hkc]) ?_
   have := ih [k] (n + 1) (by simpa using he) (by simp at hn; simp; omega) hQ
   simpa [qap, inL, qcB, qcy, qbd] using this
  | cons p pre =>
   have hp : pre.length + 1 ≤ 1000000 := by simp at hn; omega
   simp only [qcB, qcy]
   have fX := (cJ7 @hd @hg @hw @hz0 @hz1 @qc0 @qbA)
   refine qaa qjN.eq_1 ?_
   refine W_gc ?_
   refine wR0 300 [3,10,11,12,13] fX ?_
   refine wT fX ?_
   refine wR0 400 [3,5,10,11,12] fX ?_
   refine wR0 500 [3,10,11,12] fX ?_
   refine wR0 600 [3,10,11,12] fX ?_
   refine wN ?_
   refine qa1 [0, 513] (by simp [inL]) (by simp [inL, T.cl]) (by simp [qap, inL, Slot.cl, T.cl, clL, hkc, qej, qaw]) ?_
   have := ih (p :: (pre ++ [k])) (n + 1) (by simpa using he) (by simp at hn; simp; omega) hQ
   have hs : qbd (p :: (pre ++ [k])) = qbd (p :: pre) ++ [.int .i64 k.1, .int .i64 k.2] := (by simp [qbd])
   have hm : (pre.length + 1 + 1) * 2 = (pre.length + 1) * 2 + 2 := (by omega)
   simp only [qcB, qcy, hs, List.length_append, List.length_cons, List.length_nil, Nat.zero_add, hm] at this
   simpa [qap, inL] using this
theorem qpz (s : Int) (xs : List (Int × Int)) (hl : xs.length ≤ 1000000) : TC Tryz.prog 44 [encV (cfgV s xs)] (hpL []) (qcB 513 xs) (hpL ((0, .live ⟨25, [.int .i64 0, .list [.agg [.int .i64 s, .list []], .agg [.int .i64 0, .list (qac (tokL xs))]]]⟩) :: qcy 513 50 xs)) := by
 simp only [cfgV, encV, qac]
 have hb1 : (1 : Int) < (([T.agg [.int .i64 s, .list []], T.agg [.int .i64 0, .list (qac (tokL xs))]] : List T).length : Int) := by simp
 have hz1 : ([T.agg [.int .i64 s, .list []], T.agg [.int .i64 0, .list (qac (tokL xs))]] : List T).getD (1 : Int).toNat .undef = .agg [.int .i64 0, .list (qac (tokL xs))] := rfl
 have fX := @hz1
 refine qcg fn44 (by simp) ?_
 unfold i44
 simp only [argL]
 refine wR0 0 [1] fX ?_
 refine wR0 100 [1,3] fX ?_
 refine wR0 200 [3,10,11,12] fX ?_
 refine wL ?_
 refine qoE s xs hl _ xs [] 0 rfl rfl ?_
 ·intro i
  refine wN ?_
  refine wN ?_
  rcases xs with _ | ⟨p, pre⟩
  ·skip
   refine wN ?_
   simp only [qcB, qcy]
   refine wR0 700 [2] fX ?_
   refine wE ?_
   refine wN ?_
   first | exact ⟨by simp, rfl, rfl⟩ | exact ⟨by simp, rfl, trivial⟩
  ·skip
   refine wN ?_
   simp only [qcB, qcy]
   refine wR0 700 [2] fX ?_
   refine wE ?_
   refine wN ?_
   first | exact ⟨by simp, rfl, rfl⟩ | exact ⟨by simp, rfl, trivial⟩
theorem qkL (s : Int) (xs : List (Int × Int)) (hl : xs.length ≤ 1000000) : TC Tryz.prog 44 [encV (cfgV s xs)] (hpL []) (qcB 513 xs) (hpL (qcy 513 50 xs)) := by
 have h := qpz s xs hl
 rcases xs with _ | ⟨p, pre⟩
 ·exact qb6 [513] h (by simp) (by simp [T.cl, qcB]) (by simp [qap, inL, Slot.cl, qcy])
 ·exact qb6 [513] h (by simp) (by simp [T.cl, inL, qcB]) (by simp [qap, inL, Slot.cl, qcy, qej])
end
end Go.Proofs.YtikhhnopcjgjpaaGreat
