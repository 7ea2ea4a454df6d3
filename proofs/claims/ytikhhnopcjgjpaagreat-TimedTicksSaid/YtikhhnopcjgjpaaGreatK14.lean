/- Contracts of functions of the program, for all arguments that they name. -/
import Derived.Test.YtikhhnopcjgjpaaGreatK13
namespace Go.Proofs.YtikhhnopcjgjpaaGreat
set_option linter.unusedVariables false
section
open Go.RowKit
set_option maxHeartbeats 2000000
def qan (l : List ByteArray) : List T := l.map .str
theorem qad (l : List ByteArray) : (qan l).length = l.length := by simp [qan]
theorem qde (pre : List ByteArray) (k : ByteArray) (ks : List ByteArray) : (qan (pre ++ k :: ks)).getD pre.length .undef = .str k := by
 simp [qan, List.getD_eq_getElem?_getD]
theorem qcv (xs ys : List ByteArray) : qan (xs ++ ys) = qan xs ++ qan ys := by simp [qan]
@[simp] theorem qcm (D : Nat → Bool) (l : List ByteArray) : clL D (qan l) = true := by
 induction l with
 | nil => rfl
 | cons x l ih => simpa [qan, clL, T.cl] using ih
structure Tk where
 place : Int
 low : Int
 high : Int
def qgE (t : Tk) : T := .agg [.int .i64 t.place, .int .i64 t.low, .int .i64 t.high]
def qay (l : List Tk) : List T := l.map qgE
theorem qaR (l : List Tk) : (qay l).length = l.length := by simp [qay]
theorem qd9 (pre : List Tk) (k : Tk) (ks : List Tk) : (qay (pre ++ k :: ks)).getD pre.length .undef = qgE k := by
 simp [qay, List.getD_eq_getElem?_getD]
@[simp] theorem encTk_cl (D : Nat → Bool) (t : Tk) : (qgE t).cl D = true := rfl
@[simp] theorem qn9 (D : Nat → Bool) (l : List Tk) : clL D (qay l) = true := by
 induction l with
 | nil => rfl
 | cons x l ih => simpa [qay, clL] using ih
structure Rl where
 name : ByteArray
 from_ : Int
 to_ : Int
 need : List Int
 give : List Int
 move : List Int
 chan : Int
 act : Int
 lett : Int
 path : List Int
 next : List Int
 takes : List Tk
 makes : List Int
 second : Int
def rlC (r : Rl) : List T := [.str r.name, .int .i64 r.from_, .int .i64 r.to_, .list (qaf r.need), .list (qaf r.give), .list (qaf r.move), .int .i64 r.chan, .int .i64 r.act, .int .i64 r.lett, .list (qaf r.path), .list (qaf r.next), .list (qay r.takes), .list (qaf r.makes), .int .i64 r.second]
def qbs (r : Rl) : T := .agg (rlC r)
def qaL (l : List Rl) : List T := l.map qbs
theorem qaM (l : List Rl) : (qaL l).length = l.length := by simp [qaL]
theorem qd8 (pre : List Rl) (k : Rl) (ks : List Rl) : (qaL (pre ++ k :: ks)).getD pre.length .undef = qbs k := by
 simp [qaL, List.getD_eq_getElem?_getD]
@[simp] theorem rlC_cl (D : Nat → Bool) (r : Rl) : clL D (rlC r) = true := by simp [rlC, clL, T.cl]
@[simp] theorem qpF (D : Nat → Bool) (r : Rl) : (qbs r).cl D = true := by simp [qbs, T.cl]
@[simp] theorem qoe (D : Nat → Bool) (l : List Rl) : clL D (qaL l) = true := by
 induction l with
 | nil => rfl
 | cons x l ih => simp only [qaL, List.map_cons, clL, qpF, Bool.true_and]; exact ih
structure Md where
 kind : Int
 states : List ByteArray
 places : List ByteArray
 letters : List ByteArray
 ranks : List Int
 levels : Int
 age : Int
 rules : List Rl
 start : V
def mdC (m : Md) : List T := [.int .i64 m.kind, .list (qan m.states), .list (qan m.places), .list (qan m.letters), .list (qaf m.ranks), .int .i64 m.levels, .int .i64 m.age, .list (qaL m.rules), .int .i64 m.start.n, .list (qac m.start.kids)]
def qau (m : Md) : T := .agg (mdC m)
@[simp] theorem mdC_cl (D : Nat → Bool) (m : Md) : clL D (mdC m) = true := by simp [mdC, clL, T.cl]
@[simp] theorem encMd_cl (D : Nat → Bool) (m : Md) : (qau m).cl D = true := by simp [qau, T.cl]
def kindOk (k : Int) : Prop := k = 5
structure Rl.fit (r : Rl) : Prop where
 need : r.need.length ≤ 1000000
 give : r.give.length ≤ 1000000
 move : r.move.length ≤ 1000000
 path : r.path.length ≤ 1000000
 next : r.next.length ≤ 1000000
 takes : r.takes.length ≤ 1000000
 makes : r.makes.length ≤ 1000000
 name : r.name.size ≤ 1000000
structure Md.fit (m : Md) : Prop where
 states : m.states.length ≤ 1000
 places : m.places.length ≤ 1000
 letters : m.letters.length ≤ 1000
 ranks : m.ranks.length ≤ 1000000
 rules : m.rules.length ≤ 1000
 rule : ∀ r ∈ m.rules, r.fit
 start : m.start.fit
 names : ∀ s ∈ m.states ++ m.places ++ m.letters, s.size ≤ 1000000
 kd : kindOk m.kind
def btw (x a b : Int) : Bool := decide (x ≥ a) && decide (x ≤ b)
theorem qbN (x a b : Int) : TP Tryz.prog 69 [.int .i64 x, .int .i64 a, .int .i64 b] (.bool (btw x a b)) := by
 refine qak fn69 (by simp) ?_
 unfold i69
 simp only [argL]
 refine wR0 0 [0,1,2] cJ0 ?_
 refine wR0 100 [6] cJ0 ?_
 refine wP ?_
 exact qab rfl
theorem qaq (x a b : Int) : TP Tryz.prog 87 [.int .i64 x, .int .i64 a, .int .i64 b] (.bool (btw x a b)) := by
 refine qak fn87 (by simp) ?_
 unfold i87
 simp only [argL]
 refine wR0 0 [0,1,2] cJ0 ?_
 refine wR0 100 [6] cJ0 ?_
 refine wP ?_
 exact qab rfl
theorem qea (x n : Int) (hn : -1000000000000 ≤ n ∧ n ≤ 1000000000000) : TP Tryz.prog 110 [.int .i64 x, .int .i64 n] (.bool (btw x 0 (n - 1))) := by
 have hw : IntKind.wrap .i64 (n - 1) = n - 1 := wrap64 (by omega) (by omega)
 have fX := @hw
 refine qak fn110 (by simp) ?_
 unfold i110
 simp only [argL]
 refine wR0 0 [0,1] fX ?_
 refine wRn 100 [4] fX ?_
 refine rC fX ?_
 refine ⟨_, qbN x 0 (n - 1), rE fX ?_⟩
 refine wP ?_
 exact qab rfl
def limC (k : Int) : List Int :=
 if k = 1 ∨ k = 6 then [1, 6, 0, 0, 0, 0, 0, 0] else if k = 2 ∨ k = 3 then [1, 2, 1, 6, 0, 0, 0, 0] else if k = 4 then [0, 0, 1, 6, 1, 2, 0, 0] else [1, 6, 0, 0, 0, 0, 0, 3]
theorem qn0 (k : Int) : TP Tryz.prog 103 [.int .i64 k] (.agg (qaf (limC k))) := by
 have tk : ∀ (c : Int), (k == c) = true → k = c := fun c h => by simpa using h
 have fk : ∀ (c : Int), (k == c) = false → k ≠ c := fun c h => by simpa using h
 refine qak fn103 (by simp) ?_
 unfold i103
 simp only [argL]
 refine wR0 0 [0,2] cJ0 ?_
 refine wR0 100 [0,2,3] cJ0 ?_
 refine wR0 200 [2,3,5] cJ0 ?_
 refine wR0 300 [2,3,5,10] cJ0 ?_
 refine wS cJ0 (fun hc300 => ?_) (fun hc300 => ?_)
 ·skip
  refine wT @hc300 ?_
  refine wR0 500 [2,3] cJ0 ?_
  refine wR0 1200 [2] cJ0 ?_
  refine wP ?_
  first | (have h1 : k = 1 ∨ k = 6 := (by first | exact .inl (tk _ hc300) | exact .inr (tk _ hc400)); rw [limC, if_pos h1]; exact .same rfl) | (rw [limC, if_neg (fun h => h.elim (fk _ hc300) (fk _ hc400))]; first | (have h2 : k = 2 ∨ k = 3 := (by first | exact .inl (tk _ hc600) | exact .inr (tk _ hc700)); rw [if_pos h2]; exact .same rfl) | (rw [if_neg (fun h => h.elim (fk _ hc600) (fk _ hc700))]; first | (have h3 := tk _ hc900; rw [if_pos h3]; exact .same rfl) | (rw [if_neg (fk _ hc900)]; exact .same rfl)))
 ·skip
  refine wR0 400 [2,3,5,10] cJ0 ?_
  refine wS cJ0 (fun hc400 => ?_) (fun hc400 => ?_)
  ·skip
   refine wR0 500 [2,3] cJ0 ?_
   refine wR0 1200 [2] cJ0 ?_
   refine wP ?_
   first | (have h1 : k = 1 ∨ k = 6 := (by first | exact .inl (tk _ hc300) | exact .inr (tk _ hc400)); rw [limC, if_pos h1]; exact .same rfl) | (rw [limC, if_neg (fun h => h.elim (fk _ hc300) (fk _ hc400))]; first | (have h2 : k = 2 ∨ k = 3 := (by first | exact .inl (tk _ hc600) | exact .inr (tk _ hc700)); rw [if_pos h2]; exact .same rfl) | (rw [if_neg (fun h => h.elim (fk _ hc600) (fk _ hc700))]; first | (have h3 := tk _ hc900; rw [if_pos h3]; exact .same rfl) | (rw [if_neg (fk _ hc900)]; exact .same rfl)))
  ·skip
   refine wR0 600 [2,3,5,15] cJ0 ?_
   refine wS cJ0 (fun hc600 => ?_) (fun hc600 => ?_)
   ·skip
    refine wT @hc600 ?_
    refine wR0 800 [2,3] cJ0 ?_
    refine wR0 1200 [2] cJ0 ?_
    refine wP ?_
    first | (have h1 : k = 1 ∨ k = 6 := (by first | exact .inl (tk _ hc300) | exact .inr (tk _ hc400)); rw [limC, if_pos h1]; exact .same rfl) | (rw [limC, if_neg (fun h => h.elim (fk _ hc300) (fk _ hc400))]; first | (have h2 : k = 2 ∨ k = 3 := (by first | exact .inl (tk _ hc600) | exact .inr (tk _ hc700)); rw [if_pos h2]; exact .same rfl) | (rw [if_neg (fun h => h.elim (fk _ hc600) (fk _ hc700))]; first | (have h3 := tk _ hc900; rw [if_pos h3]; exact .same rfl) | (rw [if_neg (fk _ hc900)]; exact .same rfl)))
   ·skip
    refine wR0 700 [2,3,5,15] cJ0 ?_
    refine wS cJ0 (fun hc700 => ?_) (fun hc700 => ?_)
    ·skip
     refine wR0 800 [2,3] cJ0 ?_
     refine wR0 1200 [2] cJ0 ?_
     refine wP ?_
     first | (have h1 : k = 1 ∨ k = 6 := (by first | exact .inl (tk _ hc300) | exact .inr (tk _ hc400)); rw [limC, if_pos h1]; exact .same rfl) | (rw [limC, if_neg (fun h => h.elim (fk _ hc300) (fk _ hc400))]; first | (have h2 : k = 2 ∨ k = 3 := (by first | exact .inl (tk _ hc600) | exact .inr (tk _ hc700)); rw [if_pos h2]; exact .same rfl) | (rw [if_neg (fun h => h.elim (fk _ hc600) (fk _ hc700))]; first | (have h3 := tk _ hc900; rw [if_pos h3]; exact .same rfl) | (rw [if_neg (fk _ hc900)]; exact .same rfl)))
    ·skip
     refine wR0 900 [2,3,22] cJ0 ?_
     refine wS cJ0 (fun hc900 => ?_) (fun hc900 => ?_)
     ·skip
      refine wR0 1000 [2,3] cJ0 ?_
      refine wR0 1200 [2] cJ0 ?_
      refine wP ?_
      first | (have h1 : k = 1 ∨ k = 6 := (by first | exact .inl (tk _ hc300) | exact .inr (tk _ hc400)); rw [limC, if_pos h1]; exact .same rfl) | (rw [limC, if_neg (fun h => h.elim (fk _ hc300) (fk _ hc400))]; first | (have h2 : k = 2 ∨ k = 3 := (by first | exact .inl (tk _ hc600) | exact .inr (tk _ hc700)); rw [if_pos h2]; exact .same rfl) | (rw [if_neg (fun h => h.elim (fk _ hc600) (fk _ hc700))]; first | (have h3 := tk _ hc900; rw [if_pos h3]; exact .same rfl) | (rw [if_neg (fk _ hc900)]; exact .same rfl)))
     ·skip
      refine wR0 1100 [2,3] cJ0 ?_
      refine wR0 1200 [2] cJ0 ?_
      refine wP ?_
      first | (have h1 : k = 1 ∨ k = 6 := (by first | exact .inl (tk _ hc300) | exact .inr (tk _ hc400)); rw [limC, if_pos h1]; exact .same rfl) | (rw [limC, if_neg (fun h => h.elim (fk _ hc300) (fk _ hc400))]; first | (have h2 : k = 2 ∨ k = 3 := (by first | exact .inl (tk _ hc600) | exact .inr (tk _ hc700)); rw [if_pos h2]; exact .same rfl) | (rw [if_neg (fun h => h.elim (fk _ hc600) (fk _ hc700))]; first | (have h3 := tk _ hc900; rw [if_pos h3]; exact .same rfl) | (rw [if_neg (fk _ hc900)]; exact .same rfl)))
def qa2 (m : Md) : Bool :=
 btw m.states.length 1 8 && decide ((m.rules.length : Int) ≤ 12) && btw m.places.length ((limC m.kind).getD 0 0) ((limC m.kind).getD 1 0) && btw m.letters.length ((limC m.kind).getD 2 0) ((limC m.kind).getD 3 0) &&
  btw m.levels ((limC m.kind).getD 4 0) ((limC m.kind).getD 5 0) && btw m.age ((limC m.kind).getD 6 0) ((limC m.kind).getD 7 0)
theorem qsk (k : Int) : ∃ a b c d e f g h, limC k = [a, b, c, d, e, f, g, h] := by
 unfold limC
 (repeat' split) <;> exact ⟨_, _, _, _, _, _, _, _, rfl⟩
set_option maxHeartbeats 4000000 in
theorem qqD (m : Md) : TP Tryz.prog 70 [qau m] (.bool (qa2 m)) := by
 have hof := qn0 m.kind
 obtain ⟨a, b, c, d, e, f, g, h, hl⟩ := qsk m.kind
 rw [hl] at hof
 have fX := @qaf.eq_1
 refine qak fn70 (by simp) ?_
 unfold i70
 simp only [argL, qau, mdC]
 refine wR0 0 [1] fX ?_
 refine wRn 100 [1,3] fX ?_
 refine rC fX ?_
 refine ⟨_, hof, rE fX ?_⟩
 refine wRn 200 [2] fX ?_
 refine rC fX ?_
 refine ⟨_, qbN _ _ _, rN fX ?_⟩
 refine rCi fX ?_
 refine ⟨_, fun hw => qbN _ _ _, rN fX ?_⟩
 refine rCi fX ?_
 refine ⟨_, fun hw => qbN _ _ _, rN fX ?_⟩
 refine rCi fX ?_
 refine ⟨_, fun hw => qbN _ _ _, rN fX ?_⟩
 refine rCi fX ?_
 refine ⟨_, fun hw => qbN _ _ _, rE fX ?_⟩
 refine wP ?_
 exact qab (by simp [qa2, hl, qad, qaM])
theorem qmY (x : Int) : TP Tryz.prog 105 [.int .i64 x] (.bool (!btw x 0 5)) := by
 refine qak fn105 (by simp) ?_
 unfold i105
 simp only [argL]
 refine wR0 0 [0] cJ0 ?_
 refine wRn 100 [2] cJ0 ?_
 refine rC cJ0 ?_
 refine ⟨_, qbN x 0 5, rE cJ0 ?_⟩
 refine wP ?_
 exact qab rfl
def qcC (m : Md) : Bool := if m.kind ≠ 3 then (m.ranks.length : Int) == 0 else ((m.ranks.length : Int) == m.letters.length) && !m.ranks.any fun x => !btw x 0 5
theorem qnK (m : Md) (hm : m.fit) : TP Tryz.prog 71 [qau m] (.bool (qcC m)) := by
 refine qak fn71 (by simp) ?_
 unfold i71
 simp only [argL, qau, mdC]
 refine wR0 0 [1] cJ0 ?_
 refine wR0 100 [1,5] cJ0 ?_
 refine wS cJ0 (fun hc100 => ?_) (fun hc100 => ?_)
 ·skip
  refine wR0 200 [2] cJ0 ?_
  refine wP ?_
  exact qab (by simp at hc100; rw [qcC, if_pos hc100, qai])
 ·skip
  refine wRn 300 [2] cJ0 ?_
  refine rCi cJ0 ?_
  refine ⟨_, fun hw => qlv 105 [] rfl (fun x => !btw x 0 5) m.ranks hm.ranks (fun k hk => qmY k), rE cJ0 ?_⟩
  refine wP ?_
  exact qab (by simp at hc100; rw [qcC, if_neg (by simp [hc100]), qai, qad])
end
end Go.Proofs.YtikhhnopcjgjpaaGreat
