/- Contracts of functions of the program, for all arguments that they name. -/
import Derived.Test.YtikhhnopcjgjpaaGreatK11
import Derived.Test.YtikhhnopcjgjpaaGreatK28
namespace Go.Proofs.YtikhhnopcjgjpaaGreat
set_option linter.unusedVariables false
section
open Go.RowKit
set_option maxHeartbeats 2000000
attribute [local simp] qaQ qgN
theorem qiH (l : List Tk) : sizedB 3 (qay l) = true := by
 rw [sizedB, List.all_eq_true]
 intro x hx
 obtain ⟨v, _, rfl⟩ := List.mem_map.1 hx
 rfl
attribute [local simp] qiH
theorem qoy (t : Tk) (ts : List Tk) (hrec : ∀ l : List (Int × Int), l.length ≤ 12 → (chP qbB ts l).length ≤ 12 ^ ts.length) : ∀ (rest pre : List (Int × Int)), pre.length + rest.length ≤ 12 → (chL qbB t ts pre rest).length ≤ rest.length * 12 ^ ts.length
 | [], pre, _ => by simp [chL]
 | x :: rest, pre, h => by
  have ih := qoy t ts hrec rest (pre ++ [x]) (by simp at h ⊢; omega)
  have h1 := hrec (pre ++ rest) (by simp at h ⊢; omega)
  rw [chL, List.length_append, List.length_cons, Nat.add_mul, Nat.one_mul]
  split
  ·omega
  ·simp; omega
theorem qja : ∀ (ts : List Tk) (l : List (Int × Int)), l.length ≤ 12 → (chP qbB ts l).length ≤ 12 ^ ts.length
 | [], l, h => by simp [chP]
 | t :: ts, l, h => by
  have := qoy t ts (qja ts) l [] (by simpa using h)
  rw [chP, List.length_cons, Nat.pow_succ, Nat.mul_comm]
  exact Nat.le_trans this (Nat.mul_le_mul_right _ h)
def stL (m : Md) (r : Rl) (made : List (Int × Int)) (t : Tk) (acc : List V) (ok : Bool) : List (Nat × Slot) := [(0, sM m), (1005, sR r), (1300, sD made), (1900, sO (rowT 700 acc)), (2000, sF ok), (203, sT t)] ++ rowH 700 25 acc
theorem qqZ {a b c d e x y : Nat × Slot} (h : x.1 ≠ y.1) : hpL [a, b, c, d, e, x, y] = hpL [a, b, c, d, e, y, x] := by
 funext i
 simp only [hpL]
 by_cases h1 : i = x.1
 ·have : i ≠ y.1 := fun h2 => h (h1.symm.trans h2)
  simp [h1, h]
 ·simp [h1]
theorem qoZ (x y : Int × Int) : ((x.1 == y.1) && ((x.2 == y.2) && true)) = decide (x = y) := by
 rcases x with ⟨a, b⟩; rcases y with ⟨c, d⟩
 by_cases h : a = c <;> by_cases h' : b = d <;> simp [h, h']
set_option maxHeartbeats 20000000 in
theorem qj9 (m : Md) (r : Rl) (made : List (Int × Int)) (t : Tk) (ts : List Tk) (hts : ts.length ≤ 10) (xs : List (Int × Int)) (hxs : xs.length ≤ 12)
 (hrec : ∀ (l : List (Int × Int)) (acc : List V) (ok : Bool), l.length ≤ 12 → acc.length + 12 ^ ts.length ≤ 90000 → TC Tryz.prog 43 [.list (qax l), .list (qay ts), .fn 45 qd3] (hpL (stA m r made acc ok)) (.tup []) (hpL (stA m r made (acc ++ (chP qbB ts l).map (bV r made)) (ok && ((chP qbB ts l).map (bV r made)).all fun v => qaT m v))))
 (B : Nat) (hB : 12 ^ ts.length = B) (acc2 : List V) (ok2 : Bool) (Q : IExit → (Nat → T) → Heap → Prop)
 (hQ : ∀ i : Int, Q (.exit 0) (ofL [(0, .list (qax xs)), (1, .list (qay (t :: ts))), (2, .fn 45 qd3), (6, .ref 203 3 0), (18, .list (qax xs)), (19, .int .i64 (qax xs).length), (20, .int .i64 i), (21, .bool false)]) (hpL (stL m r made t acc2 ok2))) :
 ∀ (rest pre : List (Int × Int)) (n : Nat) (acc : List V) (ok : Bool), xs = pre ++ rest → pre.length = n → acc.length + rest.length * B ≤ 90000 → acc ++ (chL qbB t ts pre rest).map (bV r made) = acc2 → (ok && ((chL qbB t ts pre rest).map (bV r made)).all fun v => qaT m v) = ok2 →
 WL Tryz.prog 71 qdl (ofL [(0, .list (qax xs)), (1, .list (qay (t :: ts))), (2, .fn 45 qd3), (6, .ref 203 3 0), (18, .list (qax xs)), (19, .int .i64 (qax xs).length), (20, .int .i64 n)]) (hpL (stL m r made t acc ok)) Q := by
 have hmc : ∀ D, clL D (mdC m) = true := fun D => by simp
 have hrc : ∀ D, clL D (rlC r) = true := fun D => by simp
 rw [hB] at hrec
 intro rest
 induction rest with
 | nil =>
  intro pre n acc ok he hn hal ha ho
  have hd : decide ((n : Int) < ((qax xs).length : Int)) = false := by simp [qaP, he, hn]
  simp only [chL, List.map_nil, List.append_nil, List.all_nil, Bool.and_true] at ha ho
  subst ha ho
  have fX := @hd
  refine qaa qdl.eq_1 ?_
  refine wR0 400 [0,1,2,6,18,19,20,21] fX ?_
  refine wF @hd ?_
  refine wX ?_
  refine wN ?_
  exact hQ _
 | cons x rest ih =>
  intro pre n acc ok he hn hal ha ho
  have hlt : (n : Int) < ((qax xs).length : Int) := by simp [qaP, he]; omega
  have hnl : n + 1 + rest.length = xs.length := by rw [he]; simp [hn]; omega
  have hd : decide ((n : Int) < ((qax xs).length : Int)) = true := decide_eq_true hlt
  have hg : (qax xs).getD (n : Int).toNat .undef = encP x := by rw [Int.toNat_natCast, he, ← hn]; exact qgZ _ _ _
  have hw : IntKind.wrap .i64 ((n : Int) + 1) = ((n + 1 : Nat) : Int) := by rw [wrap64 (by omega) (by omega)]; rfl
  have hwm : IntKind.wrap .i64 ((n : Int) - 1) = (n : Int) - 1 := by rw [wrap64 (by omega) (by omega)]
  rw [List.length_cons, Nat.add_mul, Nat.one_mul] at hal
  rw [chL] at ha ho
  simp only [encP] at hg
  have hx0 : (List.take 1 (List.drop (Int.toNat 0 * 1) [T.int .i64 x.1, T.int .i64 x.2])).getD 0 .undef = .int .i64 x.1 := rfl
  have hx1 : (List.take 1 (List.drop (Int.toNat 1 * 1) [T.int .i64 x.1, T.int .i64 x.2])).getD 0 .undef = .int .i64 x.2 := rfl
  rcases hT : (x.1 == t.place && decide (x.2 ≥ t.low) && decide (x.2 ≤ t.high)) with _ | _
  ·have hF : ¬ (qbB t x = true ∧ pre.getLast? ≠ some x) := fun h => by
    have h1 : qbB t x = false := hT
    rw [h1] at h
    exact absurd h.1 (by simp)
   rw [if_neg hF, List.nil_append] at ha ho
   have hQ' := ih (pre ++ [x]) (n + 1) acc ok (by simpa using he) (by simp [hn]) (by omega) ha ho
   rcases acc with _ | ⟨a, l⟩
   ·simp only [stL, rowT, rowH, List.append_nil] at hQ' ⊢
    have fX := (cJ6 @hd @hg @hw @hx0 @hx1 @hT)
    refine qaa qdl.eq_1 ?_
    refine W_gc ?_
    refine wR0 400 [0,1,2,6,18,19,20,21] fX ?_
    refine wT fX ?_
    refine wR0 500 [0,1,2,6,7,8,18,19,20] fX ?_
    refine wR0 600 [0,1,2,6,7,18,19,20,56] fX ?_
    refine wF fX ?_
    refine wR0 800 [0,1,2,6,18,19,20] fX ?_
    refine wN ?_
    refine qa1 [0, 1005, 1300, 1900, 2000, 203, 700] (by simp [inL]) (by simp [inL, T.cl, clL, qd3]) (by simp [qap, inL, Slot.cl, T.cl, clL, hmc, hrc]) ?_
    simpa [qap, inL] using hQ'
   ·simp only [stL, rowT, rowH, List.cons_append, List.nil_append] at hQ' ⊢
    have fX := (cJ6 @hd @hg @hw @hx0 @hx1 @hT)
    refine qaa qdl.eq_1 ?_
    refine W_gc ?_
    refine wR0 400 [0,1,2,6,18,19,20,21] fX ?_
    refine wT fX ?_
    refine wR0 500 [0,1,2,6,7,8,18,19,20] fX ?_
    refine wR0 600 [0,1,2,6,7,18,19,20,56] fX ?_
    refine wF fX ?_
    refine wR0 800 [0,1,2,6,18,19,20] fX ?_
    refine wN ?_
    refine qa1 [0, 1005, 1300, 1900, 2000, 203, 700] (by simp [inL]) (by simp [inL, T.cl, clL, qd3]) (by simp [qap, inL, Slot.cl, T.cl, clL, hmc, hrc]) ?_
    simpa [qap, inL] using hQ'
  ·have hT' : qbB t x = true := hT
   rcases List.eq_nil_or_concat pre with hp0 | ⟨pre', y, hp0⟩
   ·have hF : qbB t x = true ∧ pre.getLast? ≠ some x := ⟨hT', by rw [hp0]; simp⟩
    have hi : ((n : Int) == 0) = true := by rw [← hn, hp0]; rfl
    have hcat := qk0 [pre, rest] (by simp; omega) (by simp)
    have hcall := hrec (pre ++ rest) acc ok (by simp; omega) (by omega)
    rw [if_pos hF, List.map_append] at ha ho
    rw [List.all_append, ← Bool.and_assoc] at ho
    rw [← List.append_assoc] at ha
    have hcl := qja ts (pre ++ rest) (by simp; omega)
    rw [hB] at hcl
    have hQ' := ih (pre ++ [x]) (n + 1) (acc ++ (chP qbB ts (pre ++ rest)).map (bV r made)) (ok && ((chP qbB ts (pre ++ rest)).map (bV r made)).all fun v => qaT m v) (by simpa using he) (by simp [hn]) (by simp only [List.length_append, List.length_map]; omega) ha ho
    have e1 : [pre, rest].flatten = pre ++ rest := by simp
    rw [e1] at hcat
    simp only [llsP, List.map_cons, List.map_nil] at hcat
    have htk : (List.take ((n : Int)).toNat (qax xs)) = qax pre := by rw [he, qc5, Int.toNat_natCast, ← hn, ← qaP pre, List.take_left]
    have hdk : (List.drop ((n + 1 : Nat) : Int).toNat (qax xs)) = qax rest := by rw [he, qc5, Int.toNat_natCast, ← hn, ← qaP pre, ← List.drop_drop, List.drop_left]; rfl
    have htts : List.drop (1 : Int).toNat (qay (t :: ts)) = qay ts := rfl
    have htt2 : List.take ((qay (t :: ts)).length - (1 : Int).toNat) (qay ts) = qay ts := List.take_of_length_le (by simp [qay])
    have htk2 : List.take ((qax xs).length - ((n + 1 : Nat) : Int).toNat) (qax rest) = qax rest := List.take_of_length_le (by rw [qaP, qaP]; omega)
    have hge : (0 ≤ (n : Int)) = True := eq_true (by omega)
    have hge1 : (0 ≤ ((n + 1 : Nat) : Int)) = True := eq_true (by omega)
    have h01 : ((0 : Int) ≤ 1) = True := eq_true (by decide)
    have h1t : (1 : Int).toNat ≤ (qay (t :: ts)).length := by simp [qay]
    generalize (chP qbB ts (pre ++ rest)).map (bV r made) = cs at hcall hQ'
    generalize (ok && cs.all fun v => qaT m v) = ok' at hcall hQ'
    rcases acc with _ | ⟨a, l⟩
    ·rcases cs with _ | ⟨c, cl⟩
     ·simp only [stA, stL, rowT, rowH, List.append_nil] at hcall hQ' ⊢
      have fX := (cJ8 @hd @hg @hw @hx0 @hx1 @hT @hi (cJ8 @htk @hdk @htts @htt2 @htk2 @hge @hge1 (cJ3 @h01 @Nat.sub_zero @qcF)))
      refine qaa qdl.eq_1 ?_
      refine W_gc ?_
      refine wR0 400 [0,1,2,6,18,19,20,21] fX ?_
      refine wT fX ?_
      refine wR0 500 [0,1,2,6,7,8,18,19,20] fX ?_
      refine wR0 600 [0,1,2,6,7,18,19,20,56] fX ?_
      refine wT fX ?_
      refine wRn 700 [0,1,2,6,18,19,20] fX ?_
      refine rG [(707, .live ⟨_, _⟩)] fX ?_
      refine ⟨_, _, hcat, fZt, rN fX ?_⟩
      refine rU [(0, sM m), (1005, sR r), (1300, sD made), (1900, sO .nil), (2000, sF ok)] [(0, sM m), (1005, sR r), (1300, sD made), (1900, sO .nil), (2000, sF ok')] fX ?_
      refine ⟨_, hcall.fullL (by simp) (by simp [qbc, qaA, qaO]), rE fX ?_⟩
      refine wR0 800 [0,1,2,6,18,19,20] fX ?_
      refine wN ?_
      refine qa1 [0, 1005, 1300, 1900, 2000, 203, 700] (by simp [inL]) (by simp [inL, T.cl, clL, qd3]) (by simp [qap, inL, Slot.cl, T.cl, clL, hmc, hrc]) ?_
      simpa [qap, inL] using hQ'
     ·simp only [stA, stL, rowT, rowH, List.cons_append, List.nil_append, List.append_nil] at hcall hQ' ⊢
      have fX := (cJ8 @hd @hg @hw @hx0 @hx1 @hT @hi (cJ8 @htk @hdk @htts @htt2 @htk2 @hge @hge1 (cJ3 @h01 @Nat.sub_zero @qcF)))
      refine qaa qdl.eq_1 ?_
      refine W_gc ?_
      refine wR0 400 [0,1,2,6,18,19,20,21] fX ?_
      refine wT fX ?_
      refine wR0 500 [0,1,2,6,7,8,18,19,20] fX ?_
      refine wR0 600 [0,1,2,6,7,18,19,20,56] fX ?_
      refine wT fX ?_
      refine wRn 700 [0,1,2,6,18,19,20] fX ?_
      refine rG [(707, .live ⟨_, _⟩)] fX ?_
      refine ⟨_, _, hcat, fZt, rN fX ?_⟩
      refine rU [(0, sM m), (1005, sR r), (1300, sD made), (1900, sO .nil), (2000, sF ok)] [(0, sM m), (1005, sR r), (1300, sD made), (1900, sO (.sl 700 ((cl.length + 1) * 2) 2 0 (cl.length + 1))), (2000, sF ok'), (700, .live ⟨25, qao (c :: cl)⟩)] fX ?_
      refine ⟨_, hcall.fullL (by simp) (by simp [qbc, qaA, qaO, qaX]), rE fX ?_⟩
      refine wR0 800 [0,1,2,6,18,19,20] fX ?_
      refine wN ?_
      refine qa1 [0, 1005, 1300, 1900, 2000, 203, 700] (by simp [inL]) (by simp [inL, T.cl, clL, qd3]) (by simp [qap, inL, Slot.cl, T.cl, clL, hmc, hrc]) ?_
      simpa [qap, inL] using hQ'
    ·simp only [stA, stL, rowT, rowH, List.cons_append, List.nil_append] at hcall hQ' ⊢
     have fX := (cJ8 @hd @hg @hw @hx0 @hx1 @hT @hi (cJ8 @htk @hdk @htts @htt2 @htk2 @hge @hge1 (cJ3 @h01 @Nat.sub_zero @qcF)))
     refine qaa qdl.eq_1 ?_
     refine W_gc ?_
     refine wR0 400 [0,1,2,6,18,19,20,21] fX ?_
     refine wT fX ?_
     refine wR0 500 [0,1,2,6,7,8,18,19,20] fX ?_
     refine wR0 600 [0,1,2,6,7,18,19,20,56] fX ?_
     refine wT fX ?_
     refine wRn 700 [0,1,2,6,18,19,20] fX ?_
     refine rG [(707, .live ⟨_, _⟩)] fX ?_
     refine ⟨_, _, hcat, fZt, rN fX ?_⟩
     refine rU [(0, sM m), (1005, sR r), (1300, sD made), (1900, sO (.sl 700 ((l.length + 1) * 2) 2 0 (l.length + 1))), (2000, sF ok), (700, .live ⟨25, qao (a :: l)⟩)] [(0, sM m), (1005, sR r), (1300, sD made), (1900, sO (.sl 700 (((l ++ cs).length + 1) * 2) 2 0 ((l ++ cs).length + 1))), (2000, sF ok'), (700, .live ⟨25, qao (a :: (l ++ cs))⟩)] fX ?_
     refine ⟨_, hcall.fullL (by simp) (by simp [qbc, qaA, qaO]), rE fX ?_⟩
     refine wR0 800 [0,1,2,6,18,19,20] fX ?_
     refine wN ?_
     refine qa1 [0, 1005, 1300, 1900, 2000, 203, 700] (by simp [inL]) (by simp [inL, T.cl, clL, qd3]) (by simp [qap, inL, Slot.cl, T.cl, clL, hmc, hrc]) ?_
     simpa [qap, inL] using hQ'
   ·have hlp : n = pre'.length + 1 := by rw [← hn, hp0]; simp
    have hi : ((n : Int) == 0) = false := by simp; omega
    have hlo : 0 ≤ (n : Int) - 1 := by omega
    have hlt1 : (n : Int) - 1 < ((qax xs).length : Int) := by omega
    have hg1 : (qax xs).getD ((n : Int) - 1).toNat .undef = .agg [.int .i64 y.1, .int .i64 y.2] := by
     have e : ((n : Int) - 1).toNat = pre'.length := by omega
     rw [e, he, hp0]
     have := qgZ pre' y (x :: rest)
     simpa [encP] using this
    have hgl : pre.getLast? = some y := by rw [hp0]; simp
    by_cases hyx : y = x
    ·have hF : ¬ (qbB t x = true ∧ pre.getLast? ≠ some x) := fun h => h.2 (by rw [hgl, hyx])
     rw [if_neg hF, List.nil_append] at ha ho
     have hne : (y.1 == x.1 && (y.2 == x.2 && true)) = true := by rw [qoZ]; simpa using hyx
     have hQ' := ih (pre ++ [x]) (n + 1) acc ok (by simpa using he) (by simp [hn]) (by omega) ha ho
     rcases acc with _ | ⟨a, l⟩
     ·simp only [stL, rowT, rowH, List.append_nil] at hQ' ⊢
      have fX := (cJ8 @hd @hg @hw @hx0 @hx1 @hT @hi (cJ7 @hg1 @hwm @qbq.eq_1 @qbq.eq_2 @eqT.eq_1 @eqT.eq_2 @hne))
      refine qaa qdl.eq_1 ?_
      refine W_gc ?_
      refine wR0 400 [0,1,2,6,18,19,20,21] fX ?_
      refine wT fX ?_
      refine wR0 500 [0,1,2,6,7,8,18,19,20] fX ?_
      refine wR0 600 [0,1,2,6,7,18,19,20,56] fX ?_
      refine wF @Bool.not_true ?_
      refine wR0 800 [0,1,2,6,18,19,20] fX ?_
      refine wN ?_
      refine qa1 [0, 1005, 1300, 1900, 2000, 203, 700] (by simp [inL]) (by simp [inL, T.cl, clL, qd3]) (by simp [qap, inL, Slot.cl, T.cl, clL, hmc, hrc]) ?_
      simpa [qap, inL] using hQ'
     ·simp only [stL, rowT, rowH, List.cons_append, List.nil_append] at hQ' ⊢
      have fX := (cJ8 @hd @hg @hw @hx0 @hx1 @hT @hi (cJ7 @hg1 @hwm @qbq.eq_1 @qbq.eq_2 @eqT.eq_1 @eqT.eq_2 @hne))
      refine qaa qdl.eq_1 ?_
      refine W_gc ?_
      refine wR0 400 [0,1,2,6,18,19,20,21] fX ?_
      refine wT fX ?_
      refine wR0 500 [0,1,2,6,7,8,18,19,20] fX ?_
      refine wR0 600 [0,1,2,6,7,18,19,20,56] fX ?_
      refine wF @Bool.not_true ?_
      refine wR0 800 [0,1,2,6,18,19,20] fX ?_
      refine wN ?_
      refine qa1 [0, 1005, 1300, 1900, 2000, 203, 700] (by simp [inL]) (by simp [inL, T.cl, clL, qd3]) (by simp [qap, inL, Slot.cl, T.cl, clL, hmc, hrc]) ?_
      simpa [qap, inL] using hQ'
    ·have hF : qbB t x = true ∧ pre.getLast? ≠ some x := ⟨hT', by rw [hgl]; simpa using hyx⟩
     have hne : (y.1 == x.1 && (y.2 == x.2 && true)) = false := by rw [qoZ]; simpa using hyx
     have hcat := qk0 [pre, rest] (by simp; omega) (by simp)
     have hcall := hrec (pre ++ rest) acc ok (by simp; omega) (by omega)
     rw [if_pos hF, List.map_append] at ha ho
     rw [List.all_append, ← Bool.and_assoc] at ho
     rw [← List.append_assoc] at ha
     have hcl := qja ts (pre ++ rest) (by simp; omega)
     rw [hB] at hcl
     have hQ' := ih (pre ++ [x]) (n + 1) (acc ++ (chP qbB ts (pre ++ rest)).map (bV r made)) (ok && ((chP qbB ts (pre ++ rest)).map (bV r made)).all fun v => qaT m v) (by simpa using he) (by simp [hn]) (by simp only [List.length_append, List.length_map]; omega) ha ho
     have e1 : [pre, rest].flatten = pre ++ rest := by simp
     rw [e1] at hcat
     simp only [llsP, List.map_cons, List.map_nil] at hcat
     have htk : (List.take ((n : Int)).toNat (qax xs)) = qax pre := by rw [he, qc5, Int.toNat_natCast, ← hn, ← qaP pre, List.take_left]
     have hdk : (List.drop ((n + 1 : Nat) : Int).toNat (qax xs)) = qax rest := by rw [he, qc5, Int.toNat_natCast, ← hn, ← qaP pre, ← List.drop_drop, List.drop_left]; rfl
     have htts : List.drop (1 : Int).toNat (qay (t :: ts)) = qay ts := rfl
     have htt2 : List.take ((qay (t :: ts)).length - (1 : Int).toNat) (qay ts) = qay ts := List.take_of_length_le (by simp [qay])
     have htk2 : List.take ((qax xs).length - ((n + 1 : Nat) : Int).toNat) (qax rest) = qax rest := List.take_of_length_le (by rw [qaP, qaP]; omega)
     have hge : (0 ≤ (n : Int)) = True := eq_true (by omega)
     have hge1 : (0 ≤ ((n + 1 : Nat) : Int)) = True := eq_true (by omega)
     have h01 : ((0 : Int) ≤ 1) = True := eq_true (by decide)
     have h1t : (1 : Int).toNat ≤ (qay (t :: ts)).length := by simp [qay]
     generalize (chP qbB ts (pre ++ rest)).map (bV r made) = cs at hcall hQ'
     generalize (ok && cs.all fun v => qaT m v) = ok' at hcall hQ'
     rcases acc with _ | ⟨a, l⟩
     ·rcases cs with _ | ⟨c, cl⟩
      ·simp only [stA, stL, rowT, rowH, List.append_nil] at hcall hQ' ⊢
       have fX := (cJ8 @hd @hg @hw @hx0 @hx1 @hT @hi (cJ8 @hg1 @hwm @qbq.eq_1 @qbq.eq_2 @eqT.eq_1 @eqT.eq_2 @hne (cJ8 @htk @hdk @htts @htt2 @htk2 @hge @hge1 (cJ3 @h01 @Nat.sub_zero @qcF))))
       refine qaa qdl.eq_1 ?_
       refine W_gc ?_
       refine wR0 400 [0,1,2,6,18,19,20,21] fX ?_
       refine wT fX ?_
       refine wR0 500 [0,1,2,6,7,8,18,19,20] fX ?_
       refine wR0 600 [0,1,2,6,7,18,19,20,56] fX ?_
       refine wT @Bool.not_false ?_
       refine wRn 700 [0,1,2,6,18,19,20] fX ?_
       refine rG [(707, .live ⟨_, _⟩)] fX ?_
       refine ⟨_, _, hcat, fZt, rN fX ?_⟩
       refine rU [(0, sM m), (1005, sR r), (1300, sD made), (1900, sO .nil), (2000, sF ok)] [(0, sM m), (1005, sR r), (1300, sD made), (1900, sO .nil), (2000, sF ok')] fX ?_
       refine ⟨_, hcall.fullL (by simp) (by simp [qbc, qaA, qaO]), rE fX ?_⟩
       refine wR0 800 [0,1,2,6,18,19,20] fX ?_
       refine wN ?_
       refine qa1 [0, 1005, 1300, 1900, 2000, 203, 700] (by simp [inL]) (by simp [inL, T.cl, clL, qd3]) (by simp [qap, inL, Slot.cl, T.cl, clL, hmc, hrc]) ?_
       simpa [qap, inL] using hQ'
      ·simp only [stA, stL, rowT, rowH, List.cons_append, List.nil_append, List.append_nil] at hcall hQ' ⊢
       have fX := (cJ8 @hd @hg @hw @hx0 @hx1 @hT @hi (cJ8 @hg1 @hwm @qbq.eq_1 @qbq.eq_2 @eqT.eq_1 @eqT.eq_2 @hne (cJ8 @htk @hdk @htts @htt2 @htk2 @hge @hge1 (cJ3 @h01 @Nat.sub_zero @qcF))))
       refine qaa qdl.eq_1 ?_
       refine W_gc ?_
       refine wR0 400 [0,1,2,6,18,19,20,21] fX ?_
       refine wT fX ?_
       refine wR0 500 [0,1,2,6,7,8,18,19,20] fX ?_
       refine wR0 600 [0,1,2,6,7,18,19,20,56] fX ?_
       refine wT @Bool.not_false ?_
       refine wRn 700 [0,1,2,6,18,19,20] fX ?_
       refine rG [(707, .live ⟨_, _⟩)] fX ?_
       refine ⟨_, _, hcat, fZt, rN fX ?_⟩
       refine rU [(0, sM m), (1005, sR r), (1300, sD made), (1900, sO .nil), (2000, sF ok)] [(0, sM m), (1005, sR r), (1300, sD made), (1900, sO (.sl 700 ((cl.length + 1) * 2) 2 0 (cl.length + 1))), (2000, sF ok'), (700, .live ⟨25, qao (c :: cl)⟩)] fX ?_
       refine ⟨_, hcall.fullL (by simp) (by simp [qbc, qaA, qaO, qaX]), rE fX ?_⟩
       refine wR0 800 [0,1,2,6,18,19,20] fX ?_
       refine wN ?_
       refine qa1 [0, 1005, 1300, 1900, 2000, 203, 700] (by simp [inL]) (by simp [inL, T.cl, clL, qd3]) (by simp [qap, inL, Slot.cl, T.cl, clL, hmc, hrc]) ?_
       simpa [qap, inL] using hQ'
     ·simp only [stA, stL, rowT, rowH, List.cons_append, List.nil_append] at hcall hQ' ⊢
      have fX := (cJ8 @hd @hg @hw @hx0 @hx1 @hT @hi (cJ8 @hg1 @hwm @qbq.eq_1 @qbq.eq_2 @eqT.eq_1 @eqT.eq_2 @hne (cJ8 @htk @hdk @htts @htt2 @htk2 @hge @hge1 (cJ3 @h01 @Nat.sub_zero @qcF))))
      refine qaa qdl.eq_1 ?_
      refine W_gc ?_
      refine wR0 400 [0,1,2,6,18,19,20,21] fX ?_
      refine wT fX ?_
      refine wR0 500 [0,1,2,6,7,8,18,19,20] fX ?_
      refine wR0 600 [0,1,2,6,7,18,19,20,56] fX ?_
      refine wT @Bool.not_false ?_
      refine wRn 700 [0,1,2,6,18,19,20] fX ?_
      refine rG [(707, .live ⟨_, _⟩)] fX ?_
      refine ⟨_, _, hcat, fZt, rN fX ?_⟩
      refine rU [(0, sM m), (1005, sR r), (1300, sD made), (1900, sO (.sl 700 ((l.length + 1) * 2) 2 0 (l.length + 1))), (2000, sF ok), (700, .live ⟨25, qao (a :: l)⟩)] [(0, sM m), (1005, sR r), (1300, sD made), (1900, sO (.sl 700 (((l ++ cs).length + 1) * 2) 2 0 ((l ++ cs).length + 1))), (2000, sF ok'), (700, .live ⟨25, qao (a :: (l ++ cs))⟩)] fX ?_
      refine ⟨_, hcall.fullL (by simp) (by simp [qbc, qaA, qaO]), rE fX ?_⟩
      refine wR0 800 [0,1,2,6,18,19,20] fX ?_
      refine wN ?_
      refine qa1 [0, 1005, 1300, 1900, 2000, 203, 700] (by simp [inL]) (by simp [inL, T.cl, clL, qd3]) (by simp [qap, inL, Slot.cl, T.cl, clL, hmc, hrc]) ?_
      simpa [qap, inL] using hQ'
end
section
open Go.RowKit
set_option maxHeartbeats 2000000
attribute [local simp] qaQ
theorem qlK (m : Md) (r : Rl) (made : List (Int × Int)) (t : Tk) (acc : List V) (ok : Bool) : qap [0, 1005, 1300, 1900, 2000, 700] (stL m r made t acc ok) = stA m r made acc ok := by
 cases acc <;> simp [stL, stA, qap, inL, rowT, rowH]
theorem cl_stL (m : Md) (r : Rl) (made : List (Int × Int)) (t : Tk) (acc : List V) (ok : Bool) : ((stA m r made acc ok).all fun p => p.2.cl (inL [0, 1005, 1300, 1900, 2000, 700])) = true := by
 have hmc : ∀ D, clL D (mdC m) = true := fun D => by simp
 have hrc : ∀ D, clL D (rlC r) = true := fun D => by simp
 cases acc <;> simp [stA, inL, rowT, rowH, Slot.cl, clL, T.cl, hmc, hrc]
theorem in_stA (m : Md) (r : Rl) (made : List (Int × Int)) (acc : List V) (ok : Bool) : ((stA m r made acc ok).all fun p => inL [0, 1005, 1300, 1900, 2000, 700] p.1) = true := by
 cases acc <;> simp [stA, inL, rowT, rowH]
theorem qno (m : Md) (r : Rl) (made : List (Int × Int)) (hm : m.fit) (hmd : made.length ≤ 900) : ∀ (ts : List Tk) (xs : List (Int × Int)) (acc : List V) (ok : Bool), ts.length ≤ 10 → xs.length ≤ 12 → acc.length + 12 ^ ts.length ≤ 90000 →
 TC Tryz.prog 43 [.list (qax xs), .list (qay ts), .fn 45 qd3] (hpL (stA m r made acc ok)) (.tup []) (hpL (stA m r made (acc ++ (chP qbB ts xs).map (bV r made)) (ok && ((chP qbB ts xs).map (bV r made)).all fun v => qaT m v))) := by
 intro ts
 induction ts with
 | nil =>
  intro xs acc ok h1 h2 h3
  have hcall := qrL m r made acc ok xs hm (by omega) (by simp at h3; omega)
  have e1 : (chP qbB [] xs).map (bV r made) = [bV r made xs] := by simp [chP]
  rw [e1]
  have e2 : ([bV r made xs].all fun v => qaT m v) = qaT m (bV r made xs) := by simp
  rw [e2]
  generalize (ok && qaT m (bV r made xs)) = ok' at hcall ⊢
  generalize bV r made xs = b at hcall ⊢
  have hd : ((((qay []).length : Nat) : Int) == 0) = true := rfl
  rcases acc with _ | ⟨a, l⟩
  ·simp only [stA, rowT, rowH, List.cons_append, List.nil_append, List.append_nil] at hcall ⊢
   have fX := @hd
   refine qcg fn43 (by simp) ?_
   unfold i43
   simp only [argL]
   refine wR0 0 [0,1,2,11] fX ?_
   refine wT fX ?_
   refine wRn 100 [] fX ?_
   refine rUv [(0, sM m), (1005, sR r), (1300, sD made), (1900, sO .nil), (2000, sF ok)] [(0, sM m), (1005, sR r), (1300, sD made), (1900, sO (.sl 700 2 2 0 1)), (2000, sF ok'), (700, .live ⟨25, qao [b]⟩)] fX ?_
   refine ⟨_, hcall.fullL (by simp) (by simp [qbc, qaA, qaO, qaX]), rE fX ?_⟩
   refine wE ?_
   refine wN ?_
   first | exact ⟨by simp, rfl, rfl⟩ | exact ⟨by simp, rfl, trivial⟩
  ·simp only [stA, rowT, rowH, List.cons_append, List.nil_append] at hcall ⊢
   have fX := @hd
   refine qcg fn43 (by simp) ?_
   unfold i43
   simp only [argL]
   refine wR0 0 [0,1,2,11] fX ?_
   refine wT fX ?_
   refine wRn 100 [] fX ?_
   refine rUv [(0, sM m), (1005, sR r), (1300, sD made), (1900, sO (.sl 700 ((l.length + 1) * 2) 2 0 (l.length + 1))), (2000, sF ok), (700, .live ⟨25, qao (a :: l)⟩)] [(0, sM m), (1005, sR r), (1300, sD made), (1900, sO (.sl 700 (((l ++ [b]).length + 1) * 2) 2 0 ((l ++ [b]).length + 1))), (2000, sF ok'), (700, .live ⟨25, qao (a :: (l ++ [b]))⟩)] fX ?_
   refine ⟨_, hcall.fullL (by simp) (by simp [qbc, qaA, qaO]), rE fX ?_⟩
   refine wE ?_
   refine wN ?_
   first | exact ⟨by simp, rfl, rfl⟩ | exact ⟨by simp, rfl, trivial⟩
 | cons t ts ih =>
  intro xs acc ok h1 h2 h3
  have hpw : 12 ^ (t :: ts).length = 12 * 12 ^ ts.length := by rw [List.length_cons, Nat.pow_succ, Nat.mul_comm]
  rw [hpw] at h3
  obtain ⟨B, hB⟩ : ∃ B, 12 ^ ts.length = B := ⟨_, rfl⟩
  rw [hB] at h3
  have hxB : xs.length * B ≤ 12 * B := Nat.mul_le_mul_right _ h2
  have h : TC Tryz.prog 43 [.list (qax xs), .list (qay (t :: ts)), .fn 45 qd3] (hpL (stA m r made acc ok)) (.tup []) (hpL (stL m r made t (acc ++ (chP qbB (t :: ts) xs).map (bV r made)) (ok && ((chP qbB (t :: ts) xs).map (bV r made)).all fun v => qaT m v))) := by
   have ech : chP qbB (t :: ts) xs = chL qbB t ts [] xs := by rw [chP]
   rw [ech]
   obtain ⟨acc2, ha2⟩ : ∃ acc2, acc ++ (chL qbB t ts [] xs).map (bV r made) = acc2 := ⟨_, rfl⟩
   obtain ⟨ok2, ho2⟩ : ∃ ok2, (ok && ((chL qbB t ts [] xs).map (bV r made)).all fun v => qaT m v) = ok2 := ⟨_, rfl⟩
   rw [ha2, ho2]
   have hd : ((((qay (t :: ts)).length : Nat) : Int) == 0) = false := by rw [qaR, List.length_cons]; simp; omega
   have hg : (qay (t :: ts)).getD (0 : Int).toNat .undef = .agg [.int .i64 t.place, .int .i64 t.low, .int .i64 t.high] := rfl
   have hlt : (0 : Int) < ((qay (t :: ts)).length : Int) := by rw [qaR, List.length_cons]; omega
   have hlp := fun Q hQ => qj9 m r made t ts (by simp at h1; omega) xs h2 (fun l acc ok a1 a2 => ih l acc ok (by simp at h1; omega) a1 a2) B hB acc2 ok2 Q hQ xs [] 0 acc ok rfl rfl (by omega) ha2 ho2
   rcases acc with _ | ⟨a, l⟩
   ·simp only [stA, rowT, rowH, List.append_nil]
    have fX := (cJ2 @hd @hg)
    refine qcg fn43 (by simp) ?_
    unfold i43
    simp only [argL]
    refine wR0 0 [0,1,2,11] fX ?_
    refine wF fX ?_
    refine wR0 200 [0,1,2,6] fX ?_
    refine wR0 300 [0,1,2,6,18,19,20] fX ?_
    refine wL ?_
    refine hlp _ ?_
    ·intro i
     refine wN ?_
     first | exact ⟨by simp, rfl, rfl⟩ | exact ⟨by simp, rfl, trivial⟩
   ·simp only [stA, rowT, rowH, List.cons_append, List.nil_append]
    have fX := (cJ2 @hd @hg)
    refine qcg fn43 (by simp) ?_
    unfold i43
    simp only [argL]
    refine wR0 0 [0,1,2,11] fX ?_
    refine wF fX ?_
    refine wR0 200 [0,1,2,6] fX ?_
    refine wR0 300 [0,1,2,6,18,19,20] fX ?_
    simp only [thn]
    rw [qqZ (show (700 : Nat) ≠ 203 by decide)]
    refine wL ?_
    refine hlp _ ?_
    ·intro i
     refine wN ?_
     first | exact ⟨by simp, rfl, rfl⟩ | exact ⟨by simp, rfl, trivial⟩
  have h9 := qb6 [0, 1005, 1300, 1900, 2000, 700] h (in_stA ..) rfl (by rw [qlK]; exact cl_stL m r made t _ _)
  rwa [qlK] at h9
end
end Go.Proofs.YtikhhnopcjgjpaaGreat
