/- Contracts of functions of the program, for all arguments that they name. -/
import Derived.Test.YtikhhnopcjgjpaaGreatK21
namespace Go.Proofs.YtikhhnopcjgjpaaGreat
set_option linter.unusedVariables false
section
open Go.RowKit
set_option maxHeartbeats 2000000
theorem qrm (s : ByteArray) (l : List ByteArray) : inS s l = l.any fun k => k.toList == s.toList := by
 unfold inS
 congr 1
 funext k
 rw [Bool.eq_iff_iff, beq_iff_eq, beq_iff_eq]; exact eq_comm
theorem qe4 (m : Md) (hl : m.rules.length ≤ 1000) (P1 P2 : List T) (hP1 : ∀ D, clL D P1 = true) (hP2 : ∀ D, clL D P2 = true) (Q : IExit → (Nat → T) → Heap → Prop) : ∀ (rest pre : List Rl) (i N : Nat) (C : List T) (done : List ByteArray), N = done.length → C = qan done → m.rules = pre ++ rest → pre.length = i → done.length ≤ 10000 + i →
 (∀ (i : Int), Q (.exit 0) (ofL [(1, .ref 0 10 0), (3, .sl 102 (done ++ rest.map (·.name)).length 0 0 (done ++ rest.map (·.name)).length), (4, .int .i64 i), (20, .bool false)]) (hpL [(0, .live ⟨34, [.int .i64 m.kind, .list (qan m.states), .list P1, .list P2, .list (qaf m.ranks), .int .i64 m.levels, .int .i64 m.age, .list (qaL m.rules), .int .i64 m.start.n, .list (qac m.start.kids)]⟩), (102, .live ⟨9, qan (done ++ rest.map (·.name))⟩)])) →
 WL Tryz.prog 65 qlC (ofL [(1, .ref 0 10 0), (3, .sl 102 N 0 0 N), (4, .int .i64 i)]) (hpL [(0, .live ⟨34, [.int .i64 m.kind, .list (qan m.states), .list P1, .list P2, .list (qaf m.ranks), .int .i64 m.levels, .int .i64 m.age, .list (qaL m.rules), .int .i64 m.start.n, .list (qac m.start.kids)]⟩), (102, .live ⟨9, C⟩)]) Q := by
 intro rest
 induction rest with
 | nil =>
  intro pre i N C done hN hC he hn hdn hQ
  subst hN hC
  have hd : decide ((i : Int) < ((qaL m.rules).length : Int)) = false := by simp [qaM, he, hn]
  simp only [List.map_nil, List.append_nil] at hQ
  have fX := @hd
  refine qaa qlC.eq_1 ?_
  refine wR0 300 [1,3,4,20] fX ?_
  refine wF @hd ?_
  refine wX ?_
  refine wN ?_
  exact hQ _
 | cons k rest ih =>
  intro pre i N C done hN hC he hn hdn hQ
  subst hN hC
  have hlt : (i : Int) < ((qaL m.rules).length : Int) := by simp [qaM, he]; omega
  have hlb : i ≤ 1000 := by rw [he] at hl; simp at hl; omega
  have hd : decide ((i : Int) < ((qaL m.rules).length : Int)) = true := decide_eq_true hlt
  have hg : (qaL m.rules).getD (i : Int).toNat .undef = .agg (rlC k) := by rw [Int.toNat_natCast, he, ← hn]; exact qd8 _ k _
  have hw : IntKind.wrap .i64 ((i : Int) + 1) = (i : Int) + 1 := wrap64 (by omega) (by omega)
  have hlen : (qan done).length = done.length := qad _
  have hdn' : done.length ≤ 20000 := by omega
  simp only [rlC] at hg
  have fX := (cJ5 @hd @hg @hw @hlen @qc0)
  refine qaa qlC.eq_1 ?_
  refine W_gc ?_
  refine wR0 300 [1,3,4,20] fX ?_
  refine wT @hd ?_
  refine wR0 400 [1,3,4] fX ?_
  refine wR0 500 [1,3,4] fX ?_
  refine wN ?_
  refine qa1 [0, 102] (by simp [inL]) (by simp [inL, T.cl]) (by simp [qap, inL, Slot.cl, T.cl, clL, qaw, hP1, hP2]) ?_
  have := ih (pre ++ [k]) (i + 1) _ _ (done ++ [k.name]) rfl rfl (by simp [he]) (by simp; omega) (by simp; omega) (by simpa using hQ)
  simpa [qap, inL, qan] using this
theorem qnO (xs : List ByteArray) (hl : xs.length ≤ 1000000) (hh : List (Nat × Slot)) (pre : List ByteArray) (s : ByteArray) (tl : List ByteArray) (i : Nat) (he : xs = pre ++ s :: tl) (hi : pre.length = i) (Q : IExit → (Nat → T) → Heap → Prop) : ∀ (q p1 : List ByteArray) (k : Nat), pre = p1 ++ q → p1.length = k →
 ((q.any fun k => k.toList == s.toList) = false → ∀ (k : Int), Q (.exit 4) (ofL [(3, .list (qan xs)), (5, .int .i64 i), (6, .int .i64 k), (53, .bool false)]) (hpL hh)) →
 ((q.any fun k => k.toList == s.toList) = true → Q .ret (ofL [(2, .bool false)]) (hpL hh)) →
 WL Tryz.prog 65 qlN (ofL [(3, .list (qan xs)), (5, .int .i64 i), (6, .int .i64 k)]) (hpL hh) Q := by
 have hlti : (i : Int) < ((qan xs).length : Int) := by simp [qad, he]; omega
 have hlb : i ≤ 1000000 := by rw [he] at hl; simp at hl; omega
 have hgi : (qan xs).getD (i : Int).toNat .undef = .str s := by rw [Int.toNat_natCast, he, ← hi]; exact qde _ s _
 intro q
 induction q with
 | nil =>
  intro p1 k hp hk hQ0 hQ1
  have hki : k = i := by rw [← hk, ← hi, hp]; simp
  subst hki
  have hd : decide ((k : Int) < (k : Int)) = false := by simp
  have fX := @hd
  refine qaa qlN.eq_1 ?_
  refine wR0 1100 [3,5,6,53] fX ?_
  refine wF @hd ?_
  refine wX ?_
  refine wN ?_
  exact hQ0 rfl _
 | cons x q ih =>
  intro p1 k hp hk hQ0 hQ1
  have hki : k < i := by rw [← hk, ← hi, hp]; simp
  have hltk : (k : Int) < ((qan xs).length : Int) := by omega
  have hd : decide ((k : Int) < (i : Int)) = true := decide_eq_true (by omega)
  have hgk : (qan xs).getD (k : Int).toNat .undef = .str x := by
   have h := qde p1 x (q ++ s :: tl)
   rw [Int.toNat_natCast, he, hp, ← hk]; simpa using h
  have hw : IntKind.wrap .i64 ((k : Int) + 1) = (k : Int) + 1 := wrap64 (by omega) (by omega)
  have fX := (cJ7 @hd @hgi @hgk @hw @binS.eq_1 @binS.eq_2 @binS.eq_3)
  refine qaa qlN.eq_1 ?_
  refine wR0 1100 [3,5,6,53] fX ?_
  refine wT @hd ?_
  refine wR0 1200 [3,5,6,64] fX ?_
  refine wS cJ0 (fun hc1200 => ?_) (fun hc1200 => ?_)
  ·skip
   refine wR0 1300 [2] fX ?_
   refine wE ?_
   refine wN ?_
   exact hQ1 (by rw [List.any_cons, hc1200, Bool.true_or])
  ·skip
   refine wR0 1400 [3,5,6] fX ?_
   refine wN ?_
   have e : ((x :: q).any fun k => k.toList == s.toList) = (q.any fun k => k.toList == s.toList) := (by rw [List.any_cons, hc1200, Bool.false_or])
   rw [e] at hQ0 hQ1
   exact ih (p1 ++ [x]) (k + 1) (by simp [hp]) (by simp; omega) hQ0 hQ1
theorem qeT (hh : List (Nat × Slot)) (xs : List ByteArray) (hl : xs.length ≤ 1000000) (hz : ∀ s ∈ xs, s.size ≤ 1000000) (Q : IExit → (Nat → T) → Heap → Prop) : ∀ (rest pre : List ByteArray) (i : Nat), xs = pre ++ rest → pre.length = i →
 (newS pre rest = true → ∀ (i : Int), Q (.exit 2) (ofL [(3, .list (qan xs)), (5, .int .i64 i), (35, .bool false)]) (hpL hh)) →
 (newS pre rest = false → Q .ret (ofL [(2, .bool false)]) (hpL hh)) →
 WL Tryz.prog 65 qlr (ofL [(3, .list (qan xs)), (5, .int .i64 i)]) (hpL hh) Q := by
 intro rest
 induction rest with
 | nil =>
  intro pre i he hn hQ0 hQ1
  have hd : decide ((i : Int) < ((qan xs).length : Int)) = false := by simp [qad, he, hn]
  have fX := @hd
  refine qaa qlr.eq_1 ?_
  refine wR0 700 [3,5,35] fX ?_
  refine wF @hd ?_
  refine wX ?_
  refine wN ?_
  exact hQ0 rfl _
 | cons s rest ih =>
  intro pre i he hn hQ0 hQ1
  have hlt : (i : Int) < ((qan xs).length : Int) := by simp [qad, he]; omega
  have hlb : i ≤ 1000000 := by rw [he] at hl; simp at hl; omega
  have hd : decide ((i : Int) < ((qan xs).length : Int)) = true := decide_eq_true hlt
  have hg : (qan xs).getD (i : Int).toNat .undef = .str s := by rw [Int.toNat_natCast, he, ← hn]; exact qde _ s _
  have hw : IntKind.wrap .i64 ((i : Int) + 1) = (i : Int) + 1 := wrap64 (by omega) (by omega)
  have hsz : s.size ≤ 1000000 := hz s (by rw [he]; simp)
  have fX := (cJ3 @hd @hg @hw)
  refine qaa qlr.eq_1 ?_
  refine wR0 700 [3,5,35] fX ?_
  refine wT @hd ?_
  refine wRn 800 [3,5,50] fX ?_
  refine rC fX ?_
  refine ⟨_, qqE s hsz, rN fX ?_⟩
  refine rCi fX ?_
  refine ⟨_, fun hw => qkH s, rE fX ?_⟩
  refine wS cJ0 (fun hc800 => ?_) (fun hc800 => ?_)
  ·skip
   refine wR0 900 [2] fX ?_
   refine wE ?_
   refine wN ?_
   exact hQ1 (by simp at hc800; rw [newS]; cases h1 : qfD s <;> simp_all)
  ·skip
   refine wR0 1000 [3,5,6] fX ?_
   refine wL ?_
   refine qnO xs hl hh pre s rest i he hn _ pre [] 0 rfl rfl ?_ ?_
   ·intro h2 k
    refine wN ?_
    refine wR0 1500 [3,5] fX ?_
    refine wN ?_
    have e : newS pre (s :: rest) = newS (pre ++ [s]) rest := (by rw [← qrm] at h2; simp at hc800; rw [newS, h2]; simp [hc800])
    rw [e] at hQ0 hQ1
    exact ih (pre ++ [s]) (i + 1) (by simp [he]) (by simp; omega) hQ0 hQ1
   ·intro h2
    refine wN ?_
    exact hQ1 (by rw [← qrm] at h2; rw [newS, h2]; simp)
theorem len0 {l : List ByteArray} (h : qan l = []) : l.length = 0 := by rw [← qad, h]; rfl
set_option maxHeartbeats 4000000 in
theorem qnV (m : Md) (hm : m.fit) (hne : m.states ≠ []) : TP Tryz.prog 90 [qau m] (.bool (qeN m)) := by
 have h1 := hm.states
 have h2 := hm.places
 have h3 := hm.letters
 have h4 := hm.rules
 have hmc : ∀ D, clL D (mdC m) = true := fun D => by simp
 have hmo := qca m
 have hnl : (qba m).length ≤ 1000000 := by simp [qba]; omega
 have hnz : ∀ s ∈ qba m, s.size ≤ 1000000 := by
  intro s hs
  rcases List.mem_append.1 hs with hs | hs
  ·exact hm.names s hs
  ·obtain ⟨r, hr, rfl⟩ := List.mem_map.1 hs
   exact (hm.rule r hr).name
 have he0 : qan m.states ≠ [] := by simpa [qan] using hne
 have hpos : 0 < m.states.length := List.length_pos_iff.2 hne
 have hcs : ((qan m.places = [] ∧ m.places.length = 0) ∨ (qan m.places ≠ [] ∧ 0 < m.places.length)) ∧ ((qan m.letters = [] ∧ m.letters.length = 0) ∨ (qan m.letters ≠ [] ∧ 0 < m.letters.length)) := by
  constructor
  ·cases m.places <;> simp [qan]
  ·cases m.letters <;> simp [qan]
 have hs1 := qdD m.states
 have hs2 := qdD m.places
 have hs3 := qdD m.letters
 have hb1 : m.states.length ≤ 1000000000 := by omega
 refine qak fn90 (by simp) ?_
 unfold i90
 simp only [argL, qau, mdC]
 refine wR0 0 [1] cJ0 ?_
 refine wN ?_
 rcases hcs with ⟨⟨hp, hp0⟩ | ⟨hp, hp0⟩, ⟨hq, hq0⟩ | ⟨hq, hq0⟩⟩
 ·skip
  refine wR0 100 [1,3] (cJ8 @he0 @hp @hq @hs1 @hs2 @hs3 @qbQ (cJ6 @qad @List.length_append.{0} @ne_eq.{1} @not_false_eq_true @true_and @and_true)) ?_
  refine wR0 200 [1,3,4] cJ0 ?_
  refine wL ?_
  refine qe4 m h4 _ _ (fun D => by simp [clL]) (fun D => by simp [clL]) _ m.rules [] 0 _ _ (m.states ++ m.places ++ m.letters) (by simp only [List.length_append]; try omega) (by simp [qcv, hp, hq]) rfl rfl (by simp; omega) ?_
  ·intro i
   refine wN ?_
   refine wR0 600 [3,5] cJ0 ?_
   simp only [thn]
   refine qcx (l' := [(3, .list (qan (qba m))), (5, .int .i64 0)]) (hl' := [(0, _), (102, .dead)]) [0] (.cons (qfv (ty := 9) (qba m) rfl rfl rfl rfl) (.cons (.same rfl) .nil)) (.keep rfl (.liveA (by simp [clL, T.cl]) rfl) (.dead rfl (fun h => by cases h) .nil)) ?_
   refine wL ?_
   refine qeT _ (qba m) hnl hnz _ (qba m) [] 0 rfl rfl ?_ ?_
   ·intro h i
    refine wN ?_
    refine wR0 1600 [2] cJ0 ?_
    refine wP ?_
    exact qab h.symm
   ·intro h
    refine wN ?_
    exact ⟨by simp, _, rfl, by exact qab h.symm⟩
 ·skip
  refine wR0 100 [1,3] (cJ8 @he0 @hp @hq @hs1 @hs2 @hs3 @qbQ (cJ6 @qad @List.length_append.{0} @ne_eq.{1} @not_false_eq_true @true_and @and_true)) ?_
  refine wR0 200 [1,3,4] cJ0 ?_
  refine wL ?_
  refine qe4 m h4 _ _ (fun D => by simp [clL]) (fun D => by simp) _ m.rules [] 0 _ _ (m.states ++ m.places ++ m.letters) (by simp only [List.length_append]; try omega) (by simp [qcv, hp]) rfl rfl (by simp; omega) ?_
  ·intro i
   refine wN ?_
   refine wR0 600 [3,5] cJ0 ?_
   simp only [thn]
   refine qcx (l' := [(3, .list (qan (qba m))), (5, .int .i64 0)]) (hl' := [(0, _), (102, .dead)]) [0] (.cons (qfv (ty := 9) (qba m) rfl rfl rfl rfl) (.cons (.same rfl) .nil)) (.keep rfl (.liveA (by simp [clL, T.cl]) rfl) (.dead rfl (fun h => by cases h) .nil)) ?_
   refine wL ?_
   refine qeT _ (qba m) hnl hnz _ (qba m) [] 0 rfl rfl ?_ ?_
   ·intro h i
    refine wN ?_
    refine wR0 1600 [2] cJ0 ?_
    refine wP ?_
    exact qab h.symm
   ·intro h
    refine wN ?_
    exact ⟨by simp, _, rfl, by exact qab h.symm⟩
 ·skip
  refine wR0 100 [1,3] (cJ8 @he0 @hp @hq @hs1 @hs2 @hs3 @qbQ (cJ6 @qad @List.length_append.{0} @ne_eq.{1} @not_false_eq_true @true_and @and_true)) ?_
  refine wR0 200 [1,3,4] cJ0 ?_
  refine wL ?_
  refine qe4 m h4 _ _ (fun D => by simp) (fun D => by simp [clL]) _ m.rules [] 0 _ _ (m.states ++ m.places ++ m.letters) (by simp only [List.length_append]; try omega) (by simp [qcv, hq]) rfl rfl (by simp; omega) ?_
  ·intro i
   refine wN ?_
   refine wR0 600 [3,5] cJ0 ?_
   simp only [thn]
   refine qcx (l' := [(3, .list (qan (qba m))), (5, .int .i64 0)]) (hl' := [(0, _), (102, .dead)]) [0] (.cons (qfv (ty := 9) (qba m) rfl rfl rfl rfl) (.cons (.same rfl) .nil)) (.keep rfl (.liveA (by simp [clL, T.cl]) rfl) (.dead rfl (fun h => by cases h) .nil)) ?_
   refine wL ?_
   refine qeT _ (qba m) hnl hnz _ (qba m) [] 0 rfl rfl ?_ ?_
   ·intro h i
    refine wN ?_
    refine wR0 1600 [2] cJ0 ?_
    refine wP ?_
    exact qab h.symm
   ·intro h
    refine wN ?_
    exact ⟨by simp, _, rfl, by exact qab h.symm⟩
 ·skip
  refine wR0 100 [1,3] (cJ8 @he0 @hp @hq @hs1 @hs2 @hs3 @qbQ (cJ6 @qad @List.length_append.{0} @ne_eq.{1} @not_false_eq_true @true_and @and_true)) ?_
  refine wR0 200 [1,3,4] cJ0 ?_
  refine wL ?_
  refine qe4 m h4 _ _ (fun D => by simp) (fun D => by simp) _ m.rules [] 0 _ _ (m.states ++ m.places ++ m.letters) (by simp only [List.length_append]; try omega) (by simp [qcv]) rfl rfl (by simp; omega) ?_
  ·intro i
   refine wN ?_
   refine wR0 600 [3,5] cJ0 ?_
   simp only [thn]
   refine qcx (l' := [(3, .list (qan (qba m))), (5, .int .i64 0)]) (hl' := [(0, _), (102, .dead)]) [0] (.cons (qfv (ty := 9) (qba m) rfl rfl rfl rfl) (.cons (.same rfl) .nil)) (.keep rfl (.liveA (by simp [clL, T.cl]) rfl) (.dead rfl (fun h => by cases h) .nil)) ?_
   refine wL ?_
   refine qeT _ (qba m) hnl hnz _ (qba m) [] 0 rfl rfl ?_ ?_
   ·intro h i
    refine wN ?_
    refine wR0 1600 [2] cJ0 ?_
    refine wP ?_
    exact qab h.symm
   ·intro h
    refine wN ?_
    exact ⟨by simp, _, rfl, by exact qab h.symm⟩
def qjI (k : Int) (r : Rl) : Rl :=
 if k = 1 then ⟨r.name, r.from_, r.to_, r.need, r.give, r.move, 0, 0, 0, [], [], [], [], 0⟩
 else if k = 2 ∨ k = 3 then ⟨r.name, r.from_, r.to_, [], [], [], r.chan, r.act, r.lett, [], [], [], [], 0⟩
 else if k = 4 then ⟨r.name, r.from_, r.to_, [], [], [], 0, 0, 0, r.path, r.next, [], [], 0⟩
 else if k = 5 then ⟨r.name, r.from_, r.to_, [], [], [], 0, 0, 0, [], [], r.takes, r.makes, 0⟩
 else ⟨r.name, r.from_, r.to_, r.need, r.give, [], 0, 0, 0, [], [], [], [], r.second⟩
def qrU (m : Md) (r : Rl) : Bool := qlW m r && ((r.second == -1) || btw r.second 0 ((m.states.length : Int) - 1)) && (decide (r.from_ ≥ 0) || (r.second == -1 && r.need.all fun x => x == 0))
def qlh (m : Md) (r : Rl) : Bool :=
 if m.kind = 1 then qlW m r && movesM m r else if m.kind = 2 ∨ m.kind = 3 then actsM m r else if m.kind = 4 then pathsM m r else if m.kind = 5 then qkK m r else qrU m r
def qkt (m : Md) (r : Rl) : Bool := btw r.to_ 0 ((m.states.length : Int) - 1) && (btw r.from_ 0 ((m.states.length : Int) - 1) || (m.kind == 6 && r.from_ == -1))
def qbk (m : Md) (r : Rl) : Bool := qkt m r && (qlh m r && qnm r (qjI m.kind r))
theorem qmK : qay [] = [] := rfl
set_option maxHeartbeats 4000000 in
theorem qqI (m : Md) (r : Rl) (hm : m.states.length ≤ 1000) (hb : qkt m r = false) : TP Tryz.prog 75 [qau m, qbs r] (.bool false) := by
 have hsl := qad m.states
 have hi1 := qea r.to_ (m.states.length : Int) (by omega)
 have hi2 := qea r.from_ (m.states.length : Int) (by omega)
 unfold qkt at hb
 rcases h1 : btw r.to_ 0 ((m.states.length : Int) - 1) with _ | _
 ·rw [h1] at hi1
  have fX := (cJ3 @hsl @Bool.not_false @Bool.true_or)
  refine qak fn75 (by simp) ?_
  unfold i75
  simp only [argL, qau, mdC, qbs, rlC]
  refine wR0 0 [2,3] fX ?_
  refine wR0 100 [2,3,5] fX ?_
  refine wRn 200 [2,3,5,32] fX ?_
  refine rC fX ?_
  refine ⟨_, hi1, rE fX ?_⟩
  refine wT fX ?_
  refine wR0 300 [4] fX ?_
  refine wP ?_
  exact qab rfl
 ·rw [h1] at hi1 hb
  rcases h2 : btw r.from_ 0 ((m.states.length : Int) - 1) with _ | _
  ·rw [h2] at hi2 hb
   rcases h3 : (m.kind != 6) with _ | _
   ·have h4 : (r.from_ != -1) = true := by
     have h3' : (m.kind == 6) = true := by simpa using h3
     rw [h3'] at hb
     simpa using hb
    have fX := (cJ6 @hsl @Bool.not_false @Bool.not_true @h3 @h4 @Bool.false_or)
    refine qak fn75 (by simp) ?_
    unfold i75
    simp only [argL, qau, mdC, qbs, rlC]
    refine wR0 0 [2,3] fX ?_
    refine wR0 100 [2,3,5] fX ?_
    refine wRn 200 [2,3,5,32] fX ?_
    refine rC fX ?_
    refine ⟨_, hi1, rN fX ?_⟩
    refine rC fX ?_
    refine ⟨_, hi2, rE fX ?_⟩
    refine wT fX ?_
    refine wR0 300 [4] fX ?_
    refine wP ?_
    exact qab rfl
   ·have fX := (cJ5 @hsl @Bool.not_false @Bool.not_true @h3 @Bool.false_or)
    refine qak fn75 (by simp) ?_
    unfold i75
    simp only [argL, qau, mdC, qbs, rlC]
    refine wR0 0 [2,3] fX ?_
    refine wR0 100 [2,3,5] fX ?_
    refine wRn 200 [2,3,5,32] fX ?_
    refine rC fX ?_
    refine ⟨_, hi1, rN fX ?_⟩
    refine rC fX ?_
    refine ⟨_, hi2, rE fX ?_⟩
    refine wT fX ?_
    refine wR0 300 [4] fX ?_
    refine wP ?_
    exact qab rfl
  ·rw [h2] at hb
   simp at hb
set_option maxHeartbeats 4000000 in
theorem qni (m : Md) (r : Rl) (hm : m.fit) (hr : r.fit) (ha : 0 ≤ m.age ∧ m.age ≤ 1000) (hk : m.kind = 5) (h1 : btw r.to_ 0 ((m.states.length : Int) - 1) = true) (h2 : btw r.from_ 0 ((m.states.length : Int) - 1) = true) : TP Tryz.prog 75 [qau m, qbs r] (.bool (qlh m r && qnm r (qjI m.kind r))) := by
 have kb1 : (m.kind == 1) = false := by rw [hk]; rfl
 have kb2 : (m.kind == 2) = false := by rw [hk]; rfl
 have kb3 : (m.kind == 3) = false := by rw [hk]; rfl
 have kb4 : (m.kind == 4) = false := by rw [hk]; rfl
 have kb5 : (m.kind == 5) = true := by rw [hk]; rfl
 have kb6 : (m.kind == 6) = false := by rw [hk]; rfl
 have kn1 : (m.kind != 1) = !false := by rw [hk]; rfl
 have kn3 : (m.kind != 3) = !false := by rw [hk]; rfl
 have kn6 : (m.kind != 6) = !false := by rw [hk]; rfl
 have hsl := qad m.states
 have hms := hm.states
 have hi1 := qea r.to_ (m.states.length : Int) (by omega)
 have hi2 := qea r.from_ (m.states.length : Int) (by omega)
 rw [h1] at hi1
 rw [h2] at hi2
 have hf : qlh m r = qkK m r := by rw [qlh, hk]; rfl
 have hso := qpc r (qjI 5 r) hr
 rw [show qjI 5 r = ⟨r.name, r.from_, r.to_, [], [], [], 0, 0, 0, [], [], r.takes, r.makes, 0⟩ from rfl] at hso
 have hon : qjI m.kind r = ⟨r.name, r.from_, r.to_, [], [], [], 0, 0, 0, [], [], r.takes, r.makes, 0⟩ := by rw [hk]; rfl
 have fX := (cJ8 @hsl @kb1 @kb2 @kb3 @kb4 @kb5 @kb6 (cJ3 @kn6 @Bool.not_true @Bool.not_false))
 refine qak fn75 (by simp) ?_
 unfold i75
 simp only [argL, qau, mdC, qbs, rlC]
 refine wR0 0 [2,3] fX ?_
 refine wR0 100 [2,3,5] fX ?_
 refine wRn 200 [2,3,5,32] fX ?_
 refine rC fX ?_
 refine ⟨_, hi1, rN fX ?_⟩
 refine rC fX ?_
 refine ⟨_, hi2, rE fX ?_⟩
 refine wF fX ?_
 refine wR0 400 [2,3,5,6] fX ?_
 refine wR0 500 [2,3,5,6] fX ?_
 refine wR0 600 [2,3,5,6,41] fX ?_
 refine wR0 700 [2,3,5,6,41,80] fX ?_
 refine wF fX ?_
 refine wR0 1000 [2,3,5,6,41,99] fX ?_
 refine wF fX ?_
 refine wR0 1100 [2,3,5,6,41,99] fX ?_
 refine wF fX ?_
 refine wR0 1400 [2,3,5,6,41,114] fX ?_
 refine wF fX ?_
 refine wR0 1700 [2,3,5,6,125] fX ?_
 refine wT fX ?_
 refine wR0 1800 [2,3,6] fX ?_
 refine wRn 1900 [3,6,7] fX ?_
 refine rC fX ?_
 refine ⟨_, qsb m r hm.places ha hr, rE fX ?_⟩
 refine wRn 2200 [4] fX ?_
 refine rCi fX ?_
 refine ⟨_, fun hw => TP.ofNil hso (by simp only [qbs, rlC, qas]; (first | exact fF | exact fZt)), rE fX ?_⟩
 refine wP ?_
 exact qab (by rw [hf, hon])
theorem qoW (m : Md) (r : Rl) (hm : m.fit) (hr : r.fit) (ha : 0 ≤ m.age ∧ m.age ≤ 1000) (hk : btw m.kind 1 6 = true) : TP Tryz.prog 75 [qau m, qbs r] (.bool (qbk m r)) := by
 unfold qbk
 rcases hb : qkt m r with _ | _
 ·have h := qqI m r hm.states hb
  simpa using h
 ·unfold qkt at hb
  simp only [Bool.and_eq_true, Bool.or_eq_true] at hb
  obtain ⟨h1, h2⟩ := hb
  rw [Bool.true_and]
  rcases hf : btw r.from_ 0 ((m.states.length : Int) - 1) with _ | _
  ·rw [hf] at h2
   simp at h2
   exact absurd hm.kd (by unfold kindOk; omega)
  ·rcases qeh hk with h | h | h | h | h | h
   ·exact absurd hm.kd (by unfold kindOk; omega)
   ·exact absurd hm.kd (by unfold kindOk; omega)
   ·exact absurd hm.kd (by unfold kindOk; omega)
   ·exact absurd hm.kd (by unfold kindOk; omega)
   ·exact qni m r hm hr ha h h1 hf
   ·exact absurd hm.kd (by unfold kindOk; omega)
theorem qo5 (m : Md) (r : Rl) (h : TP Tryz.prog 75 [qau m, qbs r] (.bool (qbk m r))) : TP Tryz.prog 74 [qbs r, .ptr (mdC m)] (.bool (!qbk m r)) := by
 refine qak fn74 (by simp) ?_
 unfold i74
 simp only [argL, qbs, rlC, mdC]
 refine wR0 0 [1,2] cJ0 ?_
 refine wRn 100 [3] cJ0 ?_
 refine rC cJ0 ?_
 refine ⟨_, h, rE cJ0 ?_⟩
 refine wP ?_
 exact qab rfl
theorem qpd (n : Int) : (qaN n).fit := by simp [qaN, Ty.fit, qeI]
theorem qkn {t0 t : Ty} (h0 : t0.fit) (h : t.fit) : ∀ j, qeI (qfT t0 t j)
 | 0 => by simp [qfT, qeI, h0]
 | j + 1 => by
  have ih := qkn h0 h j
  have : ∀ (l : List Ty), qeI l → qeI (l ++ [t]) := fun l => by
   induction l with
   | nil => intro _; simp [qeI, h]
   | cons x l ih => intro hl; simp only [qeI] at hl; simp only [List.cons_append, qeI]; exact ⟨hl.1, ih hl.2⟩
  exact this _ ih
theorem qfB (m : Md) (hp : m.places.length ≤ 1000) (hr : m.ranks.length ≤ 1000000) : (qaF m).fit := by
 unfold qaF qaZ
 (repeat' split)
 ·unfold qdU
  split <;> simp [qbf, Ty.fit, qeI, qaN]
 ·simp [qbf, Ty.fit, qeI, qaN]
 ·have hpf : (qfa m).fit := by
   unfold qfa
   (repeat' split) <;> simp [qbf, Ty.fit, qeI, qaN, hr]
  have := qkn (qpd m.states.length) hpf m.places.length
  simp only [Ty.fit]
  exact ⟨by simp, by rw [qgy]; omega, this⟩
def qbl (m : Md) : Bool := if m.kind = 6 then (m.start.n == 0) && ((m.start.kids.length : Int) == 0) else qa3 (qaF m) m.start
theorem qn5 (m : Md) (hm : m.sane) : TP Tryz.prog 76 [qau m] (.bool (qbl m)) := by
 have ht := qlP m hm
 have hv := qkq (qaF m) m.start (qfB m hm.fit.places hm.fit.ranks) hm.fit.start
 rw [qd5] at hv
 rcases hty : qaF m with ⟨tk, ts, trs, tps⟩
 rw [hty] at ht hv
 simp only [qal] at ht hv
 refine qak fn76 (by simp) ?_
 unfold i76
 simp only [argL, qau, mdC]
 refine wR0 0 [1] cJ0 ?_
 refine wR0 100 [1,5] cJ0 ?_
 refine wS cJ0 (fun hc100 => ?_) (fun hc100 => ?_)
 ·skip
  refine wR0 200 [2] cJ0 ?_
  refine wP ?_
  exact qab (by simp at hc100; rw [qbl, if_pos hc100, qag])
 ·skip
  refine wRn 300 [2] cJ0 ?_
  refine rC cJ0 ?_
  refine ⟨_, ht, rN cJ0 ?_⟩
  refine rC cJ0 ?_
  refine ⟨_, hv, rE cJ0 ?_⟩
  refine wP ?_
  exact qab (by simp at hc100; rw [qbl, if_neg hc100, hty])
def qaI (m : Md) : Int :=
 if btw m.kind 1 6 = false then 15 else if qa2 m = false then 1 else if qcC m = false then 14 else if qeN m = false then 13 else if (m.rules.any fun r => !qbk m r) = true then 16 else if qbl m = false then 17 else 0
theorem qkj {m : Md} (h : qa2 m = true) : m.states ≠ [] := by
 simp only [qa2, Bool.and_eq_true, btw, decide_eq_true_eq] at h
 intro e
 rw [e] at h
 simp at h
theorem qft {m : Md} (hm : m.fit) (hk : btw m.kind 1 6 = true) (h : qa2 m = true) (hr : qcC m = true) : m.sane := by
 refine ⟨hm, hk, fun h4 => ?_, ?_, fun h3 hn => ?_⟩
 ·have hl : limC m.kind = [0, 0, 1, 6, 1, 2, 0, 0] := by rw [h4]; rfl
  simp [qa2, btw, hl] at h
  omega
 ·rcases qeh hk with k | k | k | k | k | k <;> (simp [qa2, btw, k, limC] at h; omega)
 ·have hl : limC m.kind = [1, 2, 1, 6, 0, 0, 0, 0] := by rw [h3]; rfl
  simp [qa2, btw, hl] at h
  rw [qcC, if_neg (by simp [h3]), hn] at hr
  simp at hr
  omega
set_option maxHeartbeats 4000000 in
theorem qgM (m : Md) (hm : m.fit) : TP Tryz.prog 41 [qau m] (.int .i64 (qaI m)) := by
 have hst := qqD m
 have hrt := qnK m hm
 have hmc : ∀ D, clL D (mdC m) = true := fun D => by simp
 rcases hk : btw m.kind 1 6 with _ | _
 ·have hb := qbN m.kind 1 6
  rw [hk] at hb
  have fX := @Bool.not_false
  refine qak fn41 (by simp) ?_
  unfold i41
  simp only [argL, qau, mdC]
  refine wR0 0 [1] fX ?_
  refine wRn 100 [1,3] fX ?_
  refine rC fX ?_
  refine ⟨_, hb, rE fX ?_⟩
  refine wT fX ?_
  refine wR0 200 [2] fX ?_
  refine wP ?_
  exact qaK (by rw [qaI, if_pos hk])
 ·have hb := qbN m.kind 1 6
  rw [hk] at hb
  rcases hs : qa2 m with _ | _
  ·rw [hs] at hst
   have fX := (cJ2 @Bool.not_false @Bool.not_true)
   refine qak fn41 (by simp) ?_
   unfold i41
   simp only [argL, qau, mdC]
   refine wR0 0 [1] fX ?_
   refine wRn 100 [1,3] fX ?_
   refine rC fX ?_
   refine ⟨_, hb, rE fX ?_⟩
   refine wF fX ?_
   refine wRn 300 [1,8] fX ?_
   refine rC fX ?_
   refine ⟨_, hst, rE fX ?_⟩
   refine wT fX ?_
   refine wR0 400 [2] fX ?_
   refine wP ?_
   exact qaK (by rw [qaI, if_neg (by simp [hk]), if_pos hs])
  ·rw [hs] at hst
   rcases hr : qcC m with _ | _
   ·rw [hr] at hrt
    have fX := (cJ2 @Bool.not_false @Bool.not_true)
    refine qak fn41 (by simp) ?_
    unfold i41
    simp only [argL, qau, mdC]
    refine wR0 0 [1] fX ?_
    refine wRn 100 [1,3] fX ?_
    refine rC fX ?_
    refine ⟨_, hb, rE fX ?_⟩
    refine wF fX ?_
    refine wRn 300 [1,8] fX ?_
    refine rC fX ?_
    refine ⟨_, hst, rE fX ?_⟩
    refine wF fX ?_
    refine wRn 500 [1,12] fX ?_
    refine rC fX ?_
    refine ⟨_, hrt, rE fX ?_⟩
    refine wT fX ?_
    refine wR0 600 [2] fX ?_
    refine wP ?_
    exact qaK (by rw [qaI, if_neg (by simp [hk]), if_neg (by simp [hs]), if_pos hr])
   ·rw [hr] at hrt
    have hsn := qft hm hk hs hr
    have hcf := qst 74 [.ptr (mdC m)] (by simp [clL, T.cl]) (fun r => !qbk m r) m.rules (by have := hm.rules; omega) (fun r hr => qo5 m r (qoW m r hm (hm.rule r hr) hsn.age hk))
    have hch : qaI m = if qeN m = false then 13 else if (m.rules.any fun r => !qbk m r) = true then 16 else if qbl m = false then 17 else 0 := by rw [qaI, if_neg (by simp [hk]), if_neg (by simp [hs]), if_neg (by simp [hr])]
    simp only [mdC] at hcf
    have fX := (cJ2 @Bool.not_false @Bool.not_true)
    refine qak fn41 (by simp) ?_
    unfold i41
    simp only [argL, qau, mdC]
    refine wR0 0 [1] fX ?_
    refine wRn 100 [1,3] fX ?_
    refine rC fX ?_
    refine ⟨_, hb, rE fX ?_⟩
    refine wF fX ?_
    refine wRn 300 [1,8] fX ?_
    refine rC fX ?_
    refine ⟨_, hst, rE fX ?_⟩
    refine wF fX ?_
    refine wRn 500 [1,12] fX ?_
    refine rC fX ?_
    refine ⟨_, hrt, rE fX ?_⟩
    refine wF fX ?_
    refine wRn 700 [1,16] fX ?_
    refine rC fX ?_
    refine ⟨_, qqV m hm (qkj hs), rE fX ?_⟩
    refine wS cJ0 (fun hc700 => ?_) (fun hc700 => ?_)
    ·skip
     refine wR0 800 [2] fX ?_
     refine wP ?_
     exact qaK (by simp at hc700; rw [hch, if_pos hc700])
    ·skip
     refine wRn 900 [1,20] fX ?_
     refine rL [(0, .live ⟨_, mdC m⟩)] fX ?_
     refine ⟨_, _, hcf, fZy, rfl, rE fX ?_⟩
     refine wS cJ0 (fun hc900 => ?_) (fun hc900 => ?_)
     ·skip
      refine wR0 1000 [2] fX ?_
      refine wP ?_
      exact qaK (by simp only [Bool.not_eq_false'] at hc700; rw [hch, if_neg (by simp [hc700]), if_pos hc900])
     ·skip
      refine wRn 1100 [25] fX ?_
      refine rC fX ?_
      refine ⟨_, qn5 m hsn, rE fX ?_⟩
      refine wS cJ0 (fun hc1100 => ?_) (fun hc1100 => ?_)
      ·skip
       refine wR0 1200 [2] fX ?_
       refine wP ?_
       exact qaK (by simp only [Bool.not_eq_false'] at hc700; simp only [Bool.not_eq_true'] at hc1100; rw [hch, if_neg (by simp [hc700]), if_neg (by simp only [hc900]; simp), if_pos hc1100])
      ·skip
       refine wR0 1300 [2] fX ?_
       refine wP ?_
       exact qaK (by simp only [Bool.not_eq_false'] at hc700 hc1100; rw [hch, if_neg (by simp [hc700]), if_neg (by simp only [hc900]; simp), if_neg (by simp [hc1100])])
end
end Go.Proofs.YtikhhnopcjgjpaaGreat
