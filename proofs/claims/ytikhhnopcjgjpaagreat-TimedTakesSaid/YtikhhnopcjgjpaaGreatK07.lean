/- Contracts of functions of the program, for all arguments that they name. -/
import Derived.Test.YtikhhnopcjgjpaaGreatK02
import Derived.Test.YtikhhnopcjgjpaaGreatK06
namespace Go.Proofs.YtikhhnopcjgjpaaGreat
set_option linter.unusedVariables false
section
open Go.RowKit
set_option maxHeartbeats 2000000
def qbY (s : Int) (x : V) : Bool := decide (x.n < 0) || decide (x.n ≥ s) || decide ((x.kids.length : Int) > 0)
def qa8 : List V → Bool
 | a :: b :: l => !decide (cmpV a b > 0) && qa8 (b :: l)
 | _ => true
mutual
def ofV : Ty → V → Bool
 | .mk k s rs ps, v =>
  if k = 1 then decide (v.n ≥ 0) && decide (v.n ≤ 1048576) && ((v.kids.length : Int) == 0)
  else if k = 2 then decide (v.n ≥ 0) && decide (v.n < s) && ((v.kids.length : Int) == 0)
  else if k = 6 then decide (qbw v 12 ≤ 12) && qdR s v
  else if k = 3 then (v.n == 0) && ((v.kids.length : Int) == ps.length) && qdm ps v.kids
  else (v.n == 0) && !decide ((v.kids.length : Int) > 12) && (if k = 7 then !v.kids.any (qbY s) else qdO ps v.kids && (!(k == 5) || qa8 v.kids))
def qdm : List Ty → List V → Bool
 | p :: ps, v :: vs => ofV p v && qdm ps vs
 | _, _ => true
def qdO : List Ty → List V → Bool
 | p :: _, vs => vs.all fun v => ofV p v
 | [], _ => true
end
def qoo (prev : Option V) (l : List V) : Bool := match prev with
 | none => qa8 l
 | some p => qa8 (p :: l)
def ascB (b : Bool) (prev : Option V) (x : V) : Bool := match prev with
 | none => true
 | some p => !(b && decide (cmpV p x > 0))
def bagL (p : Ty) (b : Bool) (prev : Option V) : List V → Bool
 | [] => true
 | x :: l => (ofV p x && ascB b prev x) && bagL p b (some x) l
theorem qpy (p : Ty) (b : Bool) : ∀ (l : List V) (prev : Option V), bagL p b prev l = ((l.all fun v => ofV p v) && (!b || qoo prev l))
 | [], none => by cases b <;> rfl
 | [], some q => by cases b <;> rfl
 | x :: l, prev => by
  rw [bagL, qpy p b l (some x)]
  cases prev <;> cases b <;> simp only [ascB, qoo, qa8, List.all_cons, Bool.false_and, Bool.true_and, Bool.not_false, Bool.not_true, Bool.and_true, Bool.true_or, Bool.false_or, Bool.and_assoc]
  rw [Bool.and_left_comm (!_)]
theorem qpJ (k s N : Int) (rs : List Int) (ps : List Ty) (ks : List V) (hp : ps.length ≤ 1000000) (hl : ks.length = ps.length) (Q : IExit → (Nat → T) → Heap → Prop) : ∀ (rest pre : List V) (ts us : List Ty) (i : Nat), ks = pre ++ rest → ps = us ++ ts → pre.length = i → us.length = i →
 (∀ t ∈ ts, ∀ v ∈ rest, TP Tryz.prog 93 [qal t, encV v] (.bool (ofV t v))) →
 (qdm ts rest = true → ∀ i : Int, Q (.exit 1) (ofL [(2, .ref 0 4 0), (3, .ref 1 2 0), (5, .int .i64 i), (72, .bool false)]) (hpL [(0, .live ⟨54, [.int .i64 k, .int .i64 s, .list (qaf rs), .list (qah ps)]⟩), (1, .live ⟨25, [.int .i64 N, .list (qac ks)]⟩)])) →
 (qdm ts rest = false → Q .ret (ofL [(4, .bool false)]) (hpL [(0, .live ⟨54, [.int .i64 k, .int .i64 s, .list (qaf rs), .list (qah ps)]⟩), (1, .live ⟨25, [.int .i64 N, .list (qac ks)]⟩)])) →
 WL Tryz.prog 169 qlk (ofL [(2, .ref 0 4 0), (3, .ref 1 2 0), (5, .int .i64 i)]) (hpL [(0, .live ⟨54, [.int .i64 k, .int .i64 s, .list (qaf rs), .list (qah ps)]⟩), (1, .live ⟨25, [.int .i64 N, .list (qac ks)]⟩)]) Q := by
 intro rest
 induction rest with
 | nil =>
  intro pre ts us i he he2 hn hn2 hk hQ0 hQ1
  have hd : decide ((i : Int) < ((qac ks).length : Int)) = false := by simp [qag, he, hn]
  refine qaa qlk.eq_1 ?_
  refine wN ?_
  refine wR0 1200 [2,3,5,72] @hd ?_
  refine wN ?_
  refine qae (eV cJ0) ?_
  simp only [Bool.false_eq_true, if_false]
  refine wN ?_
  refine qbp ?_
  (try simp only [thn])
  exact hQ0 (by cases ts <;> rfl) _
 | cons v rest ih =>
  intro pre ts us i he he2 hn hn2 hk hQ0 hQ1
  cases ts with
  | nil => rw [he, he2] at hl; simp at hl; omega
  | cons t ts =>
   have hlt : (i : Int) < ((qac ks).length : Int) := by simp [qag, he]; omega
   have hlt2 : (i : Int) < ((qah ps).length : Int) := by simp [qaj, he2]; omega
   have hlb : i ≤ 1000000 := by rw [he2] at hp; simp at hp; omega
   have hd : decide ((i : Int) < ((qac ks).length : Int)) = true := decide_eq_true hlt
   have hg : (qac ks).getD (i : Int).toNat .undef = encV v := by rw [Int.toNat_natCast, he, ← hn]; exact qa0 _ _ _
   have hg2 : (qah ps).getD (i : Int).toNat .undef = qal t := by rw [Int.toNat_natCast, he2, ← hn2]; exact qcK _ _ _
   have hw : IntKind.wrap .i64 ((i : Int) + 1) = (i : Int) + 1 := wrap64 (by omega) (by omega)
   refine qaa qlk.eq_1 ?_
   refine wN ?_
   refine wR0 1200 [2,3,5,72] @hd ?_
   refine wN ?_
   refine qae (eV cJ0) ?_
   simp only [if_true]
   refine wN ?_
   have fX := (cJ6 @hg @hg2 @qda @qbX @qbG @qbt)
   refine wRn 1300 [2,3,5,86] fX ?_
   refine rC fX ?_
   refine ⟨_, hk t (List.mem_cons_self ..) v (List.mem_cons_self ..), rE fX ?_⟩
   refine wN ?_
   by_cases hc : ofV t v = true
   ·have hb : (!ofV t v) = false := by simp [hc]
    refine qae (eV cJ0) ?_
    simp only [hb, Bool.false_eq_true, if_false]
    refine wN ?_
    refine wR0 1500 [2,3,5] @hw ?_
    refine wN ?_
    have := ih (pre ++ [v]) ts (us ++ [t]) (i + 1) (by simp [he]) (by simp [he2]) (by simp; omega) (by simp; omega) (fun t' ht' k' hk' => hk t' (List.mem_cons_of_mem _ ht') k' (List.mem_cons_of_mem _ hk')) (by simpa [qdm, hc] using hQ0) (by simpa [qdm, hc] using hQ1)
    simpa using this
   ·have hb : (!ofV t v) = true := by simp [hc]
    refine qae (eV cJ0) ?_
    simp only [hb, if_true]
    refine wN ?_
    refine wR0 1400 [4] cJ0 ?_
    refine wN ?_
    refine qaC ?_
    (try simp only [thn, inB])
    exact hQ1 (by simp [qdm, hc])
theorem qkG (s N : Int) (rs : List Int) (ps : List Ty) (ks : List V) (hl : ks.length ≤ 1000000) (Q : IExit → (Nat → T) → Heap → Prop) : ∀ (rest pre : List V) (i : Nat), ks = pre ++ rest → pre.length = i →
 (rest.any (qbY s) = false → ∀ i : Int, Q (.exit 3) (ofL [(2, .ref 0 4 0), (3, .ref 1 2 0), (6, .int .i64 i), (100, .bool false)]) (hpL [(0, .live ⟨54, [.int .i64 7, .int .i64 s, .list (qaf rs), .list (qah ps)]⟩), (1, .live ⟨25, [.int .i64 N, .list (qac ks)]⟩)])) →
 (rest.any (qbY s) = true → Q .ret (ofL [(4, .bool false)]) (hpL [(0, .live ⟨54, [.int .i64 7, .int .i64 s, .list (qaf rs), .list (qah ps)]⟩), (1, .live ⟨25, [.int .i64 N, .list (qac ks)]⟩)])) →
 WL Tryz.prog 169 qgU (ofL [(2, .ref 0 4 0), (3, .ref 1 2 0), (6, .int .i64 i)]) (hpL [(0, .live ⟨54, [.int .i64 7, .int .i64 s, .list (qaf rs), .list (qah ps)]⟩), (1, .live ⟨25, [.int .i64 N, .list (qac ks)]⟩)]) Q := by
 intro rest
 induction rest with
 | nil =>
  intro pre i he hn hQ0 hQ1
  have hd : decide ((i : Int) < ((qac ks).length : Int)) = false := by simp [qag, he, hn]
  refine qaa qgU.eq_1 ?_
  refine wN ?_
  refine wR0 2000 [2,3,6,100] @hd ?_
  refine wN ?_
  refine qae (eV cJ0) ?_
  simp only [Bool.false_eq_true, if_false]
  refine wN ?_
  refine qbp ?_
  (try simp only [thn])
  exact hQ0 rfl _
 | cons v rest ih =>
  intro pre i he hn hQ0 hQ1
  rcases v with ⟨a, bs⟩
  have hlt : (i : Int) < ((qac ks).length : Int) := by simp [qag, he]; omega
  have hlb : i ≤ 1000000 := by rw [he] at hl; simp at hl; omega
  have hd : decide ((i : Int) < ((qac ks).length : Int)) = true := decide_eq_true hlt
  have hg : (qac ks).getD (i : Int).toNat .undef = .agg [.int .i64 a, .list (qac bs)] := by rw [Int.toNat_natCast, he, ← hn]; exact qa0 _ (.mk a bs) _
  have hw : IntKind.wrap .i64 ((i : Int) + 1) = (i : Int) + 1 := wrap64 (by omega) (by omega)
  refine qaa qgU.eq_1 ?_
  refine wN ?_
  refine wR0 2000 [2,3,6,100] @hd ?_
  refine wN ?_
  refine qae (eV cJ0) ?_
  simp only [if_true]
  refine wN ?_
  refine wR0 2100 [2,3,6,105] cJ0 ?_
  refine wN ?_
  refine qae (eV cJ0) ?_
  simp only [if_true]
  refine wN ?_
  refine wR0 2200 [2,3,6,133] @hg ?_
  refine wN ?_
  have hbl : (decide (a < 0) || decide (a ≥ s) || decide (((qac bs).length : Int) > 0)) = qbY s (.mk a bs) := by simp only [qbY, V.n, V.kids, qag]; rfl
  by_cases hc : qbY s (.mk a bs) = true
  ·rw [hc] at hbl
   refine qae (eV cJ0) ?_
   simp only [hbl, if_true]
   refine wN ?_
   refine wR0 2300 [4] cJ0 ?_
   refine wN ?_
   refine qaC ?_
   (try simp only [thn, inB])
   exact hQ1 (by simp [hc])
  ·rw [Bool.not_eq_true] at hc
   rw [hc] at hbl
   refine qae (eV cJ0) ?_
   simp only [hbl, Bool.false_eq_true, if_false]
   refine wN ?_
   refine qbp ?_
   (try simp only [thn, inB, if_true])
   refine wR0 2600 [2,3,6] @hw ?_
   refine wN ?_
   have := ih (pre ++ [.mk a bs]) (i + 1) (by simp [he]) (by simp; omega) (by simpa [hc] using hQ0) (by simpa [hc] using hQ1)
   simpa using this
theorem qp2 (k s N : Int) (k7 : k ≠ 7) (rs : List Int) (ps : List Ty) (p : Ty) (hps : ps = [p]) (ks : List V) (hl : ks.length ≤ 1000000) (hf : ∀ v ∈ ks, v.fit) (Q : IExit → (Nat → T) → Heap → Prop) : ∀ (rest pre : List V) (i : Nat), ks = pre ++ rest → pre.length = i →
 (∀ v ∈ rest, TP Tryz.prog 93 [qal p, encV v] (.bool (ofV p v))) →
 (bagL p (k == 5) pre.getLast? rest = true → ∀ i : Int, Q (.exit 3) (ofL [(2, .ref 0 4 0), (3, .ref 1 2 0), (6, .int .i64 i), (100, .bool false)]) (hpL [(0, .live ⟨54, [.int .i64 k, .int .i64 s, .list (qaf rs), .list (qah ps)]⟩), (1, .live ⟨25, [.int .i64 N, .list (qac ks)]⟩)])) →
 (bagL p (k == 5) pre.getLast? rest = false → Q .ret (ofL [(4, .bool false)]) (hpL [(0, .live ⟨54, [.int .i64 k, .int .i64 s, .list (qaf rs), .list (qah ps)]⟩), (1, .live ⟨25, [.int .i64 N, .list (qac ks)]⟩)])) →
 WL Tryz.prog 169 qgU (ofL [(2, .ref 0 4 0), (3, .ref 1 2 0), (6, .int .i64 i)]) (hpL [(0, .live ⟨54, [.int .i64 k, .int .i64 s, .list (qaf rs), .list (qah ps)]⟩), (1, .live ⟨25, [.int .i64 N, .list (qac ks)]⟩)]) Q := by
 have k7b : (k == 7) = false := by simp [k7]
 have hlt2 : (0 : Int) < ((qah ps).length : Int) := by simp [qaj, hps]
 have hg2 : (qah ps).getD (0 : Int).toNat .undef = qal p := by rw [hps]; rfl
 intro rest
 induction rest with
 | nil =>
  intro pre i he hn hk hQ0 hQ1
  have hd : decide ((i : Int) < ((qac ks).length : Int)) = false := by simp [qag, he, hn]
  refine qaa qgU.eq_1 ?_
  refine wN ?_
  refine wR0 2000 [2,3,6,100] @hd ?_
  refine wN ?_
  refine qae (eV cJ0) ?_
  simp only [Bool.false_eq_true, if_false]
  refine wN ?_
  refine qbp ?_
  (try simp only [thn])
  exact hQ0 rfl _
 | cons v rest ih =>
  intro pre i he hn hk hQ0 hQ1
  have hlt : (i : Int) < ((qac ks).length : Int) := by simp [qag, he]; omega
  have hlb : i ≤ 1000000 := by rw [he] at hl; simp at hl; omega
  have hd : decide ((i : Int) < ((qac ks).length : Int)) = true := decide_eq_true hlt
  have hg : (qac ks).getD (i : Int).toNat .undef = encV v := by rw [Int.toNat_natCast, he, ← hn]; exact qa0 _ _ _
  have hw : IntKind.wrap .i64 ((i : Int) + 1) = (i : Int) + 1 := wrap64 (by omega) (by omega)
  have hb2 : (pre ++ [v]).getLast? = some v := by simp
  have hbag : bagL p (k == 5) pre.getLast? (v :: rest) = ((ofV p v && ascB (k == 5) pre.getLast? v) && bagL p (k == 5) (pre ++ [v]).getLast? rest) := by rw [hb2]; rfl
  refine qaa qgU.eq_1 ?_
  refine wN ?_
  refine wR0 2000 [2,3,6,100] @hd ?_
  refine wN ?_
  refine qae (eV cJ0) ?_
  simp only [if_true]
  refine wN ?_
  refine wR0 2100 [2,3,6,105] cJ0 ?_
  refine wN ?_
  refine qae (eV cJ0) ?_
  simp only [k7b, Bool.false_eq_true, if_false]
  refine wN ?_
  rcases hof : ofV p v with _ | _
  ·have fX := (cJ8 @hg @hg2 @qda @qbX @qbG @qbt @hof @Bool.not_false)
   refine wRn 2400 [2,3,6,168] fX ?_
   refine rC fX ?_
   refine ⟨_, hk v (List.mem_cons_self ..), rE fX ?_⟩
   refine wN ?_
   refine qae (eV cJ0) ?_
   simp only [if_true]
   refine wN ?_
   refine wR0 2500 [4] cJ0 ?_
   refine wN ?_
   refine qaC ?_
   (try simp only [thn, inB])
   exact hQ1 (by simp [bagL, hof])
  ·by_cases k5 : k = 5
   ·have k5b : (k == 5) = true := by simp [k5]
    rcases List.eq_nil_or_concat pre with rfl | ⟨pre', q, rfl⟩
    ·have hi : i = 0 := by simpa using hn.symm
     have h0 : decide ((i : Int) > 0) = false := by simp [hi]
     have hasc : ascB (k == 5) ([] : List V).getLast? v = true := rfl
     have fX := (cJ8 @hg @hg2 @qda @qbX @qbG @qbt @hof (cJ3 @Bool.not_true @k5b @h0))
     refine wRn 2400 [2,3,6,168] fX ?_
     refine rC fX ?_
     refine ⟨_, hk v (List.mem_cons_self ..), rE fX ?_⟩
     refine wN ?_
     refine qae (eV cJ0) ?_
     simp only [Bool.false_eq_true, if_false]
     refine wN ?_
     refine wR0 2600 [2,3,6] @hw ?_
     refine wN ?_
     rw [hof, hasc, Bool.true_and, Bool.true_and] at hbag
     rw [hbag] at hQ0 hQ1
     have := ih ([] ++ [v]) (i + 1) (by simp [he]) (by simp at hn ⊢; omega) (fun k' hk' => hk k' (List.mem_cons_of_mem _ hk')) hQ0 hQ1
     simpa using this
    ·have hi0 : 0 < i := by simp at hn; omega
     have hi0b : decide ((i : Int) > 0) = true := by simp; omega
     have hw3 : IntKind.wrap .i64 ((i : Int) - 1) = (i : Int) - 1 := wrap64 (by omega) (by omega)
     have hlt3 : (i : Int) - 1 < ((qac ks).length : Int) := by omega
     have hg3 : (qac ks).getD ((i : Int) - 1).toNat .undef = encV q := by
      have : ((i : Int) - 1).toNat = pre'.length := by simp at hn; omega
      rw [this, he, List.concat_eq_append, List.append_assoc]; exact qa0 _ _ _
     have hq : q ∈ ks := by rw [he]; simp
     have fX := (cJ8 @hg @hg2 @qda @qbX @qbG @qbt @hof (cJ5 @Bool.not_true @k5b @hi0b @hw3 @hg3))
     refine wRn 2400 [2,3,6,168] fX ?_
     refine rC fX ?_
     refine ⟨_, hk v (List.mem_cons_self ..), rN fX ?_⟩
     refine rC fX ?_
     refine ⟨_, qml q v (hf q hq), rE fX ?_⟩
     refine wN ?_
     have hasc0 : ascB (k == 5) (pre'.concat q).getLast? v = !decide (cmpV q v > 0) := by simp [ascB, k5b]
     rcases hc : decide (cmpV q v > 0) with _ | _
     ·refine qae (eV cJ0) ?_
      simp only [Bool.false_eq_true, if_false]
      refine wN ?_
      have hasc : ascB (k == 5) (pre'.concat q).getLast? v = true := by rw [hasc0, hc]; rfl
      refine wR0 2600 [2,3,6] @hw ?_
      refine wN ?_
      rw [hof, hasc, Bool.true_and, Bool.true_and] at hbag
      rw [hbag] at hQ0 hQ1
      have := ih (pre'.concat q ++ [v]) (i + 1) (by simp [he]) (by simp at hn ⊢; omega) (fun k' hk' => hk k' (List.mem_cons_of_mem _ hk')) hQ0 hQ1
      simpa using this
     ·refine qae (eV cJ0) ?_
      simp only [if_true]
      refine wN ?_
      refine wR0 2500 [4] cJ0 ?_
      refine wN ?_
      refine qaC ?_
      (try simp only [thn, inB])
      exact hQ1 (by rw [hbag, hasc0, hc]; simp)
   ·have k5b : (k == 5) = false := by simp [k5]
    have fX := (cJ8 @hg @hg2 @qda @qbX @qbG @qbt @hof (cJ2 @Bool.not_true @k5b))
    refine wRn 2400 [2,3,6,168] fX ?_
    refine rC fX ?_
    refine ⟨_, hk v (List.mem_cons_self ..), rE fX ?_⟩
    refine wN ?_
    have hasc : ascB (k == 5) pre.getLast? v = true := by rw [k5b]; cases pre.getLast? <;> rfl
    refine qae (eV cJ0) ?_
    simp only [Bool.false_eq_true, if_false]
    refine wN ?_
    refine wR0 2600 [2,3,6] @hw ?_
    refine wN ?_
    rw [hof, hasc, Bool.true_and, Bool.true_and] at hbag
    rw [hbag] at hQ0 hQ1
    have := ih (pre ++ [v]) (i + 1) (by simp [he]) (by simp at hn ⊢; omega) (fun k' hk' => hk k' (List.mem_cons_of_mem _ hk')) hQ0 hQ1
    simpa using this
theorem qb3 : ∀ {ps : List Ty} {d : Int}, qaW ps d = true → ∀ p ∈ ps, qar p d = true
 | [], _, _, p, hp => by cases hp
 | x :: ps, d, h, p, hp => by
  simp only [qaW, Bool.and_eq_true] at h
  rcases List.mem_cons.1 hp with rfl | hp
  ·exact h.1
  ·exact qb3 h.2 p hp
theorem qdr {s d : Int} {rs : List Int} {ps : List Ty} (h : qar (.mk 3 s rs ps) d = true) : qaW ps (d - 1) = true ∧ ps.length ≤ 8 := by
 simp only [qar] at h
 split at h
 ·cases h
 split at h
 ·cases h
 simp at h
 exact ⟨h.2, by omega⟩
theorem qem {k s d : Int} {rs : List Int} {ps : List Ty} (hk : k = 4 ∨ k = 5) (h : qar (.mk k s rs ps) d = true) : ∃ p, ps = [p] ∧ qar p (d - 1) = true := by
 simp only [qar] at h
 rw [if_neg (show ¬ k = 1 by omega), if_neg (show ¬ (k = 2 ∨ k = 6) by omega), if_neg (show ¬ k = 7 by omega), if_pos hk] at h
 split at h
 ·cases h
 split at h
 ·cases h
 simp at h
 obtain ⟨p, rfl⟩ := List.length_eq_one_iff.1 (show ps.length = 1 by omega)
 exact ⟨p, rfl, by simpa [qaW] using h.2⟩
theorem qhB {k s d : Int} {rs : List Int} {ps : List Ty} (h : qar (.mk k s rs ps) d = true) (h1 : k ≠ 1) (h2 : k ≠ 2) (h6 : k ≠ 6) (h3 : k ≠ 3) : k = 7 ∨ k = 4 ∨ k = 5 := by
 refine Decidable.byContradiction fun hc => ?_
 have h26 : ¬ (k = 2 ∨ k = 6) := by omega
 have h45 : ¬ (k = 4 ∨ k = 5) := by omega
 have h7 : ¬ k = 7 := by omega
 simp only [qar, if_neg h1, if_neg h26, if_neg h7, if_neg h45, if_neg h3] at h
 split at h <;> simp at h
set_option maxHeartbeats 4000000 in
theorem qrz : ∀ (t : Ty) (v : V) (d : Int), t.fit → v.fit → qar t d = true → TP Tryz.prog 93 [qal t, encV v] (.bool (ofV t v))
 | .mk k s rs ps, .mk n ks, d, ht, hv, hval => by
  obtain ⟨hf1, hf2, hf3⟩ := Ty.fit_all ht
  have hv' := V.fit_kids hv
  simp only [V.kids] at hv'
  refine qak fn93 (by simp) ?_
  unfold i93
  simp only [argL, encV, qal]
  refine wN ?_
  refine wR0 0 [2,3] cJ0 ?_
  refine wN ?_
  refine wR0 100 [2,3,8] cJ0 ?_
  refine wN ?_
  refine wR0 200 [2,3,8,9] cJ0 ?_
  refine wN ?_
  by_cases k1 : k = 1
  ·have k1b : (k == 1) = true := by simp [k1]
   refine qae (eV cJ0) ?_
   simp only [k1b, if_true]
   refine wN ?_
   refine wR0 300 [4] cJ0 ?_
   refine wN ?_
   refine qaC ?_
   (try simp only [thn, inB])
   exact ⟨by simp, _, rfl, by exact qab (by simp only [ofV, if_pos k1, V.n, V.kids, qag]; rfl)⟩
  have k1b : (k == 1) = false := by simp [k1]
  refine qae (eV cJ0) ?_
  simp only [k1b, Bool.false_eq_true, if_false]
  refine wN ?_
  refine wR0 400 [2,3,8,25] cJ0 ?_
  refine wN ?_
  by_cases k2 : k = 2
  ·have k2b : (k == 2) = true := by simp [k2]
   refine qae (eV cJ0) ?_
   simp only [k2b, if_true]
   refine wN ?_
   refine wR0 500 [4] cJ0 ?_
   refine wN ?_
   refine qaC ?_
   (try simp only [thn, inB])
   exact ⟨by simp, _, rfl, by exact qab (by simp only [ofV, if_neg k1, if_pos k2, V.n, V.kids, qag]; rfl)⟩
  have k2b : (k == 2) = false := by simp [k2]
  refine qae (eV cJ0) ?_
  simp only [k2b, Bool.false_eq_true, if_false]
  refine wN ?_
  refine wR0 600 [2,3,8,43] cJ0 ?_
  refine wN ?_
  by_cases k6 : k = 6
  ·have k6b : (k == 6) = true := by simp [k6]
   refine qae (eV cJ0) ?_
   simp only [k6b, if_true]
   refine wN ?_
   rcases hs : decide (qbw (.mk n ks) 12 ≤ 12) with _ | _
   ·refine wRn 700 [4] @hs ?_
    refine rC @hs ?_
    refine ⟨_, qeK (.mk n ks) 12 hv (by omega) (by omega), rE @hs ?_⟩
    refine wN ?_
    refine qaC ?_
    (try simp only [thn, inB])
    exact ⟨by simp, _, rfl, by exact qab (by simp only [ofV, if_neg k1, if_neg k2, if_pos k6, hs, Bool.false_and])⟩
   ·refine wRn 700 [4] @hs ?_
    refine rC @hs ?_
    refine ⟨_, qeK (.mk n ks) 12 hv (by omega) (by omega), rN @hs ?_⟩
    refine rC @hs ?_
    refine ⟨_, ql2 (.mk n ks) s hv, rE @hs ?_⟩
    refine wN ?_
    refine qaC ?_
    (try simp only [thn, inB])
    exact ⟨by simp, _, rfl, by exact qab (by simp only [ofV, if_neg k1, if_neg k2, if_pos k6, hs, Bool.true_and])⟩
  have k6b : (k == 6) = false := by simp [k6]
  refine qae (eV cJ0) ?_
  simp only [k6b, Bool.false_eq_true, if_false]
  refine wN ?_
  refine wR0 800 [2,3,54] cJ0 ?_
  refine wN ?_
  by_cases k3 : k = 3
  ·have k3b : (k == 3) = true := by simp [k3]
   have e3 : ofV (.mk k s rs ps) (.mk n ks) = ((n == 0) && ((ks.length : Int) == ps.length) && qdm ps ks) := by simp only [ofV, if_neg k1, if_neg k2, if_neg k6, if_pos k3, V.n, V.kids]
   refine qae (eV cJ0) ?_
   simp only [k3b, if_true]
   refine wN ?_
   refine wR0 900 [2,3,67] cJ0 ?_
   refine wN ?_
   rcases hall : ((n != 0) || (((qac ks).length : Int) != ((qah ps).length : Int))) with _ | _
   ·refine qae (eV cJ0) ?_
    simp only [Bool.false_eq_true, if_false]
    refine wN ?_
    refine wR0 1100 [2,3,5] cJ0 ?_
    refine wN ?_
    refine qbF ?_
    simp only [qaj, qag, Bool.or_eq_false_iff, bne_eq_false_iff_eq] at hall
    have hvp := qdr (by rw [k3] at hval; exact hval)
    refine qpJ k s n rs ps ks hf2 (by omega) _ ks [] ps [] 0 rfl rfl rfl rfl (fun t hk u hu => qrz t u (d - 1) (hf3 t hk) (hv'.2 u hu) (qb3 hvp.1 t hk)) ?_ ?_
    ·intro h i
     simp only [inB, if_true, thn]
     refine wR0 1600 [4] cJ0 ?_
     refine wN ?_
     refine qaC ?_
     (try simp only [thn, inB])
     exact ⟨by simp, _, rfl, by exact qab (by rw [e3, h]; simp [hall])⟩
    ·intro h
     simp only [inB, thn]
     exact ⟨by simp, _, rfl, qab (by simp [e3, h])⟩
   ·refine qae (eV cJ0) ?_
    simp only [if_true]
    refine wN ?_
    refine wR0 1000 [4] cJ0 ?_
    refine wN ?_
    refine qaC ?_
    (try simp only [thn, inB])
    exact ⟨by simp, _, rfl, by exact qab (by simp only [qaj, qag, bne] at hall; rw [e3]; revert hall; cases (n == 0) <;> cases ((ks.length : Int) == ps.length) <;> simp)⟩
  have k3b : (k == 3) = false := by simp [k3]
  have e0 : ofV (.mk k s rs ps) (.mk n ks) = ((n == 0) && !decide ((ks.length : Int) > 12) && (if k = 7 then !ks.any (qbY s) else qdO ps ks && (!(k == 5) || qa8 ks))) := by simp only [ofV, if_neg k1, if_neg k2, if_neg k6, if_neg k3, V.n, V.kids]; rfl
  refine qae (eV cJ0) ?_
  simp only [k3b, Bool.false_eq_true, if_false]
  refine wN ?_
  refine wR0 1700 [2,3,95] cJ0 ?_
  refine wN ?_
  rcases hall : ((n != 0) || decide (((qac ks).length : Int) > 12)) with _ | _
  ·refine qae (eV cJ0) ?_
   simp only [Bool.false_eq_true, if_false]
   refine wN ?_
   refine wR0 1900 [2,3,6] cJ0 ?_
   refine wN ?_
   refine qbF ?_
   simp only [qag, Bool.or_eq_false_iff, bne_eq_false_iff_eq] at hall
   by_cases k7 : k = 7
   ·subst k7
    refine qkG s n rs ps ks hv'.1 _ ks [] 0 rfl rfl ?_ ?_
    ·intro h i
     simp only [inB, if_true, thn]
     refine wR0 2700 [4] cJ0 ?_
     refine wN ?_
     refine qaC ?_
     (try simp only)
     exact ⟨by simp, _, rfl, by exact qab (by rw [e0, h]; simp [hall])⟩
    ·intro h
     simp only [inB, thn]
     exact ⟨by simp, _, rfl, qab (by rw [e0, h]; simp)⟩
   ·have h45 : k = 4 ∨ k = 5 := (qhB hval k1 k2 k6 k3).resolve_left k7
    obtain ⟨p, hp, hvp⟩ := qem h45 hval
    have hk : p ∈ ps := by simp [hp]
    have ebag : bagL p (k == 5) none ks = (qdO ps ks && (!(k == 5) || qa8 ks)) := by rw [qpy, hp]; rfl
    refine qp2 k s n k7 rs ps p hp ks hv'.1 hv'.2 _ ks [] 0 rfl rfl (fun u hu => qrz p u (d - 1) (hf3 p hk) (hv'.2 u hu) hvp) ?_ ?_
    ·intro h i
     have h' : (qdO ps ks && (!(k == 5) || qa8 ks)) = true := by rw [← ebag]; exact h
     simp only [inB, if_true, thn]
     refine wR0 2700 [4] cJ0 ?_
     refine wN ?_
     refine qaC ?_
     (try simp only)
     exact ⟨by simp, _, rfl, by exact qab (by rw [e0, if_neg k7, h']; simp [hall])⟩
    ·intro h
     have h' : (qdO ps ks && (!(k == 5) || qa8 ks)) = false := by rw [← ebag]; exact h
     simp only [inB, thn]
     exact ⟨by simp, _, rfl, qab (by rw [e0, if_neg k7, h']; simp)⟩
  ·refine qae (eV cJ0) ?_
   simp only [if_true]
   refine wN ?_
   refine wR0 1800 [4] cJ0 ?_
   refine wN ?_
   refine qaC ?_
   (try simp only [thn])
   exact ⟨by simp, _, rfl, by exact qab (by simp only [qag, bne] at hall; rw [e0]; revert hall; cases (n == 0) <;> cases decide ((ks.length : Int) > 12) <;> simp)⟩
termination_by t => SizeOf.sizeOf t
decreasing_by all_goals exact qeD hk k s rs
def qa3 (t : Ty) (v : V) : Bool := (qbo t == 0) && decide (qbw v 128 ≤ 128) && ofV t v
theorem qjL {t : Ty} : (qbo t == 0) = qar t 8 := by unfold qbo; cases qar t 8 <;> rfl
theorem qcP (t : Ty) (v : V) (ht : t.fit) (hv : v.fit) : TP Tryz.prog 61 [qal t, encV v] (.bool (qa3 t v)) := by
 rcases t with ⟨k, s, rs, ps⟩
 rcases v with ⟨n, ks⟩
 refine qak fn61 (by simp) ?_
 unfold i61
 simp only [argL, encV, qal]
 refine wN ?_
 refine wR0 0 [2,3] cJ0 ?_
 refine wN ?_
 rcases h1 : (qbo (.mk k s rs ps) == 0) with _ | _
 ·refine wRn 100 [4] @h1 ?_
  refine rC @h1 ?_
  refine ⟨_, qeR (.mk k s rs ps) ht, rE @h1 ?_⟩
  refine wN ?_
  refine qaC ?_
  (try simp only)
  exact ⟨by simp, _, rfl, by exact qab (by simp only [qa3, h1, Bool.false_and])⟩
 ·rcases h2 : decide (qbw (.mk n ks) 128 ≤ 128) with _ | _
  ·have fX := (cJ2 @h1 @h2)
   refine wRn 100 [4] fX ?_
   refine rC fX ?_
   refine ⟨_, qeR (.mk k s rs ps) ht, rN fX ?_⟩
   refine rC fX ?_
   refine ⟨_, qeK (.mk n ks) 128 hv (by omega) (by omega), rE fX ?_⟩
   refine wN ?_
   refine qaC ?_
   (try simp only)
   exact ⟨by simp, _, rfl, by exact qab (by simp only [qa3, h1, h2, Bool.false_and, Bool.and_false])⟩
  ·have fX := (cJ2 @h1 @h2)
   refine wRn 100 [4] fX ?_
   refine rC fX ?_
   refine ⟨_, qeR (.mk k s rs ps) ht, rN fX ?_⟩
   refine rC fX ?_
   refine ⟨_, qeK (.mk n ks) 128 hv (by omega) (by omega), rN fX ?_⟩
   refine rC fX ?_
   refine ⟨_, qrz (.mk k s rs ps) (.mk n ks) 8 ht hv (by rw [← qjL]; exact h1), rE fX ?_⟩
   refine wN ?_
   refine qaC ?_
   (try simp only)
   exact ⟨by simp, _, rfl, by exact qab (by simp only [qa3, h1, h2, Bool.true_and])⟩
theorem qrA (N : Int) (ks : List V) (hv : (V.mk N ks).fit) : TC Tryz.prog 37 [.agg [.int .i64 N, .list (qac ks)]] (hpL []) (.agg [.int .i64 N, rowT 409 ks]) (hpL (rowH 409 25 ks)) := by
 have hv' := V.fit_kids hv
 simp only [V.kids] at hv'
 have h0 : TC Tryz.prog 37 [.agg [.int .i64 N, .list (qac ks)]] (hpL []) (.agg [.int .i64 N, rowT 409 ks]) (hpL ([(0, .live ⟨25, [.int .i64 N, .list (qac ks)]⟩), (1, .live ⟨25, [.int .i64 N, rowT 409 ks]⟩), (103, .live ⟨25, [.int .i64 N, rowT 409 ks]⟩)] ++ rowH 409 25 ks)) := by
  refine qcg fn37 (by simp) ?_
  unfold i37
  simp only [argL]
  refine wR0 0 [1,2] cJ0 ?_
  refine wN ?_
  refine wR0 100 [1,2,3] cJ0 ?_
  refine wN ?_
  refine wR0 200 [1,2,3,4] cJ0 ?_
  refine wN ?_
  refine qbF ?_
  refine qjJ N ks hv'.1 _ ks [] 0 rfl rfl (fun k hk => qkY k (hv'.2 k hk)) ?_
  intro i
  simp only [inB, if_true, thn]
  cases ks with
  | nil =>
   simp only [rowT, rowH, List.append_nil]
   refine wR0 600 [2] cJ0 ?_
   refine wN ?_
   refine qaC ?_
   exact ⟨by simp, rfl, rfl⟩
  | cons k ks =>
   simp only [rowT, rowH, List.cons_append, List.nil_append]
   refine wR0 600 [2] cJ0 ?_
   refine wN ?_
   refine qaC ?_
   exact ⟨by simp, rfl, rfl⟩
 cases ks with
 | nil => exact qb6 [409] h0 rfl (by simp [T.cl, clL, rowT]) (by simp [qap, inL, rowH])
 | cons k ks => exact qb6 [409] h0 rfl (by simp [T.cl, clL, rowT, inL]) (by simp [qap, inL, rowH, Slot.cl, qaQ])
end
end Go.Proofs.YtikhhnopcjgjpaaGreat
