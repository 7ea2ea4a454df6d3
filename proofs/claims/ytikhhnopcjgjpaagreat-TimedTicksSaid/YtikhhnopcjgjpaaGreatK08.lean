/- Contracts of functions of the program, for all arguments that they name. -/
import Derived.Test.YtikhhnopcjgjpaaGreatK07
namespace Go.Proofs.YtikhhnopcjgjpaaGreat
set_option linter.unusedVariables false
section
open Go.RowKit
set_option maxHeartbeats 2000000
def insR (x : V) : List V → List V
 | [] => [x]
 | y :: ys => if cmpV x y < 0 then y :: insR x ys else x :: y :: ys
mutual
def qch : Ty → V → V
 | .mk k s rs ps, v => .mk v.n (if k = 3 then qcW ps v.kids else if k = 4 then qes ps v.kids else if k = 5 then ((qes ps v.kids).foldl (fun acc x => insR x acc) []).reverse else v.kids)
def qcW : List Ty → List V → List V
 | p :: ps, v :: vs => qch p v :: qcW ps vs
 | [], vs => vs
 | _ :: _, [] => []
def qes : List Ty → List V → List V
 | p :: _, vs => vs.map fun v => qch p v
 | [], vs => vs
end
theorem qa9 (xs ys : List V) : qao (xs ++ ys) = qao xs ++ qao ys := by
 induction xs with
 | nil => rfl
 | cons x xs ih => simp [qao, ih]
theorem qdz (xs : List V) (a : Int) (bs ys : List V) (i : Nat) (h : xs.length = i) : List.take 2 (List.drop ((i : Int).toNat * 2) (qao (xs ++ V.mk a bs :: ys))) = [.int .i64 a, .list (qac bs)] := by
 rw [qa9, Int.toNat_natCast, ← h, ← qaE, List.drop_left]; rfl
theorem qcN (xs ys : List V) (i : Nat) (h : xs.length = i) : List.take ((i : Int).toNat * 2) (qao (xs ++ ys)) = qao xs := by
 rw [qa9, Int.toNat_natCast, ← h, ← qaE, List.take_left]
theorem qcS (xs ys : List V) (v : V) (i : Nat) (h : xs.length = i) : List.drop ((i : Int).toNat * 2 + 2) (qao (xs ++ v :: ys)) = qao ys := by
 rw [qa9, Int.toNat_natCast, ← h, ← qaE, ← List.drop_drop, List.drop_left]; rfl
theorem qoU (k s N : Int) (k45 : k = 4 ∨ k = 5) (rs : List Int) (ps : List Ty) (p : Ty) (hps : ps = [p]) (ks0 : List V) (n : Nat) (hn0 : n ≤ 1000000) (Q : IExit → (Nat → T) → Heap → Prop) : ∀ (rest done : List V) (i : Nat), done.length = i → done.length + rest.length = n →
 (∀ v ∈ rest, TP Tryz.prog 68 [qal p, encV v] (encV (qch p v))) →
 (∀ i : Int, Q (.exit 0) (ofL [(2, .ref 0 4 0), (4, .ref 2 2 0), (5, .ref 102 2 0), (6, .int .i64 i), (15, .bool false)]) (hpL [(0, .live ⟨54, [.int .i64 k, .int .i64 s, .list (qaf rs), .list (qah ps)]⟩), (1, .live ⟨25, [.int .i64 N, .list (qac ks0)]⟩), (2, .live ⟨25, [.int .i64 0, .nil]⟩), (409, .live ⟨25, qao (done ++ rest.map (qch p))⟩), (102, .live ⟨25, [.int .i64 N, .sl 409 (n * 2) 2 0 n]⟩)])) →
 WL Tryz.prog 117 qdH (ofL [(2, .ref 0 4 0), (4, .ref 2 2 0), (5, .ref 102 2 0), (6, .int .i64 i)]) (hpL [(0, .live ⟨54, [.int .i64 k, .int .i64 s, .list (qaf rs), .list (qah ps)]⟩), (1, .live ⟨25, [.int .i64 N, .list (qac ks0)]⟩), (2, .live ⟨25, [.int .i64 0, .nil]⟩), (409, .live ⟨25, qao (done ++ rest)⟩), (102, .live ⟨25, [.int .i64 N, .sl 409 (n * 2) 2 0 n]⟩)]) Q := by
 have hlt2 : (0 : Int) < ((qah ps).length : Int) := by simp [qaj, hps]
 have hg2 : (qah ps).getD (0 : Int).toNat .undef = qal p := by rw [hps]; rfl
 have k3b : (k == 3) = false := by simp; omega
 intro rest
 induction rest with
 | nil =>
  intro done i hi hn hk hQ
  have hd : decide ((i : Int) < (n : Int)) = false := by simp at hn ⊢; omega
  refine qaa qdH.eq_1 ?_
  refine wN ?_
  refine wR0 300 [2,4,5,6,15] @hd ?_
  refine wN ?_
  refine qae (eV cJ0) ?_
  simp only [Bool.false_eq_true, if_false]
  refine wN ?_
  refine qbp ?_
  (try simp only [thn])
  have := hQ i
  simpa using this
 | cons v rest ih =>
  intro done i hi hn hk hQ
  rcases v with ⟨a, bs⟩
  have hlt : (i : Int) < (n : Int) := by simp at hn; omega
  have hd : decide ((i : Int) < (n : Int)) = true := decide_eq_true hlt
  have hw : IntKind.wrap .i64 ((i : Int) + 1) = (i : Int) + 1 := wrap64 (by omega) (by omega)
  have hlen : (qao (done ++ V.mk a bs :: rest)).length = n * 2 := by rw [qaE]; simp; simp at hn; omega
  refine qaa qdH.eq_1 ?_
  refine wN ?_
  refine wR0 300 [2,4,5,6,15] @hd ?_
  refine wN ?_
  refine qae (eV cJ0) ?_
  simp only [if_true]
  refine wN ?_
  refine wR0 400 [2,4,5,6,27] @k3b ?_
  refine wN ?_
  refine qae (eV cJ0) ?_
  simp only [Bool.false_eq_true, if_false]
  refine wN ?_
  rcases hall : ((k == 4) || (k == 5)) with _ | _
  ·exfalso; rcases k45 with h | h <;> simp [h] at hall
  refine wR0 600 [2,4,5,6,50] @hall ?_
  refine wN ?_
  refine qae (eV cJ0) ?_
  simp only [if_true]
  refine wN ?_
  have ht2 := qdz done a bs rest i hi
  have htl := qcN done (V.mk a bs :: rest) i hi
  have hdr := qcS done rest (V.mk a bs) i hi
  have hk1 := hk (V.mk a bs) (List.mem_cons_self ..)
  rcases hu : qch p (V.mk a bs) with ⟨a', bs'⟩
  rw [hu] at hk1
  have fX := (cJ8 @hg2 @qbG @qbt @ht2 @encV.eq_1 @htl @hdr @hlen)
  refine wRn 700 [2,4,5,6] fX ?_
  refine rC fX ?_
  refine ⟨_, hk1, rE fX ?_⟩
  refine wN ?_
  refine wR0 800 [2,4,5,6] @hw ?_
  refine wN ?_
  have := ih (done ++ [V.mk a' bs']) (i + 1) (by simp; omega) (by simp at hn ⊢; omega) (fun k' hk' => hk k' (List.mem_cons_of_mem _ hk')) (by simpa [hu] using hQ)
  simpa [qa9, qao, V.n, V.kids] using this
theorem qo3 (k s N : Int) (k3 : k ≠ 3) (k4 : k ≠ 4) (k5 : k ≠ 5) (rs : List Int) (ps : List Ty) (s1 : Slot) (n : Nat) (L : List T) (hn0 : n ≤ 1000000) (Q : IExit → (Nat → T) → Heap → Prop) : ∀ (m i : Nat), i + m = n →
 (∀ i : Int, Q (.exit 0) (ofL [(2, .ref 0 4 0), (4, .ref 2 2 0), (5, .ref 102 2 0), (6, .int .i64 i), (15, .bool false)]) (hpL [(0, .live ⟨54, [.int .i64 k, .int .i64 s, .list (qaf rs), .list (qah ps)]⟩), (1, s1), (2, .live ⟨25, [.int .i64 0, .nil]⟩), (409, .live ⟨25, L⟩), (102, .live ⟨25, [.int .i64 N, .sl 409 (n * 2) 2 0 n]⟩)])) →
 WL Tryz.prog 117 qdH (ofL [(2, .ref 0 4 0), (4, .ref 2 2 0), (5, .ref 102 2 0), (6, .int .i64 i)]) (hpL [(0, .live ⟨54, [.int .i64 k, .int .i64 s, .list (qaf rs), .list (qah ps)]⟩), (1, s1), (2, .live ⟨25, [.int .i64 0, .nil]⟩), (409, .live ⟨25, L⟩), (102, .live ⟨25, [.int .i64 N, .sl 409 (n * 2) 2 0 n]⟩)]) Q := by
 have k3b : (k == 3) = false := by simp [k3]
 have k45b : ((k == 4) || (k == 5)) = false := by simp [k4, k5]
 intro m
 induction m with
 | zero =>
  intro i hn hQ
  have hd : decide ((i : Int) < (n : Int)) = false := by simp; omega
  refine qaa qdH.eq_1 ?_
  refine wN ?_
  refine wR0 300 [2,4,5,6,15] @hd ?_
  refine wN ?_
  refine qae (eV cJ0) ?_
  simp only [Bool.false_eq_true, if_false]
  refine wN ?_
  refine qbp ?_
  (try simp only [thn])
  exact hQ _
 | succ m ih =>
  intro i hn hQ
  have hd : decide ((i : Int) < (n : Int)) = true := by simp; omega
  have hw : IntKind.wrap .i64 ((i : Int) + 1) = (i : Int) + 1 := wrap64 (by omega) (by omega)
  refine qaa qdH.eq_1 ?_
  refine wN ?_
  refine wR0 300 [2,4,5,6,15] @hd ?_
  refine wN ?_
  refine qae (eV cJ0) ?_
  simp only [if_true]
  refine wN ?_
  refine wR0 400 [2,4,5,6,27] @k3b ?_
  refine wN ?_
  refine qae (eV cJ0) ?_
  simp only [Bool.false_eq_true, if_false]
  refine wN ?_
  refine wR0 600 [2,4,5,6,50] cJ0 ?_
  refine wN ?_
  refine qae (eV cJ0) ?_
  simp only [k45b, Bool.false_eq_true, if_false]
  refine wN ?_
  refine wR0 800 [2,4,5,6] @hw ?_
  refine wN ?_
  have := ih (i + 1) (by omega) hQ
  simpa using this
theorem qjZ (s N : Int) (rs : List Int) (ps : List Ty) (s1 : Slot) (n : Nat) (hn0 : n ≤ 1000000) (Q : IExit → (Nat → T) → Heap → Prop) : ∀ (rest done : List V) (ts us : List Ty) (i : Nat), done.length = i → done.length + rest.length = n → ps = us ++ ts → (us.length = i ∨ ts = [] ∧ us.length ≤ i) →
 (∀ t ∈ ts, ∀ v ∈ rest, TP Tryz.prog 68 [qal t, encV v] (encV (qch t v))) →
 (∀ i : Int, Q (.exit 0) (ofL [(2, .ref 0 4 0), (4, .ref 2 2 0), (5, .ref 102 2 0), (6, .int .i64 i), (15, .bool false)]) (hpL [(0, .live ⟨54, [.int .i64 3, .int .i64 s, .list (qaf rs), .list (qah ps)]⟩), (1, s1), (2, .live ⟨25, [.int .i64 0, .nil]⟩), (409, .live ⟨25, qao (done ++ qcW ts rest)⟩), (102, .live ⟨25, [.int .i64 N, .sl 409 (n * 2) 2 0 n]⟩)])) →
 WL Tryz.prog 117 qdH (ofL [(2, .ref 0 4 0), (4, .ref 2 2 0), (5, .ref 102 2 0), (6, .int .i64 i)]) (hpL [(0, .live ⟨54, [.int .i64 3, .int .i64 s, .list (qaf rs), .list (qah ps)]⟩), (1, s1), (2, .live ⟨25, [.int .i64 0, .nil]⟩), (409, .live ⟨25, qao (done ++ rest)⟩), (102, .live ⟨25, [.int .i64 N, .sl 409 (n * 2) 2 0 n]⟩)]) Q := by
 have k3b : ((3 : Int) == 3) = true := rfl
 have k45b : (((3 : Int) == 4) || ((3 : Int) == 5)) = false := rfl
 intro rest
 induction rest with
 | nil =>
  intro done ts us i hi hn he hu hk hQ
  have hd : decide ((i : Int) < (n : Int)) = false := by simp at hn ⊢; omega
  refine qaa qdH.eq_1 ?_
  refine wN ?_
  refine wR0 300 [2,4,5,6,15] @hd ?_
  refine wN ?_
  refine qae (eV cJ0) ?_
  simp only [Bool.false_eq_true, if_false]
  refine wN ?_
  refine qbp ?_
  (try simp only [thn])
  have := hQ i
  cases ts <;> simpa [qcW] using this
 | cons v rest ih =>
  intro done ts us i hi hn he hu hk hQ
  rcases v with ⟨a, bs⟩
  have hlt : (i : Int) < (n : Int) := by simp at hn; omega
  have hd : decide ((i : Int) < (n : Int)) = true := decide_eq_true hlt
  have hw : IntKind.wrap .i64 ((i : Int) + 1) = (i : Int) + 1 := wrap64 (by omega) (by omega)
  have hlen : (qao (done ++ V.mk a bs :: rest)).length = n * 2 := by rw [qaE]; simp; simp at hn; omega
  refine qaa qdH.eq_1 ?_
  refine wN ?_
  refine wR0 300 [2,4,5,6,15] @hd ?_
  refine wN ?_
  refine qae (eV cJ0) ?_
  simp only [if_true]
  refine wN ?_
  cases ts with
  | nil =>
   have hd2 : decide ((i : Int) < ((qah ps).length : Int)) = false := by
    simp only [qaj, he, List.append_nil]; simp; rcases hu with h | h <;> omega
   have fX := (cJ2 @k3b @hd2)
   refine wR0 400 [2,4,5,6,27] fX ?_
   refine wN ?_
   refine qae (eV cJ0) ?_
   simp only [Bool.false_eq_true, if_false]
   refine wN ?_
   refine wR0 600 [2,4,5,6,50] cJ0 ?_
   refine wN ?_
   refine qae (eV cJ0) ?_
   simp only [k45b, Bool.false_eq_true, if_false]
   refine wN ?_
   refine wR0 800 [2,4,5,6] @hw ?_
   refine wN ?_
   have := ih (done ++ [V.mk a bs]) [] us (i + 1) (by simp; omega) (by simp at hn ⊢; omega) he (.inr ⟨rfl, by rcases hu with h | h <;> omega⟩) (fun t ht => by cases ht) (by cases rest <;> simpa [qcW] using hQ)
   simpa using this
  | cons p ts =>
   have hul : us.length = i := hu.resolve_right (by simp)
   have hlt2 : (i : Int) < ((qah ps).length : Int) := by simp [qaj, he]; omega
   have hd2 : decide ((i : Int) < ((qah ps).length : Int)) = true := decide_eq_true hlt2
   have hg2 : (qah ps).getD (i : Int).toNat .undef = qal p := by rw [Int.toNat_natCast, he, ← hul]; exact qcK _ _ _
   have ht2 := qdz done a bs rest i hi
   have htl := qcN done (V.mk a bs :: rest) i hi
   have hdr := qcS done rest (V.mk a bs) i hi
   have hk1 := hk p (List.mem_cons_self ..) (V.mk a bs) (List.mem_cons_self ..)
   rcases hu1 : qch p (V.mk a bs) with ⟨a', bs'⟩
   rw [hu1] at hk1
   have fX := (cJ2 @k3b @hd2)
   refine wR0 400 [2,4,5,6,27] fX ?_
   refine wN ?_
   refine qae (eV cJ0) ?_
   simp only [if_true]
   refine wN ?_
   have fX := (cJ8 @hg2 @qbG @qbt @ht2 @encV.eq_1 @htl @hdr @hlen)
   refine wRn 500 [2,4,5,6] fX ?_
   refine rC fX ?_
   refine ⟨_, hk1, rE fX ?_⟩
   refine wN ?_
   refine wR0 600 [2,4,5,6,50] cJ0 ?_
   refine wN ?_
   refine qae (eV cJ0) ?_
   simp only [k45b, Bool.false_eq_true, if_false]
   refine wN ?_
   refine wR0 800 [2,4,5,6] @hw ?_
   refine wN ?_
   have := ih (done ++ [V.mk a' bs']) ts (us ++ [p]) (i + 1) (by simp; omega) (by simp at hn ⊢; omega) (by simp [he]) (.inl (by simp; omega)) (fun t ht k' hk' => hk t (List.mem_cons_of_mem _ ht) k' (List.mem_cons_of_mem _ hk')) (by simpa [qcW, hu1] using hQ)
   simpa [qa9, qao, V.n, V.kids] using this
theorem qpC (N : Int) (s0 s1 : Slot) (n : Nat) (hn0 : n ≤ 1000000) (i : Int) (a : Int) (bs : List V) (ha : (V.mk a bs).fit) (Q : IExit → (Nat → T) → Heap → Prop) : ∀ (ys zs : List V) (j : Nat), ys.length = j → ys.length + 1 + zs.length = n →
 (∀ (j : Int), Q (.exit 4) (ofL [(4, .ref 2 2 0), (5, .ref 102 2 0), (7, .int .i64 i), (8, .int .i64 j), (93, .bool false)]) (hpL [(0, s0), (1, s1), (2, .live ⟨25, [.int .i64 0, .nil]⟩), (409, .live ⟨25, qao ((insR (V.mk a bs) ys).reverse ++ zs)⟩), (102, .live ⟨25, [.int .i64 N, .sl 409 (n * 2) 2 0 n]⟩)])) →
 WL Tryz.prog 117 qlF (ofL [(4, .ref 2 2 0), (5, .ref 102 2 0), (7, .int .i64 i), (8, .int .i64 j)]) (hpL [(0, s0), (1, s1), (2, .live ⟨25, [.int .i64 0, .nil]⟩), (409, .live ⟨25, qao (ys.reverse ++ V.mk a bs :: zs)⟩), (102, .live ⟨25, [.int .i64 N, .sl 409 (n * 2) 2 0 n]⟩)]) Q := by
 intro ys
 induction ys with
 | nil =>
  intro zs j hj hn hQ
  have hd : decide ((j : Int) > 0) = false := by simp at hj; simp [← hj]
  refine qaa qlF.eq_1 ?_
  refine wN ?_
  refine wR0 1400 [4,5,7,8,93] @hd ?_
  refine wN ?_
  refine qae (eV cJ0) ?_
  simp only [Bool.false_eq_true, if_false]
  refine wN ?_
  refine qbp ?_
  (try simp only [thn])
  have := hQ j
  simpa [insR] using this
 | cons y ys ih =>
  intro zs j hj hn hQ
  rcases y with ⟨b, cs⟩
  simp only [List.length_cons] at hj hn
  obtain ⟨m, rfl⟩ : ∃ m, j = m + 1 := ⟨ys.length, by omega⟩
  have hm : ys.length = m := by omega
  have hlt : ((m + 1 : Nat) : Int) < (n : Int) := by omega
  have hlt2 : (m : Int) < (n : Int) := by omega
  have hd : decide (((m + 1 : Nat) : Int) > 0) = true := decide_eq_true (by omega)
  have hw3 : IntKind.wrap .i64 (((m + 1 : Nat) : Int) - 1) = (m : Int) := by rw [wrap64 (by omega) (by omega)]; omega
  rw [List.reverse_cons, List.append_assoc, List.singleton_append]
  have hlen : (qao (ys.reverse ++ V.mk b cs :: V.mk a bs :: zs)).length = n * 2 := by rw [qaE]; simp; omega
  have hlen1 : (qao (ys.reverse ++ V.mk b cs :: V.mk b cs :: zs)).length = n * 2 := by rw [qaE]; simp; omega
  have hm' : ys.reverse.length = m := by simpa using hm
  have e0 : ys.reverse ++ V.mk b cs :: V.mk a bs :: zs = (ys.reverse ++ [V.mk b cs]) ++ V.mk a bs :: zs := by simp
  have hm1 : (ys.reverse ++ [V.mk b cs]).length = m + 1 := by simp [hm]
  have h1 : List.take 2 (List.drop (((m + 1 : Nat) : Int).toNat * 2) (qao (ys.reverse ++ V.mk b cs :: V.mk a bs :: zs))) = [.int .i64 a, .list (qac bs)] := by rw [e0]; exact qdz _ a bs zs _ hm1
  have h2 := qdz ys.reverse b cs (V.mk a bs :: zs) m hm'
  have h3 : List.take (((m + 1 : Nat) : Int).toNat * 2) (qao (ys.reverse ++ V.mk b cs :: V.mk a bs :: zs)) = qao (ys.reverse ++ [V.mk b cs]) := by rw [e0]; exact qcN _ _ _ hm1
  have h4 : List.drop (((m + 1 : Nat) : Int).toNat * 2 + 2) (qao (ys.reverse ++ V.mk b cs :: V.mk a bs :: zs)) = qao zs := by rw [e0]; exact qcS _ zs _ _ hm1
  have h5 : qao (ys.reverse ++ [V.mk b cs]) ++ [T.int .i64 b, T.list (qac cs)] ++ qao zs = qao (ys.reverse ++ V.mk b cs :: V.mk b cs :: zs) := by simp [qa9, qao, V.n, V.kids]
  have h6 := qcN ys.reverse (V.mk b cs :: V.mk b cs :: zs) m hm'
  have h7 := qcS ys.reverse (V.mk b cs :: zs) (V.mk b cs) m hm'
  refine qaa qlF.eq_1 ?_
  refine wN ?_
  have fX := (cJ4 @hd @hw3 @h1 @h2)
  refine wRn 1400 [4,5,7,8,93] fX ?_
  refine rC fX ?_
  refine ⟨_, qml (V.mk a bs) (V.mk b cs) ha, rE fX ?_⟩
  refine wN ?_
  rcases hc : decide (cmpV (V.mk a bs) (V.mk b cs) < 0) with _ | _
  ·refine qae (eV cJ0) ?_
   simp only [Bool.false_eq_true, if_false]
   refine wN ?_
   refine qbp ?_
   (try simp only [thn])
   have := hQ (m + 1 : Nat)
   have hc' : ¬ cmpV (V.mk a bs) (V.mk b cs) < 0 := by simpa using hc
   simpa [insR, hc'] using this
  ·refine qae (eV cJ0) ?_
   simp only [if_true]
   refine wN ?_
   have hc' : cmpV (V.mk a bs) (V.mk b cs) < 0 := by simpa using hc
   have fX := (cJ8 @hw3 @h1 @h2 @h3 @h4 @h5 @h6 (cJ3 @h7 @hlen @hlen1))
   refine wR0 1500 [4,5,7,8] fX ?_
   refine wN ?_
   refine wR0 1600 [4,5,7,8] @hw3 ?_
   refine wN ?_
   have := ih (V.mk b cs :: zs) m hm (by simp; omega) (by simpa [insR, hc'] using hQ)
   simpa [qa9, qao, V.n, V.kids] using this
theorem qfZ (x : V) : ∀ ys : List V, (insR x ys).length = ys.length + 1
 | [] => rfl
 | y :: ys => by simp only [insR]; split <;> simp [qfZ x ys]
def qce (acc l : List V) : List V := l.foldl (fun acc x => insR x acc) acc
theorem qdw (acc l : List V) (x : V) : qce acc (x :: l) = qce (insR x acc) l := rfl
theorem qfs (N : Int) (s0 s1 : Slot) (n : Nat) (hn0 : n ≤ 1000000) (Q : IExit → (Nat → T) → Heap → Prop) : ∀ (rest acc : List V) (i : Nat), acc.length = i → acc.length + rest.length = n → (∀ v ∈ rest, v.fit) →
 (∀ (j : Int), Q (.exit 2) (ofL [(4, .ref 2 2 0), (5, .ref 102 2 0), (7, .int .i64 j), (73, .bool false)]) (hpL [(0, s0), (1, s1), (2, .live ⟨25, [.int .i64 0, .nil]⟩), (409, .live ⟨25, qao (qce acc rest).reverse⟩), (102, .live ⟨25, [.int .i64 N, .sl 409 (n * 2) 2 0 n]⟩)])) →
 WL Tryz.prog 117 qjA (ofL [(4, .ref 2 2 0), (5, .ref 102 2 0), (7, .int .i64 i)]) (hpL [(0, s0), (1, s1), (2, .live ⟨25, [.int .i64 0, .nil]⟩), (409, .live ⟨25, qao (acc.reverse ++ rest)⟩), (102, .live ⟨25, [.int .i64 N, .sl 409 (n * 2) 2 0 n]⟩)]) Q := by
 intro rest
 induction rest with
 | nil =>
  intro acc i hi hn hf hQ
  have hd : decide ((i : Int) < (n : Int)) = false := decide_eq_false (by simp at hn; omega)
  refine qaa qjA.eq_1 ?_
  refine wN ?_
  refine wR0 1200 [4,5,7,73] @hd ?_
  refine wN ?_
  refine qae (eV cJ0) ?_
  simp only [Bool.false_eq_true, if_false]
  refine wN ?_
  refine qbp ?_
  (try simp only [thn])
  have := hQ i
  simpa [qce] using this
 | cons v rest ih =>
  intro acc i hi hn hf hQ
  rcases v with ⟨a, bs⟩
  simp only [List.length_cons] at hn
  have hd : decide ((i : Int) < (n : Int)) = true := decide_eq_true (by omega)
  have hw : IntKind.wrap .i64 ((i : Int) + 1) = (i : Int) + 1 := wrap64 (by omega) (by omega)
  refine qaa qjA.eq_1 ?_
  refine wN ?_
  refine wR0 1200 [4,5,7,73] @hd ?_
  refine wN ?_
  refine qae (eV cJ0) ?_
  simp only [if_true]
  refine wN ?_
  refine wR0 1300 [4,5,7,8] cJ0 ?_
  refine wN ?_
  refine qbF ?_
  refine qpC N s0 s1 n hn0 i a bs (hf _ (List.mem_cons_self ..)) _ acc rest i hi (by omega) ?_
  intro j
  simp only [inB, thn, if_true]
  refine wR0 1700 [4,5,7] @hw ?_
  refine wN ?_
  have := ih (insR (V.mk a bs) acc) (i + 1) (by rw [qfZ]; omega) (by rw [qfZ]; omega) (fun v hv => hf v (List.mem_cons_of_mem _ hv)) (by simpa [qdw] using hQ)
  simpa using this
theorem ql8 (N : Int) (ks : List V) (hv : (V.mk N ks).fit) : TC Tryz.prog 37 [.agg [.int .i64 N, .list (qac ks)]] (hp []) (.agg [.int .i64 N, rowT 409 ks]) ((hp []).upd (rowH 409 25 ks)) := by
 have h := qrA N ks hv
 cases ks with
 | nil => exact h
 | cons k ks =>
  have e : hpL (rowH 409 25 (k :: ks)) = (hp []).upd (rowH 409 25 (k :: ks)) := (qbc 409 _ [] []).symm
  rw [← e]; exact h
theorem qos {N : Int} {ks ls : List V} (h : (V.mk N ks).fit) (hl : ls.length ≤ ks.length) (hf : ∀ v ∈ ls, v.fit) : (V.mk N ls).fit := by
 have := V.fit_kids h
 simp only [V.kids] at this
 simp only [V.fit]
 exact ⟨by omega, qdv hf⟩
theorem qmr (x : V) : ∀ (ys : List V), ∀ v ∈ insR x ys, v = x ∨ v ∈ ys
 | [], v, hv => by simp only [insR, List.mem_singleton] at hv; exact .inl hv
 | y :: ys, v, hv => by
  simp only [insR] at hv
  split at hv
  ·rcases List.mem_cons.1 hv with rfl | hv
   ·exact .inr (List.mem_cons_self ..)
   ·rcases qmr x ys v hv with h | h
    ·exact .inl h
    ·exact .inr (List.mem_cons_of_mem _ h)
  ·rcases List.mem_cons.1 hv with rfl | hv
   ·exact .inl rfl
   ·exact .inr hv
theorem qhv : ∀ (l acc : List V), ∀ v ∈ qce acc l, v ∈ l ∨ v ∈ acc
 | [], acc, v, hv => .inr hv
 | x :: l, acc, v, hv => by
  rcases qhv l _ v (by simpa [qce] using hv) with h | h
  ·exact .inl (List.mem_cons_of_mem _ h)
  ·rcases qmr x acc v h with rfl | h
   ·exact .inl (List.mem_cons_self ..)
   ·exact .inr h
theorem qb5 : ∀ (l acc : List V), (qce acc l).length = l.length + acc.length
 | [], acc => by simp [qce]
 | x :: l, acc => by rw [qdw, qb5 l, qfZ]; simp; omega
theorem qdX : ∀ (ps : List Ty) (ks : List V), (qcW ps ks).length = ks.length
 | p :: ps, v :: vs => by simp [qcW, qdX ps vs]
 | [], vs => by simp [qcW]
 | _ :: _, [] => by simp [qcW]
mutual
theorem qeZ : ∀ (t : Ty) (v : V), v.fit → (qch t v).fit
 | .mk k s rs ps, .mk n ks, hv => by
  have hv' := V.fit_kids hv
  simp only [V.kids] at hv'
  simp only [qch, V.n, V.kids]
  split
  ·exact qos hv (by rw [qdX]; omega) (qhi ps ks hv'.2)
  split
  ·exact qos hv (qdW ps ks hv'.2).1 (qdW ps ks hv'.2).2
  split
  ·have h := qdW ps ks hv'.2
   refine qos hv ?_ fun v hv => ?_
   ·show (qce [] (qes ps ks)).reverse.length ≤ _
    rw [List.length_reverse, qb5]; simpa using h.1
   ·rcases qhv _ _ v (by simpa [qce] using hv) with h' | h'
    ·exact h.2 v h'
    ·cases h'
  ·exact hv
theorem qhi : ∀ (ps : List Ty) (ks : List V), (∀ v ∈ ks, v.fit) → ∀ v ∈ qcW ps ks, v.fit
 | p :: ps, u :: vs, h, v, hv => by
  simp only [qcW] at hv
  rcases List.mem_cons.1 hv with rfl | hv
  ·exact qeZ p u (h u (List.mem_cons_self ..))
  ·exact qhi ps vs (fun v hv => h v (List.mem_cons_of_mem _ hv)) v hv
 | [], vs, h, v, hv => h v (by simpa [qcW] using hv)
 | _ :: _, [], h, v, hv => by simp [qcW] at hv
theorem qdW : ∀ (ps : List Ty) (ks : List V), (∀ v ∈ ks, v.fit) → (qes ps ks).length ≤ ks.length ∧ ∀ v ∈ qes ps ks, v.fit
 | p :: _, vs, h => ⟨by simp [qes], fun v hv => by
  simp only [qes, List.mem_map] at hv
  obtain ⟨u, hu, rfl⟩ := hv
  exact qeZ p u (h u hu)⟩
 | [], vs, h => ⟨by simp [qes], fun v hv => h v (by simpa [qes] using hv)⟩
end
end
end Go.Proofs.YtikhhnopcjgjpaaGreat
