/- Contracts of functions of the program, for all arguments that they name. -/
import Derived.Test.YtikhhnopcjgjpaaGreatK33
namespace Go.Proofs.YtikhhnopcjgjpaaGreat
set_option linter.unusedVariables false
section
open Go.RowKit
set_option maxHeartbeats 2000000
def qiJ (id : Nat) (done : List Rl) : T := match done with
 | [] => .nil
 | d :: ds => .sl id ((ds.length + 1) * 14) 14 0 (ds.length + 1)
def qiw (id : Nat) (done : List Rl) : List (Nat × Slot) := match done with
 | [] => []
 | d :: ds => [(id, sW (d :: ds))]
abbrev sM0 : Slot := .live ⟨34, [.int .i64 0, .nil, .nil, .nil, .nil, .int .i64 0, .int .i64 0, .nil, .int .i64 0, .nil]⟩
def qdN (r : Rl) (j : Nat) : Rl := { r with name := nm2 (114, UInt8.ofNat (48 + j)) }
theorem nm_r (j : Nat) (hj : j ≤ 9) : (⟨#[114]⟩ : ByteArray) ++ qe5 [IntKind.wrap .u8 (48 + (j : Int))] = nm2 (114, UInt8.ofNat (48 + j)) := qo0 114 j hj
def qlD (m : Md) : List Nat → List Rl → Prop := All2 fun j r => ∃ r0, qmU m r0 ∧ r = qdN r0 j
theorem qhU (m : Md) (hm : Tm m) (hst : m.start = v0) : ∀ (k : Nat) (done : List Rl) (d : Dk), k ≤ 4 → done.length + k ≤ 4 → d.ok →
 ∃ (rs : List Rl) (d' : Dk), qlD m ((List.range' 1 k).reverse) rs ∧ d'.ok ∧ ∀ Q : IExit → (Nat → T) → Heap → Prop,
  (∀ i : Int, Q (.exit 1) (ofL [(0, dkR), (1, .int .i64 5), (4, .ref 0 10 0), (5, .ref 306 10 0), (6, .int .i64 i), (77, .bool false)]) (hpL ([(99999, dkB d'), (0, sM0), (306, sMx m (qiJ 2604 (done ++ rs)))] ++ qiw 2604 (done ++ rs)))) →
  WL Tryz.prog 103 qkm (ofL [(0, dkR), (1, .int .i64 5), (4, .ref 0 10 0), (5, .ref 306 10 0), (6, .int .i64 k)]) (hpL ([(99999, dkB d), (0, sM0), (306, sMx m (qiJ 2604 done))] ++ qiw 2604 done)) Q := by
 have h1 := hm.n1
 have h2 := hm.n2
 have h3 := hm.age
 intro k
 induction k with
 | zero =>
  intro done d hk4 hk hd
  refine ⟨[], d, .nil, hd, fun Q hQ => ?_⟩
  have hb : decide (((0 : Nat) : Int) > 0) = false := rfl
  rw [List.append_nil] at hQ
  simp only [List.cons_append, List.nil_append] at hQ ⊢
  have fX := @hb
  refine qaa qkm.eq_1 ?_
  refine wR0 2300 [0,1,4,5,6,77] fX ?_
  refine wF @hb ?_
  refine wX ?_
  refine wN ?_
  exact hQ _
 | succ k ih =>
  intro done d hk4 hk hd
  have hb : decide (((k + 1 : Nat) : Int) > 0) = true := decide_eq_true (by omega)
  have hw : IntKind.wrap .i64 (((k + 1 : Nat) : Int) - 1) = (k : Int) := by rw [wrap64 (by omega) (by omega)]; omega
  have hw48 : IntKind.wrap .i64 (48 + ((k + 1 : Nat) : Int)) = 48 + ((k + 1 : Nat) : Int) := wrap64 (by omega) (by omega)
  have hnb := nm_r (k + 1) (by omega)
  have hsz : (⟨#[114]⟩ : ByteArray).size = 1 := rfl
  have hbz : (qe5 [IntKind.wrap .u8 (48 + ((k + 1 : Nat) : Int))]).size = 1 := rfl
  have h11 : 1 + 1 ≤ 1000000 := by omega
  cases done with
  | nil =>
   obtain ⟨r0, d1, hr, hok, hrl⟩ := rule5a m d hd hm.kind (by omega) (by omega) (by omega)
   obtain ⟨rs, d', a1, a2, hW⟩ := ih [qdN r0 (k + 1)] d1 (by omega) (by simp; omega) hok
   refine ⟨qdN r0 (k + 1) :: rs, d', ?_, a2, fun Q hQ => ?_⟩
   ·rw [List.range'_concat, List.reverse_append]
    simp only [List.reverse_cons, List.reverse_nil, List.nil_append, List.cons_append, Nat.one_mul]
    rw [Nat.add_comm 1 k]
    exact .cons ⟨r0, hr, rfl⟩ a1
   have hQ' := hW Q (by simpa using hQ)
   simp only [qiJ, qiw, List.append_nil]
   have fX := (cJ8 @hb @hw @hw48 @qaz @binS.eq_1 @binS.eq_2 @binS.eq_3 (cJ8 @req.eq_34 @req.eq_35 @req.eq_36 @req.eq_37 @Req.run.eq_1 @Req.run.eq_8 @Req.run.eq_9 (cJ7 @Req.run.eq_10 @Req.run.eq_11 @qbH.eq_1 @qbH.eq_2 @hsz @hbz @hnb)))
   refine qaa qkm.eq_1 ?_
   refine W_gc ?_
   refine wR0 2300 [0,1,4,5,6,77] fX ?_
   refine wT fX ?_
   refine wRn 2400 [0,1,4,5,6,7] (cJ4 @mdX.eq_1 @qbs.eq_1 @rlC.eq_1 fX) ?_
   refine rU [(99999, dkB d)] [(99999, dkB d1)] (cJ4 @mdX.eq_1 @qbs.eq_1 @rlC.eq_1 fX) ?_
   refine ⟨_, hrl.full1, rE (cJ4 @mdX.eq_1 @qbs.eq_1 @rlC.eq_1 fX) ?_⟩
   refine wR0 2500 [0,1,4,5,6,7] fX ?_
   refine wR0 2600 [0,1,4,5,6] fX ?_
   refine wR0 2700 [0,1,4,5,6] fX ?_
   refine wN ?_
   refine qa1 [99999, 0, 306, 2604] (by simp [inL]) (by simp [inL, T.cl]) (by simp [qap, inL, Slot.cl, T.cl, clL, mdX, qat]) ?_
   exact hQ'
  | cons z l =>
   obtain ⟨r0, d1, hr, hok, hrl⟩ := rule5b m z l d hd hm.kind (by omega) (by omega) (by omega)
   obtain ⟨rs, d', a1, a2, hW⟩ := ih (z :: (l ++ [qdN r0 (k + 1)])) d1 (by omega) (by simp at hk ⊢; omega) hok
   refine ⟨qdN r0 (k + 1) :: rs, d', ?_, a2, fun Q hQ => ?_⟩
   ·rw [List.range'_concat, List.reverse_append]
    simp only [List.reverse_cons, List.reverse_nil, List.nil_append, List.cons_append, Nat.one_mul]
    rw [Nat.add_comm 1 k]
    exact .cons ⟨r0, hr, rfl⟩ a1
   have hlb : l.length + 1 ≤ 4 := by simp at hk; omega
   have hQ' := hW Q (by simpa using hQ)
   simp only [qiJ, qiw, List.cons_append, List.nil_append]
   have fX := (cJ8 @hb @hw @hw48 @qaz @binS.eq_1 @binS.eq_2 @binS.eq_3 (cJ8 @req.eq_34 @req.eq_35 @req.eq_36 @req.eq_37 @Req.run.eq_1 @Req.run.eq_8 @Req.run.eq_9 (cJ8 @Req.run.eq_10 @Req.run.eq_11 @qbH.eq_1 @qbH.eq_2 @hsz @hbz @hnb @qhk)))
   refine qaa qkm.eq_1 ?_
   refine W_gc ?_
   refine wR0 2300 [0,1,4,5,6,77] fX ?_
   refine wT fX ?_
   refine wRn 2400 [0,1,4,5,6,7] (cJ4 @mdX.eq_1 @qbs.eq_1 @rlC.eq_1 fX) ?_
   refine rU [(99999, dkB d), (2604, sW (z :: l))] [(99999, dkB d1), (2604, sW (z :: l))] (cJ4 @mdX.eq_1 @qbs.eq_1 @rlC.eq_1 fX) ?_
   refine ⟨_, hrl.fullL (by simp) (by simp [qbc, qaA, qaO]), rE (cJ4 @mdX.eq_1 @qbs.eq_1 @rlC.eq_1 fX) ?_⟩
   refine wR0 2500 [0,1,4,5,6,7] fX ?_
   refine wR0 2600 [0,1,4,5,6] fX ?_
   refine wR0 2700 [0,1,4,5,6] fX ?_
   refine wN ?_
   refine qa1 [99999, 0, 306, 2604] (by simp [inL]) (by simp [inL, T.cl]) (by simp [qap, inL, Slot.cl, T.cl, clL, qaw, mdX, qat]) ?_
   have hs : qdG (z :: (l ++ [qdN r0 (k + 1)])) = qdG (z :: l) ++ rlC (qdN r0 (k + 1)) := qmZ (z :: l) _
   have hm2 : (l.length + 1 + 1) * 14 = (l.length + 1) * 14 + 14 := (by omega)
   simp only [List.cons_append, List.nil_append, qiJ, qiw, sW, hs, List.length_append, List.length_cons, List.length_nil, Nat.zero_add, hm2] at hQ'
   exact hQ'
theorem qgJ {m : Md} : ∀ {js : List Nat} {rs : List Rl}, qlD m js rs → rs.map (·.name) = js.map (fun j => nm2 (114, UInt8.ofNat (48 + j))) ∧ rs.length = js.length
 | [], [], .nil => ⟨rfl, rfl⟩
 | j :: js, r :: rs, .cons h t => by
  obtain ⟨r0, _, rfl⟩ := h
  obtain ⟨e1, e2⟩ := qgJ t
  exact ⟨by rw [List.map_cons, List.map_cons, e1]; rfl, by simp [e2]⟩
theorem qgz {m : Md} : ∀ {js : List Nat} {rs : List Rl}, qlD m js rs → ∀ r ∈ rs, ∃ r0 j, qmU m r0 ∧ r = qdN r0 j
 | [], [], .nil, r, h => by cases h
 | j :: js, r :: rs, .cons h t, x, hx => by
  rcases List.mem_cons.1 hx with rfl | hx
  ·obtain ⟨r0, h1, h2⟩ := h
   exact ⟨r0, j, h1, h2⟩
  ·exact qgz t x hx
structure Gmd (m : Md) : Prop where
 tm : Tm m
 fit : m.fit
 rules : m.rules.length ≤ 4
 check : qaI m = 0
theorem qrg (c : UInt8) (n : Nat) : ∀ s ∈ qaD c n, s.size ≤ 1000000 := fun s hs => by
 obtain ⟨x, _, rfl⟩ := List.mem_map.1 hs
 rw [qiM]; omega
theorem qoH {m : Md} {r : Rl} {j : Nat} (h : qmU m r) : (qdN r j).fit := by
 obtain ⟨f, t, ks, ms, rfl, _, _, h1, _, h2⟩ := h
 have hm : ms.length ≤ 1 := by rcases h2 with rfl | ⟨p, rfl, _⟩ <;> simp
 exact ⟨by simp [qdN], by simp [qdN], by simp [qdN], by simp [qdN], by simp [qdN], by simp only [qdN]; omega, by simp only [qdN]; omega, by simp only [qdN]; rw [qiM]; omega⟩
theorem gm_of {m : Md} (hm : Tm m) (k : Nat) (hk : k ≤ 4) {rs : List Rl} (hr : qlD m ((List.range' 1 k).reverse) rs) {v : V} (hv : v.fit) (hvv : qa3 (qaF m) v = true) : Gmd { m with rules := rs, start := v } := by
 obtain ⟨e1, e2⟩ := qgJ hr
 have hlen : rs.length = k := by rw [e2]; simp
 have hn1 := hm.n1
 have hn2 := hm.n2
 have ht : Tm { m with rules := rs, start := v } := ⟨hm.kind, hm.n1, hm.n2, hm.age, hm.letters, hm.ranks, hm.levels, hm.sts, hm.pls⟩
 refine ⟨ht, ?_, by simp only; omega, ?_⟩
 ·refine ⟨by simp only; omega, by simp only; omega, by simp [hm.letters], by simp [hm.ranks], by simp only; omega, fun r hr' => ?_, hv, fun s hs => ?_, (by show kindOk m.kind; rw [hm.kind]; unfold kindOk; first | trivial | omega)⟩
  ·obtain ⟨r0, j, h1, rfl⟩ := qgz hr r hr'
   exact qoH h1
  ·simp only [hm.letters, List.append_nil] at hs
   rw [hm.sts, hm.pls] at hs
   rcases List.mem_append.1 hs with hs | hs
   ·exact qrg _ _ s hs
   ·exact qrg _ _ s hs
 ·have := ht.check (by simp only; omega) (fun r hr' => by
   obtain ⟨r0, j, h1, rfl⟩ := qgz hr r hr'
   exact ht.right h1 _) ((List.range' 1 k).reverse) e1 (fun j hj => by simp at hj; omega) (List.pairwise_reverse.2 (List.Pairwise.imp (fun h => Ne.symm h) (List.nodup_range' (s := 1) (n := k) (step := 1))))
  rw [this]
  exact if_pos hvv
set_option maxHeartbeats 20000000 in
theorem qge (d : Dk) (hd : d.ok) : ∃ (m : Md) (d' : Dk), Gmd m ∧ m.kind = 5 ∧ d'.ok ∧ TC Tryz.prog 12 [dkR, .int .i64 5] (hpL [(99999, dkB d)]) (qau m) (hpL [(99999, dkB d')]) := by
 obtain ⟨x1, d1, hx1b, hok1, hx1⟩ := qaS d 3 hd
 obtain ⟨n1, rfl⟩ := Int.eq_ofNat_of_zero_le hx1b.1
 have hb1 := hx1b.2.2 (by omega)
 obtain ⟨x2, d2, hx2b, hok2, hx2⟩ := qaS d1 3 hok1
 obtain ⟨n2, rfl⟩ := Int.eq_ofNat_of_zero_le hx2b.1
 have hb2 := hx2b.2.2 (by omega)
 obtain ⟨a, d3, hx3b, hok3, hx3⟩ := qaS d2 2 hok2
 have hb3 := hx3b.2.2 (by omega)
 have hb30 := hx3b.1
 obtain ⟨b, d4, hok4, hx4⟩ := qfJ d3 6 hok3
 obtain ⟨x5, d5, hx5b, hok5, hx5⟩ := qaS d4 5 hok4
 obtain ⟨k, rfl⟩ := Int.eq_ofNat_of_zero_le hx5b.1
 have hb5 := hx5b.2.2 (by omega)
 have hn1 := qmj 113 (1 + n1) (by omega)
 have hn2 := qmj 112 (1 + n2) (by omega)
 have hw1 : IntKind.wrap .i64 (1 + (n1 : Int)) = ((1 + n1 : Nat) : Int) := by rw [wrap64 (by omega) (by omega)]; omega
 have hw2 : IntKind.wrap .i64 (1 + (n2 : Int)) = ((1 + n2 : Nat) : Int) := by rw [wrap64 (by omega) (by omega)]; omega
 have b50 : ((5 : Int) == 0) = false := rfl
 have b51 : ((5 : Int) == 1) = false := rfl
 have b52 : ((5 : Int) == 2) = false := rfl
 have b53 : ((5 : Int) == 3) = false := rfl
 have b54 : ((5 : Int) == 4) = false := rfl
 have b55 : ((5 : Int) == 5) = true := rfl
 have b56 : ((5 : Int) == 6) = false := rfl
 have b5n : ((5 : Int) != 6) = true := rfl
 rcases b with _ | _
 ·have hm0 : Tm (⟨5, qaD 113 (1 + n1), qaD 112 (1 + n2), [], [], 0, a, [], v0⟩ : Md) := ⟨rfl, by simp [qbT]; omega, by simp [qbT]; omega, by simp only; omega, rfl, rfl, rfl, by simp [qbT], by simp [qbT]⟩
  obtain ⟨rs, d6, hdl, hok6, hW⟩ := qhU (⟨5, qaD 113 (1 + n1), qaD 112 (1 + n2), [], [], 0, a, [], v0⟩ : Md) hm0 rfl k [] d5 (by omega) (by simp; omega) hok5
  have hgm := fun (v : V) hv hvv => gm_of hm0 k (by omega) hdl (v := v) hv hvv
  obtain ⟨_, hgf, _, _⟩ := hgm (qbJ (⟨5, qaD 113 (1 + n1), qaD 112 (1 + n2), [], [], 0, a, [], v0⟩ : Md)) (by simp [qbJ, qdQ, qeJ, V.fit, fitL]) hm0.least
  have hmf : ({ (⟨5, qaD 113 (1 + n1), qaD 112 (1 + n2), [], [], 0, a, [], v0⟩ : Md) with rules := rs, start := v0 } : Md).fit := ⟨hgf.states, hgf.places, hgf.letters, hgf.ranks, hgf.rules, hgf.rule, by simp [v0, V.fit, fitL], hgf.names, hgf.kd⟩
  have htf : qcG (cfM { (⟨5, qaD 113 (1 + n1), qaD 112 (1 + n2), [], [], 0, a, [], v0⟩ : Md) with rules := rs, start := v0 }) = qaF (⟨5, qaD 113 (1 + n1), qaD 112 (1 + n2), [], [], 0, a, [], v0⟩ : Md) := Tm.typeF (m := cfM { (⟨5, qaD 113 (1 + n1), qaD 112 (1 + n2), [], [], 0, a, [], v0⟩ : Md) with rules := rs, start := v0 }) ⟨hm0.kind, hm0.n1, hm0.n2, hm0.age, hm0.letters, hm0.ranks, hm0.levels, hm0.sts, hm0.pls⟩
  have h1 := hm0.n1
  have h2 := hm0.n2
  have h3 := hm0.age
  obtain ⟨v, d7, hvf, hvv, hok7, hcf⟩ := qgK { (⟨5, qaD 113 (1 + n1), qaD 112 (1 + n2), [], [], 0, a, [], v0⟩ : Md) with rules := rs, start := v0 } d6 hmf (by rw [htf]; exact qdK _ hm0.kind (by omega) (by omega) (by omega)) (by rw [htf]; exact typedM_fit' (m := (⟨5, qaD 113 (1 + n1), qaD 112 (1 + n2), [], [], 0, a, [], v0⟩ : Md)) ⟨by omega, by omega, by simp, by simp, by simp, by simp, by simp [v0, V.fit, fitL], hmf.names, hmf.kd⟩) hok6
  rw [htf] at hvv
  refine ⟨{ (⟨5, qaD 113 (1 + n1), qaD 112 (1 + n2), [], [], 0, a, [], v0⟩ : Md) with rules := rs, start := v }, d7, hgm v hvf (hvv (qf8 _ hm0.kind)), rfl, hok7, ?_⟩
  rcases v with ⟨va, vks⟩
  simp only [encV] at hcf
  rcases rs with _ | ⟨q, rs⟩
  ·have fX := (cJ8 @hw1 @hw2 @b50 @b52 @b53 @b51 @b56 (cJ3 @b55 @b54 @b5n))
   refine qbI fn12 (by simp) ?_
   unfold i12
   simp only [argL, dkR]
   refine wR0 0 [0,1,4] fX ?_
   refine wR0 100 [0,1,4,9] fX ?_
   refine wF fX ?_
   refine wRn 300 [0,1,4,5] fX ?_
   refine rU [(99999, dkB d)] [(99999, dkB d1)] fX ?_
   refine ⟨_, hx1.full1, rN fX ?_⟩
   refine rC fX ?_
   refine ⟨_, hn1, rE fX ?_⟩
   refine wR0 400 [0,1,4,5,19] fX ?_
   refine wR0 500 [0,1,4,5,19,20] fX ?_
   refine wF fX ?_
   refine wR0 600 [0,1,4,5,19,20] fX ?_
   refine wF fX ?_
   refine wR0 800 [0,1,4,5,19,28] fX ?_
   refine wF fX ?_
   refine wR0 900 [0,1,4,5,19,28] fX ?_
   refine wF fX ?_
   refine wR0 1000 [0,1,4,5,28] fX ?_
   refine wT fX ?_
   refine wRn 1100 [0,1,4,5] fX ?_
   refine rU [(99999, dkB d1)] [(99999, dkB d2)] fX ?_
   refine ⟨_, hx2.full1, rN fX ?_⟩
   refine rC fX ?_
   refine ⟨_, hn2, rE fX ?_⟩
   refine wR0 1200 [0,1,4,5,46] fX ?_
   refine wF fX ?_
   refine wR0 1400 [0,1,4,5,53] fX ?_
   refine wF fX ?_
   refine wR0 1600 [0,1,4,5,61] fX ?_
   refine wF fX ?_
   refine wR0 1800 [0,1,4,5,67] fX ?_
   refine wT fX ?_
   refine wRn 1900 [0,1,4,5] fX ?_
   refine rU [(99999, dkB d2)] [(99999, dkB d3)] fX ?_
   refine ⟨_, hx3.full1, rE fX ?_⟩
   refine wRn 2000 [0,1,4,5,72] fX ?_
   refine rU [(99999, dkB d3)] [(99999, dkB d4)] fX ?_
   refine ⟨_, hx4.full1, rE fX ?_⟩
   refine wF fX ?_
   refine wRn 2200 [0,1,4,5,6] fX ?_
   refine rU [(99999, dkB d4)] [(99999, dkB d5)] fX ?_
   refine ⟨_, hx5.full1, rE fX ?_⟩
   refine wL ?_
   refine qa4 [0, 1, 4, 5, 6] ?_
   refine hW _ ?_
   ·intro i
    refine wN ?_
    simp only [qiJ, qiw, List.append_nil]
    refine qcx (l' := [(0, dkR), (1, .int .i64 5), (4, .ref 0 10 0), (5, .ref 306 10 0), (6, .undef), (77, .undef)]) (hl' := [(99999, dkB d6), (0, sM0), (306, sM { (⟨5, qaD 113 (1 + n1), qaD 112 (1 + n2), [], [], 0, a, [], v0⟩ : Md) with rules := [], start := v0 })]) [99999, 0, 306] (.cons (.same rfl) (.cons (.same rfl) (.cons (.same rfl) (.cons (.same rfl) (.drop (.drop .nil)))))) (.keep rfl (qaJ _) (.keep rfl (.liveA rfl rfl) (.keep rfl (.liveL (.cons (.same rfl) (.cons (.same (qcm _ _)) (.cons (.same (qcm _ _)) (.cons .nil (.cons .nil (.cons (.same rfl) (.cons (.same rfl) (.cons .nil (.cons (.same rfl) (.cons .nil .nil)))))))))) rfl) .nil))) ?_
    refine wR0 2800 [0,4,5,97] fX ?_
    refine wT fX ?_
    refine wRn 2900 [4,5] (cJ2 @mdC.eq_1 fX) ?_
    refine rU [(99999, dkB d6)] [(99999, dkB d7)] (cJ2 @mdC.eq_1 fX) ?_
    refine ⟨_, hcf.full1, rE (cJ2 @mdC.eq_1 fX) ?_⟩
    refine wR0 3000 [4] (cJ2 @mdC.eq_1 fX) ?_
    refine wE ?_
    refine wN ?_
    exact ⟨by simp, _, _, _, rfl, rfl, .same (by simp [mkEl, esz, T.cl, clL, qam, qat]), .keep rfl (qaJ _) (.dead rfl (fun h => by cases h) (.dead rfl (fun h => by cases h) .nil)), rfl⟩
  ·have fX := (cJ8 @hw1 @hw2 @b50 @b52 @b53 @b51 @b56 (cJ3 @b55 @b54 @b5n))
   refine qbI fn12 (by simp) ?_
   unfold i12
   simp only [argL, dkR]
   refine wR0 0 [0,1,4] fX ?_
   refine wR0 100 [0,1,4,9] fX ?_
   refine wF fX ?_
   refine wRn 300 [0,1,4,5] fX ?_
   refine rU [(99999, dkB d)] [(99999, dkB d1)] fX ?_
   refine ⟨_, hx1.full1, rN fX ?_⟩
   refine rC fX ?_
   refine ⟨_, hn1, rE fX ?_⟩
   refine wR0 400 [0,1,4,5,19] fX ?_
   refine wR0 500 [0,1,4,5,19,20] fX ?_
   refine wF fX ?_
   refine wR0 600 [0,1,4,5,19,20] fX ?_
   refine wF fX ?_
   refine wR0 800 [0,1,4,5,19,28] fX ?_
   refine wF fX ?_
   refine wR0 900 [0,1,4,5,19,28] fX ?_
   refine wF fX ?_
   refine wR0 1000 [0,1,4,5,28] fX ?_
   refine wT fX ?_
   refine wRn 1100 [0,1,4,5] fX ?_
   refine rU [(99999, dkB d1)] [(99999, dkB d2)] fX ?_
   refine ⟨_, hx2.full1, rN fX ?_⟩
   refine rC fX ?_
   refine ⟨_, hn2, rE fX ?_⟩
   refine wR0 1200 [0,1,4,5,46] fX ?_
   refine wF fX ?_
   refine wR0 1400 [0,1,4,5,53] fX ?_
   refine wF fX ?_
   refine wR0 1600 [0,1,4,5,61] fX ?_
   refine wF fX ?_
   refine wR0 1800 [0,1,4,5,67] fX ?_
   refine wT fX ?_
   refine wRn 1900 [0,1,4,5] fX ?_
   refine rU [(99999, dkB d2)] [(99999, dkB d3)] fX ?_
   refine ⟨_, hx3.full1, rE fX ?_⟩
   refine wRn 2000 [0,1,4,5,72] fX ?_
   refine rU [(99999, dkB d3)] [(99999, dkB d4)] fX ?_
   refine ⟨_, hx4.full1, rE fX ?_⟩
   refine wF fX ?_
   refine wRn 2200 [0,1,4,5,6] fX ?_
   refine rU [(99999, dkB d4)] [(99999, dkB d5)] fX ?_
   refine ⟨_, hx5.full1, rE fX ?_⟩
   refine wL ?_
   refine qa4 [0, 1, 4, 5, 6] ?_
   refine hW _ ?_
   ·intro i
    refine wN ?_
    simp only [qiJ, qiw, List.nil_append, List.cons_append]
    refine qcx (l' := [(0, dkR), (1, .int .i64 5), (4, .ref 0 10 0), (5, .ref 306 10 0), (6, .undef), (77, .undef)]) (hl' := [(99999, dkB d6), (0, sM0), (306, sM { (⟨5, qaD 113 (1 + n1), qaD 112 (1 + n2), [], [], 0, a, [], v0⟩ : Md) with rules := q :: rs, start := v0 }), (2604, .dead)]) [99999, 0, 306] (.cons (.same rfl) (.cons (.same rfl) (.cons (.same rfl) (.cons (.same rfl) (.drop (.drop .nil)))))) (.keep rfl (qaJ _) (.keep rfl (.liveA rfl rfl) (.keep rfl (.liveL (.cons (.same rfl) (.cons (.same (qcm _ _)) (.cons (.same (qcm _ _)) (.cons .nil (.cons .nil (.cons (.same rfl) (.cons (.same rfl) (.cons (qnA (q :: rs) rfl rfl rfl rfl) (.cons (.same rfl) (.cons .nil .nil)))))))))) rfl) (.dead rfl (fun h => by cases h) .nil)))) ?_
    refine wR0 2800 [0,4,5,97] fX ?_
    refine wT fX ?_
    refine wRn 2900 [4,5] (cJ2 @mdC.eq_1 fX) ?_
    refine rU [(99999, dkB d6)] [(99999, dkB d7)] (cJ2 @mdC.eq_1 fX) ?_
    refine ⟨_, hcf.full1, rE (cJ2 @mdC.eq_1 fX) ?_⟩
    refine wR0 3000 [4] (cJ2 @mdC.eq_1 fX) ?_
    refine wE ?_
    refine wN ?_
    exact ⟨by simp, _, _, _, rfl, rfl, .same (by simp [mkEl, esz, T.cl, clL, qam, qat]), .keep rfl (qaJ _) (.dead rfl (fun h => by cases h) (.dead rfl (fun h => by cases h) (.dead rfl (fun h => by cases h) .nil))), rfl⟩
 ·have hm0 : Tm (⟨5, qaD 113 (1 + n1), qaD 112 (1 + n2), [], [], 0, 2, [], v0⟩ : Md) := ⟨rfl, by simp [qbT]; omega, by simp [qbT]; omega, by simp only; omega, rfl, rfl, rfl, by simp [qbT], by simp [qbT]⟩
  obtain ⟨rs, d6, hdl, hok6, hW⟩ := qhU (⟨5, qaD 113 (1 + n1), qaD 112 (1 + n2), [], [], 0, 2, [], v0⟩ : Md) hm0 rfl k [] d5 (by omega) (by simp; omega) hok5
  have hgm := fun (v : V) hv hvv => gm_of hm0 k (by omega) hdl (v := v) hv hvv
  obtain ⟨_, hgf, _, _⟩ := hgm (qbJ (⟨5, qaD 113 (1 + n1), qaD 112 (1 + n2), [], [], 0, 2, [], v0⟩ : Md)) (by simp [qbJ, qdQ, qeJ, V.fit, fitL]) hm0.least
  have hmf : ({ (⟨5, qaD 113 (1 + n1), qaD 112 (1 + n2), [], [], 0, 2, [], v0⟩ : Md) with rules := rs, start := v0 } : Md).fit := ⟨hgf.states, hgf.places, hgf.letters, hgf.ranks, hgf.rules, hgf.rule, by simp [v0, V.fit, fitL], hgf.names, hgf.kd⟩
  have htf : qcG (cfM { (⟨5, qaD 113 (1 + n1), qaD 112 (1 + n2), [], [], 0, 2, [], v0⟩ : Md) with rules := rs, start := v0 }) = qaF (⟨5, qaD 113 (1 + n1), qaD 112 (1 + n2), [], [], 0, 2, [], v0⟩ : Md) := Tm.typeF (m := cfM { (⟨5, qaD 113 (1 + n1), qaD 112 (1 + n2), [], [], 0, 2, [], v0⟩ : Md) with rules := rs, start := v0 }) ⟨hm0.kind, hm0.n1, hm0.n2, hm0.age, hm0.letters, hm0.ranks, hm0.levels, hm0.sts, hm0.pls⟩
  have h1 := hm0.n1
  have h2 := hm0.n2
  have h3 := hm0.age
  obtain ⟨v, d7, hvf, hvv, hok7, hcf⟩ := qgK { (⟨5, qaD 113 (1 + n1), qaD 112 (1 + n2), [], [], 0, 2, [], v0⟩ : Md) with rules := rs, start := v0 } d6 hmf (by rw [htf]; exact qdK _ hm0.kind (by omega) (by omega) (by omega)) (by rw [htf]; exact typedM_fit' (m := (⟨5, qaD 113 (1 + n1), qaD 112 (1 + n2), [], [], 0, 2, [], v0⟩ : Md)) ⟨by omega, by omega, by simp, by simp, by simp, by simp, by simp [v0, V.fit, fitL], hmf.names, hmf.kd⟩) hok6
  rw [htf] at hvv
  refine ⟨{ (⟨5, qaD 113 (1 + n1), qaD 112 (1 + n2), [], [], 0, 2, [], v0⟩ : Md) with rules := rs, start := v }, d7, hgm v hvf (hvv (qf8 _ hm0.kind)), rfl, hok7, ?_⟩
  rcases v with ⟨va, vks⟩
  simp only [encV] at hcf
  rcases rs with _ | ⟨q, rs⟩
  ·have fX := (cJ8 @hw1 @hw2 @b50 @b52 @b53 @b51 @b56 (cJ3 @b55 @b54 @b5n))
   refine qbI fn12 (by simp) ?_
   unfold i12
   simp only [argL, dkR]
   refine wR0 0 [0,1,4] fX ?_
   refine wR0 100 [0,1,4,9] fX ?_
   refine wF fX ?_
   refine wRn 300 [0,1,4,5] fX ?_
   refine rU [(99999, dkB d)] [(99999, dkB d1)] fX ?_
   refine ⟨_, hx1.full1, rN fX ?_⟩
   refine rC fX ?_
   refine ⟨_, hn1, rE fX ?_⟩
   refine wR0 400 [0,1,4,5,19] fX ?_
   refine wR0 500 [0,1,4,5,19,20] fX ?_
   refine wF fX ?_
   refine wR0 600 [0,1,4,5,19,20] fX ?_
   refine wF fX ?_
   refine wR0 800 [0,1,4,5,19,28] fX ?_
   refine wF fX ?_
   refine wR0 900 [0,1,4,5,19,28] fX ?_
   refine wF fX ?_
   refine wR0 1000 [0,1,4,5,28] fX ?_
   refine wT fX ?_
   refine wRn 1100 [0,1,4,5] fX ?_
   refine rU [(99999, dkB d1)] [(99999, dkB d2)] fX ?_
   refine ⟨_, hx2.full1, rN fX ?_⟩
   refine rC fX ?_
   refine ⟨_, hn2, rE fX ?_⟩
   refine wR0 1200 [0,1,4,5,46] fX ?_
   refine wF fX ?_
   refine wR0 1400 [0,1,4,5,53] fX ?_
   refine wF fX ?_
   refine wR0 1600 [0,1,4,5,61] fX ?_
   refine wF fX ?_
   refine wR0 1800 [0,1,4,5,67] fX ?_
   refine wT fX ?_
   refine wRn 1900 [0,1,4,5] fX ?_
   refine rU [(99999, dkB d2)] [(99999, dkB d3)] fX ?_
   refine ⟨_, hx3.full1, rE fX ?_⟩
   refine wRn 2000 [0,1,4,5,72] fX ?_
   refine rU [(99999, dkB d3)] [(99999, dkB d4)] fX ?_
   refine ⟨_, hx4.full1, rE fX ?_⟩
   refine wT fX ?_
   refine wR0 2100 [0,1,4,5] fX ?_
   refine wRn 2200 [0,1,4,5,6] fX ?_
   refine rU [(99999, dkB d4)] [(99999, dkB d5)] fX ?_
   refine ⟨_, hx5.full1, rE fX ?_⟩
   refine wL ?_
   refine qa4 [0, 1, 4, 5, 6] ?_
   refine hW _ ?_
   ·intro i
    refine wN ?_
    simp only [qiJ, qiw, List.append_nil]
    refine qcx (l' := [(0, dkR), (1, .int .i64 5), (4, .ref 0 10 0), (5, .ref 306 10 0), (6, .undef), (77, .undef)]) (hl' := [(99999, dkB d6), (0, sM0), (306, sM { (⟨5, qaD 113 (1 + n1), qaD 112 (1 + n2), [], [], 0, 2, [], v0⟩ : Md) with rules := [], start := v0 })]) [99999, 0, 306] (.cons (.same rfl) (.cons (.same rfl) (.cons (.same rfl) (.cons (.same rfl) (.drop (.drop .nil)))))) (.keep rfl (qaJ _) (.keep rfl (.liveA rfl rfl) (.keep rfl (.liveL (.cons (.same rfl) (.cons (.same (qcm _ _)) (.cons (.same (qcm _ _)) (.cons .nil (.cons .nil (.cons (.same rfl) (.cons (.same rfl) (.cons .nil (.cons (.same rfl) (.cons .nil .nil)))))))))) rfl) .nil))) ?_
    refine wR0 2800 [0,4,5,97] fX ?_
    refine wT fX ?_
    refine wRn 2900 [4,5] (cJ2 @mdC.eq_1 fX) ?_
    refine rU [(99999, dkB d6)] [(99999, dkB d7)] (cJ2 @mdC.eq_1 fX) ?_
    refine ⟨_, hcf.full1, rE (cJ2 @mdC.eq_1 fX) ?_⟩
    refine wR0 3000 [4] (cJ2 @mdC.eq_1 fX) ?_
    refine wE ?_
    refine wN ?_
    exact ⟨by simp, _, _, _, rfl, rfl, .same (by simp [mkEl, esz, T.cl, clL, qam, qat]), .keep rfl (qaJ _) (.dead rfl (fun h => by cases h) (.dead rfl (fun h => by cases h) .nil)), rfl⟩
  ·have fX := (cJ8 @hw1 @hw2 @b50 @b52 @b53 @b51 @b56 (cJ3 @b55 @b54 @b5n))
   refine qbI fn12 (by simp) ?_
   unfold i12
   simp only [argL, dkR]
   refine wR0 0 [0,1,4] fX ?_
   refine wR0 100 [0,1,4,9] fX ?_
   refine wF fX ?_
   refine wRn 300 [0,1,4,5] fX ?_
   refine rU [(99999, dkB d)] [(99999, dkB d1)] fX ?_
   refine ⟨_, hx1.full1, rN fX ?_⟩
   refine rC fX ?_
   refine ⟨_, hn1, rE fX ?_⟩
   refine wR0 400 [0,1,4,5,19] fX ?_
   refine wR0 500 [0,1,4,5,19,20] fX ?_
   refine wF fX ?_
   refine wR0 600 [0,1,4,5,19,20] fX ?_
   refine wF fX ?_
   refine wR0 800 [0,1,4,5,19,28] fX ?_
   refine wF fX ?_
   refine wR0 900 [0,1,4,5,19,28] fX ?_
   refine wF fX ?_
   refine wR0 1000 [0,1,4,5,28] fX ?_
   refine wT fX ?_
   refine wRn 1100 [0,1,4,5] fX ?_
   refine rU [(99999, dkB d1)] [(99999, dkB d2)] fX ?_
   refine ⟨_, hx2.full1, rN fX ?_⟩
   refine rC fX ?_
   refine ⟨_, hn2, rE fX ?_⟩
   refine wR0 1200 [0,1,4,5,46] fX ?_
   refine wF fX ?_
   refine wR0 1400 [0,1,4,5,53] fX ?_
   refine wF fX ?_
   refine wR0 1600 [0,1,4,5,61] fX ?_
   refine wF fX ?_
   refine wR0 1800 [0,1,4,5,67] fX ?_
   refine wT fX ?_
   refine wRn 1900 [0,1,4,5] fX ?_
   refine rU [(99999, dkB d2)] [(99999, dkB d3)] fX ?_
   refine ⟨_, hx3.full1, rE fX ?_⟩
   refine wRn 2000 [0,1,4,5,72] fX ?_
   refine rU [(99999, dkB d3)] [(99999, dkB d4)] fX ?_
   refine ⟨_, hx4.full1, rE fX ?_⟩
   refine wT fX ?_
   refine wR0 2100 [0,1,4,5] fX ?_
   refine wRn 2200 [0,1,4,5,6] fX ?_
   refine rU [(99999, dkB d4)] [(99999, dkB d5)] fX ?_
   refine ⟨_, hx5.full1, rE fX ?_⟩
   refine wL ?_
   refine qa4 [0, 1, 4, 5, 6] ?_
   refine hW _ ?_
   ·intro i
    refine wN ?_
    simp only [qiJ, qiw, List.nil_append, List.cons_append]
    refine qcx (l' := [(0, dkR), (1, .int .i64 5), (4, .ref 0 10 0), (5, .ref 306 10 0), (6, .undef), (77, .undef)]) (hl' := [(99999, dkB d6), (0, sM0), (306, sM { (⟨5, qaD 113 (1 + n1), qaD 112 (1 + n2), [], [], 0, 2, [], v0⟩ : Md) with rules := q :: rs, start := v0 }), (2604, .dead)]) [99999, 0, 306] (.cons (.same rfl) (.cons (.same rfl) (.cons (.same rfl) (.cons (.same rfl) (.drop (.drop .nil)))))) (.keep rfl (qaJ _) (.keep rfl (.liveA rfl rfl) (.keep rfl (.liveL (.cons (.same rfl) (.cons (.same (qcm _ _)) (.cons (.same (qcm _ _)) (.cons .nil (.cons .nil (.cons (.same rfl) (.cons (.same rfl) (.cons (qnA (q :: rs) rfl rfl rfl rfl) (.cons (.same rfl) (.cons .nil .nil)))))))))) rfl) (.dead rfl (fun h => by cases h) .nil)))) ?_
    refine wR0 2800 [0,4,5,97] fX ?_
    refine wT fX ?_
    refine wRn 2900 [4,5] (cJ2 @mdC.eq_1 fX) ?_
    refine rU [(99999, dkB d6)] [(99999, dkB d7)] (cJ2 @mdC.eq_1 fX) ?_
    refine ⟨_, hcf.full1, rE (cJ2 @mdC.eq_1 fX) ?_⟩
    refine wR0 3000 [4] (cJ2 @mdC.eq_1 fX) ?_
    refine wE ?_
    refine wN ?_
    exact ⟨by simp, _, _, _, rfl, rfl, .same (by simp [mkEl, esz, T.cl, clL, qam, qat]), .keep rfl (qaJ _) (.dead rfl (fun h => by cases h) (.dead rfl (fun h => by cases h) (.dead rfl (fun h => by cases h) .nil))), rfl⟩
end
end Go.Proofs.YtikhhnopcjgjpaaGreat
