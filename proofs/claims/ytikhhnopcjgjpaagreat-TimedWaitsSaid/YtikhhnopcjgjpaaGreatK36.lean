/- Contracts of functions of the program, for all arguments that they name. -/
import Derived.Below
import Derived.Test.YtikhhnopcjgjpaaGreatK35
namespace Go.Proofs.YtikhhnopcjgjpaaGreat
set_option linter.unusedVariables false
section
open Go.RowKit
set_option maxHeartbeats 2000000
theorem qk5 {m : Md} (g : Gmd m) {p a : Int} (o : OkC m 0 [(p, a)]) (d : Dk) (K : Nat) (hK : K ≤ 4) (Q : IExit → (Nat → T) → Heap → Prop) : ∀ (n i : Nat), i + n = K →
 (∀ j : Int, Q (.exit 0) (ofL [(6, .ref 402 10 0), (7, .int .i64 K), (8, .int .i64 p), (9, .int .i64 a), (10, .ref 714 2 0), (11, .int .i64 0), (12, .int .i64 j), (60, .bool false)]) (hpL [(99999, dkB d), (402, sM m), (705, .dead), (707, .dead), (709, .dead), (714, sV 0 [qcD m K (p, a)])])) →
 WL Tryz.prog 99 qpY (ofL [(6, .ref 402 10 0), (7, .int .i64 K), (8, .int .i64 p), (9, .int .i64 a), (10, .ref 714 2 0), (11, .int .i64 0), (12, .int .i64 i)]) (hpL [(99999, dkB d), (402, sM m), (705, .dead), (707, .dead), (709, .dead), (714, sV 0 [qcD m i (p, a)])]) Q := by
 intro n
 induction n with
 | zero =>
  intro i hi hQ
  have e : i = K := by omega
  subst e
  have hd : decide ((i : Int) < (i : Int)) = false := decide_eq_false (by omega)
  have fX := @hd
  refine qaa qpY.eq_1 ?_
  refine wR0 900 [6,7,8,9,10,11,12,60] fX ?_
  refine wF fX ?_
  refine wX ?_
  refine wN ?_
  exact hQ _
 | succ n ih =>
  intro i hi hQ
  have hd : decide ((i : Int) < (K : Int)) = true := decide_eq_true (by omega)
  have hw : IntKind.wrap .i64 ((i : Int) + 1) = ((i + 1 : Nat) : Int) := by rw [wrap64 (by omega) (by omega)]; rfl
  have hz : ((0 : Int) == 0) = true := rfl
  have ht := (o.ticks g i).tick_tp g
  rw [qeC] at ht
  simp only [List.map_cons, List.map_nil] at ht
  have hQ' := ih (i + 1) (by omega) hQ
  have fX := (cJ3 @hd @hw @hz)
  refine qaa qpY.eq_1 ?_
  refine wR0 900 [6,7,8,9,10,11,12,60] fX ?_
  refine wT fX ?_
  refine wRn 1000 [6,7,8,9,10,11,12] (cJ2 @mdC.eq_1 fX) ?_
  refine rC (cJ2 @mdC.eq_1 fX) ?_
  refine ⟨_, ht, rE (cJ2 @mdC.eq_1 fX) ?_⟩
  refine wR0 1100 [6,7,8,9,10,11,12] fX ?_
  refine wN ?_
  exact hQ'
set_option maxHeartbeats 20000000 in
theorem qqu (l : List Int) (n : Int) (hn : 0 ≤ n ∧ n ≤ 255) : TP Tryz.prog 7 [.list (qaf l), .int .u8 n] (.bool true) := by
 have hfew := qnN l
 by_cases hl : l.length ≤ 400
 ·have hb : decide (l.length ≤ 400) = true := decide_eq_true hl
  rw [hb] at hfew
  have hnew := qnz l
  obtain ⟨m, d1, g, hk, hd1, hM⟩ := qge (dk0 l) (qod hl)
  have ha := g.age
  have hn1 := g.tm.n1
  have hn2 := g.tm.n2
  obtain ⟨p, d2, hpb, hd2, hP⟩ := qaS d1 m.places.length hd1
  obtain ⟨a, d3, hab, hd3, hA⟩ := qaS d2 (m.age + 2) hd2
  have hp1 := hpb.2.2 (by omega)
  have hp0 := hpb.1
  have ha1 := hab.2.2 (by omega)
  have ha0 := hab.1
  have o : OkC m 0 [(p, a)] := ⟨by omega, by omega, by simp, fun x hx => by
   rw [List.mem_singleton] at hx
   subst hx
   exact ⟨hp0, hp1, ha0, ha1⟩, asc1 _⟩
  have hw1 : IntKind.wrap .i64 n = n := wrap64 (by omega) (by omega)
  obtain ⟨K, hK⟩ := Int.eq_ofNat_of_zero_le (Int.tmod_nonneg 5 hn.1)
  have hKb : n.tmod 5 < 5 := Int.tmod_lt_of_pos n (by omega)
  have hw2 : IntKind.wrap .i64 (m.age + 2) = m.age + 2 := wrap64 (by omega) (by omega)
  have hw3 : IntKind.wrap .i64 (m.age + 1) = m.age + 1 := wrap64 (by omega) (by omega)
  have hw4 : IntKind.wrap .i64 (a + (K : Int)) = a + K := wrap64 (by omega) (by omega)
  have hw5 : IntKind.wrap .i64 (n.tmod 5) = (K : Int) := by rw [hK]; exact wrap64 (by omega) (by omega)
  have hmn : (if m.age + 1 < a + (K : Int) then m.age + 1 else a + (K : Int)) = min (a + K) (m.age + 1) := by rw [Int.min_def]; split <;> split <;> omega
  have e0 : [qcD m 0 (p, a)] = [(p, a)] := qfW (m := m) o.tok
  have hcf := qmO m 0 0 [tokV p a] g.fit (by simp [V.fit, fitL, tokV]) g.check (o.valid g)
  simp only [encV, qac, tokV] at hcf
  have oK := o.ticks g K
  have hY := oK.tokens_tp g
  simp only [List.map_cons, List.map_nil] at hY
  have hz : ((0 : Int) != 0) = false := rfl
  have hz2 : ((0 : Int) == 0) = true := rfl
  have hln : (qax [qcD m K (p, a)]).length = 1 := rfl
  have hl1 : (((1 : Nat) : Int) == 1) = true := rfl
  have hg1 : (qax [qcD m K (p, a)]).getD (0 : Int).toNat .undef = .agg [.int .i64 p, .int .i64 (min (a + K) (m.age + 1))] := rfl
  have hb1 : (0 : Int) < ((qax [qcD m K (p, a)]).length : Int) := by rw [hln]; omega
  simp only [qau] at hM
  have fX := (cJ8 @hz @hz2 @hw1 @hw2 @hw3 @hw4 @hw5 (cJ8 @hK @hmn @hln @hl1 @hg1 @qad @qbq.eq_1 (cJ5 @qbq.eq_2 @eqT.eq_1 @eqT.eq_2 @qc0 @qcF)))
  refine qak fn7 (by simp) ?_
  unfold i7
  simp only [argL]
  refine wR0 0 [0,1] fX ?_
  refine wRn 100 [0,1,21] fX ?_
  refine rC fX ?_
  refine ⟨_, qbO, rN fX ?_⟩
  refine rC fX ?_
  refine ⟨_, hfew, rE fX ?_⟩
  refine wF fX ?_
  refine wRn 300 [1,5] fX ?_
  refine rU [] [(99999, dkB (dk0 l))] fX ?_
  refine ⟨_, hnew, rE fX ?_⟩
  refine wRn 400 [1,5,6] (cJ2 @mdC.eq_1 fX) ?_
  refine rU [(99999, dkB (dk0 l))] [(99999, dkB d1)] (cJ2 @mdC.eq_1 fX) ?_
  refine ⟨_, hM.full1, rE (cJ2 @mdC.eq_1 fX) ?_⟩
  refine wR0 500 [5,6,7] fX ?_
  refine wRn 600 [6,7,8,9] (cJ2 @mdC.eq_1 fX) ?_
  refine rU [(99999, dkB d1)] [(99999, dkB d2)] (cJ2 @mdC.eq_1 fX) ?_
  refine ⟨_, hP.full1, rN (cJ2 @mdC.eq_1 fX) ?_⟩
  refine rU [(99999, dkB d2)] [(99999, dkB d3)] (cJ2 @mdC.eq_1 fX) ?_
  refine ⟨_, hA.full1, rE (cJ2 @mdC.eq_1 fX) ?_⟩
  refine wRn 700 [6,7,8,9,10,11] (cJ2 @mdC.eq_1 fX) ?_
  refine rG [(705, .live ⟨_, _⟩), (707, .live ⟨_, _⟩), (709, .live ⟨_, _⟩)] (cJ2 @mdC.eq_1 fX) ?_
  refine ⟨_, _, hcf, fZt, rE (cJ2 @mdC.eq_1 fX) ?_⟩
  refine wR0 800 [6,7,8,9,10,11,12] fX ?_
  refine wL ?_
  refine qa4 [6, 7, 8, 9, 10, 11, 12] ?_
  (have hL := fun Q => qk5 g o d3 K (by omega) Q K 0 (by omega))
  (rw [e0] at hL)
  refine hL _ ?_
  ·intro i
   refine wN ?_
   refine wR0 1200 [6,7,8,9,10,70] fX ?_
   refine wF @hz ?_
   refine wRn 1400 [6,7,8,9,13,14] (cJ2 @mdC.eq_1 fX) ?_
   refine rC (cJ2 @mdC.eq_1 fX) ?_
   refine ⟨_, hY, rE (cJ2 @mdC.eq_1 fX) ?_⟩
   refine wR0 1500 [4] fX ?_
   refine wP ?_
   exact .same rfl
 ·have hb : decide (l.length ≤ 400) = false := decide_eq_false hl
  rw [hb] at hfew
  refine qak fn7 (by simp) ?_
  unfold i7
  simp only [argL]
  refine wR0 0 [0,1] cJ0 ?_
  refine wRn 100 [0,1,21] cJ0 ?_
  refine rC cJ0 ?_
  refine ⟨_, qbO, rN cJ0 ?_⟩
  refine rC cJ0 ?_
  refine ⟨_, hfew, rE cJ0 ?_⟩
  refine wT cJ0 ?_
  refine wRn 200 [4] cJ0 ?_
  refine rC cJ0 ?_
  refine ⟨_, qbO, rE cJ0 ?_⟩
  refine wP ?_
  exact .same rfl
end
section
open Go.RowKit
open Go.ChangeShapes
def qhp (k : IntKind) (w : World) (a : Option Addr) (len cap : Nat) (zs : List Int) : Prop :=
 (a = none ∧ len = 0 ∧ cap = 0 ∧ zs = []) ∨
 ∃ x, a = some x ∧ len ≤ cap ∧ cap ≤ maxLen ∧ zs.length = cap ∧ (∀ i, i < zs.length → w.cell? (x.add i) = some (.int k (zs.getD i 0))) ∧ ∀ n ∈ zs, (Lit.int k n).wf = true
def staW (w : World) : Sta := fun b _ => b < w.heap.size
def qha (k : IntKind) (l : List Int) : List T := l.map fun n => .int k n
theorem qhM (k : IntKind) : ∀ l : List Int, flat (qha k l) = qha k l
 | [] => rfl
 | x :: l => by
  show (T.int k x).cells ++ flat (qha k l) = _
  rw [qhM k l]
  rfl
theorem qhp.rep {k : IntKind} {w : World} {a : Option Addr} {len cap : Nat} {zs : List Int} (μ : Nat → Nat) (H : Heap) (h : qhp k w a len cap zs) : Rep w (staW w) μ H (.slice a len cap) (.list (qha k (zs.take len))) := by
 rcases h with ⟨rfl, rfl, rfl, rfl⟩ | ⟨x, rfl, h1, h2, h3, h4, _⟩
 ·exact .lnil
 ·have hl : (qha k (zs.take len)).length = len := by simp [qha]; omega
  have hf : flat (qha k (zs.take len)) = qha k (zs.take len) := qhM k _
  have hcell : ∀ p, p < len → w.cell? (x.add p) = some (.int k (zs.getD p 0)) := fun p hp => h4 p (by omega)
  have hg : ∀ p, p < len → (qha k (zs.take len)).getD p .undef = .int k (zs.getD p 0) := fun p hp => by
   simp [qha, List.getD_eq_getElem?_getD, hp, show p < zs.length by omega]
  have := Rep.list (w := w) (A := staW w) (μ := μ) (H := H) x cap 1 (qha k (zs.take len)) (fun p => .int k (zs.getD p 0)) (fun y hy => by
   obtain ⟨n, _, rfl⟩ := List.mem_map.1 hy
   rfl) (by omega) (by
    rw [hf]
    intro c hc
    obtain ⟨n, _, rfl⟩ := List.mem_map.1 hc
    rfl) (fun p hp => by
    rw [hf, hl] at hp
    have := qdt (hcell p hp)
    rwa [qb4] at this) (fun p hp => by
    rw [hf, hl] at hp
    exact hcell p hp) (fun p hp => by
    rw [hf, hl] at hp
    rw [hf, hg p hp]
    exact .int k _)
  rw [hl] at this
  exact this
theorem qrc {P : Program} {f : FuncId} {xs : List T} {vs : Array Value} {w : World} (h : TP P f xs (.bool true)) (hR : Reps w (staW w) id (fun _ => .free) vs xs) :
 Calls P f vs w fun e w' => e = .returned (.bool true) ∧ Below w.heap.size w w' := by
 refine (h.2 w (staW w) id vs ⟨(fun i j hi => by cases hi), (fun i b hb => by cases hb), (fun i es hb => by cases hb), (fun i hi => by cases hi), fun b o hb => hb⟩ hR).mono ?_
 rintro e w' ⟨v, A', μ', rfl, h1, h2, h3⟩
 cases h1
 exact ⟨rfl, h3.os, h3.tape.1, h3.output, h3.size, fun b hb => (h3.un b hb (fun i hi => by cases hi)).1⟩
theorem ql0 {P : Program} {f : FuncId} {w : World} {a : Option Addr} {len cap : Nat} {zs : List Int} (h : ∀ l : List Int, TP P f [.list (qaf l)] (.bool true)) (w0 : qhp .i64 w a len cap zs) :
 Calls P f #[.slice a len cap] w fun e w' => e = .returned (.bool true) ∧ Below w.heap.size w w' :=
 qrc (h (zs.take len)) ⟨rfl, fun i hi => by
  cases i with
  | zero => exact w0.rep _ _
  | succ i => simp at hi⟩
theorem qjM {P : Program} {f : FuncId} {w : World} {a : Option Addr} {len cap : Nat} {zs : List Int} {k : IntKind} {n : Int} (h : ∀ l : List Int, TP P f [.list (qaf l), .int k n] (.bool true)) (w0 : qhp .i64 w a len cap zs) :
 Calls P f #[.slice a len cap, .int k n] w fun e w' => e = .returned (.bool true) ∧ Below w.heap.size w w' :=
 qrc (h (zs.take len)) ⟨rfl, fun i hi => by
  cases i with
  | zero => exact w0.rep _ _
  | succ i =>
   cases i with
   | zero => exact .int k n
   | succ i => exact absurd hi (by simp only [List.length_cons, List.length_nil]; omega)⟩
theorem u8_of {n : Int} (h : (Lit.int .u8 n).wf = true) : 0 ≤ n ∧ n ≤ 255 := by
 simp only [Lit.wf, Bool.and_eq_true, decide_eq_true_eq] at h
 exact ⟨h.1, h.2⟩
end
section
open Go.RowKit
set_option maxHeartbeats 2000000
attribute [local simp] qaQ
theorem qrk {P : Program} {f : FuncId} {N : Nat} {ic : ICode} {rs : List (Nat × Option Nat)} {args : List T} {l2 : List (Nat × Slot)} {r : T} (ids : List Nat) (h : FnOk P f N rs ic) (hn : args.length ≤ N)
 (hw : W P N ic (ofL (argL 0 args)) (hpL []) fun e env' H'' => (e = .ret ∨ e = .normal) ∧ ∃ x hl hl', resT env' H'' rs = some x ∧ H'' = hpL hl ∧ Fz (hpL hl) (inL ids) x r ∧ LFz (hpL hl) ids hl hl' ∧ qap ids hl' = l2) : TC P f args (hpL []) r (hpL l2) := qli ids h hn rfl hw
theorem qla {P : Program} {f : FuncId} {N : Nat} {ic : ICode} {rs : List (Nat × Option Nat)} {args : List T} {d : Dk} {l2 : List (Nat × Slot)} {r : T} (h : FnOk P f N rs ic) (hn : args.length ≤ N)
 (hw : W P N ic (ofL (argL 0 args)) (hpL [(99999, dkB d)]) fun e env' H'' => (e = .ret ∨ e = .normal) ∧ ∃ x hl hl', resT env' H'' rs = some x ∧ H'' = hpL hl ∧ Fz (hpL hl) (inL [99999, 409]) x r ∧ LFz (hpL hl) [99999, 409] hl hl' ∧ qap [99999, 409] hl' = l2) : TC P f args (hpL [(99999, dkB d)]) r (hpL l2) := qli [99999, 409] h hn rfl hw
theorem qmH (s N : Int) (rs : List Int) (ps : List Ty) (u : V) (ks : List V) (d : Int) (ht : (Ty.mk 3 s rs ps).fit) (hv : (V.mk N (u :: ks)).fit) (hval : qar (.mk 3 s rs ps) d = true) (r : V) (R' : List V) (hX : qcW ps (u :: ks) = r :: R') :
 TC Tryz.prog 68 [qal (.mk 3 s rs ps), .agg [.int .i64 N, .list (qac (u :: ks))]] (hpL []) (.agg [.int .i64 N, .sl 409 ((R'.length + 1) * 2) 2 0 (R'.length + 1)]) (hpL [(409, .live ⟨25, qao (r :: R')⟩)]) := by
 obtain ⟨hf1, hf2, hf3⟩ := Ty.fit_all ht
 have hv' := V.fit_kids hv
 simp only [V.kids] at hv'
 have hcopy := ql8 N (u :: ks) hv
 simp only [rowT, rowH] at hcopy
 have hn0 : ks.length + 1 ≤ 1000000 := by simpa using hv'.1
 have hRl := qdX ps (u :: ks)
 rw [hX] at hRl
 have hRl' : R'.length = ks.length := by simpa using hRl
 have hvp := qg1 rfl hval
 have hl3 : ∀ t ∈ ps, ∀ v ∈ u :: ks, TP Tryz.prog 68 [qal t, encV v] (encV (qch t v)) := fun t hk v hv1 => qeS t v (d - 1) (hf3 t hk) (hv'.2 v hv1) (qb3 hvp t hk)
 have k5b : ((3 : Int) != 5) = true := rfl
 rw [hRl']
 refine qrk [409] fn68 (by simp) ?_
 unfold i68
 simp only [argL, qal]
 refine wR0 0 [2,3,4] cJ0 ?_
 refine wRn 100 [2,4,5] cJ0 ?_
 refine rU [] [(409, .live ⟨25, qao (u :: ks)⟩)] cJ0 ?_
 refine ⟨_, hcopy, rE cJ0 ?_⟩
 refine wR0 200 [2,4,5,6] cJ0 ?_
 refine wL ?_
 refine qjZ s N rs ps _ (ks.length + 1) hn0 _ (u :: ks) [] ps [] 0 rfl (by simp) rfl (.inl rfl) hl3 ?_
 ·intro i
  refine wN ?_
  simp only [List.nil_append, hX]
  refine wR0 900 [4,5,67] cJ0 ?_
  refine wT @k5b ?_
  refine wR0 1000 [4] cJ0 ?_
  refine wE ?_
  refine wN ?_
  exact ⟨by simp, _, _, _, rfl, rfl, .same rfl, .dead rfl (fun h => by cases h) (.dead rfl (fun h => by cases h) (.dead rfl (fun h => by cases h) (.keep rfl (.liveS (qaQ _ _) (qbv _)) (.dead rfl (fun h => by cases h) .nil)))), rfl⟩
theorem qgI (s N : Int) (rs : List Int) (ps : List Ty) (u : V) (ks : List V) (ht : (Ty.mk 3 s rs ps).fit) (hv : (V.mk N (u :: ks)).fit) (h1 : qar (.mk 3 s rs ps) 8 = true) (h2 : ¬ qbw (.mk N (u :: ks)) 128 > 128) (r : V) (R' : List V) (hX : qcW ps (u :: ks) = r :: R') (h3 : qa3 (.mk 3 s rs ps) (.mk N (r :: R')) = true) (hrf : (V.mk N (r :: R')).fit) :
 TC Tryz.prog 39 [qal (.mk 3 s rs ps), .agg [.int .i64 N, .list (qac (u :: ks))]] (hpL []) (.tup [.agg [.int .i64 N, .sl 409 ((R'.length + 1) * 2) 2 0 (R'.length + 1)], .int .i64 0]) (hpL [(409, .live ⟨25, qao (r :: R')⟩)]) := by
 have hc : qbo (.mk 3 s rs ps) = 0 := by simp [qbo, h1]
 have hck := qeR (.mk 3 s rs ps) ht
 rw [hc] at hck
 have hz : ((0 : Int) != 0) = false := rfl
 have hsz := qeK (.mk N (u :: ks)) 128 hv (by omega) (by omega)
 have hd : decide (qbw (.mk N (u :: ks)) 128 > 128) = false := decide_eq_false h2
 have hso := qmH s N rs ps u ks 8 ht hv h1 r R' hX
 have hvv := qcP (.mk 3 s rs ps) (.mk N (r :: R')) ht hrf
 rw [h3] at hvv
 simp only [qal] at hck hso hvv
 have hfz : ∀ H : Heap, H 409 = .live ⟨25, qao (r :: R')⟩ → Frz H (.agg [.int .i64 N, .sl 409 ((R'.length + 1) * 2) 2 0 (R'.length + 1)]) (encV (.mk N (r :: R'))) := fun H h => by
  simp only [encV]
  exact qaV (qb8 (r :: R') h rfl rfl) rfl
 have fX := (cJ2 @hz @hd)
 refine qrk [409] fn39 (by simp) ?_
 unfold i39
 simp only [argL, qal]
 refine wR0 0 [2,3,4] fX ?_
 refine wRn 100 [2,3,4,6] fX ?_
 refine rC fX ?_
 refine ⟨_, hck, rE fX ?_⟩
 refine wR0 200 [2,3,4,6,11] fX ?_
 refine wF @hz ?_
 refine wRn 400 [2,3,4,16] fX ?_
 refine rC fX ?_
 refine ⟨_, hsz, rE fX ?_⟩
 refine wF @hd ?_
 refine wRn 600 [2,4,7] fX ?_
 refine rU [] [(409, .live ⟨25, qao (r :: R')⟩)] fX ?_
 refine ⟨_, hso, rE fX ?_⟩
 refine wRn 700 [4,7,24] fX ?_
 refine rL [(409, .live ⟨25, qao (r :: R')⟩)] fX ?_
 refine ⟨_, _, hvv, (by (exact .cons (.same (by simp [T.cl, clL, qat, qbx])) (.cons (hfz _ rfl) .nil))), rfl, rE fX ?_⟩
 refine wF fX ?_
 refine wR0 900 [4,5] fX ?_
 refine wE ?_
 refine wN ?_
 exact ⟨by simp, _, _, _, rfl, rfl, .same rfl, .dead rfl (fun h => by cases h) (.dead rfl (fun h => by cases h) (.dead rfl (fun h => by cases h) (.keep rfl (.liveS (qaQ _ _) (qbv _)) (.dead rfl (fun h => by cases h) .nil)))), rfl⟩
theorem qgp {s : Int} {rs : List Int} {ps : List Ty} {v : V} (ht : qar (.mk 3 s rs ps) 8 = true) (h : qa3 (.mk 3 s rs ps) v = true) : ∃ r R', v = .mk 0 (r :: R') := by
 have h1 : 1 ≤ ps.length := by
  rw [qar] at ht
  split at ht
  ·cases ht
  ·split at ht
   ·cases ht
   ·simp at ht; omega
 rcases v with ⟨n, ks⟩
 simp only [qa3, Bool.and_eq_true] at h
 have h2 := h.2
 simp [ofV, V.n, V.kids] at h2
 obtain ⟨⟨rfl, h3⟩, _⟩ := h2
 rcases ks with _ | ⟨r, R'⟩
 ·simp at h3; omega
 ·exact ⟨r, R', rfl⟩
theorem qfL {s : Int} {rs : List Int} {ps : List Ty} {v : V} (ht : qar (.mk 3 s rs ps) 8 = true) (h : qa3 (.mk 3 s rs ps) (qbM (.mk 3 s rs ps) v).1 = true) :
 ∃ u ks r R', v = .mk 0 (u :: ks) ∧ ¬ qbw v 128 > 128 ∧ qcW ps (u :: ks) = r :: R' ∧ (qbM (.mk 3 s rs ps) v).1 = .mk 0 (r :: R') ∧ qa3 (.mk 3 s rs ps) (.mk 0 (r :: R')) = true := by
 have hv0 : qa3 (.mk 3 s rs ps) v0 = true → False := fun h0 => by
  obtain ⟨r, R', e⟩ := qgp ht h0
  simp [v0] at e
 rcases v with ⟨n, ks⟩
 unfold qbM at h ⊢
 rw [if_neg (by simp [ht])] at h ⊢
 by_cases h2 : qbw (.mk n ks) 128 > 128
 ·rw [if_pos h2] at h; exact (hv0 h).elim
 rw [if_neg h2] at h ⊢
 by_cases h3 : qa3 (.mk 3 s rs ps) (qch (.mk 3 s rs ps) (.mk n ks)) = false
 ·rw [if_pos h3] at h; exact (hv0 h).elim
 rw [if_neg h3] at h ⊢
 simp only at h ⊢
 have e : qch (.mk 3 s rs ps) (.mk n ks) = .mk n (qcW ps ks) := by rw [qc7, if_neg (by omega), rowOf, if_pos rfl]
 rw [e] at h ⊢
 obtain ⟨r, R', e2⟩ := qgp ht h
 simp only [V.mk.injEq] at e2
 obtain ⟨rfl, e2⟩ := e2
 have hl := qdX ps ks
 rcases ks with _ | ⟨u, ks⟩
 ·rw [e2] at hl; simp at hl
 ·rw [e2] at h ⊢
  exact ⟨u, ks, r, R', rfl, h2, e2, rfl, h⟩
abbrev sK (l : List V) : Slot := .live ⟨25, qao l⟩
abbrev encK (n : Nat) : T := .agg [.int .i64 0, .sl 409 ((n + 1) * 2) 2 0 (n + 1)]
theorem qnB (t : Ty) (d : Dk) (hft : qko t) (ht : t.fit) (hv : qar t 8 = true) (hd : d.ok) :
 ∃ (r : V) (R' : List V) (d' : Dk), (V.mk 0 (r :: R')).fit ∧ qa3 t (.mk 0 (r :: R')) = true ∧ d'.ok ∧ TC Tryz.prog 33 [dkR, qal t] (hpL [(99999, dkB d)]) (encK R'.length) (hpL [(99999, dkB d'), (409, sK (r :: R'))]) := by
 have hft' := hft
 obtain ⟨ps, rfl, hps⟩ := hft'
 obtain ⟨v1, d1, f1, _, ok1, l1⟩ := qef (.mk 3 0 [] ps) 8 3 d ht hv (by omega) hd
 rcases hb : qa3 (.mk 3 0 [] ps) (qbM (.mk 3 0 [] ps) v1).1 with _ | _
 ·have s1 := qfp (.mk 3 0 [] ps) v1 ht f1
  have g1 := qcU (.mk 3 0 [] ps) v1 f1
  rcases h1 : (qbM (.mk 3 0 [] ps) v1).1 with ⟨a1, b1⟩
  rw [h1] at s1 g1 hb
  have w1 := qcP (.mk 3 0 [] ps) (.mk a1 b1) ht g1
  rw [hb] at w1
  obtain ⟨v2, d2, f2, lo, ok2, l2⟩ := qef (.mk 3 0 [] ps) 8 0 d1 ht hv (by omega) ok1
  obtain ⟨e1, e2⟩ := qht hft hv (lo rfl)
  obtain ⟨u, ks, r, R', rfl, q1, q2, q3, q4⟩ := qfL hv (v := v2) (by rw [e1]; exact e2)
  have hrf : (V.mk 0 (r :: R')).fit := by rw [← q3]; exact qcU _ _ f2
  have hso := qgI 0 0 [] ps u ks ht f2 hv q1 r R' q2 q4 hrf
  refine ⟨r, R', d2, hrf, q4, ok2, ?_⟩
  rcases v1 with ⟨n1, k1⟩
  simp only [encV, qal] at l1 s1 w1 l2 hso
  refine qla fn33 (by simp) ?_
  unfold i33
  simp only [argL, qal]
  refine wR0 0 [0,3,4] cJ0 ?_
  refine wRn 100 [0,3,4,5] cJ0 ?_
  refine rU [(99999, dkB d)] [(99999, dkB d1)] cJ0 ?_
  refine ⟨_, l1.full1, rN cJ0 ?_⟩
  refine rC cJ0 ?_
  refine ⟨_, s1, rE cJ0 ?_⟩
  refine wRn 200 [0,3,4,5,18] cJ0 ?_
  refine rC cJ0 ?_
  refine ⟨_, w1, rE cJ0 ?_⟩
  refine wT @Bool.not_false ?_
  refine wRn 300 [4,5] cJ0 ?_
  refine rU [(99999, dkB d1)] [(99999, dkB d2)] cJ0 ?_
  refine ⟨_, l2.full1, rN cJ0 ?_⟩
  refine rU [] [(409, sK (r :: R'))] cJ0 ?_
  refine ⟨_, hso, rE cJ0 ?_⟩
  refine wR0 400 [4] cJ0 ?_
  refine wE ?_
  refine wN ?_
  exact ⟨by simp, _, _, _, rfl, rfl, .same rfl, .keep rfl (qaJ _) (.dead rfl (fun h => by cases h) (.dead rfl (fun h => by cases h) (.dead rfl (fun h => by cases h) (.keep rfl (.liveS (qaQ _ _) (qbv _)) .nil)))), rfl⟩
 ·obtain ⟨u, ks, r, R', rfl, q1, q2, q3, q4⟩ := qfL hv hb
  have hrf : (V.mk 0 (r :: R')).fit := by rw [← q3]; exact qcU _ _ f1
  have hso := qgI 0 0 [] ps u ks ht f1 hv q1 r R' q2 q4 hrf
  have w1 := qcP (.mk 3 0 [] ps) (.mk 0 (r :: R')) ht hrf
  rw [q4] at w1
  refine ⟨r, R', d1, hrf, q4, ok1, ?_⟩
  simp only [encV, qal] at l1 hso
  simp only [qal] at w1
  have hfz : ∀ H : Heap, H 409 = sK (r :: R') → Frz H (encK R'.length) (encV (.mk 0 (r :: R'))) := fun H h => by
   simp only [encV]
   exact qaV (qb8 (r :: R') h rfl rfl) rfl
  refine qla fn33 (by simp) ?_
  unfold i33
  simp only [argL, qal]
  refine wR0 0 [0,3,4] cJ0 ?_
  refine wRn 100 [0,3,4,5] cJ0 ?_
  refine rU [(99999, dkB d)] [(99999, dkB d1)] cJ0 ?_
  refine ⟨_, l1.full1, rN cJ0 ?_⟩
  refine rU [] [(409, sK (r :: R'))] cJ0 ?_
  refine ⟨_, hso, rE cJ0 ?_⟩
  refine wRn 200 [0,3,4,5,18] cJ0 ?_
  refine rL [(409, sK (r :: R'))] cJ0 ?_
  refine ⟨_, _, w1, (by (exact .cons (.same (by simp [T.cl, clL, qat, qbx])) (.cons (hfz _ rfl) .nil))), rfl, rE cJ0 ?_⟩
  refine wF @Bool.not_true ?_
  refine wR0 400 [4] cJ0 ?_
  refine wE ?_
  refine wN ?_
  exact ⟨by simp, _, _, _, rfl, rfl, .same rfl, .keep rfl (qaJ _) (.dead rfl (fun h => by cases h) (.dead rfl (fun h => by cases h) (.keep rfl (.liveS (qaQ _ _) (qbv _)) (.dead rfl (fun h => by cases h) .nil)))), rfl⟩
theorem qnf {m : Md} (g : Gmd m) (d : Dk) (hd : d.ok) : ∃ (s : Int) (l : List (Int × Int)) (d' : Dk), OkC m s l ∧ d'.ok ∧
 TC Tryz.prog 14 [dkR, qau m] (hpL [(99999, dkB d)]) (encK 1) (hpL [(99999, dkB d'), (409, sK (cks s l))]) := by
 have hm := g.tm
 have h1 := hm.n1
 have h2 := hm.n2
 have h3 := g.age
 have htf : qcG (cfM m) = qaF m := hm.cf.typeF
 have ht := qoQ (cfM m) (qiE g.fit (by simp [v0, V.fit, fitL]))
 rw [htf] at ht
 obtain ⟨r, R', d', hrf, hvv, hok, h4⟩ := qnB (qaF m) d (qf8 _ hm.kind) (typedM_fit' g.fit) (qdK _ hm.kind (by omega) (by omega) (by omega)) hd
 obtain ⟨s, l, e, o⟩ := qoI g (c := .mk 0 (r :: R')) (by rw [qaT, g.check, hvv]; rfl)
 have e' : r :: R' = cks s l := by
  simp only [cfgV, V.mk.injEq, true_and] at e
  exact e
 have eR : R'.length = 1 := by have := congrArg List.length e'; simpa [cks] using this
 rw [e', eR] at h4
 refine ⟨s, l, d', o, hok, ?_⟩
 rcases hty : qaF m with ⟨tk, ts, trs, tps⟩
 rw [hty] at ht h4
 simp only [qal] at ht h4
 refine qla fn14 (by simp) ?_
 unfold i14
 simp only [argL, qau, mdC]
 refine wR0 0 [0,3,4] cJ0 ?_
 refine wR0 100 [0,4,5] cJ0 ?_
 refine wR0 200 [0,4,5] cJ0 ?_
 refine wR0 300 [0,4,5] cJ0 ?_
 refine wRn 400 [4] cJ0 ?_
 refine rG [] cJ0 ?_
 refine ⟨_, _, ht, (by (exact .cons (.aggL (.cons (.same rfl) (.cons (.same (by simp [T.cl])) (.cons (.same (by simp [T.cl])) (.cons (.same (by simp [T.cl])) (.cons (.same (by simp [T.cl, qat])) (.cons (.same rfl) (.cons (.same rfl) (.cons .nil (.cons (.same rfl) (.cons .nil .nil)))))))))) rfl) .nil)), rN cJ0 ?_⟩
 refine rU [(99999, dkB d)] [(99999, dkB d'), (409, sK (cks s l))] cJ0 ?_
 refine ⟨_, h4.fullL (by simp) (by simp [qbc, qaA, qaO, qaX]), rE cJ0 ?_⟩
 refine wE ?_
 refine wN ?_
 exact ⟨by simp, _, _, _, rfl, rfl, .same rfl, .keep rfl (qaJ _) (.dead rfl (fun h => by cases h) (.dead rfl (fun h => by cases h) (.dead rfl (fun h => by cases h) (.keep rfl (.liveS (qaQ _ _) (qbv _)) .nil)))), rfl⟩
end
end Go.Proofs.YtikhhnopcjgjpaaGreat
