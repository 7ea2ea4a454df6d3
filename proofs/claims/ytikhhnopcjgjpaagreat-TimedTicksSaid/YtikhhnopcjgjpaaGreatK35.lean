/- Contracts of functions of the program, for all arguments that they name. -/
import Derived.Test.YtikhhnopcjgjpaaGreatK31
import Derived.Test.YtikhhnopcjgjpaaGreatK34
namespace Go.Proofs.YtikhhnopcjgjpaaGreat
set_option linter.unusedVariables false
section
open Go.RowKit
set_option maxHeartbeats 2000000
theorem qfr (a : UInt8) : (⟨#[a]⟩ : ByteArray).toList = [a] := by
 simp [ByteArray.toList, ByteArray.toList.loop, ByteArray.size, ByteArray.get!]
theorem qm0 : (⟨#[]⟩ : ByteArray).toList = [] := by
 simp [ByteArray.toList, ByteArray.toList.loop, ByteArray.size]
def rA : Rl := ⟨⟨#[114]⟩, 0, 0, [], [], [], 0, 0, 0, [], [], [⟨0, 1, 2⟩], [0], 0⟩
def mA : Md := ⟨5, [⟨#[113]⟩], [⟨#[112]⟩], [], [], 0, 1, [rA], cfgV 0 [(0, 2)]⟩
theorem qnw : mA.fit := by
 refine ⟨by simp [mA], by simp [mA], by simp [mA], by simp [mA], by simp [mA], fun r hr => ?_, qi7 0 [(0, 2)] (by simp), fun s hs => ?_, (by show kindOk 5; unfold kindOk; first | trivial | omega)⟩
 ·simp only [mA, List.mem_singleton] at hr
  subst hr
  exact ⟨by simp [rA], by simp [rA], by simp [rA], by simp [rA], by simp [rA], by simp [rA], by simp [rA], by simp [rA, ByteArray.size]⟩
 ·simp only [mA, List.mem_append, List.mem_singleton, List.not_mem_nil, or_false] at hs
  rcases hs with rfl | rfl <;> simp [ByteArray.size]
theorem qsv (a : UInt8) (h : letB (a.toNat : Int) = true) : qfD ⟨#[a]⟩ = true := by
 have e0 : qcb ⟨#[a]⟩ 0 = (a.toNat : Int) := rfl
 have hs : (⟨#[a]⟩ : ByteArray).size = 1 := rfl
 have hr : runN ⟨#[a]⟩ 1 0 = 1 := by simp [runN, e0, qi0, h]
 rw [qfD, qfr, qm0, hs, e0, h, hr]
 rfl
theorem kw1 (a : UInt8) : kwS ⟨#[a]⟩ = false := by
 rw [kwS, inS, List.any_eq_false]
 intro k hk
 have hl : k.toList.length ≠ 1 := by
  simp only [kws, List.mem_cons, List.not_mem_nil, or_false] at hk
  rcases hk with rfl | rfl | rfl | rfl | rfl | rfl | rfl | rfl | rfl | rfl | rfl | rfl | rfl | rfl | rfl | rfl | rfl | rfl <;> simp [ByteArray.toList, ByteArray.toList.loop, ByteArray.size, ByteArray.get!]
 rw [qfr]
 intro h
 have := beq_iff_eq.1 h
 rw [← this] at hl
 simp at hl
theorem qh5 : qaI mA = 0 := by
 have h1 : btw mA.kind 1 6 = true := rfl
 have h2 : qa2 mA = true := rfl
 have h3 : qcC mA = true := rfl
 have h4 : qeN mA = true := by
  have e : qba mA = [⟨#[113]⟩, ⟨#[112]⟩, ⟨#[114]⟩] := rfl
  rw [qeN, e]
  simp [newS, qsv 113 rfl, qsv 112 rfl, qsv 114 rfl, kw1, inS]
 have h5 : qbk mA rA = true := by
  have e : qjI mA.kind rA = rA := rfl
  rw [qbk, e, qnm]
  simp only [qfq, qeu, beq_self_eq_true, Bool.and_true]
  rfl
 have h6 : qbl mA = true := by
  rw [qbl, if_neg (by decide), qa3, Bool.and_eq_true, Bool.and_eq_true]
  refine ⟨⟨rfl, decide_eq_true (qiY 0 [(0, 2)] (by simp))⟩, ?_⟩
  exact (qiq rfl _).2 ⟨0, [(0, 2)], rfl, by decide, by decide, by decide, by simp [qhn, mA], rfl⟩
 have h7 : (mA.rules.any fun r => !qbk mA r) = false := by
  show ([rA].any fun r => !qbk mA r) = false
  simp [h5]
 rw [qaI, h1, h2, h3, h4, h7, h6]
 rfl
theorem asc1 (x : Int × Int) : AscP [x] := List.pairwise_singleton ..
theorem qit (a : Int) (h : 0 ≤ a ∧ a < 3) : qaT mA (cfgV 0 [(0, a)]) = true :=
 qjy rfl qh5 (by decide) (by decide) (by simp) (fun x hx => by
  rw [List.mem_singleton] at hx
  subst hx
  exact ⟨Int.le_refl _, (show (0 : Int) < ((1 : Nat) : Int) by omega), h.1, h.2⟩) (asc1 _)
theorem qjG (a : Int) (h : 0 ≤ a ∧ a < 3) : qbD mA (cfgV 0 [(0, a)]) = 0 := qmi rfl qh5 (qit a h)
theorem qr8 : qfS mA (cfgV 0 [(0, 2)]) = (cfgV 0 [(0, 2)], 0) := by
 rw [qfS, if_neg (by simp [qjG 2 (by omega)]), qbL, qb2]
 have : [((0 : Int), (2 : Int))].map (qbE mA) = [(0, 2)] := rfl
 rw [this, qco, qh8 (asc1 _)]
theorem qnW : qcz mA (cfgV 0 [(0, 2)]) = ([(0, 2)], 0) := by
 rw [qcz, if_neg (by simp [qjG 2 (by omega)]), qbL]
theorem qqv : qbz mA 0 (cfgV 0 [(0, 2)]) = ([cfgV 0 [(0, 0)]], 0) := by
 have hr : qaB mA 0 = rA := rfl
 have hb : qbu rA [(0, 2)] = [cfgV 0 [(0, 0)]] := by
  have e : chP qbB rA.takes [((0 : Int), (2 : Int))] = [[]] := by
   simp [rA, chP, chL, qbB]
  rw [qbu, e]
  show [bV rA (qdL rA) []] = _
  rw [bV, qco]
  show [cfgV 0 (qfx [(0, 0)])] = _
  rw [qh8 (asc1 _)]
 rw [qbz, if_neg (by simp [qh5]), if_neg (by decide), if_neg (by simp [mA]), if_neg (by simp [qit 2 (by omega)]), qbL, qb2, hr, if_neg (by simp [rA]), hb, if_neg (by simp [qit 0 (by omega)])]
 rfl
set_option maxHeartbeats 20000000 in
theorem qbO : TP Tryz.prog 8 [] (.bool true) := by
 have hc : (cfgV 0 [(0, 2)]).fit := qi7 0 [(0, 2)] (by simp)
 have h1 := tick_tp mA (cfgV 0 [(0, 2)]) qnw hc
 have h2 := qma mA 0 (cfgV 0 [(0, 2)]) qnw hc
 have h3 := qcp mA (cfgV 0 [(0, 2)]) qnw hc
 have h4 := qoA (cfgV 0 [(0, 2)]) (cfgV 0 [(0, 2)]) hc
 have hs : qqs (cfgV 0 [(0, 2)]) (cfgV 0 [(0, 2)]) = true := by rw [qqs, qeY]; rfl
 rw [qr8] at h1
 rw [qqv] at h2
 rw [qnW] at h3
 rw [hs] at h4
 simp only [cfgV, tokL, tokV, List.map_cons, List.map_nil, encV, qac, qax, encP] at h1 h2 h3 h4
 have f110 : ∀ (H : Heap) (D : Nat → Bool), H 110 = .live ⟨25, [.int .i64 0, .nil, .int .i64 2, .nil]⟩ → D 110 = false → Fz H D (.sl 110 4 2 0 2) (.list [encV (.mk 0 []), encV (.mk 2 [])]) := fun H D h hd => .slL h hd rfl rfl rfl rfl rfl (.cons (.same rfl) (.cons .nil (.cons (.same rfl) (.cons .nil .nil))))
 have f112 : ∀ (H : Heap) (D : Nat → Bool), H 112 = .live ⟨25, [.int .i64 0, .sl 110 4 2 0 2]⟩ → D 112 = false → H 110 = .live ⟨25, [.int .i64 0, .nil, .int .i64 2, .nil]⟩ → D 110 = false → Fz H D (.sl 112 2 2 0 1) (.list [encV (tokV 0 2)]) := fun H D h hd h' hd' => .slL h hd rfl rfl rfl rfl rfl (.cons (.same rfl) (.cons (f110 H D h' hd') .nil))
 have fS : ∀ (i : Nat) (c : UInt8) (H : Heap) (D : Nat → Bool), H i = .live ⟨9, [.str ⟨#[c]⟩]⟩ → D i = false → Fz H D (.sl i 1 0 0 1) (.list [.str ⟨#[c]⟩]) := fun i c H D h hd => .slL h hd rfl rfl rfl rfl rfl (.cons (.same rfl) .nil)
 have f106 : ∀ (H : Heap) (D : Nat → Bool), H 106 = .live ⟨60, [.str ⟨#[114]⟩, .int .i64 0, .int .i64 0, .nil, .nil, .nil, .int .i64 0, .int .i64 0, .int .i64 0, .nil, .nil, .sl 103 3 3 0 1, .sl 104 1 0 0 1, .int .i64 0]⟩ → D 106 = false → H 103 = .live ⟨64, [.int .i64 0, .int .i64 1, .int .i64 2]⟩ → D 103 = false → H 104 = .live ⟨3, [.int .i64 0]⟩ → D 104 = false → Fz H D (.sl 106 14 14 0 1) (.list (qaL [rA])) := fun H D h hd h3 hd3 h4 hd4 => .slL h hd rfl rfl rfl rfl rfl (.cons (.same rfl) (.cons (.same rfl) (.cons (.same rfl) (.cons .nil (.cons .nil (.cons .nil (.cons (.same rfl) (.cons (.same rfl) (.cons (.same rfl) (.cons .nil (.cons .nil (.cons (qdA [⟨0, 1, 2⟩] h3 hd3 rfl rfl) (.cons (qcO [0] h4 hd4 rfl rfl) (.cons (.same rfl) .nil))))))))))))))
 have f114 : ∀ (H : Heap) (D : Nat → Bool), H 114 = .live ⟨25, [.int .i64 0, .nil, .int .i64 0, .sl 112 2 2 0 1]⟩ → D 114 = false → H 112 = .live ⟨25, [.int .i64 0, .sl 110 4 2 0 2]⟩ → D 112 = false → H 110 = .live ⟨25, [.int .i64 0, .nil, .int .i64 2, .nil]⟩ → D 110 = false → Fz H D (.sl 114 4 2 0 2) (.list [encV (.mk 0 []), encV (.mk 0 [tokV 0 2])]) := fun H D h hd h2 hd2 h0 hd0 => .slL h hd rfl rfl rfl rfl rfl (.cons (.same rfl) (.cons .nil (.cons (.same rfl) (.cons (f112 H D h2 hd2 h0 hd0) .nil))))
 have fX := (cJ6 @qc0 @qcF @qbq.eq_1 @qbq.eq_2 @eqT.eq_1 @eqT.eq_2)
 refine qak fn8 (by simp) ?_
 unfold i8
 simp only [argL]
 refine wR0 0 [] fX ?_
 refine wR0 100 [1] fX ?_
 simp only [thn]
 refine qcx (l' := [(1, .ref 117 10 0)]) (hl' := [(100, .dead), (101, .dead), (103, .dead), (104, .dead), (106, .dead), (110, .dead), (112, .dead), (114, .dead), (117, .live ⟨34, mdC mA⟩)]) [117] (.cons (.same rfl) .nil) (.dead rfl (fun h => by cases h) (.dead rfl (fun h => by cases h) (.dead rfl (fun h => by cases h) (.dead rfl (fun h => by cases h) (.dead rfl (fun h => by cases h) (.dead rfl (fun h => by cases h) (.dead rfl (fun h => by cases h) (.dead rfl (fun h => by cases h) (.keep rfl (.liveL (cs' := mdC mA) (.cons (.same rfl) (.cons (fS 100 113 _ _ rfl rfl) (.cons (fS 101 112 _ _ rfl rfl) (.cons .nil (.cons .nil (.cons (.same rfl) (.cons (.same rfl) (.cons (f106 _ _ rfl rfl rfl rfl rfl rfl) (.cons (.same rfl) (.cons (f114 _ _ rfl rfl rfl rfl rfl rfl) .nil)))))))))) rfl) .nil))))))))) ?_
 simp only [mdC, mA, qan, List.map_cons, List.map_nil, qaL, qbs, rlC, rA, qaf, qay, qgE, V.n, V.kids, cfgV, tokL, tokV, qac, encV]
 refine wRn 200 [1,2,3] fX ?_
 refine rC fX ?_
 refine ⟨_, h1, rE fX ?_⟩
 refine wRn 300 [1,2,3,4,5] fX ?_
 refine rC fX ?_
 refine ⟨_, h2, rE fX ?_⟩
 refine wRn 400 [1,2,3,4,5,6,7] fX ?_
 refine rC fX ?_
 refine ⟨_, h3, rE fX ?_⟩
 refine wRn 500 [0] fX ?_
 refine rCi fX ?_
 refine ⟨_, fun hw => h4, rE fX ?_⟩
 refine wP ?_
 exact .same rfl
end
section
open Go.RowKit
structure OkC (m : Md) (s : Int) (l : List (Int × Int)) : Prop where
 s0 : 0 ≤ s
 s1 : s < m.states.length
 len : l.length ≤ 12
 tok : ∀ x ∈ l, qhn m x
 asc : AscP l
theorem OkC.valid {m : Md} {s : Int} {l : List (Int × Int)} (o : OkC m s l) (g : Gmd m) : qaT m (cfgV s l) = true := qjy g.tm.kind g.check o.s0 o.s1 o.len o.tok o.asc
theorem OkC.fit {m : Md} {s : Int} {l : List (Int × Int)} (o : OkC m s l) : (cfgV s l).fit := qi7 s l (by have := o.len; omega)
theorem OkC.checkE {m : Md} {s : Int} {l : List (Int × Int)} (o : OkC m s l) (g : Gmd m) : qbD m (cfgV s l) = 0 := qmi g.tm.kind g.check (o.valid g)
theorem qoI {m : Md} (g : Gmd m) {c : V} (h : qaT m c = true) : ∃ s l, c = cfgV s l ∧ OkC m s l := by
 obtain ⟨s, l, e, h1, h2, h3, h4, h5⟩ := qeX g.tm.kind g.check h
 exact ⟨s, l, e, h1, h2, h3, h4, h5⟩
theorem Gmd.age {m : Md} (g : Gmd m) : 0 ≤ m.age ∧ m.age ≤ 3 := by
 obtain ⟨_, _, _, h1, h2, _⟩ := qfM g.tm.kind g.check
 exact ⟨h1, h2⟩
theorem OkC.tick {m : Md} {s : Int} {l : List (Int × Int)} (o : OkC m s l) (g : Gmd m) : OkC m s (l.map (qbE m)) :=
 ⟨o.s0, o.s1, by simpa using o.len, fun x hx => by
  obtain ⟨y, hy, rfl⟩ := List.mem_map.1 hx
  exact qpR g.age.1 (o.tok y hy), qjr m o.asc⟩
theorem OkC.tickM {m : Md} {s : Int} {l : List (Int × Int)} (o : OkC m s l) (g : Gmd m) : qfS m (cfgV s l) = (cfgV s (l.map (qbE m)), 0) := by
 rw [qfS, if_neg (by simp [o.checkE g]), qbL, qb2, qco, qh8 (qjr m o.asc)]
theorem OkC.tokensM {m : Md} {s : Int} {l : List (Int × Int)} (o : OkC m s l) (g : Gmd m) : qcz m (cfgV s l) = (l, 0) := by
 rw [qcz, if_neg (by simp [o.checkE g]), qbL]
def qcD (m : Md) (k : Nat) (x : Int × Int) : Int × Int := (x.1, min (x.2 + k) (m.age + 1))
theorem qfW {m : Md} : ∀ {l : List (Int × Int)}, (∀ x ∈ l, qhn m x) → l.map (qcD m 0) = l
 | [], _ => rfl
 | x :: l, h => by
  obtain ⟨h1, h2, h3, h4⟩ := h x (List.mem_cons_self ..)
  have e : qcD m 0 x = x := by
   rcases x with ⟨p, a⟩
   simp only [qcD, Prod.mk.injEq, true_and]
   simp only at h3 h4
   omega
  rw [List.map_cons, e, qfW (fun y hy => h y (List.mem_cons_of_mem _ hy))]
theorem qeC (m : Md) (k : Nat) (l : List (Int × Int)) : (l.map (qcD m k)).map (qbE m) = l.map (qcD m (k + 1)) := by
 rw [List.map_map]
 apply List.map_congr_left
 intro x _
 simp only [Function.comp, qbE, qcD, Prod.mk.injEq, true_and]
 omega
theorem OkC.ticks {m : Md} {s : Int} {l : List (Int × Int)} (o : OkC m s l) (g : Gmd m) : ∀ k : Nat, OkC m s (l.map (qcD m k))
 | 0 => by rw [qfW o.tok]; exact o
 | k + 1 => by rw [← qeC]; exact (o.ticks g k).tick g
theorem qhS {m : Md} (k : Nat) (hk : m.age + 1 ≤ k) {l : List (Int × Int)} (h : ∀ x ∈ l, qhn m x) : l.map (qcD m k) = l.map fun x => (x.1, m.age + 1) := by
 apply List.map_congr_left
 intro x hx
 obtain ⟨h1, h2, h3, h4⟩ := h x hx
 simp only [qcD, Prod.mk.injEq, true_and]
 omega
theorem qoY (t : Tk) (ts : List Tk) (hrec : ∀ l r : List (Int × Int), r ∈ chP qbB ts l → r.length + ts.length = l.length) : ∀ (rest pre r : List (Int × Int)), r ∈ chL qbB t ts pre rest → r.length + ts.length + 1 = pre.length + rest.length
 | [], pre, r, h => by rw [chL] at h; cases h
 | x :: rest, pre, r, h => by
  rw [chL] at h
  rcases List.mem_append.1 h with h | h
  ·split at h
   ·have := hrec _ _ h
    simp at this ⊢
    omega
   ·cases h
  ·have := qoY t ts hrec rest (pre ++ [x]) r h
   simp at this ⊢
   omega
theorem qnq : ∀ (ts : List Tk) (l r : List (Int × Int)), r ∈ chP qbB ts l → r.length + ts.length = l.length
 | [], l, r, h => by
  rw [chP] at h
  simp only [List.mem_singleton] at h
  subst h; rfl
 | t :: ts, l, r, h => by
  rw [chP] at h
  have := qoY t ts (qnq ts) l [] r h
  simp at this ⊢
  omega
theorem qrP : ∀ (ts : List Tk) (l r : List (Int × Int)), r ∈ chP qbB ts l → ∀ x ∈ r, x ∈ l := by
 intro ts
 induction ts with
 | nil =>
  intro l r h
  rw [chP] at h
  simp only [List.mem_singleton] at h
  subst h
  exact fun x hx => hx
 | cons t ts ih =>
  intro l r h
  rw [chP, qk4] at h
  obtain ⟨a, y, b, rfl, _, _, h⟩ := h
  intro x hx
  have := ih _ _ h x hx
  simp at this ⊢
  rcases this with h | h
  ·exact .inl h
  ·exact .inr (.inr h)
def qbW (l : List (Int × Int)) : Nat := (l.filter fun x => x.2 == 0).length
theorem qkI {l k : List (Int × Int)} (h : l.Perm k) : qbW l = qbW k := (h.filter _).length_eq
theorem qle (r : Rl) (rest : List (Int × Int)) : r.makes.length ≤ qbW (rest ++ qdL r) := by
 have : (qdL r).filter (fun x => x.2 == 0) = qdL r := List.filter_eq_self.2 fun x hx => by
  obtain ⟨p, _, rfl⟩ := List.mem_map.1 hx
  rfl
 rw [qbW, List.filter_append, this, List.length_append]
 simp [qdL]
theorem qnk {r : Rl} {l : List (Int × Int)} {y : V} (h : y ∈ qbu r l) : ∃ rest, rest.length + r.takes.length = l.length ∧ (∀ x ∈ rest, x ∈ l) ∧ y = cfgV r.to_ (qfx (rest ++ qdL r)) := by
 obtain ⟨rest, h1, rfl⟩ := List.mem_map.1 h
 exact ⟨rest, qnq _ _ _ h1, qrP _ _ _ h1, rfl⟩
theorem OkC.applyR {m : Md} {s : Int} {l : List (Int × Int)} (o : OkC m s l) (g : Gmd m) (i : Nat) (hi : i < m.rules.length) (hs : s = (qaB m i).from_) :
 qbz m i (cfgV s l) = ([], 1) ∨ qbz m i (cfgV s l) = (qa6 (qby (qbu (qaB m i) l)), 0) ∧ ∀ y ∈ qbu (qaB m i) l, qaT m y = true := by
 rw [qbz, if_neg (by simp [g.check]), if_neg (by simp [g.tm.kind]), if_neg (by omega), if_neg (by simp [o.valid g]), qb2, qbL, if_neg (by simp [hs])]
 by_cases h : ((qbu (qaB m i) l).all fun v => qaT m v) = false
 ·rw [if_pos h]; exact .inl rfl
 ·rw [if_neg h]
  exact .inr ⟨rfl, fun y hy => List.all_eq_true.1 (by simpa using h) y hy⟩
theorem qmQ {m : Md} {s : Int} {l : List (Int × Int)} (o : OkC m s l) (g : Gmd m) (i : Nat) (hi : i < m.rules.length) (hs : s = (qaB m i).from_) {y : V} (h : y ∈ (qbz m i (cfgV s l)).1) :
 ∃ k, y = cfgV (qaB m i).to_ k ∧ OkC m (qaB m i).to_ k ∧ k.length + (qaB m i).takes.length = l.length + (qaB m i).makes.length ∧ (qaB m i).makes.length ≤ qbW k := by
 rcases o.applyR g i hi hs with e | ⟨e, hv⟩
 ·rw [e] at h; cases h
 ·rw [e] at h
  have h2 : y ∈ qbu (qaB m i) l := (qcf _).mem_iff.1 ((qkf _ _).1 h)
  obtain ⟨rest, h3, h4, rfl⟩ := qnk h2
  obtain ⟨s', k, e', o'⟩ := qoI g (hv _ h2)
  have es := congrArg qlB e'
  have ek := congrArg qm1 e'
  rw [qb2, qb2] at es
  rw [qbL, qbL] at ek
  subst es
  subst ek
  refine ⟨_, rfl, o', ?_, ?_⟩
  ·rw [qeV]
   simp [qdL]
   omega
  ·rw [qkI (qhY _)]
   exact qle _ _
theorem qk2 {m : Md} {s : Int} {l : List (Int × Int)} (o : OkC m s l) (g : Gmd m) (i : Nat) (hi : i < m.rules.length) (hs : s = (qaB m i).from_) (ht : (qaB m i).takes = []) (h : (qbz m i (cfgV s l)).2 = 0) :
 (qbz m i (cfgV s l)).1.length = 1 := by
 rcases o.applyR g i hi hs with e | ⟨e, _⟩
 ·rw [e] at h; cases h
 ·rw [e, qbu, ht, chP]
  rfl
end
section
open Go.RowKit
set_option maxHeartbeats 2000000
theorem qrN (l : List Int) : TC Tryz.prog 11 [.list (qaf l)] (hpL []) (.ref 102 3 0) (hpL [(102, dkB ⟨l, 0, 11400714819323198485⟩)]) := by
 refine qcg fn11 (by simp) ?_
 unfold i11
 simp only [argL]
 refine wR0 0 [0] cJ0 ?_
 refine wR0 100 [2] cJ0 ?_
 refine wE ?_
 refine wN ?_
 exact ⟨by simp, rfl, rfl⟩
def dk0 (l : List Int) : Dk := ⟨l, 0, 11400714819323198485⟩
theorem qod {l : List Int} (h : l.length ≤ 400) : (dk0 l).ok := ⟨by simp only [dk0]; omega, by simp only [dk0]; omega⟩
theorem qnz (l : List Int) : TC Tryz.prog 11 [.list (qaf l)] (hpL []) dkR (hpL [(99999, dkB (dk0 l))]) := by
 have r1 : ∀ σ : Nat → Nat, renL σ (qaf l) = qaf l := fun σ => qbZ _ (qat _ l)
 refine qrl [(102, 99999)] (qrN l) ?_ rfl rfl ?_
 ·simp [renL, T.ren, r1]
 ·simp [renL, T.ren, swps, swp, Slot.ren, r1, dk0]
theorem qnN (l : List Int) : TP Tryz.prog 9 [.list (qaf l)] (.bool (decide (l.length ≤ 400))) := by
 have e : decide ((l.length : Int) ≤ 400) = decide (l.length ≤ 400) := decide_eq_decide.2 (by omega)
 rw [← e]
 have fX := @qai
 refine qak fn9 (by simp) ?_
 unfold i9
 simp only [argL]
 refine wR0 0 [0] fX ?_
 refine wR0 100 [2] fX ?_
 refine wP ?_
 exact .same rfl
def cks (s : Int) (l : List (Int × Int)) : List V := [.mk s [], .mk 0 (tokL l)]
abbrev encC (s : Int) (l : List (Int × Int)) : T := .agg [.int .i64 0, .list (qac (cks s l))]
abbrev sV (s : Int) (l : List (Int × Int)) : Slot := .live ⟨25, [.int .i64 0, .list (qac (cks s l))]⟩
theorem qm3 {m : Md} (g : Gmd m) (d : Dk) (hd : d.ok) : ∃ (s : Int) (l : List (Int × Int)) (d' : Dk), OkC m s l ∧ d'.ok ∧
 TC Tryz.prog 14 [dkR, qau m] (hpL [(99999, dkB d)]) (encC s l) (hpL [(99999, dkB d')]) := by
 have hm := g.tm
 have h1 := hm.n1
 have h2 := hm.n2
 have h3 := g.age
 have htf : qcG (cfM m) = qaF m := hm.cf.typeF
 obtain ⟨v, d', hvf, hvv, hok, hcf⟩ := qgK m d g.fit (by rw [htf]; exact qdK _ hm.kind (by omega) (by omega) (by omega)) (by rw [htf]; exact typedM_fit' g.fit) hd
 rw [htf] at hvv
 obtain ⟨s, l, rfl, o⟩ := qoI g (c := v) (by rw [qaT, g.check, hvv (qf8 _ hm.kind)]; rfl)
 exact ⟨s, l, d', o, hok, hcf⟩
theorem OkC.tick_tp {m : Md} {s : Int} {l : List (Int × Int)} (o : OkC m s l) (g : Gmd m) : TP Tryz.prog 20 [qau m, encC s l] (.tup [encC s (l.map (qbE m)), .int .i64 0]) := by
 have h := Go.Proofs.YtikhhnopcjgjpaaGreat.tick_tp m (cfgV s l) g.fit o.fit
 rw [o.tickM g] at h
 exact h
theorem OkC.tokens_tp {m : Md} {s : Int} {l : List (Int × Int)} (o : OkC m s l) (g : Gmd m) : TP Tryz.prog 22 [qau m, encC s l] (.tup [.list (qax l), .int .i64 0]) := by
 have h := qcp m (cfgV s l) g.fit o.fit
 rw [o.tokensM g] at h
 exact h
theorem qpp (s : Int) (l : List (Int × Int)) (h : (cfgV s l).fit) : TP Tryz.prog 24 [encC s l, encC s l] (.bool true) := by
 have := qoA (cfgV s l) (cfgV s l) h
 rw [qqs, qeY] at this
 exact this
theorem qkO {m : Md} (g : Gmd m) {s : Int} {l : List (Int × Int)} (o : OkC m s l) (d : Dk) (Q : IExit → (Nat → T) → Heap → Prop) : ∀ (n k : Nat), (k : Int) + n = m.age + 1 →
 (∀ i : Int, Q (.exit 0) (ofL [(4, .ref 402 10 0), (5, .ref 503 2 0), (6, .ref 601 2 0), (7, .int .i64 i), (36, .bool false)]) (hpL [(99999, dkB d), (402, sM m), (503, sV s l), (601, sV s (l.map fun x => (x.1, m.age + 1)))])) →
 WL Tryz.prog 109 qqH (ofL [(4, .ref 402 10 0), (5, .ref 503 2 0), (6, .ref 601 2 0), (7, .int .i64 k)]) (hpL [(99999, dkB d), (402, sM m), (503, sV s l), (601, sV s (l.map (qcD m k)))]) Q := by
 have ha := g.age
 intro n
 induction n with
 | zero =>
  intro k hk hQ
  have hd : decide ((k : Int) ≤ m.age) = false := decide_eq_false (by omega)
  rw [qhS k (by omega) o.tok]
  have fX := (cJ2 @hd @mdC.eq_1)
  refine qaa qqH.eq_1 ?_
  refine wR0 800 [4,5,6,7,36] fX ?_
  refine wF @hd ?_
  refine wX ?_
  refine wN ?_
  exact hQ _
 | succ n ih =>
  intro k hk hQ
  have hd : decide ((k : Int) ≤ m.age) = true := decide_eq_true (by omega)
  have hw : IntKind.wrap .i64 ((k : Int) + 1) = ((k + 1 : Nat) : Int) := by rw [wrap64 (by omega) (by omega)]; rfl
  have ht := (o.ticks g k).tick_tp g
  rw [qeC] at ht
  have hQ' := ih (k + 1) (by omega) hQ
  have hz : ((0 : Int) != 0) = false := rfl
  have fX := (cJ3 @hd @hw @mdC.eq_1)
  refine qaa qqH.eq_1 ?_
  refine W_gc ?_
  refine wR0 800 [4,5,6,7,36] fX ?_
  refine wT fX ?_
  refine wRn 900 [4,5,6,7,8,9] fX ?_
  refine rC fX ?_
  refine ⟨_, ht, rE fX ?_⟩
  refine wR0 1000 [4,5,6,7,8,46] fX ?_
  refine wF @hz ?_
  refine wR0 1200 [4,5,6,7] fX ?_
  refine wR0 1300 [4,5,6,7] fX ?_
  refine wN ?_
  refine qa1 [99999, 402, 503, 601] (by simp [inL]) (by simp [inL, T.cl]) (by simp [qap, inL, Slot.cl, T.cl, clL, qat, qam]) ?_
  exact hQ'
theorem qlA (l : List (Int × Int)) (i : Nat) (h : i < l.length) : (qax l).getD (i : Int).toNat .undef = encP (l.getD i (0, 0)) := by
 simp [qax, List.getD_eq_getElem?_getD, List.getElem?_eq_getElem h]
theorem qk6 {m : Md} (g : Gmd m) (l : List (Int × Int)) (hl : l.length ≤ 12) (d : Dk) (s5 s6 s7 : Slot) (Q : IExit → (Nat → T) → Heap → Prop) : ∀ (rest pre : List (Int × Int)) (n : Nat), l = pre ++ rest → pre.length = n →
 (∀ i : Int, Q (.exit 2) (ofL [(4, .ref 402 10 0), (12, .list (qax l)), (14, .list (qax (l.map fun x => (x.1, m.age + 1)))), (90, .int .i64 l.length), (91, .int .i64 i), (92, .bool false)]) (hpL [(99999, dkB d), (402, sM m), (503, s5), (601, s6), (1406, s7)])) →
 WL Tryz.prog 109 qpO (ofL [(4, .ref 402 10 0), (12, .list (qax l)), (14, .list (qax (l.map fun x => (x.1, m.age + 1)))), (90, .int .i64 l.length), (91, .int .i64 n)]) (hpL [(99999, dkB d), (402, sM m), (503, s5), (601, s6), (1406, s7)]) Q := by
 have ha := g.age
 intro rest
 induction rest with
 | nil =>
  intro pre n he hn hQ
  have hd : decide ((n : Int) < (l.length : Int)) = false := decide_eq_false (by rw [he, List.append_nil]; omega)
  have fX := @hd
  refine qaa qpO.eq_1 ?_
  refine wR0 2000 [4,12,14,90,91,92] fX ?_
  refine wF @hd ?_
  refine wX ?_
  refine wN ?_
  exact hQ _
 | cons x rest ih =>
  intro pre n he hn hQ
  have hlt : n < l.length := by rw [he]; simp; omega
  have hd : decide ((n : Int) < (l.length : Int)) = true := decide_eq_true (by omega)
  have hw : IntKind.wrap .i64 ((n : Int) + 1) = ((n + 1 : Nat) : Int) := by rw [wrap64 (by omega) (by omega)]; rfl
  have hw2 : IntKind.wrap .i64 (m.age + 1) = m.age + 1 := wrap64 (by omega) (by omega)
  have e1 : l.getD n (0, 0) = x := by rw [he, ← hn]; simp [List.getD_eq_getElem?_getD]
  have g1 : (qax l).getD (n : Int).toNat .undef = .agg [.int .i64 x.1, .int .i64 x.2] := by rw [qlA l n hlt, e1]; rfl
  have g2 : (qax (l.map fun x => (x.1, m.age + 1))).getD (n : Int).toNat .undef = .agg [.int .i64 x.1, .int .i64 (m.age + 1)] := by
   rw [qlA _ n (by simpa using hlt)]
   have : (l.map fun x => (x.1, m.age + 1)).getD n (0, 0) = (x.1, m.age + 1) := by rw [he, ← hn]; simp [List.getD_eq_getElem?_getD]
   rw [this]; rfl
  have hb1 : (n : Int) < ((qax l).length : Int) := by rw [qaP]; omega
  have hb2 : (n : Int) < ((qax (l.map fun x => (x.1, m.age + 1))).length : Int) := by rw [qaP, List.length_map]; omega
  have hQ' := ih (pre ++ [x]) (n + 1) (by simpa using he) (by simp [hn]) hQ
  have fX := (cJ8 @hd @hw @hw2 @g1 @g2 @qbq.eq_1 @qbq.eq_2 (cJ3 @eqT.eq_1 @eqT.eq_2 @mdC.eq_1))
  refine qaa qpO.eq_1 ?_
  refine wR0 2000 [4,12,14,90,91,92] fX ?_
  refine wT fX ?_
  refine wR0 2100 [4,12,14,16,90,91] fX ?_
  refine wR0 2200 [4,12,14,90,91,107] fX ?_
  refine wF fX ?_
  refine wR0 2400 [4,12,14,90,91] fX ?_
  refine wN ?_
  exact hQ'
set_option maxHeartbeats 20000000 in
theorem qp8 (l : List Int) : TP Tryz.prog 5 [.list (qaf l)] (.bool true) := by
 have hfew := qnN l
 by_cases hl : l.length ≤ 400
 ·have hb : decide (l.length ≤ 400) = true := decide_eq_true hl
  rw [hb] at hfew
  have hnew := qnz l
  obtain ⟨m, d1, g, hk, hd1, hM⟩ := qge (dk0 l) (qod hl)
  obtain ⟨s, xs, d2, o, hd2, hC⟩ := qm3 g d1 hd1
  have ha := g.age
  obtain ⟨K, hK⟩ := Int.eq_ofNat_of_zero_le (show 0 ≤ m.age + 1 by omega)
  have oK := o.ticks g K
  have eK := qhS K (by omega) o.tok
  rw [eK] at oK
  have hT := oK.tick_tp g
  have eT : (xs.map fun x => (x.1, m.age + 1)).map (qbE m) = xs.map fun x => (x.1, m.age + 1) := by
   rw [List.map_map]
   apply List.map_congr_left
   intro x _
   simp only [Function.comp, qbE, Prod.mk.injEq, true_and]
   omega
  rw [eT] at hT
  have hX := o.tokens_tp g
  have hY := oK.tokens_tp g
  have hS := qpp s (xs.map fun x => (x.1, m.age + 1)) oK.fit
  have hz : ((0 : Int) != 0) = false := rfl
  have hln : (qax xs).length = xs.length := qaP xs
  have hln2 : (qax (xs.map fun x => (x.1, m.age + 1))).length = xs.length := by rw [qaP, List.length_map]
  have hsl : ((xs.length : Int) != (xs.length : Int)) = false := by simp
  simp only [qau] at hM
  have fX := (cJ4 @hz @hln @hln2 @hsl)
  refine qak fn5 (by simp) ?_
  unfold i5
  simp only [argL]
  refine wR0 0 [0] fX ?_
  refine wRn 100 [0,23] fX ?_
  refine rC fX ?_
  refine ⟨_, qbO, rN fX ?_⟩
  refine rC fX ?_
  refine ⟨_, hfew, rE fX ?_⟩
  refine wF fX ?_
  refine wRn 300 [3] fX ?_
  refine rU [] [(99999, dkB (dk0 l))] fX ?_
  refine ⟨_, hnew, rE fX ?_⟩
  refine wRn 400 [3,4] (cJ2 @mdC.eq_1 fX) ?_
  refine rU [(99999, dkB (dk0 l))] [(99999, dkB d1)] (cJ2 @mdC.eq_1 fX) ?_
  refine ⟨_, hM.full1, rE (cJ2 @mdC.eq_1 fX) ?_⟩
  refine wRn 500 [4,5] (cJ2 @mdC.eq_1 fX) ?_
  refine rU [(99999, dkB d1)] [(99999, dkB d2)] (cJ2 @mdC.eq_1 fX) ?_
  refine ⟨_, hC.full1, rE (cJ2 @mdC.eq_1 fX) ?_⟩
  refine wR0 600 [4,5,6] fX ?_
  refine wR0 700 [4,5,6,7] fX ?_
  refine wL ?_
  (have e0 := qfW (m := m) o.tok)
  refine qa4 [4, 5, 6, 7] ?_
  (have hL := qkO g o d2 (n := K) (k := 0))
  rw [e0] at hL
  refine hL _ (by omega) ?_
  ·intro i
   refine wN ?_
   refine wRn 1400 [4,5,6,10,11] (cJ2 @mdC.eq_1 fX) ?_
   refine rC (cJ2 @mdC.eq_1 fX) ?_
   refine ⟨_, hT, rE (cJ2 @mdC.eq_1 fX) ?_⟩
   refine wRn 1500 [4,6,10,11,12,13] (cJ2 @mdC.eq_1 fX) ?_
   refine rC (cJ2 @mdC.eq_1 fX) ?_
   refine ⟨_, hX, rE (cJ2 @mdC.eq_1 fX) ?_⟩
   refine wRn 1600 [4,6,10,11,12,13,14,15] (cJ2 @mdC.eq_1 fX) ?_
   refine rC (cJ2 @mdC.eq_1 fX) ?_
   refine ⟨_, hY, rE (cJ2 @mdC.eq_1 fX) ?_⟩
   refine wRn 1700 [4,12,14,88] fX ?_
   refine rC fX ?_
   refine ⟨_, hS, rE fX ?_⟩
   refine wF fX ?_
   refine wR0 1900 [4,12,14,90,91] fX ?_
   refine wL ?_
   refine qa4 [4, 12, 14, 90, 91] ?_
   refine qk6 g xs o.len d2 _ _ _ _ xs [] 0 rfl rfl ?_
   ·intro i
    refine wN ?_
    refine wR0 2500 [2] fX ?_
    refine wP ?_
    exact .same rfl
 ·have hb : decide (l.length ≤ 400) = false := decide_eq_false hl
  rw [hb] at hfew
  refine qak fn5 (by simp) ?_
  unfold i5
  simp only [argL]
  refine wR0 0 [0] cJ0 ?_
  refine wRn 100 [0,23] cJ0 ?_
  refine rC cJ0 ?_
  refine ⟨_, qbO, rN cJ0 ?_⟩
  refine rC cJ0 ?_
  refine ⟨_, hfew, rE cJ0 ?_⟩
  refine wT cJ0 ?_
  refine wRn 200 [2] cJ0 ?_
  refine rC cJ0 ?_
  refine ⟨_, qbO, rE cJ0 ?_⟩
  refine wP ?_
  exact .same rfl
theorem qmO (m : Md) (s : Int) (a : Int) (bs : List V) (hm : m.fit) (hq : (V.mk a bs).fit) (h0 : qaI m = 0) (hv : qaT m (.mk 0 [.mk s [], .mk a bs]) = true) : TP Tryz.prog 27 [qau m, .int .i64 s, .list [encV (.mk a bs)]] (.tup [encV (.mk 0 [.mk s [], .mk a bs]), .int .i64 0]) := by
 have hmc : ∀ D, clL D (mdC m) = true := fun D => by simp
 have hmo := qca m
 have hc := qg5 m hm
 rw [h0] at hc
 have hz : ((0 : Int) != 0) = false := rfl
 have hfit : (V.mk 0 [.mk s [], .mk a bs]).fit := ⟨by simp, ⟨⟨by simp, trivial⟩, hq, trivial⟩⟩
 have ht := qhf m (qfw hm h0)
 have hvv := qcP (qaF m) (.mk 0 [.mk s [], .mk a bs]) (typedM_fit' hm) hfit
 have hv2 : qa3 (qaF m) (.mk 0 [.mk s [], .mk a bs]) = true := by
  rw [qaT, Bool.and_eq_true] at hv
  exact hv.2
 rw [hv2] at hvv
 have hcp := qkY _ hfit
 simp only [encV, qac] at hvv hcp
 have hfz : ∀ (H : Heap) (D : Nat → Bool) (ty : TypeId), H 402 = .live ⟨ty, [.int .i64 s, .nil, .int .i64 a, .list (qac bs)]⟩ → D 402 = false → Fz H D (.sl 402 4 2 0 2) (.list [.agg [.int .i64 s, .list []], .agg [.int .i64 a, .list (qac bs)]]) := fun H D ty h hd => .slL h hd rfl rfl rfl rfl rfl (.cons (.same rfl) (.cons .nil (.cons (.same rfl) (.cons (.same (by simp [T.cl, qam])) .nil))))
 have fX := (cJ2 @qc0 @qcF)
 refine qak fn27 (by simp) ?_
 unfold i27
 simp only [argL, encV, qau, mdC, qac]
 refine wR0 0 [1,2,3,6] fX ?_
 refine wRn 100 [1,2,3,6,8] fX ?_
 refine rC fX ?_
 refine ⟨_, hc, rE fX ?_⟩
 refine wR0 200 [1,2,3,6,8,13] fX ?_
 refine wF @hz ?_
 refine wR0 400 [3,6,9] fX ?_
 simp only [thn]
 refine qcx (l' := [(3, .ref 0 10 0), (6, .ref 1 2 0), (9, .ref 406 2 0)]) (hl' := [(0, _), (1, _), (402, .dead), (406, .live ⟨25, [.int .i64 0, .list [.agg [.int .i64 s, .list []], .agg [.int .i64 a, .list (qac bs)]]]⟩)]) [0, 1, 406] (.cons (.same rfl) (.cons (.same rfl) (.cons (.same rfl) .nil))) (.keep rfl (.liveS (hmc _) hmo) (.keep rfl (.liveA rfl rfl) (.dead rfl (fun h => by cases h) (.keep rfl (.liveL (.cons (.same rfl) (.cons (hfz _ _ _ rfl rfl) .nil)) rfl) .nil)))) ?_
 refine wRn 500 [6,9,26] fX ?_
 refine rC fX ?_
 refine ⟨_, ht, rN fX ?_⟩
 refine rC fX ?_
 refine ⟨_, hvv, rE fX ?_⟩
 refine wF fX ?_
 refine wRn 700 [6,7] fX ?_
 refine rC fX ?_
 refine ⟨_, hcp, rE fX ?_⟩
 refine wP ?_
 exact Frz.tupL (.cons (.same (by simp [mkEl, esz, T.cl, clL, qam])) (.cons (.same rfl) .nil))
end
end Go.Proofs.YtikhhnopcjgjpaaGreat
