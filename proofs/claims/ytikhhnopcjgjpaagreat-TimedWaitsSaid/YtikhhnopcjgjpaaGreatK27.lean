/- Contracts of functions of the program, for all arguments that they name. -/
import Derived.Test.YtikhhnopcjgjpaaGreatK11
import Derived.Test.YtikhhnopcjgjpaaGreatK18
import Derived.Test.YtikhhnopcjgjpaaGreatK23
import Derived.Test.YtikhhnopcjgjpaaGreatK25
namespace Go.Proofs.YtikhhnopcjgjpaaGreat
set_option linter.unusedVariables false
section
open Go.RowKit
def qhn (m : Md) (x : Int × Int) : Prop := 0 ≤ x.1 ∧ x.1 < m.places.length ∧ 0 ≤ x.2 ∧ x.2 < m.age + 2
theorem qim {m : Md} (hk : m.kind = 5) : qaF m = qaZ [qaN m.states.length, qbf 5 (.mk 3 0 [] [qaN m.places.length, qaN (m.age + 2)])] := by
 simp [qaF, hk]
theorem qgl (n : Int) (v : V) : ofV (qaN n) v = true ↔ 0 ≤ v.n ∧ v.n < n ∧ v.kids = [] := by
 rw [qaN, ofV]
 simp [and_assoc]
theorem qnE (a b : Int) (v : V) : ofV (.mk 3 0 [] [qaN a, qaN b]) v = true ↔ ∃ p q, v = tokV p q ∧ 0 ≤ p ∧ p < a ∧ 0 ≤ q ∧ q < b := by
 rw [ofV]
 rcases v with ⟨n, ks⟩
 simp only [V.n, V.kids]
 constructor
 ·intro h
  simp at h
  obtain ⟨⟨h0, h1⟩, h2⟩ := h
  match ks, h1, h2 with
  | [x, y], _, h2 =>
   simp only [qdm, Bool.and_eq_true, qgl] at h2
   obtain ⟨⟨a1, a2, a3⟩, ⟨b1, b2, b3⟩, _⟩ := h2
   rcases x with ⟨p, xs⟩
   rcases y with ⟨q, ys⟩
   simp only [V.n, V.kids] at *
   subst a3 b3 h0
   exact ⟨p, q, rfl, a1, a2, b1, b2⟩
  | [], h1, _ => simp at h1
  | [_], h1, _ => simp at h1
  | _ :: _ :: _ :: _, h1, _ => simp at h1; omega
 ·rintro ⟨p, q, e, h1, h2, h3, h4⟩
  simp only [tokV, V.mk.injEq] at e
  obtain ⟨rfl, rfl⟩ := e
  have e1 : ofV (qaN a) (.mk p []) = true := (qgl _ _).2 ⟨h1, h2, rfl⟩
  have e2 : ofV (qaN b) (.mk q []) = true := (qgl _ _).2 ⟨h3, h4, rfl⟩
  simp [qdm, e1, e2]
theorem qjd {P : Int → Int → Prop} : ∀ {ks : List V}, (∀ v ∈ ks, ∃ p q, v = tokV p q ∧ P p q) → ∃ l : List (Int × Int), ks = tokL l ∧ ∀ x ∈ l, P x.1 x.2
 | [], _ => ⟨[], rfl, by simp⟩
 | k :: ks, h => by
  obtain ⟨p, q, e, hp⟩ := h k (by simp)
  obtain ⟨l, e2, hl⟩ := qjd fun v hv => h v (List.mem_cons_of_mem _ hv)
  refine ⟨(p, q) :: l, by rw [e, e2]; rfl, fun x hx => ?_⟩
  rcases List.mem_cons.1 hx with rfl | hx
  ·exact hp
  ·exact hl x hx
theorem qb7 (l : List (Int × Int)) : (tokL l).length = l.length := by simp [tokL]
theorem qiq {m : Md} (hk : m.kind = 5) (c : V) : ofV (qaF m) c = true ↔ ∃ s l, c = cfgV s l ∧ 0 ≤ s ∧ s < m.states.length ∧ l.length ≤ 12 ∧ (∀ x ∈ l, qhn m x) ∧ qa8 (tokL l) = true := by
 rw [qim hk, qaZ, ofV]
 rcases c with ⟨n, ks⟩
 simp only [V.n, V.kids]
 constructor
 ·intro h
  simp at h
  obtain ⟨⟨h0, h1⟩, h2⟩ := h
  match ks, h1, h2 with
  | [x, y], _, h2 =>
   simp only [qdm, Bool.and_eq_true, qgl, qbf] at h2
   obtain ⟨⟨a1, a2, a3⟩, h3, _⟩ := h2
   rw [ofV] at h3
   rcases x with ⟨s, xs⟩
   rcases y with ⟨b, ys⟩
   simp only [V.n, V.kids] at *
   simp [qdO] at h3
   obtain ⟨⟨rfl, hl⟩, h4, h5⟩ := h3
   obtain ⟨l, e, hok⟩ := qjd (P := fun p q => 0 ≤ p ∧ p < (m.places.length : Int) ∧ 0 ≤ q ∧ q < m.age + 2) fun v hv => (qnE _ _ v).1 (h4 v hv)
   subst a3 h0 e
   exact ⟨s, l, rfl, a1, a2, by rw [qb7] at hl; omega, hok, h5⟩
  | [], h1, _ => simp at h1
  | [_], h1, _ => simp at h1
  | _ :: _ :: _ :: _, h1, _ => simp at h1; omega
 ·rintro ⟨s, l, e, h1, h2, h3, h4, h5⟩
  simp only [cfgV, V.mk.injEq] at e
  obtain ⟨rfl, rfl⟩ := e
  have e1 : ofV (qaN m.states.length) (.mk s []) = true := (qgl _ _).2 ⟨h1, h2, rfl⟩
  have e2 : ofV (qbf 5 (.mk 3 0 [] [qaN m.places.length, qaN (m.age + 2)])) (.mk 0 (tokL l)) = true := by
   rw [qbf, ofV]
   have : ∀ v ∈ tokL l, ofV (.mk 3 0 [] [qaN m.places.length, qaN (m.age + 2)]) v = true := fun v hv => by
    obtain ⟨x, hx, rfl⟩ := List.mem_map.1 hv
    have := h4 x hx
    exact (qnE _ _ _).2 ⟨x.1, x.2, rfl, this.1, this.2.1, this.2.2.1, this.2.2.2⟩
   simp [V.n, V.kids, qdO, qb7, h5]
   exact ⟨by omega, this⟩
  simp [qdm, e1, e2]
theorem qdf (k : V) (ks : List V) (n most : Int) : qcV (k :: ks) n most = if n ≤ most then qcV ks (n + qbw k (most - n)) most else n := by rw [qcV]
theorem qdM (n most : Int) : qcV [] n most = n := by rw [qcV]
theorem qel (a : Int) (ks : List V) (most : Int) : qbw (.mk a ks) most = qcV ks 1 most := by rw [qbw]
theorem qkb : ∀ (l : List (Int × Int)) (n most : Int), n + 3 * l.length ≤ most → qcV (tokL l) n most = n + 3 * l.length
 | [], n, most, h => by simp [tokL, qcV]
 | x :: l, n, most, h => by
  simp only [List.length_cons] at h
  have ih := qkb l (n + 3) most (by omega)
  have h3 : qbw (tokV x.1 x.2) (most - n) = 3 := by
   rw [tokV, qel, qdf, if_pos (by omega), qel, qdM, qdf, if_pos (by omega), qel, qdM, qdM]
   rfl
  simp only [tokL, List.map_cons] at ih ⊢
  rw [qdf, if_pos (by omega), h3, ih]
  simp only [List.length_cons]; omega
theorem qiY (s : Int) (l : List (Int × Int)) (h : l.length ≤ 12) : qbw (cfgV s l) 128 ≤ 128 := by
 have := qkb l 1 126 (by omega)
 rw [cfgV, qel, qdf, if_pos (by omega), qel, qdM, qdf, if_pos (by omega), qdM, qel]
 have e : (128 : Int) - (1 + 1) = 126 := rfl
 rw [e, this]; omega
theorem qnL {m : Md} (hk : m.kind = 5) (h : qaI m = 0) : qbo (qaF m) = 0 ∧ qa3 (qaF m) m.start = true := by
 unfold qaI at h
 repeat' split at h
 all_goals first | cases h | skip
 rename_i hb
 have hv : qa3 (qaF m) m.start = true := by
  have : qbl m = true := by simpa using hb
  rw [qbl, if_neg (by omega)] at this
  exact this
 refine ⟨?_, hv⟩
 unfold qa3 at hv
 simp only [Bool.and_eq_true] at hv
 simpa using hv.1.1
theorem qgf {m : Md} (hk : m.kind = 5) (h : qaI m = 0) (c : V) : qaT m c = true ↔ ∃ s l, c = cfgV s l ∧ 0 ≤ s ∧ s < m.states.length ∧ l.length ≤ 12 ∧ (∀ x ∈ l, qhn m x) ∧ qa8 (tokL l) = true := by
 rw [qaT, qa3, h, (qnL hk h).1]
 simp only [BEq.rfl, Bool.true_and, Bool.and_eq_true, decide_eq_true_eq, qiq hk]
 constructor
 ·exact fun h => h.2
 ·rintro ⟨s, l, rfl, h⟩
  exact ⟨qiY s l h.2.2.1, s, l, rfl, h⟩
theorem qfM {m : Md} (hk : m.kind = 5) (h : qaI m = 0) : m.states.length ≤ 8 ∧ 1 ≤ m.places.length ∧ m.places.length ≤ 6 ∧ 0 ≤ m.age ∧ m.age ≤ 3 ∧ m.rules.length ≤ 12 := by
 unfold qaI at h
 repeat' split at h
 all_goals first | cases h | skip
 rename_i _ hs _ _ _ _
 have hs' : qa2 m = true := by simpa using hs
 have hl : limC m.kind = [1, 6, 0, 0, 0, 0, 0, 3] := by rw [hk]; rfl
 simp [qa2, btw, hl] at hs'
 omega
def unT (v : V) : Int × Int := ((v.kids.getD 0 v0).n, (v.kids.getD 1 v0).n)
theorem qgG : ∀ l : List (Int × Int), (tokL l).map unT = l
 | [] => rfl
 | x :: l => by have := qgG l; simp only [tokL, List.map_cons] at this ⊢; rw [this]; rfl
def qfx (l : List (Int × Int)) : List (Int × Int) := (qby (tokL l)).map unT
theorem qrX {ks : List V} {l : List (Int × Int)} (h : ks.Perm (tokL l)) : tokL (ks.map unT) = ks := by
 have hk : ∀ v ∈ ks, ∃ p q, v = tokV p q ∧ True := fun v hv => by
  obtain ⟨x, _, rfl⟩ := List.mem_map.1 (h.mem_iff.1 hv)
  exact ⟨x.1, x.2, rfl, trivial⟩
 obtain ⟨l', rfl, _⟩ := qjd (P := fun _ _ => True) hk
 rw [qgG]
theorem qhL (l : List (Int × Int)) : tokL (qfx l) = qby (tokL l) := qrX (qcf _)
theorem qhY (l : List (Int × Int)) : (qfx l).Perm l := by
 have := (qcf (tokL l)).map unT
 rwa [qgG] at this
theorem qeV (l : List (Int × Int)) : (qfx l).length = l.length := (qhY l).length_eq
theorem qov (p a q b : Int) : cmpV (tokV p a) (tokV q b) < 0 ↔ p < q ∨ p = q ∧ a < b := by
 have hn : ∀ x : Int, ¬ cmpL ([] : List V) [] < 0 := fun _ => by simp [cmpL]
 have h1 : ∀ x y : Int, cmpV (.mk x []) (.mk y []) < 0 ↔ x < y := fun x y => by
  rw [qkF]; simp [cmpL]
 rw [tokV, tokV, qkF]
 simp only [Int.lt_irrefl, false_or, true_and, List.length_cons, List.length_nil, Nat.lt_irrefl, qjm, h1, V.mk.injEq, and_true]
 simp [cmpL]
def AscP (l : List (Int × Int)) : Prop := l.Pairwise fun x y => x.1 < y.1 ∨ x.1 = y.1 ∧ x.2 ≤ y.2
theorem qiS (l : List (Int × Int)) : Asc (tokL l) ↔ AscP l := by
 rw [Asc, AscP, tokL, List.pairwise_map]
 constructor <;> intro h <;> refine h.imp fun {x y} hxy => ?_
 ·rw [qov] at hxy; omega
 ·rw [qov]; omega
theorem qeA : ∀ l : List V, qa8 l = true ↔ Asc l
 | [] => by simp [qa8, Asc]
 | [x] => by simp [qa8, Asc]
 | x :: y :: l => by
  have ih := qeA (y :: l)
  simp only [qa8, Bool.and_eq_true, ih]
  constructor
  ·rintro ⟨h1, h2⟩
   have h1' : ¬ cmpV y x < 0 := by have := qcl x y; simp at h1; omega
   refine List.pairwise_cons.2 ⟨fun z hz => ?_, h2⟩
   rcases List.mem_cons.1 hz with rfl | hz
   ·exact h1'
   ·exact qdu h1' ((List.pairwise_cons.1 h2).1 z hz)
  ·intro h
   have h' := List.pairwise_cons.1 h
   have := h'.1 y (List.mem_cons_self ..)
   have n1 := qcl x y
   exact ⟨by simp; omega, h'.2⟩
theorem qh8 {l : List (Int × Int)} (h : AscP l) : qfx l = l := by
 have h' := (qiS l).2 h
 rw [qfx, ← qmv (List.Perm.refl _) h', qgG]
def qco (s : Int) (l : List (Int × Int)) : V := cfgV s (qfx l)
theorem qeX {m : Md} (hk : m.kind = 5) (h : qaI m = 0) {c : V} (hv : qaT m c = true) : ∃ s l, c = cfgV s l ∧ 0 ≤ s ∧ s < m.states.length ∧ l.length ≤ 12 ∧ (∀ x ∈ l, qhn m x) ∧ AscP l := by
 obtain ⟨s, l, e, h1, h2, h3, h4, h5⟩ := (qgf hk h c).1 hv
 exact ⟨s, l, e, h1, h2, h3, h4, (qiS l).1 ((qeA _).1 h5)⟩
theorem qjy {m : Md} (hk : m.kind = 5) (h : qaI m = 0) {s : Int} {l : List (Int × Int)} (h1 : 0 ≤ s) (h2 : s < m.states.length) (h3 : l.length ≤ 12) (h4 : ∀ x ∈ l, qhn m x) (h5 : AscP l) : qaT m (cfgV s l) = true :=
 (qgf hk h _).2 ⟨s, l, rfl, h1, h2, h3, h4, (qeA _).2 ((qiS l).2 h5)⟩
def qbE (m : Md) (x : Int × Int) : Int × Int := (x.1, min (x.2 + 1) (m.age + 1))
theorem qpR {m : Md} {x : Int × Int} (h0 : 0 ≤ m.age) (h : qhn m x) : qhn m (qbE m x) := by
 obtain ⟨h1, h2, h3, h4⟩ := h
 exact ⟨h1, h2, by simp only [qbE]; omega, by simp only [qbE]; omega⟩
theorem qjr (m : Md) {l : List (Int × Int)} (h : AscP l) : AscP (l.map (qbE m)) := by
 rw [AscP, List.pairwise_map]
 refine h.imp fun {x y} hxy => ?_
 simp only [qbE]; omega
def qlB (c : V) : Int := (c.kids.getD 0 v0).n
def qm1 (c : V) : List (Int × Int) := (c.kids.getD 1 v0).kids.map unT
theorem qb2 (s : Int) (l : List (Int × Int)) : qlB (cfgV s l) = s := rfl
theorem qbL (s : Int) (l : List (Int × Int)) : qm1 (cfgV s l) = l := qgG l
def qbB (t : Tk) (x : Int × Int) : Bool := x.1 == t.place && decide (x.2 ≥ t.low) && decide (x.2 ≤ t.high)
def nm2 (x : UInt8 × UInt8) : ByteArray := ⟨#[x.1, x.2]⟩
theorem qeb (x : UInt8 × UInt8) : (nm2 x).toList = [x.1, x.2] := by
 simp [nm2, ByteArray.toList, ByteArray.toList.loop, ByteArray.size, ByteArray.get!]
theorem qiM (x : UInt8 × UInt8) : (nm2 x).size = 2 := rfl
def qmA (x : UInt8 × UInt8) : Bool := decide (97 ≤ x.1.toNat) && decide (x.1.toNat ≤ 122) && decide (48 ≤ x.2.toNat) && decide (x.2.toNat ≤ 57)
theorem qqU {x : UInt8 × UInt8} (h : qmA x = true) : qfD (nm2 x) = true := by
 obtain ⟨a, b⟩ := x
 simp [qmA] at h
 obtain ⟨⟨⟨h1, h2⟩, h3⟩, h4⟩ := h
 have e0 : qcb (nm2 (a, b)) 0 = (a.toNat : Int) := rfl
 have e1 : qcb (nm2 (a, b)) 1 = (b.toNat : Int) := rfl
 have p0 : letB (a.toNat : Int) = true := by simp [letB]; omega
 have p1 : digB (b.toNat : Int) = true := by simp [digB]; omega
 have hr : runN (nm2 (a, b)) 2 0 = 2 := by
  simp [runN, e0, e1, qi0, p0, p1]
 have hn : ((nm2 (a, b)).toList == ByteArray.toList ⟨#[]⟩) = false := by
  rw [qeb]; simp [ByteArray.toList, ByteArray.toList.loop, ByteArray.size]
 rw [qfD, hn, qiM, e0, p0, hr]
 rfl
theorem nm2_kw (x : UInt8 × UInt8) : kwS (nm2 x) = false := by
 rw [kwS, inS, List.any_eq_false]
 intro k hk
 have hl : k.toList.length ≠ 2 := by
  simp only [kws, List.mem_cons, List.not_mem_nil, or_false] at hk
  rcases hk with rfl | rfl | rfl | rfl | rfl | rfl | rfl | rfl | rfl | rfl | rfl | rfl | rfl | rfl | rfl | rfl | rfl | rfl <;> simp [ByteArray.toList, ByteArray.toList.loop, ByteArray.size, ByteArray.get!]
 rw [qeb]
 intro h
 have := beq_iff_eq.1 h
 rw [← this] at hl
 simp at hl
theorem qq4 (x : UInt8 × UInt8) : ∀ l : List (UInt8 × UInt8), x ∉ l → inS (nm2 x) (l.map nm2) = false
 | [], _ => rfl
 | y :: l, h => by
  have ih := qq4 x l (fun hx => h (List.mem_cons_of_mem _ hx))
  have hy : x ≠ y := fun e => h (e ▸ List.mem_cons_self ..)
  simp only [inS, List.map_cons, List.any_cons] at ih ⊢
  rw [ih, qeb, qeb]
  obtain ⟨a, b⟩ := x
  obtain ⟨c, d⟩ := y
  simp at hy ⊢
  exact hy
theorem qow : ∀ (l seen : List (UInt8 × UInt8)), (seen ++ l).Nodup → (∀ x ∈ l, qmA x = true) → newS (seen.map nm2) (l.map nm2) = true
 | [], _, _, _ => rfl
 | x :: l, seen, hn, hg => by
  have hx : x ∉ seen := fun h => by
   have := (List.nodup_append.1 hn).2.2 x h x (List.mem_cons_self ..)
   exact this rfl
  have ih := qow l (seen ++ [x]) (by simpa using hn) fun y hy => hg y (List.mem_cons_of_mem _ hy)
  rw [List.map_append] at ih
  simp only [List.map_cons, newS, qqU (hg x (List.mem_cons_self ..)), nm2_kw, qq4 x seen hx, Bool.not_false, Bool.and_self, Bool.true_and]
  exact ih
def nmP (c : UInt8) (n : Nat) : List (UInt8 × UInt8) := (List.range n).map fun i => (c, UInt8.ofNat (48 + i))
end
section
open Go.RowKit
set_option maxHeartbeats 2000000
theorem FzL.append {H : Heap} {D : Nat → Bool} : ∀ {xs ys xs' ys' : List T}, FzL H D xs ys → FzL H D xs' ys' → FzL H D (xs ++ xs') (ys ++ ys')
 | [], [], _, _, _, h' => h'
 | [], _ :: _, _, _, h, _ => by simp [FzL] at h
 | _ :: _, [], _, _, h, _ => by simp [FzL] at h
 | x :: xs, y :: ys, xs', ys', h, h' => by
  refine FzL.cons (h.2 0 (by simp)) (FzL.append ⟨by simpa using h.1, fun i hi => ?_⟩ h')
  simpa using h.2 (i + 1) (by simpa using hi)
theorem SlotFz.liveApp {H : Heap} {D : Nat → Bool} {ty : TypeId} {cs0 cs cs' : List T} (h0 : clL D cs0 = true) (o0 : Ones cs0) (h : FzL H D cs cs') (h1 : (cs'.all T.one) = true) : SlotFz H D (.live ⟨ty, cs0 ++ cs⟩) (.live ⟨ty, cs0 ++ cs'⟩) := by
 refine SlotFz.liveL (FzL.append ⟨rfl, fun i hi => .same (qa7 h0 i)⟩ h) ?_
 rw [List.all_append, h1, Bool.and_true, List.all_eq_true]
 exact o0
attribute [local simp] qaQ
theorem qhT (m : Md) (s : Int) (xs : List (Int × Int)) (hl : xs.length ≤ 1000) (Q : IExit → (Nat → T) → Heap → Prop) : ∀ (rest pre : List (Int × Int)) (n : Nat), xs = pre ++ rest → pre.length = n →
 (∀ i : Int, Q (.exit 0) (ofL [(1, .int .i64 s), (3, .ref 0 10 0), (6, .ref 1 2 0), (8, .ref 101 2 0), (13, .list (qax xs)), (14, .int .i64 (qax xs).length), (15, .int .i64 i), (16, .bool false)]) (hpL ([(0, .live ⟨34, mdC m⟩), (1, .live ⟨25, [.int .i64 0, .nil]⟩), (101, .live ⟨25, [.int .i64 0, rowT 511 (tokL xs)]⟩)] ++ rowH 511 25 (tokL xs)))) →
 WL Tryz.prog 44 qjF (ofL [(1, .int .i64 s), (3, .ref 0 10 0), (6, .ref 1 2 0), (8, .ref 101 2 0), (13, .list (qax xs)), (14, .int .i64 (qax xs).length), (15, .int .i64 n)]) (hpL ([(0, .live ⟨34, mdC m⟩), (1, .live ⟨25, [.int .i64 0, .nil]⟩), (101, .live ⟨25, [.int .i64 0, rowT 511 (tokL pre)]⟩)] ++ rowH 511 25 (tokL pre))) Q := by
 have hmc : ∀ D, clL D (mdC m) = true := fun D => by simp
 have hmo := qca m
 intro rest
 induction rest with
 | nil =>
  intro pre n he hn hQ
  have hd : decide ((n : Int) < ((qax xs).length : Int)) = false := by simp [qaP, he, hn]
  simp only [List.append_nil] at he
  subst he
  simp only [List.cons_append, List.nil_append] at hQ ⊢
  have fX := @hd
  refine qaa qjF.eq_1 ?_
  refine wR0 300 [1,3,6,8,13,14,15,16] fX ?_
  refine wF @hd ?_
  refine wX ?_
  refine wN ?_
  exact hQ _
 | cons k rest ih =>
  intro pre n he hn hQ
  rcases k with ⟨p, a⟩
  have hlt : (n : Int) < ((qax xs).length : Int) := by simp [qaP, he]; omega
  have hlb : n ≤ 1000000 := by rw [he] at hl; simp at hl; omega
  have hd : decide ((n : Int) < ((qax xs).length : Int)) = true := decide_eq_true hlt
  have hg : (qax xs).getD (n : Int).toNat .undef = .agg [.int .i64 p, .int .i64 a] := by rw [Int.toNat_natCast, he, ← hn]; exact qgZ _ _ _
  have hw : IntKind.wrap .i64 ((n : Int) + 1) = ((n + 1 : Nat) : Int) := by rw [wrap64 (by omega) (by omega)]; rfl
  have hx0 : (List.take 1 (List.drop (Int.toNat 0 * 1) [T.int .i64 p, T.int .i64 a])).getD 0 .undef = .int .i64 p := rfl
  have hx1 : (List.take 1 (List.drop (Int.toNat 1 * 1) [T.int .i64 p, T.int .i64 a])).getD 0 .undef = .int .i64 a := rfl
  have hfz : ∀ (H : Heap) (D : Nat → Bool) (ty : TypeId), H 508 = .live ⟨ty, [.int .i64 p, .nil, .int .i64 a, .nil]⟩ → D 508 = false → Fz H D (.sl 508 4 2 0 2) (.list [encV (.mk p []), encV (.mk a [])]) := fun H D ty h hd => .slL h hd rfl rfl rfl rfl rfl (.cons (.same rfl) (.cons .nil (.cons (.same rfl) (.cons .nil .nil))))
  have hpc : ∀ D, clL D (qax xs) = true := fun D => qc9 D _
  have hQ' := ih (pre ++ [(p, a)]) (n + 1) (by simpa using he) (by simp [hn]) hQ
  cases pre with
  | nil =>
   have e0 : tokL ([] : List (Int × Int)) = [] := rfl
   simp only [e0, rowT, rowH, List.append_nil]
   have fX := (cJ7 @hd @hg @hw @qaz @qcF @hx0 @hx1)
   refine qaa qjF.eq_1 ?_
   refine W_gc ?_
   refine wR0 300 [1,3,6,8,13,14,15,16] fX ?_
   refine wT fX ?_
   refine wR0 400 [1,3,6,8,10,13,14,15] fX ?_
   refine wR0 500 [1,3,6,8,13,14,15] fX ?_
   simp only [thn, inB]
   refine qcx (l' := [(1, .int .i64 s), (3, .ref 0 10 0), (6, .ref 1 2 0), (8, .ref 101 2 0), (13, .list (qax xs)), (14, .int .i64 (qax xs).length), (15, .int .i64 n)]) (hl' := [(0, _), (1, _), (101, _), (402, .dead), (508, .dead), (510, .dead), (511, .live ⟨25, [.int .i64 0, .list [encV (.mk p []), encV (.mk a [])]]⟩)]) [0, 1, 101, 511] (.cons (.same rfl) (.cons (.same rfl) (.cons (.same rfl) (.cons (.same rfl) (.cons (.same (hpc _)) (.cons (.same rfl) (.cons (.same rfl) .nil))))))) (.keep rfl (.liveS (hmc _) hmo) (.keep rfl (.liveA rfl rfl) (.keep rfl (.liveA rfl rfl) (.dead rfl (fun h => by cases h) (.dead rfl (fun h => by cases h) (.dead rfl (fun h => by cases h) (.keep rfl (.liveL (.cons (.same rfl) (.cons (hfz _ _ _ rfl rfl) .nil)) rfl) .nil))))))) ?_
   refine wR0 600 [1,3,6,8,13,14,15] fX ?_
   refine wN ?_
   refine qa1 [0, 1, 101, 511] (by simp [inL]) (by simp [inL, T.cl]) (by simp [qap, inL, Slot.cl, T.cl, clL, hmc, qcT]) ?_
   simpa [qap, inL, rowT, rowH, tokL, tokV, qao, V.n, V.kids, qac] using hQ'
  | cons z l =>
   have hlb2 : l.length + 1 ≤ 1000000 := by simp at hn; omega
   have e0 : tokL (z :: l) = tokV z.1 z.2 :: tokL l := rfl
   simp only [e0, rowT, rowH, List.cons_append, List.nil_append, qb7]
   have fX := (cJ8 @hd @hg @hw @qaz @qcF @hx0 @hx1 (cJ2 @qaE @qb7))
   refine qaa qjF.eq_1 ?_
   refine W_gc ?_
   refine wR0 300 [1,3,6,8,13,14,15,16] fX ?_
   refine wT fX ?_
   refine wR0 400 [1,3,6,8,10,13,14,15] fX ?_
   refine wR0 500 [1,3,6,8,13,14,15] fX ?_
   simp only [thn, inB]
   refine qcx (l' := [(1, .int .i64 s), (3, .ref 0 10 0), (6, .ref 1 2 0), (8, .ref 101 2 0), (13, .list (qax xs)), (14, .int .i64 (qax xs).length), (15, .int .i64 n)]) (hl' := [(0, _), (1, _), (101, _), (511, .live ⟨25, qao (tokV z.1 z.2 :: tokL l) ++ [.int .i64 0, .list [encV (.mk p []), encV (.mk a [])]]⟩), (402, .dead), (508, .dead), (510, .dead)]) [0, 1, 101, 511] (.cons (.same rfl) (.cons (.same rfl) (.cons (.same rfl) (.cons (.same rfl) (.cons (.same (hpc _)) (.cons (.same rfl) (.cons (.same rfl) .nil))))))) (.keep rfl (.liveS (hmc _) hmo) (.keep rfl (.liveA rfl rfl) (.keep rfl (.liveA rfl rfl) (.keep rfl (.liveApp (qaQ _ _) (qbv _) (.cons (.same rfl) (.cons (hfz _ _ _ rfl rfl) .nil)) rfl) (.dead rfl (fun h => by cases h) (.dead rfl (fun h => by cases h) (.dead rfl (fun h => by cases h) .nil))))))) ?_
   refine wR0 600 [1,3,6,8,13,14,15] fX ?_
   refine wN ?_
   refine qa1 [0, 1, 101, 511] (by simp [inL]) (by simp [inL, T.cl]) (by simp [qap, inL, Slot.cl, T.cl, clL, hmc, qcT, qaQ, qaw]) ?_
   have e1 : tokL (z :: (l ++ [(p, a)])) = tokV z.1 z.2 :: (tokL l ++ [tokV p a]) := (by simp [tokL])
   have hs : qao (tokV z.1 z.2 :: (tokL l ++ [tokV p a])) = qao (tokV z.1 z.2 :: tokL l) ++ [.int .i64 0, .list [encV (.mk p []), encV (.mk a [])]] := qbU (tokV z.1 z.2 :: tokL l) (tokV p a)
   have hm2 : (l.length + 1 + 1) * 2 = (l.length + 1) * 2 + 2 := (by omega)
   simp only [List.cons_append, List.nil_append, e1, rowT, rowH, hs, qb7, List.length_append, List.length_cons, List.length_nil, Nat.zero_add, hm2] at hQ'
   simpa [qap, inL] using hQ'
set_option maxHeartbeats 1000000 in
theorem qlp (m : Md) (s : Int) (xs : List (Int × Int)) (hm : m.fit) (hl : xs.length ≤ 1000) : TP Tryz.prog 46 [qau m, .int .i64 s, .list (qax xs)] (.tup [encV (qco s xs), .bool (qaT m (qco s xs))]) := by
 have hmc : ∀ D, clL D (mdC m) = true := fun D => by simp
 have hmo := qca m
 have hfit : ∀ l : List (Int × Int), l.length ≤ 1000 → ∀ k ∈ [V.mk 0 (tokL l)], k.fit := fun l hl k hk => by
  rw [List.mem_singleton] at hk
  subst hk
  simp only [V.fit]
  refine ⟨by rw [qb7]; omega, qdv fun v hv => ?_⟩
  obtain ⟨x, _, rfl⟩ := List.mem_map.1 hv
  simp [tokV, V.fit, fitL]
 have hw := qsd s [.mk 0 (tokL (qfx xs))] (by simp) (hfit _ (by rw [qeV]; exact hl))
 have he : qso s [.mk 0 (tokL (qfx xs))] = qco s xs := rfl
 rw [he] at hw
 have hv := qgV m (qco s xs) hm (by
  have h1 := hfit (qfx xs) (by rw [qeV]; exact hl) _ (List.mem_singleton.2 rfl)
  simp only [qco, cfgV, V.fit]
  exact ⟨by simp, by simp [V.fit, fitL], by simpa [V.fit] using h1, trivial⟩)
 rcases xs with _ | ⟨⟨p, a⟩, l⟩
 ·have hso : tokL (qfx []) = [] := by rw [qhL]; rfl
  simp only [hso, qac, encV] at hw
  rcases hb : qco s [] with ⟨b0, bks⟩
  rw [hb] at hw hv
  simp only [encV] at hw
  have fX := @qaz
  refine qak fn46 (by simp) ?_
  unfold i46
  simp only [argL, encV, qau, mdC]
  refine wR0 0 [1,2,3,6] fX ?_
  refine wR0 100 [1,2,3,6,8] fX ?_
  refine wR0 200 [1,3,6,8,13,14,15] fX ?_
  refine wL ?_
  refine qhT m s [] (by simp) _ [] [] 0 rfl rfl ?_
  ·intro i
   refine wN ?_
   simp only [show tokL ([] : List (Int × Int)) = [] from rfl, rowT, rowH, List.append_nil]
   refine wRn 700 [1,3,6,8] fX ?_
   refine rC fX ?_
   refine ⟨_, qdI _, rE fX ?_⟩
   refine wRn 800 [3,6,11] fX ?_
   refine rG [(802, .live ⟨_, _⟩)] fX ?_
   refine ⟨_, _, hw, fZt, rE fX ?_⟩
   refine wRn 900 [6,7] (cJ2 @mdC.eq_1 fX) ?_
   refine rC (cJ2 @mdC.eq_1 fX) ?_
   refine ⟨_, hv, rE (cJ2 @mdC.eq_1 fX) ?_⟩
   refine wP ?_
   exact Frz.tupL (.cons (.same (by simp [mkEl, esz, T.cl, clL, qam])) (.cons (.same rfl) .nil))
 ·have hlen : l.length + 1 ≤ 1000 := by simpa using hl
  have hso : tokL (qfx ((p, a) :: l)) = qby (tokV p a :: tokL l) := by rw [qhL]; rfl
  have hsl : (qby (tokV p a :: tokL l)).length = l.length + 1 := by rw [qcw]; simp [qb7]
  have hs := qi8 511 25 (tokV p a :: tokL l) (by simp) (by simp [qb7]; omega) (fun v hv => by
   have h1 := (hfit ((p, a) :: l) hl) _ (List.mem_singleton.2 rfl)
   exact (V.fit_kids h1).2 v hv)
  rw [List.length_cons, qb7] at hs
  simp only [hso, qac, encV] at hw
  rcases hb : qco s ((p, a) :: l) with ⟨b0, bks⟩
  rw [hb] at hw hv
  simp only [encV] at hw
  have fX := @qaz
  refine qak fn46 (by simp) ?_
  unfold i46
  simp only [argL, encV, qau, mdC]
  refine wR0 0 [1,2,3,6] fX ?_
  refine wR0 100 [1,2,3,6,8] fX ?_
  refine wR0 200 [1,3,6,8,13,14,15] fX ?_
  refine wL ?_
  refine qhT m s ((p, a) :: l) hl _ ((p, a) :: l) [] 0 rfl rfl ?_
  ·intro i
   refine wN ?_
   simp only [show tokL ((p, a) :: l) = tokV p a :: tokL l from rfl, rowT, rowH, List.cons_append, List.nil_append, qb7]
   refine wRn 700 [1,3,6,8] fX ?_
   refine rU [(511, .live ⟨25, qao (tokV p a :: tokL l)⟩)] [(511, .live ⟨25, qao (qby (tokV p a :: tokL l))⟩)] fX ?_
   refine ⟨_, hs.full1, rE fX ?_⟩
   refine wRn 800 [3,6,11] fX ?_
   refine rG [(802, .live ⟨_, _⟩), (511, .live ⟨_, _⟩)] fX ?_
   refine ⟨_, _, hw, (by (refine .cons (.same rfl) (.cons (Frz.slL rfl rfl rfl rfl rfl rfl (.cons (.same rfl) (.cons (qb8 (qby (tokV p a :: tokL l)) rfl (by rw [hsl]) (by rw [hsl])) .nil))) .nil))), rE fX ?_⟩
   refine wRn 900 [6,7] (cJ2 @mdC.eq_1 fX) ?_
   refine rC (cJ2 @mdC.eq_1 fX) ?_
   refine ⟨_, hv, rE (cJ2 @mdC.eq_1 fX) ?_⟩
   refine wP ?_
   exact Frz.tupL (.cons (.same (by simp [mkEl, esz, T.cl, clL, qam])) (.cons (.same rfl) .nil))
end
end Go.Proofs.YtikhhnopcjgjpaaGreat
