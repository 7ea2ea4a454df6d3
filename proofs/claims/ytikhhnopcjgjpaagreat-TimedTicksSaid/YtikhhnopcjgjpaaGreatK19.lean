/- Contracts of functions of the program, for all arguments that they name. -/
import Derived.Test.YtikhhnopcjgjpaaGreatK18
namespace Go.Proofs.YtikhhnopcjgjpaaGreat
set_option linter.unusedVariables false
section
open Go.RowKit
set_option maxHeartbeats 2000000
@[simp] theorem qhe (l : List Int) : sizedB 0 (qaf l) = true := by
 rw [sizedB, List.all_eq_true]
 intro c hc
 obtain ⟨x, _, rfl⟩ := List.mem_map.1 hc
 rfl
@[simp] theorem qrf (l : List Int) : qaf l = [] ↔ l = [] := by simp [qaf]
theorem qiv (l : List Int) (hl : l.length ≤ 1000000) : TP Tryz.prog 92 [.list (qaf l)] (.list (qaf l)) := by
 cases l with
 | nil =>
  simp only [qas]
  refine qak fn92 (by simp) ?_
  unfold i92
  simp only [argL]
  refine wR0 0 [0] cJ0 ?_
  refine wR0 100 [2] cJ0 ?_
  refine wP ?_
  exact .nil
 | cons x l =>
  have hsz := qhe (x :: l)
  have hle : (qaf (x :: l)).length ≤ 1000000000 := by rw [qai]; omega
  have hne : qaf (x :: l) ≠ [] := by simp
  have fX := (cJ8 @qcj @hsz @hle @hne @ne_eq.{1} @not_false_eq_true @true_and @and_true)
  refine qak fn92 (by simp) ?_
  unfold i92
  simp only [argL]
  refine wR0 0 [0] fX ?_
  refine wR0 100 [2] fX ?_
  refine wP ?_
  exact qia _ rfl (qai _) (qai _)
theorem qot (x : Int) (l : List Int) (hl : (x :: l).length ≤ 1000000) : TP Tryz.prog 125 [.list (qaf (x :: l))] (.list (qaf (x :: l))) := by
 have hsz := qhe (x :: l)
 have hle : (qaf (x :: l)).length ≤ 1000000000 := by rw [qai]; omega
 have hne : qaf (x :: l) ≠ [] := by simp
 have hpos : 0 < (qaf (x :: l)).length := by simp [qai]
 have hq : binT .eql .slice (.list (qaf (x :: l))) .nil = some (.bool false) := rfl
 have hrp : repl 0 [T.int .i64 0] = [] := rfl
 have fX := (cJ4 @qcj @hsz @hq @hrp)
 refine qak fn125 (by simp) ?_
 unfold i125
 simp only [argL]
 refine wR0 0 [0] fX ?_
 refine wR0 100 [0,4] fX ?_
 refine wF @true_and ?_
 refine wR0 300 [2] fX ?_
 refine wP ?_
 exact qia _ rfl (qai _) (qai _)
theorem FrzL.append {H : Heap} : ∀ {xs ys xs' ys' : List T}, FrzL H xs ys → FrzL H xs' ys' → FrzL H (xs ++ xs') (ys ++ ys')
 | [], [], _, _, _, h => h
 | [], _ :: _, _, _, h, _ => by have := h.1; simp at this
 | _ :: _, [], _, _, h, _ => by have := h.1; simp at this
 | x :: xs, y :: ys, _, _, h, h' => by
  have h0 := h.2 0 (by simp)
  exact FrzL.cons (by simpa using h0) (FrzL.append (xs := xs) (ys := ys) ⟨by simpa using h.1, fun i hi => by have := h.2 (i + 1) (by simpa using hi); simpa using this⟩ h')
theorem FrzL.same {H : Heap} {xs : List T} (h : froL xs = true) : FrzL H xs xs := ⟨rfl, fun i hi => .same (qa7 h i)⟩
def rowC (c0 c : List T) : Nat → List T
 | 0 => c0
 | j + 1 => rowC c0 c j ++ c
theorem qcH (c0 c : List T) (h0 : c0.length = 4) (h : c.length = 4) : ∀ j, (rowC c0 c j).length = (j + 1) * 4
 | 0 => by simp [rowC, h0]
 | j + 1 => by simp [rowC, qcH c0 c h0 h j, h]; omega
theorem ql6 {H : Heap} {c0 c d0 d : List T} (h0 : FrzL H c0 d0) (h : FrzL H c d) : ∀ j, FrzL H (rowC c0 c j) (rowC d0 d j)
 | 0 => h0
 | j + 1 => (ql6 h0 h j).append h
theorem qdV {c0 c : List T} (h0 : Ones c0) (h : Ones c) : ∀ j, Ones (rowC c0 c j)
 | 0 => h0
 | j + 1 => fun x hx => (List.mem_append.1 hx).elim (qdV h0 h j x) (h x)
theorem qeG {D : Nat → Bool} {c0 c : List T} (h0 : clL D c0 = true) (h : clL D c = true) : ∀ j, clL D (rowC c0 c j) = true
 | 0 => h0
 | j + 1 => by rw [rowC, qaw, qeG h0 h j, h]; rfl
def qfT (t0 t : Ty) : Nat → List Ty
 | 0 => [t0]
 | j + 1 => qfT t0 t j ++ [t]
theorem qiK (xs ys : List Ty) : qah (xs ++ ys) = qah xs ++ qah ys := by simp [qdo]
theorem qfb (t0 t : Ty) : ∀ j, flat (qah (qfT t0 t j)) = rowC (qal t0).cells (qal t).cells j
 | 0 => by simp [qfT, rowC, qah, flat]
 | j + 1 => by rw [qfT, qiK, qeE, qfb t0 t j, rowC]; simp [qah, flat]
theorem qgy (t0 t : Ty) : ∀ j, (qfT t0 t j).length = j + 1
 | 0 => rfl
 | j + 1 => by simp [qfT, qgy t0 t j]
theorem qh6 (ps : List Ty) : qcA (esz 4) (qah ps) := fun x hx => by
 rw [qdo] at hx
 obtain ⟨v, _, rfl⟩ := List.mem_map.1 hx
 exact qbt v
theorem qhN (t : Ty) : Ones (qal t).cells := by
 rcases t with ⟨k, s, rs, ps⟩
 intro c hc
 simp only [qal, T.cells, List.mem_cons, List.not_mem_nil, or_false] at hc
 rcases hc with rfl | rfl | rfl | rfl <;> rfl
theorem qb9 {H : Heap} {id ty n tot : Nat} {c0 c : List T} {t0 t : Ty} (j : Nat) (hb : H id = .live ⟨ty, rowC c0 c j⟩) (hn : n = j + 1) (ht : tot = (j + 1) * 4) (hl0 : c0.length = 4) (hl : c.length = 4) (h0 : FrzL H c0 (qal t0).cells) (h : FrzL H c (qal t).cells) :
 Frz H (.sl id tot 4 0 n) (.list (qah (qfT t0 t j))) := by
 subst hn ht
 refine Frz.sl hb (qcH c0 c hl0 hl j) (by simp [esz]) (by rw [qaj, qgy]) (qh6 _) (by rw [qfb]; exact qdV (qhN _) (qhN _) j) fun k hk => ?_
 rw [qfb, Nat.zero_add]
 exact (ql6 h0 h j).2 k (by rw [qcH c0 c hl0 hl]; simpa [esz] using hk)
def qfa (m : Md) : Ty := if m.kind = 2 then qbf 4 (qaN m.letters.length) else if m.kind = 3 then .mk 7 m.letters.length m.ranks [] else .mk 1 0 [] []
def qaF (m : Md) : Ty :=
 qaZ (if m.kind = 4 then [qaN m.states.length, qdU m.letters.length m.levels] else if m.kind = 5 then [qaN m.states.length, qbf 5 (.mk 3 0 [] [qaN m.places.length, qaN (m.age + 2)])]
  else qfT (qaN m.states.length) (qfa m) m.places.length)
def qc3 (m : Md) : List T := if m.kind = 2 then [.int .i64 4, .int .i64 0, .list [], .list [.agg [.int .i64 2, .int .i64 m.letters.length, .list [], .list []]]] else if m.kind = 3 then [.int .i64 7, .int .i64 m.letters.length, .list (qaf m.ranks), .nil] else [.int .i64 1, .int .i64 0, .nil, .nil]
def labC (n : Int) : List T := [.int .i64 2, .int .i64 n, .list [], .list []]
theorem qdp (m : Md) : (qc3 m).length = 4 := by unfold qc3; (repeat' split) <;> rfl
theorem qds {H : Heap} (m : Md) : FrzL H (qc3 m) (qal (qfa m)).cells := by
 unfold qc3 qfa
 split
 ·simp only [qbf, qaN, qal, qah, qas, T.cells]
  (first | exact fF | exact fZt)
 ·split
  ·simp only [qal, qah, T.cells]
   (first | exact fF | exact fZt)
  ·simp only [qal, qah, qas, T.cells]
   (first | exact fF | exact fZt)
theorem qec {H : Heap} (n : Int) : FrzL H (labC n) (qal (qaN n)).cells := FrzL.same rfl
theorem qez (m : Md) (c : List T) (hcd : c = [T.int .i64 4, .int .i64 0, .list [], .list [.agg [.int .i64 2, .int .i64 m.letters.length, .list [], .list []]]]) (kb2 : (m.kind == 2) = true) (kb3 : (m.kind == 3) = false) (S : Int) (hl : m.places.length ≤ 1000) (hr : m.ranks.length ≤ 1000000)  (Q : IExit → (Nat → T) → Heap → Prop) : ∀ (n j : Nat), j + n = m.places.length →
 (∀ i : Int, Q (.exit 1) (ofL [(1, .ref 0 10 0), (2, .ref 1 4 0), (3, .sl 104 ((m.places.length + 1) * 4) 4 0 (m.places.length + 1)), (14, .int .i64 (qan m.places).length), (15, .int .i64 i), (16, .bool false)]) (hpL [(0, .live ⟨34, mdC m⟩), (1, .live ⟨54, [.int .i64 0, .int .i64 0, .nil, .nil]⟩), (104, .live ⟨54, rowC (labC S) c m.places.length⟩)])) →
 WL Tryz.prog 70 qer (ofL [(1, .ref 0 10 0), (2, .ref 1 4 0), (3, .sl 104 ((j + 1) * 4) 4 0 (j + 1)), (14, .int .i64 (qan m.places).length), (15, .int .i64 j)]) (hpL [(0, .live ⟨34, mdC m⟩), (1, .live ⟨54, [.int .i64 0, .int .i64 0, .nil, .nil]⟩), (104, .live ⟨54, rowC (labC S) c j⟩)]) Q := by
 have hlc : c.length = 4 := by rw [hcd]; rfl
 simp only [mdC]
 intro n
 induction n with
 | zero =>
  intro j hj hQ
  have hd : decide ((j : Int) < ((qan m.places).length : Int)) = false := by simp [qad]; omega
  have hjn : j = m.places.length := by omega
  subst hjn
  have fX := @hd
  refine qaa qer.eq_1 ?_
  refine wR0 800 [1,2,3,14,15,16] fX ?_
  refine wF @hd ?_
  refine wX ?_
  refine wN ?_
  exact hQ _
 | succ n ih =>
  intro j hj hQ
  have hlt : (j : Int) < ((qan m.places).length : Int) := by simp [qad]; omega
  have hd : decide ((j : Int) < ((qan m.places).length : Int)) = true := decide_eq_true hlt
  have hw : IntKind.wrap .i64 ((j : Int) + 1) = (j : Int) + 1 := wrap64 (by omega) (by omega)
  have hlen : (rowC (labC S) c j).length = (j + 1) * 4 := qcH _ _ rfl hlc j
  have hj4 : j + 1 ≤ 1001 := by omega
  have hcl : ∀ D, clL D (rowC (labC S) c j) = true := fun D => qeG rfl (by rw [hcd]; simp [clL, T.cl]) j
  have h1 := qdh (m.letters.length : Int); have h2 := qf2 4 2 (m.letters.length : Int) [] []; simp only [qaN, qbf, qal, qas, qah] at h1 h2; have hsl := qad m.letters
  have fX := (cJ7 @hd @hw @kb2 @kb3 @hlen @qc0 @hsl)
  refine qaa qer.eq_1 ?_
  refine W_gc ?_
  refine wR0 800 [1,2,3,14,15,16] fX ?_
  refine wT @hd ?_
  refine wR0 900 [1,2,3,4,14,15] fX ?_
  refine wR0 1000 [1,2,3,4,14,15,19] fX ?_
  refine wR0 1100 [1,2,3,4,14,15,19,20] fX ?_
  refine wT fX ?_
  refine wRn 1200 [1,2,3,4,14,15] fX ?_
  refine rC fX ?_
  refine ⟨_, h1, rN fX ?_⟩
  refine rC fX ?_
  refine ⟨_, h2, rE fX ?_⟩
  refine wR0 1500 [1,2,3,14,15] fX ?_
  refine wR0 1600 [1,2,3,14,15] fX ?_
  refine wN ?_
  refine qa1 [0, 1, 104] (by simp [inL]) (by simp [inL, T.cl]) (by simp [qap, inL, Slot.cl, T.cl, clL, qaw, hcl]) ?_
  have := ih (j + 1) (by omega) hQ
  have hm : (j + 1 + 1) * 4 = (j + 1) * 4 + 4 := (by omega)
  simp only [rowC, hm] at this
  rw [show rowC (labC S) c j ++ c = rowC (labC S) c j ++ [T.int .i64 4, .int .i64 0, .list [], .list [.agg [.int .i64 2, .int .i64 m.letters.length, .list [], .list []]]] from by rw [← hcd]] at this
  simpa [qap, inL] using this
theorem qeH (m : Md) (c : List T) (hcd : c = [T.int .i64 7, .int .i64 m.letters.length, .list (qaf m.ranks), .nil]) (kb2 : (m.kind == 2) = false) (kb3 : (m.kind == 3) = true) (S : Int) (hl : m.places.length ≤ 1000) (hr : m.ranks.length ≤ 1000000) (hne : m.ranks ≠ []) (Q : IExit → (Nat → T) → Heap → Prop) : ∀ (n j : Nat), j + n = m.places.length →
 (∀ i : Int, Q (.exit 1) (ofL [(1, .ref 0 10 0), (2, .ref 1 4 0), (3, .sl 104 ((m.places.length + 1) * 4) 4 0 (m.places.length + 1)), (14, .int .i64 (qan m.places).length), (15, .int .i64 i), (16, .bool false)]) (hpL [(0, .live ⟨34, mdC m⟩), (1, .live ⟨54, [.int .i64 0, .int .i64 0, .nil, .nil]⟩), (104, .live ⟨54, rowC (labC S) c m.places.length⟩)])) →
 WL Tryz.prog 70 qer (ofL [(1, .ref 0 10 0), (2, .ref 1 4 0), (3, .sl 104 ((j + 1) * 4) 4 0 (j + 1)), (14, .int .i64 (qan m.places).length), (15, .int .i64 j)]) (hpL [(0, .live ⟨34, mdC m⟩), (1, .live ⟨54, [.int .i64 0, .int .i64 0, .nil, .nil]⟩), (104, .live ⟨54, rowC (labC S) c j⟩)]) Q := by
 have hlc : c.length = 4 := by rw [hcd]; rfl
 simp only [mdC]
 intro n
 induction n with
 | zero =>
  intro j hj hQ
  have hd : decide ((j : Int) < ((qan m.places).length : Int)) = false := by simp [qad]; omega
  have hjn : j = m.places.length := by omega
  subst hjn
  have fX := @hd
  refine qaa qer.eq_1 ?_
  refine wR0 800 [1,2,3,14,15,16] fX ?_
  refine wF @hd ?_
  refine wX ?_
  refine wN ?_
  exact hQ _
 | succ n ih =>
  intro j hj hQ
  have hlt : (j : Int) < ((qan m.places).length : Int) := by simp [qad]; omega
  have hd : decide ((j : Int) < ((qan m.places).length : Int)) = true := decide_eq_true hlt
  have hw : IntKind.wrap .i64 ((j : Int) + 1) = (j : Int) + 1 := wrap64 (by omega) (by omega)
  have hlen : (rowC (labC S) c j).length = (j + 1) * 4 := qcH _ _ rfl hlc j
  have hj4 : j + 1 ≤ 1001 := by omega
  have hcl : ∀ D, clL D (rowC (labC S) c j) = true := fun D => qeG rfl (by rw [hcd]; simp [clL, T.cl]) j
  have hsl := qad m.letters; have h3 : TP Tryz.prog 125 [.list (qaf m.ranks)] (.list (qaf m.ranks)) := (by obtain ⟨x, r, hx⟩ := List.exists_cons_of_ne_nil hne; rw [hx] at hr ⊢; exact qot x r hr)
  have fX := (cJ7 @hd @hw @kb2 @kb3 @hlen @qc0 @hsl)
  refine qaa qer.eq_1 ?_
  refine W_gc ?_
  refine wR0 800 [1,2,3,14,15,16] fX ?_
  refine wT @hd ?_
  refine wR0 900 [1,2,3,4,14,15] fX ?_
  refine wR0 1000 [1,2,3,4,14,15,19] fX ?_
  refine wR0 1100 [1,2,3,4,14,15,19,20] fX ?_
  refine wF fX ?_
  refine wR0 1300 [1,2,3,4,14,15,27] fX ?_
  refine wT fX ?_
  refine wRn 1400 [1,2,3,4,14,15] fX ?_
  refine rC fX ?_
  refine ⟨_, h3, rE fX ?_⟩
  refine wR0 1500 [1,2,3,14,15] fX ?_
  refine wR0 1600 [1,2,3,14,15] fX ?_
  refine wN ?_
  refine qa1 [0, 1, 104] (by simp [inL]) (by simp [inL, T.cl]) (by simp [qap, inL, Slot.cl, T.cl, clL, qaw, hcl]) ?_
  have := ih (j + 1) (by omega) hQ
  have hm : (j + 1 + 1) * 4 = (j + 1) * 4 + 4 := (by omega)
  simp only [rowC, hm] at this
  rw [show rowC (labC S) c j ++ c = rowC (labC S) c j ++ [T.int .i64 7, .int .i64 m.letters.length, .list (qaf m.ranks), .nil] from by rw [← hcd]] at this
  simpa [qap, inL] using this
theorem qey (m : Md) (c : List T) (hcd : c = [T.int .i64 1, .int .i64 0, .nil, .nil]) (kb2 : (m.kind == 2) = false) (kb3 : (m.kind == 3) = false) (S : Int) (hl : m.places.length ≤ 1000) (hr : m.ranks.length ≤ 1000000)  (Q : IExit → (Nat → T) → Heap → Prop) : ∀ (n j : Nat), j + n = m.places.length →
 (∀ i : Int, Q (.exit 1) (ofL [(1, .ref 0 10 0), (2, .ref 1 4 0), (3, .sl 104 ((m.places.length + 1) * 4) 4 0 (m.places.length + 1)), (14, .int .i64 (qan m.places).length), (15, .int .i64 i), (16, .bool false)]) (hpL [(0, .live ⟨34, mdC m⟩), (1, .live ⟨54, [.int .i64 0, .int .i64 0, .nil, .nil]⟩), (104, .live ⟨54, rowC (labC S) c m.places.length⟩)])) →
 WL Tryz.prog 70 qer (ofL [(1, .ref 0 10 0), (2, .ref 1 4 0), (3, .sl 104 ((j + 1) * 4) 4 0 (j + 1)), (14, .int .i64 (qan m.places).length), (15, .int .i64 j)]) (hpL [(0, .live ⟨34, mdC m⟩), (1, .live ⟨54, [.int .i64 0, .int .i64 0, .nil, .nil]⟩), (104, .live ⟨54, rowC (labC S) c j⟩)]) Q := by
 have hlc : c.length = 4 := by rw [hcd]; rfl
 simp only [mdC]
 intro n
 induction n with
 | zero =>
  intro j hj hQ
  have hd : decide ((j : Int) < ((qan m.places).length : Int)) = false := by simp [qad]; omega
  have hjn : j = m.places.length := by omega
  subst hjn
  have fX := @hd
  refine qaa qer.eq_1 ?_
  refine wR0 800 [1,2,3,14,15,16] fX ?_
  refine wF @hd ?_
  refine wX ?_
  refine wN ?_
  exact hQ _
 | succ n ih =>
  intro j hj hQ
  have hlt : (j : Int) < ((qan m.places).length : Int) := by simp [qad]; omega
  have hd : decide ((j : Int) < ((qan m.places).length : Int)) = true := decide_eq_true hlt
  have hw : IntKind.wrap .i64 ((j : Int) + 1) = (j : Int) + 1 := wrap64 (by omega) (by omega)
  have hlen : (rowC (labC S) c j).length = (j + 1) * 4 := qcH _ _ rfl hlc j
  have hj4 : j + 1 ≤ 1001 := by omega
  have hcl : ∀ D, clL D (rowC (labC S) c j) = true := fun D => qeG rfl (by rw [hcd]; simp [clL, T.cl]) j
  have hsl := qad m.letters
  have fX := (cJ7 @hd @hw @kb2 @kb3 @hlen @qc0 @hsl)
  refine qaa qer.eq_1 ?_
  refine W_gc ?_
  refine wR0 800 [1,2,3,14,15,16] fX ?_
  refine wT @hd ?_
  refine wR0 900 [1,2,3,4,14,15] fX ?_
  refine wR0 1000 [1,2,3,4,14,15,19] fX ?_
  refine wR0 1100 [1,2,3,4,14,15,19,20] fX ?_
  refine wF fX ?_
  refine wR0 1300 [1,2,3,4,14,15,27] fX ?_
  refine wF fX ?_
  refine wR0 1500 [1,2,3,14,15] fX ?_
  refine wR0 1600 [1,2,3,14,15] fX ?_
  refine wN ?_
  refine qa1 [0, 1, 104] (by simp [inL]) (by simp [inL, T.cl]) (by simp [qap, inL, Slot.cl, T.cl, clL, qaw, hcl]) ?_
  have := ih (j + 1) (by omega) hQ
  have hm : (j + 1 + 1) * 4 = (j + 1) * 4 + 4 := (by omega)
  simp only [rowC, hm] at this
  rw [show rowC (labC S) c j ++ c = rowC (labC S) c j ++ [T.int .i64 1, .int .i64 0, .nil, .nil] from by rw [← hcd]] at this
  simpa [qap, inL] using this
structure Md.sane (m : Md) : Prop where
 fit : m.fit
 kind : btw m.kind 1 6 = true
 lev : m.kind = 4 → m.levels = 1 ∨ m.levels = 2
 age : 0 ≤ m.age ∧ m.age ≤ 1000
 rank : m.kind = 3 → m.ranks ≠ []
set_option maxHeartbeats 8000000 in
theorem qlP (m : Md) (hm : m.sane) : TP Tryz.prog 78 [qau m] (qal (qaF m)) := by
 have tk : ∀ (c : Int), (m.kind == c) = true → m.kind = c := fun c h => by simpa using h
 have fk : ∀ (c : Int), (m.kind == c) = false → m.kind ≠ c := fun c h => by simpa using h
 have ha := hm.age
 have hw : IntKind.wrap .i64 (m.age + 2) = m.age + 2 := wrap64 (by omega) (by omega)
 have hl1 := qdh (m.states.length : Int)
 have hl2 := qdh (m.places.length : Int)
 have hl3 := qdh (m.age + 2)
 have hn1 := qhQ (m.letters.length : Int)
 have hn2 := qmX (m.letters.length : Int)
 have hb := qf2 5 3 0 [] [qaN m.places.length, qaN (m.age + 2)]
 simp only [qbS, qb0, qaN, qbf, qal, qas, qah] at hl1 hl2 hl3 hn1 hn2 hb
 have e4 : m.kind = 4 → qaF m = qaZ [qaN m.states.length, qdU m.letters.length m.levels] := fun h => by rw [qaF, if_pos h]
 have e5 : m.kind = 5 → qaF m = qaZ [qaN m.states.length, qbf 5 (.mk 3 0 [] [qaN m.places.length, qaN (m.age + 2)])] := fun h => by rw [qaF, if_neg (by omega), if_pos h]
 have eo : m.kind ≠ 4 → m.kind ≠ 5 → qaF m = qaZ (qfT (qaN m.states.length) (qfa m) m.places.length) := fun h h' => by rw [qaF, if_neg h, if_neg h']
 have hkc : m.kind ≠ 4 → m.kind ≠ 5 → m.kind = 2 ∨ m.kind = 3 ∨ (m.kind ≠ 2 ∧ m.kind ≠ 3) := fun _ _ => by omega
 have fX := (cJ3 @hw @qc0 @qcF)
 refine qak fn78 (by simp) ?_
 unfold i78
 simp only [argL, qau, mdC]
 refine wR0 0 [1,2] fX ?_
 refine wRn 100 [1,2,3] (cJ2 @qad fX) ?_
 refine rC (cJ2 @qad fX) ?_
 refine ⟨_, hl1, rE (cJ2 @qad fX) ?_⟩
 refine wR0 200 [1,2,3,11] fX ?_
 refine wR0 300 [1,2,3,11,41] fX ?_
 refine wS cJ0 (fun hc300 => ?_) (fun hc300 => ?_)
 ·skip
  refine wN ?_
  rcases hm.lev (tk _ hc300) with hlev | hlev
  ·skip
   refine wRn 400 [2,3] (cJ3 @hlev @qad fX) ?_
   refine rC (cJ3 @hlev @qad fX) ?_
   refine ⟨_, (by first | exact hn1 | exact hn2), rE (cJ3 @hlev @qad fX) ?_⟩
   refine wR0 1700 [2] fX ?_
   refine wP ?_
   first | (rw [e4 (tk _ hc300), hlev]; refine eG ?_; (try simp only [qbS, qaN, qbf, qaZ, qal, qah, qas]); (first | exact fF | exact fZt); done) | (rw [e5 (tk _ hc500)]; refine eG ?_; (try simp only [qaN, qbf, qaZ, qal, qah, qas]); (first | exact fF | exact fZt); done) | (rw [eo (fk _ hc300) (fk _ hc500)]; refine eG ?_; (try simp only [qaZ, qal, qas]); exact Frz.aggL (FrzL.cons (.same rfl) (FrzL.cons (.same rfl) (FrzL.cons .nil (FrzL.cons (qb9 _ rfl rfl rfl rfl (qdp m) (qec _) (qds m)) FrzL.nil)))) (by rfl))
  ·skip
   refine wRn 400 [2,3] (cJ3 @hlev @qad fX) ?_
   refine rC (cJ3 @hlev @qad fX) ?_
   refine ⟨_, (by first | exact hn1 | exact hn2), rE (cJ3 @hlev @qad fX) ?_⟩
   refine wR0 1700 [2] fX ?_
   refine wP ?_
   first | (rw [e4 (tk _ hc300), hlev]; refine eG ?_; (try simp only [qb0, qaN, qbf, qaZ, qal, qah, qas]); (first | exact fF | exact fZt); done) | (rw [e5 (tk _ hc500)]; refine eG ?_; (try simp only [qaN, qbf, qaZ, qal, qah, qas]); (first | exact fF | exact fZt); done) | (rw [eo (fk _ hc300) (fk _ hc500)]; refine eG ?_; (try simp only [qaZ, qal, qas]); exact Frz.aggL (FrzL.cons (.same rfl) (FrzL.cons (.same rfl) (FrzL.cons .nil (FrzL.cons (qb9 _ rfl rfl rfl rfl (qdp m) (qec _) (qds m)) FrzL.nil)))) (by rfl))
 ·skip
  refine wR0 500 [1,2,3,52] fX ?_
  refine wS cJ0 (fun hc500 => ?_) (fun hc500 => ?_)
  ·skip
   refine wRn 600 [2,3] (cJ2 @qad fX) ?_
   refine rC (cJ2 @qad fX) ?_
   refine ⟨_, hl2, rN (cJ2 @qad fX) ?_⟩
   refine rC (cJ2 @qad fX) ?_
   refine ⟨_, hl3, rN (cJ2 @qad fX) ?_⟩
   refine rG [(609, .live ⟨_, _⟩)] (cJ2 @qad fX) ?_
   refine ⟨_, _, hb, (by ((try simp only [qaN, qbf, qal, qah, qas]); (first | exact fF | exact fZt))), rE (cJ2 @qad fX) ?_⟩
   refine wR0 1700 [2] fX ?_
   refine wP ?_
   first | (rw [e4 (tk _ hc300), hlev]; refine eG ?_; (try simp only [qbS, qb0, qaN, qbf, qaZ, qal, qah, qas]); (first | exact fF | exact fZt); done) | (rw [e5 (tk _ hc500)]; refine eG ?_; (try simp only [qaN, qbf, qaZ, qal, qah, qas]); (first | exact fF | exact fZt); done) | (rw [eo (fk _ hc300) (fk _ hc500)]; refine eG ?_; (try simp only [qaZ, qal, qas]); exact Frz.aggL (FrzL.cons (.same rfl) (FrzL.cons (.same rfl) (FrzL.cons .nil (FrzL.cons (qb9 _ rfl rfl rfl rfl (qdp m) (qec _) (qds m)) FrzL.nil)))) (by rfl))
  ·skip
   refine wN ?_
   rcases hkc (fk _ hc300) (fk _ hc500) with h2 | h2 | h2
   ·skip
    refine wR0 700 [1,2,3,14,15] fX ?_
    refine wL ?_
    first | (have q2 : m.kind = 2 := h2; refine qez m _ (show qc3 m = _ from by simp [qc3, h2]) (by simp [h2]) (by simp [h2]) (m.states.length : Int) hm.fit.places hm.fit.ranks _ m.places.length 0 (by omega) ?_) | (have q2 : m.kind = 3 := h2; refine qeH m _ (show qc3 m = _ from by simp [qc3, h2]) (by simp [h2]) (by simp [h2]) (m.states.length : Int) hm.fit.places hm.fit.ranks (hm.rank h2) _ m.places.length 0 (by omega) ?_) | (have q2 : m.kind ≠ 2 ∧ m.kind ≠ 3 := h2; refine qey m _ (show qc3 m = _ from by simp [qc3, h2]) (by simp [h2]) (by simp [h2]) (m.states.length : Int) hm.fit.places hm.fit.ranks _ m.places.length 0 (by omega) ?_)
    ·intro i
     refine wN ?_
     refine wR0 1700 [2] fX ?_
     refine wP ?_
     first | (rw [e4 (tk _ hc300), hlev]; refine eG ?_; (try simp only [qbS, qb0, qaN, qbf, qaZ, qal, qah, qas]); (first | exact fF | exact fZt); done) | (rw [e5 (tk _ hc500)]; refine eG ?_; (try simp only [qaN, qbf, qaZ, qal, qah, qas]); (first | exact fF | exact fZt); done) | (rw [eo (fk _ hc300) (fk _ hc500)]; refine eG ?_; (try simp only [qaZ, qal, qas]); exact Frz.aggL (FrzL.cons (.same rfl) (FrzL.cons (.same rfl) (FrzL.cons .nil (FrzL.cons (qb9 _ rfl rfl rfl rfl (qdp m) (qec _) (qds m)) FrzL.nil)))) (by rfl))
   ·skip
    refine wR0 700 [1,2,3,14,15] fX ?_
    refine wL ?_
    first | (have q2 : m.kind = 2 := h2; refine qez m _ (show qc3 m = _ from by simp [qc3, h2]) (by simp [h2]) (by simp [h2]) (m.states.length : Int) hm.fit.places hm.fit.ranks _ m.places.length 0 (by omega) ?_) | (have q2 : m.kind = 3 := h2; refine qeH m _ (show qc3 m = _ from by simp [qc3, h2]) (by simp [h2]) (by simp [h2]) (m.states.length : Int) hm.fit.places hm.fit.ranks (hm.rank h2) _ m.places.length 0 (by omega) ?_) | (have q2 : m.kind ≠ 2 ∧ m.kind ≠ 3 := h2; refine qey m _ (show qc3 m = _ from by simp [qc3, h2]) (by simp [h2]) (by simp [h2]) (m.states.length : Int) hm.fit.places hm.fit.ranks _ m.places.length 0 (by omega) ?_)
    ·intro i
     refine wN ?_
     refine wR0 1700 [2] fX ?_
     refine wP ?_
     first | (rw [e4 (tk _ hc300), hlev]; refine eG ?_; (try simp only [qbS, qb0, qaN, qbf, qaZ, qal, qah, qas]); (first | exact fF | exact fZt); done) | (rw [e5 (tk _ hc500)]; refine eG ?_; (try simp only [qaN, qbf, qaZ, qal, qah, qas]); (first | exact fF | exact fZt); done) | (rw [eo (fk _ hc300) (fk _ hc500)]; refine eG ?_; (try simp only [qaZ, qal, qas]); exact Frz.aggL (FrzL.cons (.same rfl) (FrzL.cons (.same rfl) (FrzL.cons .nil (FrzL.cons (qb9 _ rfl rfl rfl rfl (qdp m) (qec _) (qds m)) FrzL.nil)))) (by rfl))
   ·skip
    refine wR0 700 [1,2,3,14,15] fX ?_
    refine wL ?_
    first | (have q2 : m.kind = 2 := h2; refine qez m _ (show qc3 m = _ from by simp [qc3, h2]) (by simp [h2]) (by simp [h2]) (m.states.length : Int) hm.fit.places hm.fit.ranks _ m.places.length 0 (by omega) ?_) | (have q2 : m.kind = 3 := h2; refine qeH m _ (show qc3 m = _ from by simp [qc3, h2]) (by simp [h2]) (by simp [h2]) (m.states.length : Int) hm.fit.places hm.fit.ranks (hm.rank h2) _ m.places.length 0 (by omega) ?_) | (have q2 : m.kind ≠ 2 ∧ m.kind ≠ 3 := h2; refine qey m _ (show qc3 m = _ from by simp [qc3, h2]) (by simp [h2]) (by simp [h2]) (m.states.length : Int) hm.fit.places hm.fit.ranks _ m.places.length 0 (by omega) ?_)
    ·intro i
     refine wN ?_
     refine wR0 1700 [2] fX ?_
     refine wP ?_
     first | (rw [e4 (tk _ hc300), hlev]; refine eG ?_; (try simp only [qbS, qb0, qaN, qbf, qaZ, qal, qah, qas]); (first | exact fF | exact fZt); done) | (rw [e5 (tk _ hc500)]; refine eG ?_; (try simp only [qaN, qbf, qaZ, qal, qah, qas]); (first | exact fF | exact fZt); done) | (rw [eo (fk _ hc300) (fk _ hc500)]; refine eG ?_; (try simp only [qaZ, qal, qas]); exact Frz.aggL (FrzL.cons (.same rfl) (FrzL.cons (.same rfl) (FrzL.cons .nil (FrzL.cons (qb9 _ rfl rfl rfl rfl (qdp m) (qec _) (qds m)) FrzL.nil)))) (by rfl))
end
end Go.Proofs.YtikhhnopcjgjpaaGreat
