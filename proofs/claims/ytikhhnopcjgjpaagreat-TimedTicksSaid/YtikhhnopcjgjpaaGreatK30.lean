/- Contracts of functions of the program, for all arguments that they name. -/
import Derived.Test.YtikhhnopcjgjpaaGreatK29
namespace Go.Proofs.YtikhhnopcjgjpaaGreat
set_option linter.unusedVariables false
section
open Go.RowKit
set_option maxHeartbeats 2000000
attribute [local simp] qaQ
def rl0 : Rl := ⟨⟨#[]⟩, 0, 0, [], [], [], 0, 0, 0, [], [], [], [], 0⟩
def qaB (m : Md) (i : Int) : Rl := m.rules.getD i.toNat rl0
def qdL (r : Rl) : List (Int × Int) := r.makes.map fun p => (p, 0)
def qbu (r : Rl) (l : List (Int × Int)) : List V := (chP qbB r.takes l).map (bV r (qdL r))
def qbz (m : Md) (i : Int) (c : V) : List V × Int :=
 if qaI m ≠ 0 then ([], qaI m) else if m.kind ≠ 5 then ([], 15) else if i < 0 ∨ i ≥ m.rules.length then ([], 16) else if qaT m c = false then ([], 17)
 else if qlB c ≠ (qaB m i).from_ then ([], 0) else if ((qbu (qaB m i) (qm1 c)).all fun v => qaT m v) = false then ([], 1) else (qa6 (qby (qbu (qaB m i) (qm1 c))), 0)
theorem qi7 (s : Int) (l : List (Int × Int)) (h : l.length ≤ 1000000) : (cfgV s l).fit := by
 have h1 : fitL (tokL l) := qdv fun v hv => by
  obtain ⟨x, _, rfl⟩ := List.mem_map.1 hv
  simp [tokV, V.fit, fitL]
 simp only [cfgV, V.fit, fitL]
 exact ⟨by simp, ⟨by simp, trivial⟩, ⟨by rw [qb7]; exact h, h1⟩, trivial⟩
theorem qgq : ∀ (ts : List Tk) (l r : List (Int × Int)), r ∈ chP qbB ts l → r.length ≤ l.length
 | [], l, r, h => by simp [chP] at h; simp [h]
 | t :: ts, l, r, h => by
  rw [chP, qk4] at h
  obtain ⟨a, x, b, e, _, _, h2⟩ := h
  have := qgq ts _ r h2
  rw [e]
  simp at this ⊢; omega
theorem qgn {m : Md} (hk : m.kind = 5) (h : qaI m = 0) {r : Rl} (hr : r ∈ m.rules) : qbk m r = true ∧ r.takes.length ≤ 3 ∧ r.makes.length ≤ 3 := by
 have hright : qbk m r = true := by
  unfold qaI at h
  repeat' split at h
  all_goals first | cases h | skip
  rename_i h5 _
  rw [List.any_eq_true] at h5
  by_cases hh : qbk m r = true
  ·exact hh
  ·exact absurd ⟨r, hr, by simpa using hh⟩ h5
 refine ⟨hright, ?_⟩
 rw [qbk, qlh, if_neg (by omega), if_neg (by omega), if_neg (by omega), if_pos hk] at hright
 simp only [Bool.and_eq_true, qkK, decide_eq_true_eq] at hright
 omega
theorem qrq (s : Int) (xs : List (Int × Int)) (hl : xs.length ≤ 1000000) : TP Tryz.prog 44 [encV (cfgV s xs)] (.list (qax xs)) := by
 have h := qkL s xs hl
 rcases xs with _ | ⟨x, l⟩
 ·exact h.pure .nil
 ·exact h.pure (qgc (x :: l) rfl rfl rfl)
theorem qn6 (a b : V) (ha : a.fit) (hb : b.fit) : TP Tryz.prog 51 [encV a, encV b] (.bool (cmpV a b == 0)) := by
 have hc := qir a b ha hb
 rcases a with ⟨x, ks⟩
 rcases b with ⟨y, ls⟩
 refine qak fn51 (by simp) ?_
 unfold i51
 simp only [argL, encV]
 refine wR0 0 [2,3] cJ0 ?_
 refine wRn 100 [4] cJ0 ?_
 refine rC cJ0 ?_
 refine ⟨_, hc, rE cJ0 ?_⟩
 refine wP ?_
 exact .same rfl
theorem qhd (f : FuncId) : TP Tryz.prog 50 [.nil, .fn f []] (.list []) := by
 have hd : decide ((0 : Int) < 2) = true := rfl
 refine qak fn50 (by simp) ?_
 unfold i50
 simp only [argL]
 refine wR0 0 [0,1] cJ0 ?_
 refine wR0 100 [0,1,10] cJ0 ?_
 refine wT @hd ?_
 refine wR0 200 [4] cJ0 ?_
 refine wP ?_
 exact .nil
theorem qdk (m : Md) (r : Rl) (cs : List T) (hcs : ∀ D, clL D cs = true) (hl : r.makes.length ≤ 1000) (Q : IExit → (Nat → T) → Heap → Prop) : ∀ (rest pre : List Int) (n : Nat), r.makes = pre ++ rest → pre.length = n →
 (∀ i : Int, Q (.exit 1) (ofL [(3, .ref 0 10 0), (5, .ref 1 2 0), (9, .ref 1005 14 0), (10, .ref 1300 1 0), (53, .list (qaf r.makes)), (54, .int .i64 (qaf r.makes).length), (55, .int .i64 i), (56, .bool false)]) (hpL ([(0, sM m), (1, .live ⟨25, cs⟩), (1005, sR r), (1300, .live ⟨46, [qcB 1704 (qdL r)]⟩)] ++ qcy 1704 50 (qdL r)))) →
 WL Tryz.prog 77 qjX (ofL [(3, .ref 0 10 0), (5, .ref 1 2 0), (9, .ref 1005 14 0), (10, .ref 1300 1 0), (53, .list (qaf r.makes)), (54, .int .i64 (qaf r.makes).length), (55, .int .i64 n)]) (hpL ([(0, sM m), (1, .live ⟨25, cs⟩), (1005, sR r), (1300, .live ⟨46, [qcB 1704 (pre.map fun p => (p, 0))]⟩)] ++ qcy 1704 50 (pre.map fun p => (p, 0)))) Q := by
 have hmc : ∀ D, clL D (mdC m) = true := fun D => by simp
 have hrc : ∀ D, clL D (rlC r) = true := fun D => by simp
 intro rest
 induction rest with
 | nil =>
  intro pre n he hn hQ
  have hd : decide ((n : Int) < ((qaf r.makes).length : Int)) = false := by simp [qai, he, hn]
  simp only [List.append_nil] at he
  have hmd : qdL r = pre.map fun p => (p, 0) := by rw [qdL, he]
  rw [hmd] at hQ
  simp only [List.cons_append, List.nil_append] at hQ ⊢
  have fX := @hd
  refine qaa qjX.eq_1 ?_
  refine wR0 1500 [3,5,9,10,53,54,55,56] fX ?_
  refine wF @hd ?_
  refine wX ?_
  refine wN ?_
  exact hQ _
 | cons k rest ih =>
  intro pre n he hn hQ
  have hlt : (n : Int) < ((qaf r.makes).length : Int) := by rw [qai, he]; simp; omega
  have hlb : n ≤ 1000000 := by rw [he] at hl; simp at hl; omega
  have hd : decide ((n : Int) < ((qaf r.makes).length : Int)) = true := decide_eq_true hlt
  have hg : (qaf r.makes).getD (n : Int).toNat .undef = .int .i64 k := by rw [qfE r.makes n (by rw [he]; simp; omega), he, ← hn]; simp [List.getD_eq_getElem?_getD]
  have hw : IntKind.wrap .i64 ((n : Int) + 1) = ((n + 1 : Nat) : Int) := by rw [wrap64 (by omega) (by omega)]; rfl
  have hQ' := ih (pre ++ [k]) (n + 1) (by simpa using he) (by simp [hn]) hQ
  cases pre with
  | nil =>
   simp only [List.map_nil, qcB, qcy, List.append_nil]
   have fX := (cJ4 @hd @hg @hw @qaz)
   refine qaa qjX.eq_1 ?_
   refine W_gc ?_
   refine wR0 1500 [3,5,9,10,53,54,55,56] fX ?_
   refine wT fX ?_
   refine wR0 1600 [3,5,9,10,12,53,54,55] fX ?_
   refine wR0 1700 [3,5,9,10,53,54,55] fX ?_
   refine wR0 1800 [3,5,9,10,53,54,55] fX ?_
   refine wN ?_
   refine qa1 [0, 1, 1005, 1300, 1704] (by simp [inL]) (by simp [inL, T.cl, qat]) (by simp [qap, inL, Slot.cl, T.cl, clL, hmc, hrc, hcs]) ?_
   simpa [qap, inL, qcB, qcy, qbd] using hQ'
  | cons z l =>
   have hlb2 : l.length + 1 ≤ 1000000 := by simp at hn; omega
   simp only [List.map_cons, qcB, qcy, List.cons_append, List.nil_append, List.length_map]
   have fX := (cJ6 @hd @hg @hw @qaz @qbA @List.length_map.{0,0})
   refine qaa qjX.eq_1 ?_
   refine W_gc ?_
   refine wR0 1500 [3,5,9,10,53,54,55,56] fX ?_
   refine wT fX ?_
   refine wR0 1600 [3,5,9,10,12,53,54,55] fX ?_
   refine wR0 1700 [3,5,9,10,53,54,55] fX ?_
   refine wR0 1800 [3,5,9,10,53,54,55] fX ?_
   refine wN ?_
   refine qa1 [0, 1, 1005, 1300, 1704] (by simp [inL]) (by simp [inL, T.cl, qat]) (by simp [qap, inL, Slot.cl, T.cl, clL, qaw, hmc, hrc, hcs]) ?_
   have hs : qbd ((z, (0 : Int)) :: (l.map (fun p => (p, (0 : Int))) ++ [(k, 0)])) = qbd ((z, 0) :: l.map fun p => (p, 0)) ++ [.int .i64 k, .int .i64 0] := (by simp [qbd])
   have hm : (l.length + 1 + 1) * 2 = (l.length + 1) * 2 + 2 := (by omega)
   simp only [List.cons_append, List.map_cons, List.map_append, List.map_nil, qcB, qcy, hs, List.length_append, List.length_cons, List.length_nil, List.length_map, Nat.zero_add, hm] at hQ'
   simpa [qap, inL] using hQ'
end
end Go.Proofs.YtikhhnopcjgjpaaGreat
