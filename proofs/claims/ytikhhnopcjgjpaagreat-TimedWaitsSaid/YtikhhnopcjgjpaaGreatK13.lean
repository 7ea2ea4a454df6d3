/- Contracts of functions of the program, for all arguments that they name. -/
import Derived.Test.YtikhhnopcjgjpaaGreatK12
namespace Go.Proofs.YtikhhnopcjgjpaaGreat
set_option linter.unusedVariables false
section
open Go.RowKit
set_option maxHeartbeats 2000000
theorem TP.ofNil {P : Program} {f : FuncId} {xs ys : List T} {r : T} (h : TP P f ys r) (hz : FrzL (fun _ => .free) xs ys) : TP P f xs r := h.give hz
def ixF {α : Type} (p : α → Bool) : List α → Int → Int
 | [], _ => -1
 | k :: ks, i => if p k = true then i else ixF p ks (i + 1)
theorem qkc {α : Type} (p : α → Bool) : ∀ (ks : List α) (i : Int), 0 ≤ i → decide (ixF p ks i ≥ 0) = ks.any p
 | [], i, _ => rfl
 | k :: ks, i, hi => by
  by_cases hp : p k = true
  ·simp only [ixF, List.any_cons, hp, Bool.true_or]; exact decide_eq_true hi
  ·simp only [ixF, List.any_cons, Bool.eq_false_iff.2 hp, Bool.false_or]; exact qkc p ks (i + 1) (by omega)
def encI (n : Int) : T := .int .i64 n
theorem qqS (f : FuncId) (caps : List T) (hcaps : clL (fun _ => false) caps = true) (p : Int → Bool) (xs : List Int) (hl : xs.length ≤ 1000000) (Q : IExit → (Nat → T) → Heap → Prop) : ∀ (rest pre : List Int) (i : Nat), xs = pre ++ rest → pre.length = i →
 (∀ k ∈ rest, TP Tryz.prog f ([encI k] ++ caps) (.bool (p k))) →
 (ixF p rest i = -1 → ∀ i : Int, Q (.exit 0) (ofL [(0, .list (qaf xs)), (1, .fn f caps), (7, .int .i64 (qaf xs).length), (8, .int .i64 i), (9, .bool false)]) (hpL [])) →
 (ixF p rest i ≠ -1 → Q .ret (ofL [(4, .int .i64 (ixF p rest i))]) (hpL [])) →
 WL Tryz.prog 19 qiZ (ofL [(0, .list (qaf xs)), (1, .fn f caps), (7, .int .i64 (qaf xs).length), (8, .int .i64 i)]) (hpL []) Q := by
 intro rest
 induction rest with
 | nil =>
  intro pre i he hn hk hQ0 hQ1
  have hd : decide ((i : Int) < ((qaf xs).length : Int)) = false := by simp [qai, he, hn]
  have fX := @hd
  refine qaa qiZ.eq_1 ?_
  refine wR0 200 [0,1,7,8,9] fX ?_
  refine wF @hd ?_
  refine wX ?_
  refine wN ?_
  exact hQ0 rfl _
 | cons k rest ih =>
  intro pre i he hn hk hQ0 hQ1
  skip
  have hlt : (i : Int) < ((qaf xs).length : Int) := by simp [qai, he]; omega
  have hlb : i ≤ 1000000 := by rw [he] at hl; simp at hl; omega
  have hd : decide ((i : Int) < ((qaf xs).length : Int)) = true := decide_eq_true hlt
  have hg : (qaf xs).getD (i : Int).toNat .undef = .int .i64 k := by rw [Int.toNat_natCast, he, ← hn]; exact qbK _ k _
  have hw : IntKind.wrap .i64 ((i : Int) + 1) = (i : Int) + 1 := wrap64 (by omega) (by omega)
  have fX := (cJ3 @hd @hg @hw)
  refine qaa qiZ.eq_1 ?_
  refine wR0 200 [0,1,7,8,9] fX ?_
  refine wT @hd ?_
  refine wR0 300 [0,1,5,7,8] fX ?_
  refine wRn 400 [0,1,5,7,8,16] fX ?_
  refine rCv fX ?_
  refine ⟨_, hk k (List.mem_cons_self ..), rE fX ?_⟩
  refine wS cJ0 (fun hc400 => ?_) (fun hc400 => ?_)
  ·skip
   refine wR0 500 [4] fX ?_
   refine wE ?_
   refine wN ?_
   have e : ixF p (k :: rest) i = i := (by simp [ixF, hc400])
   rw [e] at hQ1
   exact hQ1 (by omega)
  ·skip
   refine wR0 600 [0,1,7,8] fX ?_
   refine wN ?_
   have e : ixF p (k :: rest) i = ixF p rest ((i + 1 : Nat) : Int) := (by simp [ixF, hc400])
   rw [e] at hQ0 hQ1
   have := ih (pre ++ [k]) (i + 1) (by simp [he]) (by simp; omega) (fun k' hk' => hk k' (List.mem_cons_of_mem _ hk')) hQ0 hQ1
   simpa using this
theorem ixI_tp (f : FuncId) (caps : List T) (hcaps : clL (fun _ => false) caps = true) (p : Int → Bool) (xs : List Int) (hl : xs.length ≤ 1000000) (hk : ∀ k ∈ xs, TP Tryz.prog f ([encI k] ++ caps) (.bool (p k))) : TP Tryz.prog 151 [.list (qaf xs), .fn f caps] (.int .i64 (ixF p xs 0)) := by
 refine qak fn151 (by simp) ?_
 unfold i151
 simp only [argL]
 refine wR0 0 [0,1] cJ0 ?_
 refine wR0 100 [0,1,7,8] cJ0 ?_
 refine wL ?_
 refine qqS f caps hcaps p xs hl _ xs [] 0 rfl rfl hk ?_ ?_
 ·intro h i
  refine wN ?_
  refine wR0 700 [4] cJ0 ?_
  refine wP ?_
  exact qaK h.symm
 ·intro h
  refine wN ?_
  exact ⟨by simp, _, rfl, by exact .same rfl⟩
theorem qlv (f : FuncId) (caps : List T) (hcaps : clL (fun _ => false) caps = true) (p : Int → Bool) (xs : List Int) (hl : xs.length ≤ 1000000) (hk : ∀ k ∈ xs, TP Tryz.prog f ([encI k] ++ caps) (.bool (p k))) : TP Tryz.prog 104 [.list (qaf xs), .fn f caps] (.bool (xs.any p)) := by
 have hfr : froL [.list (qaf xs), .fn f caps] = true := by simp [froL, clL, T.cl, hcaps, qat]
 refine qak fn104 (by simp) ?_
 unfold i104
 simp only [argL]
 refine wR0 0 [0,1] cJ0 ?_
 refine wRn 100 [4] cJ0 ?_
 refine rC cJ0 ?_
 refine ⟨_, ixI_tp f caps hcaps p xs hl hk, rE cJ0 ?_⟩
 refine wP ?_
 exact qab (qkc p xs 0 (by omega))
theorem qn3 (f : FuncId) (caps : List T) (hcaps : clL (fun _ => false) caps = true) (p : Ty → Bool) (xs : List Ty) (hl : xs.length ≤ 1000000) (Q : IExit → (Nat → T) → Heap → Prop) : ∀ (rest pre : List Ty) (i : Nat), xs = pre ++ rest → pre.length = i →
 (∀ k ∈ rest, TP Tryz.prog f ([qal k] ++ caps) (.bool (p k))) →
 (ixF p rest i = -1 → ∀ i : Int, Q (.exit 0) (ofL [(0, .list (qah xs)), (1, .fn f caps), (7, .int .i64 (qah xs).length), (8, .int .i64 i), (9, .bool false)]) (hpL [])) →
 (ixF p rest i ≠ -1 → Q .ret (ofL [(4, .int .i64 (ixF p rest i))]) (hpL [])) →
 WL Tryz.prog 19 qi1 (ofL [(0, .list (qah xs)), (1, .fn f caps), (7, .int .i64 (qah xs).length), (8, .int .i64 i)]) (hpL []) Q := by
 intro rest
 induction rest with
 | nil =>
  intro pre i he hn hk hQ0 hQ1
  have hd : decide ((i : Int) < ((qah xs).length : Int)) = false := by simp [qaj, he, hn]
  have fX := @hd
  refine qaa qi1.eq_1 ?_
  refine wR0 200 [0,1,7,8,9] fX ?_
  refine wF @hd ?_
  refine wX ?_
  refine wN ?_
  exact hQ0 rfl _
 | cons k rest ih =>
  intro pre i he hn hk hQ0 hQ1
  rcases k with ⟨tk, tsz, trs, tps⟩
  have hlt : (i : Int) < ((qah xs).length : Int) := by simp [qaj, he]; omega
  have hlb : i ≤ 1000000 := by rw [he] at hl; simp at hl; omega
  have hd : decide ((i : Int) < ((qah xs).length : Int)) = true := decide_eq_true hlt
  have hg : (qah xs).getD (i : Int).toNat .undef = .agg [.int .i64 tk, .int .i64 tsz, .list (qaf trs), .list (qah tps)] := by rw [Int.toNat_natCast, he, ← hn]; exact qcK _ (.mk tk tsz trs tps) _
  have hw : IntKind.wrap .i64 ((i : Int) + 1) = (i : Int) + 1 := wrap64 (by omega) (by omega)
  have fX := (cJ3 @hd @hg @hw)
  refine qaa qi1.eq_1 ?_
  refine wR0 200 [0,1,7,8,9] fX ?_
  refine wT @hd ?_
  refine wR0 300 [0,1,5,7,8] fX ?_
  refine wRn 400 [0,1,5,7,8,16] fX ?_
  refine rCv fX ?_
  refine ⟨_, hk (.mk tk tsz trs tps) (List.mem_cons_self ..), rE fX ?_⟩
  refine wS cJ0 (fun hc400 => ?_) (fun hc400 => ?_)
  ·skip
   refine wR0 500 [4] fX ?_
   refine wE ?_
   refine wN ?_
   have e : ixF p ((.mk tk tsz trs tps) :: rest) i = i := (by simp [ixF, hc400])
   rw [e] at hQ1
   exact hQ1 (by omega)
  ·skip
   refine wR0 600 [0,1,7,8] fX ?_
   refine wN ?_
   have e : ixF p ((.mk tk tsz trs tps) :: rest) i = ixF p rest ((i + 1 : Nat) : Int) := (by simp [ixF, hc400])
   rw [e] at hQ0 hQ1
   have := ih (pre ++ [(.mk tk tsz trs tps)]) (i + 1) (by simp [he]) (by simp; omega) (fun k' hk' => hk k' (List.mem_cons_of_mem _ hk')) hQ0 hQ1
   simpa using this
theorem qrp (f : FuncId) (caps : List T) (hcaps : clL (fun _ => false) caps = true) (p : Ty → Bool) (xs : List Ty) (hl : xs.length ≤ 1000000) (hk : ∀ k ∈ xs, TP Tryz.prog f ([qal k] ++ caps) (.bool (p k))) : TP Tryz.prog 205 [.list (qah xs), .fn f caps] (.int .i64 (ixF p xs 0)) := by
 refine qak fn205 (by simp) ?_
 unfold i205
 simp only [argL]
 refine wR0 0 [0,1] cJ0 ?_
 refine wR0 100 [0,1,7,8] cJ0 ?_
 refine wL ?_
 refine qn3 f caps hcaps p xs hl _ xs [] 0 rfl rfl hk ?_ ?_
 ·intro h i
  refine wN ?_
  refine wR0 700 [4] cJ0 ?_
  refine wP ?_
  exact qaK h.symm
 ·intro h
  refine wN ?_
  exact ⟨by simp, _, rfl, by exact .same rfl⟩
theorem qr1 (f : FuncId) (caps : List T) (hcaps : clL (fun _ => false) caps = true) (p : Ty → Bool) (xs : List Ty) (hl : xs.length ≤ 1000000) (hk : ∀ k ∈ xs, TP Tryz.prog f ([qal k] ++ caps) (.bool (p k))) : TP Tryz.prog 193 [.list (qah xs), .fn f caps] (.bool (xs.any p)) := by
 have hfr : froL [.list (qah xs), .fn f caps] = true := by simp [froL, clL, T.cl, hcaps, qbx]
 refine qak fn193 (by simp) ?_
 unfold i193
 simp only [argL]
 refine wR0 0 [0,1] cJ0 ?_
 refine wRn 100 [4] cJ0 ?_
 refine rC cJ0 ?_
 refine ⟨_, qrp f caps hcaps p xs hl hk, rE cJ0 ?_⟩
 refine wP ?_
 exact qab (qkc p xs 0 (by omega))
theorem qlg (x : Int) : TP Tryz.prog 207 [.int .i64 x] (.bool (qd0 x)) := by
 refine qak fn207 (by simp) ?_
 unfold i207
 simp only [argL]
 refine wR0 0 [0] cJ0 ?_
 refine wR0 100 [2] cJ0 ?_
 refine wP ?_
 exact qab rfl
theorem qm6 (xs : List Int) (hl : xs.length ≤ 1000000) : TP Tryz.prog 203 [.list (qaf xs)] (.bool (qdy xs)) := by
 refine qak fn203 (by simp) ?_
 unfold i203
 simp only [argL]
 refine wR0 0 [0] cJ0 ?_
 refine wRn 100 [2] cJ0 ?_
 refine rCi cJ0 ?_
 refine ⟨_, fun hw => qlv 207 [] rfl qd0 xs hl (fun k hk => qlg k), rE cJ0 ?_⟩
 refine wP ?_
 exact qab (by simp only [qdy, qai]; rw [Bool.and_comm])
theorem qnl (rs : List Int) (x : Int) : TP Tryz.prog 204 [.int .i64 x, .ptr [.list (qaf rs)]] (.bool (decide (x < 0) || decide (x ≥ (rs.length : Int)))) := by
 refine qak fn204 (by simp) ?_
 unfold i204
 simp only [argL]
 refine wR0 0 [0,1] cJ0 ?_
 refine wR0 100 [3] cJ0 ?_
 refine wP ?_
 exact qab (by simp only [qai])
def qn1 (rs w : List Int) : Bool := qdy rs && decide ((w.length : Int) ≤ 12) && !w.any fun x => decide (x < 0) || decide (x ≥ (rs.length : Int))
theorem qnu (rs w : List Int) (hl : rs.length ≤ 1000000) (hlw : w.length ≤ 1000000) : TP Tryz.prog 192 [.list (qaf rs), .list (qaf w)] (.bool (qn1 rs w)) := by
 refine qak fn192 (by simp) ?_
 unfold i192
 simp only [argL]
 refine wR0 0 [1,2] cJ0 ?_
 refine wRn 100 [4] cJ0 ?_
 refine rC cJ0 ?_
 refine ⟨_, qm6 rs hl, rN cJ0 ?_⟩
 refine rLi [(0, .live ⟨22, [.list (qaf rs)]⟩)] cJ0 ?_
 refine ⟨_, _, fun hw => qlv 204 [.ptr [.list (qaf rs)]] (by simp [clL, T.cl]) (fun x => decide (x < 0) || decide (x ≥ (rs.length : Int))) w hlw (fun k hk => qnl rs k), fZl, rfl, rE cJ0 ?_⟩
 refine wP ?_
 exact qab (by simp only [qn1, qai])
theorem qpq (k s d : Int) (rs : List Int) (ps : List Ty) (hd : 0 < d ∧ d ≤ 1000) (h : TP Tryz.prog 167 [qal (.mk k s rs ps), .int .i64 (d - 1)] (.bool (qar (.mk k s rs ps) (d - 1)))) : TP Tryz.prog 194 [qal (.mk k s rs ps), .ptr [.int .i64 d]] (.bool (!qar (.mk k s rs ps) (d - 1))) := by
 have hw : IntKind.wrap .i64 (d - 1) = d - 1 := wrap64 (by omega) (by omega)
 have fX := @hw
 refine qak fn194 (by simp) ?_
 unfold i194
 simp only [argL, qal]
 refine wR0 0 [1,2] fX ?_
 refine wRn 100 [3] fX ?_
 refine rC fX ?_
 refine ⟨_, h, rE fX ?_⟩
 refine wP ?_
 exact .same rfl
theorem qc6 (d : Int) : ∀ ps : List Ty, (!ps.any fun p => !qar p d) = qaW ps d
 | [] => rfl
 | p :: ps => by rw [qaW, ← qc6 d ps]; simp
set_option maxHeartbeats 4000000 in
theorem qlz : ∀ (t : Ty) (d : Int), t.fit → 0 ≤ d → d ≤ 1000 → TP Tryz.prog 167 [qal t, .int .i64 d] (.bool (qar t d))
 | .mk k s rs ps, d, ht, hd0, hd1 => by
  obtain ⟨hf1, hf2, hf3⟩ := Ty.fit_all ht
  have tk : ∀ (c : Int), (k == c) = true → k = c := fun c h => by simpa using h
  have fk : ∀ (c : Int), (k == c) = false → k ≠ c := fun c h => by simpa using h
  have hcf : 0 < d → _ := fun hd => qr1 194 [.ptr [.int .i64 d]] (by simp [clL, T.cl]) (fun p => !qar p (d - 1)) ps hf2 (fun p hp => by
   have := qlz p (d - 1) (hf3 p hp) (by omega) (by omega)
   rcases p with ⟨pk, psz, prs, pps⟩
   exact qpq pk psz d prs pps ⟨hd, hd1⟩ this)
  by_cases hz : d = 0
  ·have hd0 : (d == 0) = true := by simp [hz]
   refine qak fn167 (by simp) ?_
   unfold i167
   simp only [argL, qal]
   refine wR0 0 [2,3] cJ0 ?_
   refine wR0 100 [2,3,18] @hd0 ?_
   refine wT cJ0 ?_
   refine wR0 200 [4] cJ0 ?_
   refine wP ?_
   exact qab (by simp [qar, hz])
  have hd0 : (d == 0) = false := by simp [hz]
  refine qak fn167 (by simp) ?_
  unfold i167
  simp only [argL, qal]
  refine wR0 0 [2,3] cJ0 ?_
  refine wR0 100 [2,3,18] @hd0 ?_
  refine wS cJ0 (fun hc100 => ?_) (fun hc100 => ?_)
  ·skip
   refine wR0 200 [4] cJ0 ?_
   refine wP ?_
   exact qab (by simp [qai] at hc100; rw [qar, if_neg hz, if_pos hc100])
  ·skip
   refine wR0 300 [2,3,5] cJ0 ?_
   simp only [thn]
   have h0 : d ≠ 0 ∧ ¬ (0 < rs.length ∧ k ≠ 7) := (by refine ⟨hz, fun hh => ?_⟩; simp [qai] at hc100; exact hh.2 (hc100 hh.1))
   have e := (show qar (.mk k s rs ps) d = _ from by rw [qar, if_neg h0.1, if_neg h0.2])
   refine wR0 400 [2,3,5,24] cJ0 ?_
   refine wR0 500 [2,3,5,24,25] cJ0 ?_
   refine wS cJ0 (fun hc500 => ?_) (fun hc500 => ?_)
   ·skip
    refine wR0 600 [4] cJ0 ?_
    refine wP ?_
    exact qab (by rw [e, if_pos (tk _ hc500)]; simp [qaj, Bool.and_comm])
   ·skip
    refine wR0 700 [2,3,5,24,33] cJ0 ?_
    refine wS cJ0 (fun hc700 => ?_) (fun hc700 => ?_)
    ·skip
     refine wT @hc700 ?_
     refine wR0 900 [4] cJ0 ?_
     refine wP ?_
     exact qab (by have k6 : k = 2 ∨ k = 6 := (by first | exact .inl (tk _ hc700) | exact .inr (tk _ hc800)); rw [e, if_neg (fk _ hc500), if_pos k6, Bool.eq_iff_iff]; simp [qaj]; exact ⟨fun h => ⟨⟨h.1.2, h.2⟩, h.1.1⟩, fun h => ⟨⟨h.2, h.1.1⟩, h.1.2⟩⟩)
    ·skip
     refine wR0 800 [2,3,5,24,33] cJ0 ?_
     refine wS cJ0 (fun hc800 => ?_) (fun hc800 => ?_)
     ·skip
      refine wR0 900 [4] cJ0 ?_
      refine wP ?_
      exact qab (by have k6 : k = 2 ∨ k = 6 := (by first | exact .inl (tk _ hc700) | exact .inr (tk _ hc800)); rw [e, if_neg (fk _ hc500), if_pos k6, Bool.eq_iff_iff]; simp [qaj]; exact ⟨fun h => ⟨⟨h.1.2, h.2⟩, h.1.1⟩, fun h => ⟨⟨h.2, h.1.1⟩, h.1.2⟩⟩)
     ·skip
      refine wR0 1000 [2,3,5,24,47] cJ0 ?_
      refine wS cJ0 (fun hc1000 => ?_) (fun hc1000 => ?_)
      ·skip
       refine wRn 1100 [4] cJ0 ?_
       refine rCi cJ0 ?_
       refine ⟨_, fun hw => TP.ofNil (qnu rs [] hf1 (by simp)) (by exact fZl), rE cJ0 ?_⟩
       refine wP ?_
       exact qab (by have k7 := tk _ hc1000; rw [e, if_neg (fk _ hc500), if_neg (by omega), if_pos k7]; simp only [qaj, qai, qn1, qdy, List.any_nil, List.length_nil, Bool.not_false, Bool.and_true]; generalize (!rs.any qd0) = q; rw [Bool.eq_iff_iff]; cases q <;> simp [-List.length_eq_zero_iff] <;> omega)
      ·skip
       refine wR0 1200 [2,3,5,24,63] cJ0 ?_
       refine wS cJ0 (fun hc1200 => ?_) (fun hc1200 => ?_)
       ·skip
        refine wR0 1300 [2,3,76] cJ0 ?_
        refine wS cJ0 (fun hc1300 => ?_) (fun hc1300 => ?_)
        ·skip
         refine wR0 1400 [4] cJ0 ?_
         refine wP ?_
         exact qab (by have k3 := tk _ hc1200; simp [qaj, -List.length_eq_zero_iff] at hc1300; have h3 : ((s == 0) && !decide ((ps.length : Int) < 1) && !decide ((ps.length : Int) > 8)) = false := (by rw [Bool.eq_false_iff]; simp [-List.length_eq_zero_iff]; omega); rw [e, if_neg (by omega), if_neg (by omega), if_neg (by omega), if_neg (by omega), if_pos k3, h3, Bool.false_and])
        ·skip
         refine wN ?_
         have e2 : qar (.mk k s rs ps) d = qaW ps (d - 1) := (by first | (have k3 := tk _ hc1200; simp [qaj, -List.length_eq_zero_iff] at hc1300; have h3 : ((s == 0) && !decide ((ps.length : Int) < 1) && !decide ((ps.length : Int) > 8)) = true := (by simp [-List.length_eq_zero_iff]; omega); rw [e, if_neg (by omega), if_neg (by omega), if_neg (by omega), if_neg (by omega), if_pos k3, h3, Bool.true_and]) | (have k4 : k = 4 ∨ k = 5 := (by first | exact .inl (tk _ hc1500) | exact .inr (tk _ hc1600)); simp [qaj] at hc1700; rw [e, if_neg (by omega), if_neg (by omega), if_neg (by omega), if_pos k4]; simp [hc1700]))
         refine wRn 2000 [4] cJ0 ?_
         refine rL [(1, .live ⟨3, [.int .i64 d]⟩)] cJ0 ?_
         refine ⟨_, _, hcf (by omega), fZl, rfl, rE cJ0 ?_⟩
         refine wP ?_
         exact qab (by rw [e2, qc6])
       ·skip
        refine wR0 1500 [2,3,24,77] cJ0 ?_
        refine wS cJ0 (fun hc1500 => ?_) (fun hc1500 => ?_)
        ·skip
         refine wT @hc1500 ?_
         refine wR0 1700 [2,3,88] cJ0 ?_
         refine wS cJ0 (fun hc1700 => ?_) (fun hc1700 => ?_)
         ·skip
          refine wR0 1800 [4] cJ0 ?_
          refine wP ?_
          exact qab (by have k4 : k = 4 ∨ k = 5 := (by first | exact .inl (tk _ hc1500) | exact .inr (tk _ hc1600)); rw [e, if_neg (by omega), if_neg (by omega), if_neg (by omega), if_pos k4, Bool.eq_iff_iff]; simp [qaj] at hc1700; simp; omega)
         ·skip
          refine wN ?_
          have e2 : qar (.mk k s rs ps) d = qaW ps (d - 1) := (by first | (have k3 := tk _ hc1200; simp [qaj, -List.length_eq_zero_iff] at hc1300; have h3 : ((s == 0) && !decide ((ps.length : Int) < 1) && !decide ((ps.length : Int) > 8)) = true := (by simp [-List.length_eq_zero_iff]; omega); rw [e, if_neg (by omega), if_neg (by omega), if_neg (by omega), if_neg (by omega), if_pos k3, h3, Bool.true_and]) | (have k4 : k = 4 ∨ k = 5 := (by first | exact .inl (tk _ hc1500) | exact .inr (tk _ hc1600)); simp [qaj] at hc1700; rw [e, if_neg (by omega), if_neg (by omega), if_neg (by omega), if_pos k4]; simp [hc1700]))
          refine wRn 2000 [4] cJ0 ?_
          refine rL [(1, .live ⟨3, [.int .i64 d]⟩)] cJ0 ?_
          refine ⟨_, _, hcf (by omega), fZl, rfl, rE cJ0 ?_⟩
          refine wP ?_
          exact qab (by rw [e2, qc6])
        ·skip
         refine wR0 1600 [2,3,77] cJ0 ?_
         refine wS cJ0 (fun hc1600 => ?_) (fun hc1600 => ?_)
         ·skip
          refine wR0 1700 [2,3,88] cJ0 ?_
          refine wS cJ0 (fun hc1700 => ?_) (fun hc1700 => ?_)
          ·skip
           refine wR0 1800 [4] cJ0 ?_
           refine wP ?_
           exact qab (by have k4 : k = 4 ∨ k = 5 := (by first | exact .inl (tk _ hc1500) | exact .inr (tk _ hc1600)); rw [e, if_neg (by omega), if_neg (by omega), if_neg (by omega), if_pos k4, Bool.eq_iff_iff]; simp [qaj] at hc1700; simp; omega)
          ·skip
           refine wN ?_
           have e2 : qar (.mk k s rs ps) d = qaW ps (d - 1) := (by first | (have k3 := tk _ hc1200; simp [qaj, -List.length_eq_zero_iff] at hc1300; have h3 : ((s == 0) && !decide ((ps.length : Int) < 1) && !decide ((ps.length : Int) > 8)) = true := (by simp [-List.length_eq_zero_iff]; omega); rw [e, if_neg (by omega), if_neg (by omega), if_neg (by omega), if_neg (by omega), if_pos k3, h3, Bool.true_and]) | (have k4 : k = 4 ∨ k = 5 := (by first | exact .inl (tk _ hc1500) | exact .inr (tk _ hc1600)); simp [qaj] at hc1700; rw [e, if_neg (by omega), if_neg (by omega), if_neg (by omega), if_pos k4]; simp [hc1700]))
           refine wRn 2000 [4] cJ0 ?_
           refine rL [(1, .live ⟨3, [.int .i64 d]⟩)] cJ0 ?_
           refine ⟨_, _, hcf (by omega), fZl, rfl, rE cJ0 ?_⟩
           refine wP ?_
           exact qab (by rw [e2, qc6])
         ·skip
          refine wR0 1900 [4] cJ0 ?_
          refine wP ?_
          exact qab (by rw [e, if_neg (fk _ hc500), if_neg (fun h => h.elim (fk _ hc700) (fk _ hc800)), if_neg (fk _ hc1000), if_neg (fun h => h.elim (fk _ hc1500) (fk _ hc1600)), if_neg (fk _ hc1200)])
termination_by t => SizeOf.sizeOf t
decreasing_by exact qeD hp k s rs
theorem qpj (t : Ty) (ht : t.fit) : TP Tryz.prog 119 [qal t] (.int .i64 (qbo t)) := by
 rcases t with ⟨k, s, rs, ps⟩
 refine qak fn119 (by simp) ?_
 unfold i119
 simp only [argL, qal]
 refine wR0 0 [1] cJ0 ?_
 refine wRn 100 [5] cJ0 ?_
 refine rC cJ0 ?_
 refine ⟨_, qlz (.mk k s rs ps) 8 ht (by omega) (by omega), rE cJ0 ?_⟩
 refine wS cJ0 (fun hc100 => ?_) (fun hc100 => ?_)
 ·skip
  refine wR0 200 [2] cJ0 ?_
  refine wP ?_
  exact qaK (by simp at hc100; simp [qbo, hc100])
 ·skip
  refine wR0 300 [2] cJ0 ?_
  refine wP ?_
  exact qaK (by simp at hc100; simp [qbo, hc100])
theorem qql (v : V) : decide (qmf v ≤ 128) = decide (qbw v 128 ≤ 128) := by
 rw [Bool.eq_iff_iff]; simp only [decide_eq_true_eq]; unfold qmf; split <;> omega
theorem qkq (t : Ty) (v : V) (ht : t.fit) (hv : v.fit) : TP Tryz.prog 77 [qal t, encV v] (.bool (qa3 t v)) := by
 rcases t with ⟨k, s, rs, ps⟩
 rcases v with ⟨n, ks⟩
 refine qak fn77 (by simp) ?_
 unfold i77
 simp only [argL, encV, qal]
 refine wR0 0 [2,3] cJ0 ?_
 refine wRn 100 [4] cJ0 ?_
 refine rC cJ0 ?_
 refine ⟨_, qpj (.mk k s rs ps) ht, rN cJ0 ?_⟩
 refine rCi cJ0 ?_
 refine ⟨_, fun hw => qqp (.mk n ks) hv, rN cJ0 ?_⟩
 refine rCi cJ0 ?_
 refine ⟨_, fun hw => qlu (.mk k s rs ps) (.mk n ks) 8 ht hv (by rw [← qjL]; simp at hw; simp [hw.1]), rE cJ0 ?_⟩
 refine wP ?_
 exact qab (by rw [qa3, ← qql])
theorem qkZ (xs : List V) (hl : xs.length ≤ 1000000) (Q : IExit → (Nat → T) → Heap → Prop) : ∀ (rest pre : List V) (n : Nat), xs = pre ++ rest → pre.length = n →
 (∀ k ∈ rest, TP Tryz.prog 176 [encV k] (encV k)) →
 (∀ i : Int, Q (.exit 0) (ofL [(3, rowT 504 xs), (6, .list (qac xs)), (7, .int .i64 (qac xs).length), (8, .int .i64 i), (9, .bool false)]) (hpL (rowH 504 25 xs))) →
 WL Tryz.prog 19 qgX (ofL [(3, rowT 504 pre), (6, .list (qac xs)), (7, .int .i64 (qac xs).length), (8, .int .i64 n)]) (hpL (rowH 504 25 pre)) Q := by
 intro rest
 induction rest with
 | nil =>
  intro pre n he hn hk hQ
  have hd : decide ((n : Int) < ((qac xs).length : Int)) = false := by simp [qag, he, hn]
  simp only [List.append_nil] at he
  subst he
  have fX := @hd
  refine qaa qgX.eq_1 ?_
  refine wR0 300 [3,6,7,8,9] fX ?_
  refine wF @hd ?_
  refine wX ?_
  refine wN ?_
  exact hQ _
 | cons k rest ih =>
  intro pre n he hn hk hQ
  rcases k with ⟨a, bs⟩
  have hlt : (n : Int) < ((qac xs).length : Int) := by simp [qag, he]; omega
  have hlb : n ≤ 1000000 := by rw [he] at hl; simp at hl; omega
  have hd : decide ((n : Int) < ((qac xs).length : Int)) = true := decide_eq_true hlt
  have hg : (qac xs).getD (n : Int).toNat .undef = .agg [.int .i64 a, .list (qac bs)] := by rw [Int.toNat_natCast, he, ← hn]; exact qa0 _ (.mk a bs) _
  have hw : IntKind.wrap .i64 ((n : Int) + 1) = (n : Int) + 1 := wrap64 (by omega) (by omega)
  cases pre with
  | nil =>
   simp only [rowT, rowH]
   have fX := (cJ4 @hd @hg @hw @encV.eq_1)
   refine qaa qgX.eq_1 ?_
   refine W_gc ?_
   refine wR0 300 [3,6,7,8,9] fX ?_
   refine wT fX ?_
   refine wR0 400 [3,5,6,7,8] fX ?_
   refine wRn 500 [3,6,7,8] fX ?_
   refine rC fX ?_
   refine ⟨_, hk (.mk a bs) (List.mem_cons_self ..), rE fX ?_⟩
   refine wR0 600 [3,6,7,8] fX ?_
   refine wN ?_
   refine qa1 [504] (by simp [inL]) (by simp [inL, T.cl]) (by simp [qap, inL, Slot.cl, T.cl, clL]) ?_
   have := ih [V.mk a bs] (n + 1) (by simpa using he) (by simp at hn; simp; omega) (fun k' hk' => hk k' (List.mem_cons_of_mem _ hk')) hQ
   simpa [qap, inL, rowT, rowH, qao, V.n, V.kids] using this
  | cons p pre =>
   have hp : pre.length + 1 ≤ 1000000 := by simp at hn; omega
   simp only [rowT, rowH]
   have fX := (cJ5 @hd @hg @hw @encV.eq_1 @qaE)
   refine qaa qgX.eq_1 ?_
   refine W_gc ?_
   refine wR0 300 [3,6,7,8,9] fX ?_
   refine wT fX ?_
   refine wR0 400 [3,5,6,7,8] fX ?_
   refine wRn 500 [3,6,7,8] fX ?_
   refine rC fX ?_
   refine ⟨_, hk (.mk a bs) (List.mem_cons_self ..), rE fX ?_⟩
   refine wR0 600 [3,6,7,8] fX ?_
   refine wN ?_
   refine qa1 [504] (by simp [inL]) (by simp [inL, T.cl]) (by simp [qap, inL, Slot.cl, T.cl, clL, qaQ, qaw]) ?_
   have := ih (p :: (pre ++ [V.mk a bs])) (n + 1) (by simpa using he) (by simp at hn; simp; omega) (fun k' hk' => hk k' (List.mem_cons_of_mem _ hk')) hQ
   have hs : qao (p :: (pre ++ [V.mk a bs])) = qao (p :: pre) ++ [.int .i64 a, .list (qac bs)] := qbU (p :: pre) (.mk a bs)
   have hm : (pre.length + 1 + 1) * 2 = (pre.length + 1) * 2 + 2 := (by omega)
   simp only [rowT, rowH, hs, List.length_append, List.length_cons, List.length_nil, Nat.zero_add, hm] at this
   simpa [qap, inL] using this
theorem qhD (xs : List V) (hl : xs.length ≤ 1000000) (hk : ∀ k ∈ xs, TP Tryz.prog 176 [encV k] (encV k)) : TP Tryz.prog 127 [.list (qac xs)] (.list (qac xs)) := by
 refine qak fn127 (by simp) ?_
 unfold i127
 simp only [argL]
 refine wR0 0 [0] cJ0 ?_
 refine wR0 100 [0,3] cJ0 ?_
 refine wR0 200 [3,6,7,8] cJ0 ?_
 refine wL ?_
 refine qkZ xs hl _ xs [] 0 rfl rfl hk ?_
 ·intro i
  refine wN ?_
  refine wN ?_
  rcases xs with _ | ⟨p, pre⟩
  ·skip
   refine wN ?_
   simp only [rowT, rowH]
   refine wR0 700 [2] cJ0 ?_
   refine wP ?_
   first | exact .nil | exact qb8 _ rfl rfl rfl
  ·skip
   refine wN ?_
   simp only [rowT, rowH]
   refine wR0 700 [2] cJ0 ?_
   refine wP ?_
   first | exact .nil | exact qb8 _ rfl rfl rfl
theorem qmu : ∀ v : V, v.fit → TP Tryz.prog 176 [encV v] (encV v)
 | .mk N ks, hv => by
  have hv' := V.fit_kids hv
  simp only [V.kids] at hv'
  have hc := qhD ks hv'.1 (fun k hk => qmu k (hv'.2 k hk))
  refine qak fn176 (by simp) ?_
  unfold i176
  simp only [argL, encV]
  refine wR0 0 [1,2] cJ0 ?_
  refine wRn 100 [2] cJ0 ?_
  refine rC cJ0 ?_
  refine ⟨_, hc, rE cJ0 ?_⟩
  refine wP ?_
  exact .same (by simp [mkEl, esz, T.cl, clL])
termination_by v => SizeOf.sizeOf v
decreasing_by exact qcJ hk N
theorem qnJ (xs : List V) (hl : xs.length ≤ 1000000) (hf : ∀ k ∈ xs, k.fit) : TP Tryz.prog 127 [.list (qac xs)] (.list (qac xs)) :=
 qhD xs hl fun k hk => qmu k (hf k hk)
end
end Go.Proofs.YtikhhnopcjgjpaaGreat
