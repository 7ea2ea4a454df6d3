/- Contracts of functions of the program, for all arguments that they name. -/
import Derived.Test.YtikhhnopcjgjpaaGreatK15
namespace Go.Proofs.YtikhhnopcjgjpaaGreat
set_option linter.unusedVariables false
section
open Go.RowKit
set_option maxHeartbeats 2000000
def eqF {α : Type} (p : α → α → Bool) : List α → List α → Bool
 | [], [] => true
 | x :: xs, y :: ys => p x y && eqF p xs ys
 | _, _ => false
theorem qif {α : Type} (p : α → α → Bool) (h : ∀ x, p x x = true) : ∀ xs, eqF p xs xs = true
 | [] => rfl
 | x :: xs => by simp [eqF, h, qif p h xs]
def eqI (a b : Int) : Bool := a == b
def eqTk (a b : Tk) : Bool := a.place == b.place && (a.low == b.low && (a.high == b.high && true))
theorem qr2 (k : IntKind) (a b c d e f : Int) : qbq 3 [.int k a, .int k b, .int k c] [.int k d, .int k e, .int k f] = some (a == d && (b == e && (c == f && true))) := by simp [qbq]
theorem qqa (xs ys : List Int) (hl : xs.length ≤ 1000000) (Q : IExit → (Nat → T) → Heap → Prop) : ∀ (rest pre rest2 pre2 : List Int) (i : Nat), xs = pre ++ rest → ys = pre2 ++ rest2 → pre.length = i → pre2.length = i → rest.length = rest2.length →
 (eqF eqI rest rest2 = true → ∀ i : Int, Q (.exit 0) (ofL [(0, .list (qaf xs)), (1, .list (qaf ys)), (12, .int .i64 (qaf xs).length), (13, .int .i64 i), (14, .bool false)]) (hpL [])) →
 (eqF eqI rest rest2 = false → Q .ret (ofL [(4, .bool false)]) (hpL [])) →
 WL Tryz.prog 26 qiA (ofL [(0, .list (qaf xs)), (1, .list (qaf ys)), (12, .int .i64 (qaf xs).length), (13, .int .i64 i)]) (hpL []) Q := by
 intro rest
 induction rest with
 | nil =>
  intro pre rest2 pre2 i he he2 hn hn2 hlr hQ0 hQ1
  have hd : decide ((i : Int) < ((qaf xs).length : Int)) = false := by simp [qai, he, hn]
  have hr : rest2 = [] := List.eq_nil_of_length_eq_zero hlr.symm
  subst hr
  have fX := @hd
  refine qaa qiA.eq_1 ?_
  refine wR0 400 [0,1,12,13,14] fX ?_
  refine wF @hd ?_
  refine wX ?_
  refine wN ?_
  exact hQ0 rfl _
 | cons k rest ih =>
  intro pre rest2 pre2 i he he2 hn hn2 hlr hQ0 hQ1
  cases rest2 with
  | nil => simp at hlr
  | cons l rest2 =>
  have hlt : (i : Int) < ((qaf xs).length : Int) := by simp [qai, he]; omega
  have hlt2 : (i : Int) < ((qaf ys).length : Int) := by simp [qai, he2]; omega
  have hlb : i ≤ 1000000 := by rw [he] at hl; simp at hl; omega
  have hd : decide ((i : Int) < ((qaf xs).length : Int)) = true := decide_eq_true hlt
  have hg : (qaf xs).getD (i : Int).toNat .undef = encI k := by rw [Int.toNat_natCast, he, ← hn]; exact qbK _ k _
  have hg2 : (qaf ys).getD (i : Int).toNat .undef = encI l := by rw [Int.toNat_natCast, he2, ← hn2]; exact qbK _ l _
  have hw : IntKind.wrap .i64 ((i : Int) + 1) = (i : Int) + 1 := wrap64 (by omega) (by omega)
  have fX := (cJ6 @hd @hg @hg2 @hw @encI.eq_1 @encI.eq_1)
  refine qaa qiA.eq_1 ?_
  refine wR0 400 [0,1,12,13,14] fX ?_
  refine wT @hd ?_
  refine wR0 500 [0,1,5,12,13] fX ?_
  refine wR0 600 [0,1,12,13,24] fX ?_
  refine wS cJ0 (fun hc600 => ?_) (fun hc600 => ?_)
  ·skip
   refine wR0 700 [4] fX ?_
   refine wE ?_
   refine wN ?_
   have hp : eqI k l = false := (by simpa [eqI] using hc600)
   exact hQ1 (by simp [eqF, hp])
  ·skip
   refine wR0 800 [0,1,12,13] fX ?_
   refine wN ?_
   have hp : eqI k l = true := (by simpa [eqI] using hc600)
   have e : eqF eqI (k :: rest) (l :: rest2) = eqF eqI rest rest2 := (by simp [eqF, hp])
   rw [e] at hQ0 hQ1
   exact ih (pre ++ [k]) rest2 (pre2 ++ [l]) (i + 1) (by simp [he]) (by simp [he2]) (by simp; omega) (by simp; omega) (by simpa using hlr) hQ0 hQ1
theorem qhR (xs ys : List Int) (hl : xs.length ≤ 1000000) : TP Tryz.prog 165 [.list (qaf xs), .list (qaf ys)] (.bool ((xs.length == ys.length) && eqF eqI xs ys)) := by
 refine qak fn165 (by simp) ?_
 unfold i165
 simp only [argL]
 refine wR0 0 [0,1] cJ0 ?_
 refine wR0 100 [0,1,10] cJ0 ?_
 refine wS cJ0 (fun hc100 => ?_) (fun hc100 => ?_)
 ·skip
  refine wR0 200 [4] cJ0 ?_
  refine wP ?_
  exact qab (by simp [qai] at hc100; have hne : xs.length ≠ ys.length := (by omega); simp [hne])
 ·skip
  refine wR0 300 [0,1,12,13] cJ0 ?_
  simp only [thn]
  have hle : xs.length = ys.length := (by simp [qai] at hc100; omega)
  refine wL ?_
  refine qqa xs ys hl _ xs [] ys [] 0 rfl rfl rfl rfl hle ?_ ?_
  ·intro h i
   refine wN ?_
   refine wR0 900 [4] cJ0 ?_
   refine wP ?_
   exact qab (by rw [h, hle]; simp)
  ·intro h
   refine wN ?_
   exact ⟨by simp, _, rfl, by exact qab (by rw [h]; simp)⟩
theorem qox (xs ys : List Tk) (hl : xs.length ≤ 1000000) (Q : IExit → (Nat → T) → Heap → Prop) : ∀ (rest pre rest2 pre2 : List Tk) (i : Nat), xs = pre ++ rest → ys = pre2 ++ rest2 → pre.length = i → pre2.length = i → rest.length = rest2.length →
 (eqF eqTk rest rest2 = true → ∀ i : Int, Q (.exit 0) (ofL [(0, .list (qay xs)), (1, .list (qay ys)), (12, .int .i64 (qay xs).length), (13, .int .i64 i), (14, .bool false)]) (hpL [])) →
 (eqF eqTk rest rest2 = false → Q .ret (ofL [(4, .bool false)]) (hpL [])) →
 WL Tryz.prog 26 qh9 (ofL [(0, .list (qay xs)), (1, .list (qay ys)), (12, .int .i64 (qay xs).length), (13, .int .i64 i)]) (hpL []) Q := by
 intro rest
 induction rest with
 | nil =>
  intro pre rest2 pre2 i he he2 hn hn2 hlr hQ0 hQ1
  have hd : decide ((i : Int) < ((qay xs).length : Int)) = false := by simp [qaR, he, hn]
  have hr : rest2 = [] := List.eq_nil_of_length_eq_zero hlr.symm
  subst hr
  have fX := @hd
  refine qaa qh9.eq_1 ?_
  refine wR0 400 [0,1,12,13,14] fX ?_
  refine wF @hd ?_
  refine wX ?_
  refine wN ?_
  exact hQ0 rfl _
 | cons k rest ih =>
  intro pre rest2 pre2 i he he2 hn hn2 hlr hQ0 hQ1
  cases rest2 with
  | nil => simp at hlr
  | cons l rest2 =>
  have hlt : (i : Int) < ((qay xs).length : Int) := by simp [qaR, he]; omega
  have hlt2 : (i : Int) < ((qay ys).length : Int) := by simp [qaR, he2]; omega
  have hlb : i ≤ 1000000 := by rw [he] at hl; simp at hl; omega
  have hd : decide ((i : Int) < ((qay xs).length : Int)) = true := decide_eq_true hlt
  have hg : (qay xs).getD (i : Int).toNat .undef = qgE k := by rw [Int.toNat_natCast, he, ← hn]; exact qd9 _ k _
  have hg2 : (qay ys).getD (i : Int).toNat .undef = qgE l := by rw [Int.toNat_natCast, he2, ← hn2]; exact qd9 _ l _
  have hw : IntKind.wrap .i64 ((i : Int) + 1) = (i : Int) + 1 := wrap64 (by omega) (by omega)
  have fX := (cJ8 @hd @hg @hg2 @hw @qgE.eq_1 @qr2 @eqT.eq_1 @eqT.eq_2)
  refine qaa qh9.eq_1 ?_
  refine wR0 400 [0,1,12,13,14] fX ?_
  refine wT @hd ?_
  refine wR0 500 [0,1,5,12,13] fX ?_
  refine wR0 600 [0,1,12,13,24] fX ?_
  refine wS cJ0 (fun hc600 => ?_) (fun hc600 => ?_)
  ·skip
   refine wR0 700 [4] fX ?_
   refine wE ?_
   refine wN ?_
   have hp : eqTk k l = false := (by cases h : eqTk k l <;> first | rfl | (exfalso; unfold eqTk at h; rw [h] at hc600; cases hc600))
   exact hQ1 (by simp [eqF, hp])
  ·skip
   refine wR0 800 [0,1,12,13] fX ?_
   refine wN ?_
   have hp : eqTk k l = true := (by cases h : eqTk k l <;> first | rfl | (exfalso; unfold eqTk at h; rw [h] at hc600; cases hc600))
   have e : eqF eqTk (k :: rest) (l :: rest2) = eqF eqTk rest rest2 := (by simp [eqF, hp])
   rw [e] at hQ0 hQ1
   exact ih (pre ++ [k]) rest2 (pre2 ++ [l]) (i + 1) (by simp [he]) (by simp [he2]) (by simp; omega) (by simp; omega) (by simpa using hlr) hQ0 hQ1
theorem qsa (xs ys : List Tk) (hl : xs.length ≤ 1000000) : TP Tryz.prog 166 [.list (qay xs), .list (qay ys)] (.bool ((xs.length == ys.length) && eqF eqTk xs ys)) := by
 refine qak fn166 (by simp) ?_
 unfold i166
 simp only [argL]
 refine wR0 0 [0,1] cJ0 ?_
 refine wR0 100 [0,1,10] cJ0 ?_
 refine wS cJ0 (fun hc100 => ?_) (fun hc100 => ?_)
 ·skip
  refine wR0 200 [4] cJ0 ?_
  refine wP ?_
  exact qab (by simp [qaR] at hc100; have hne : xs.length ≠ ys.length := (by omega); simp [hne])
 ·skip
  refine wR0 300 [0,1,12,13] cJ0 ?_
  simp only [thn]
  have hle : xs.length = ys.length := (by simp [qaR] at hc100; omega)
  refine wL ?_
  refine qox xs ys hl _ xs [] ys [] 0 rfl rfl rfl rfl hle ?_ ?_
  ·intro h i
   refine wN ?_
   refine wR0 900 [4] cJ0 ?_
   refine wP ?_
   exact qab (by rw [h, hle]; simp)
  ·intro h
   refine wN ?_
   exact ⟨by simp, _, rfl, by exact qab (by rw [h]; simp)⟩
def qhr (xs ys : List Int) : Bool := (xs.length == ys.length) && eqF eqI xs ys
def qpx (xs ys : List Tk) : Bool := (xs.length == ys.length) && eqF eqTk xs ys
theorem qfq (xs : List Int) : qhr xs xs = true := by simp [qhr, qif eqI (fun x => by simp [eqI])]
theorem qeu (xs : List Tk) : qpx xs xs = true := by simp [qpx, qif eqTk (fun x => by simp [eqTk])]
theorem qpk (xs : List Int) : qhr xs [] = (xs.length == 0) := by cases xs <;> simp [qhr, eqF]
theorem qpe (f : FuncId) (caps : List T) (hcaps : clL (fun _ => false) caps = true) (p : Tk → Bool) (xs : List Tk) (hl : xs.length ≤ 1000000) (Q : IExit → (Nat → T) → Heap → Prop) : ∀ (rest pre : List Tk) (i : Nat), xs = pre ++ rest → pre.length = i →
 (∀ k ∈ rest, TP Tryz.prog f ([qgE k] ++ caps) (.bool (p k))) →
 (ixF p rest i = -1 → ∀ i : Int, Q (.exit 0) (ofL [(0, .list (qay xs)), (1, .fn f caps), (7, .int .i64 (qay xs).length), (8, .int .i64 i), (9, .bool false)]) (hpL [])) →
 (ixF p rest i ≠ -1 → Q .ret (ofL [(4, .int .i64 (ixF p rest i))]) (hpL [])) →
 WL Tryz.prog 19 qic (ofL [(0, .list (qay xs)), (1, .fn f caps), (7, .int .i64 (qay xs).length), (8, .int .i64 i)]) (hpL []) Q := by
 intro rest
 induction rest with
 | nil =>
  intro pre i he hn hk hQ0 hQ1
  have hd : decide ((i : Int) < ((qay xs).length : Int)) = false := by simp [qaR, he, hn]
  have fX := @hd
  refine qaa qic.eq_1 ?_
  refine wR0 200 [0,1,7,8,9] fX ?_
  refine wF @hd ?_
  refine wX ?_
  refine wN ?_
  exact hQ0 rfl _
 | cons k rest ih =>
  intro pre i he hn hk hQ0 hQ1
  rcases k with ⟨tp, tlo, thi⟩
  have hlt : (i : Int) < ((qay xs).length : Int) := by simp [qaR, he]; omega
  have hlb : i ≤ 1000000 := by rw [he] at hl; simp at hl; omega
  have hd : decide ((i : Int) < ((qay xs).length : Int)) = true := decide_eq_true hlt
  have hg : (qay xs).getD (i : Int).toNat .undef = .agg [.int .i64 tp, .int .i64 tlo, .int .i64 thi] := by rw [Int.toNat_natCast, he, ← hn]; exact qd9 _ (⟨tp, tlo, thi⟩ : Tk) _
  have hw : IntKind.wrap .i64 ((i : Int) + 1) = (i : Int) + 1 := wrap64 (by omega) (by omega)
  have fX := (cJ3 @hd @hg @hw)
  refine qaa qic.eq_1 ?_
  refine wR0 200 [0,1,7,8,9] fX ?_
  refine wT @hd ?_
  refine wR0 300 [0,1,5,7,8] fX ?_
  refine wRn 400 [0,1,5,7,8,16] fX ?_
  refine rCv fX ?_
  refine ⟨_, hk (⟨tp, tlo, thi⟩ : Tk) (List.mem_cons_self ..), rE fX ?_⟩
  refine wS cJ0 (fun hc400 => ?_) (fun hc400 => ?_)
  ·skip
   refine wR0 500 [4] fX ?_
   refine wE ?_
   refine wN ?_
   have e : ixF p ((⟨tp, tlo, thi⟩ : Tk) :: rest) i = i := (by simp [ixF, hc400])
   rw [e] at hQ1
   exact hQ1 (by omega)
  ·skip
   refine wR0 600 [0,1,7,8] fX ?_
   refine wN ?_
   have e : ixF p ((⟨tp, tlo, thi⟩ : Tk) :: rest) i = ixF p rest ((i + 1 : Nat) : Int) := (by simp [ixF, hc400])
   rw [e] at hQ0 hQ1
   have := ih (pre ++ [(⟨tp, tlo, thi⟩ : Tk)]) (i + 1) (by simp [he]) (by simp; omega) (fun k' hk' => hk k' (List.mem_cons_of_mem _ hk')) hQ0 hQ1
   simpa using this
theorem qrJ (f : FuncId) (caps : List T) (hcaps : clL (fun _ => false) caps = true) (p : Tk → Bool) (xs : List Tk) (hl : xs.length ≤ 1000000) (hk : ∀ k ∈ xs, TP Tryz.prog f ([qgE k] ++ caps) (.bool (p k))) : TP Tryz.prog 191 [.list (qay xs), .fn f caps] (.int .i64 (ixF p xs 0)) := by
 refine qak fn191 (by simp) ?_
 unfold i191
 simp only [argL]
 refine wR0 0 [0,1] cJ0 ?_
 refine wR0 100 [0,1,7,8] cJ0 ?_
 refine wL ?_
 refine qpe f caps hcaps p xs hl _ xs [] 0 rfl rfl hk ?_ ?_
 ·intro h i
  refine wN ?_
  refine wR0 700 [4] cJ0 ?_
  refine wP ?_
  exact qaK h.symm
 ·intro h
  refine wN ?_
  exact ⟨by simp, _, rfl, by exact .same rfl⟩
theorem qsl (f : FuncId) (caps : List T) (hcaps : clL (fun _ => false) caps = true) (p : Tk → Bool) (xs : List Tk) (hl : xs.length ≤ 1000000) (hk : ∀ k ∈ xs, TP Tryz.prog f ([qgE k] ++ caps) (.bool (p k))) : TP Tryz.prog 162 [.list (qay xs), .fn f caps] (.bool (xs.any p)) := by
 have hfr : froL [.list (qay xs), .fn f caps] = true := by simp [froL, clL, T.cl, hcaps, qn9]
 refine qak fn162 (by simp) ?_
 unfold i162
 simp only [argL]
 refine wR0 0 [0,1] cJ0 ?_
 refine wRn 100 [4] cJ0 ?_
 refine rC cJ0 ?_
 refine ⟨_, qrJ f caps hcaps p xs hl hk, rE cJ0 ?_⟩
 refine wP ?_
 exact qab (qkc p xs 0 (by omega))
theorem qnU (f : FuncId) (caps : List T) (hcaps : clL (fun _ => false) caps = true) (p : Rl → Bool) (xs : List Rl) (hl : xs.length ≤ 1000000) (Q : IExit → (Nat → T) → Heap → Prop) : ∀ (rest pre : List Rl) (i : Nat), xs = pre ++ rest → pre.length = i →
 (∀ k ∈ rest, TP Tryz.prog f ([qbs k] ++ caps) (.bool (p k))) →
 (ixF p rest i = -1 → ∀ i : Int, Q (.exit 0) (ofL [(0, .list (qaL xs)), (1, .fn f caps), (7, .int .i64 (qaL xs).length), (8, .int .i64 i), (9, .bool false)]) (hpL [])) →
 (ixF p rest i ≠ -1 → Q .ret (ofL [(4, .int .i64 (ixF p rest i))]) (hpL [])) →
 WL Tryz.prog 19 qio (ofL [(0, .list (qaL xs)), (1, .fn f caps), (7, .int .i64 (qaL xs).length), (8, .int .i64 i)]) (hpL []) Q := by
 intro rest
 induction rest with
 | nil =>
  intro pre i he hn hk hQ0 hQ1
  have hd : decide ((i : Int) < ((qaL xs).length : Int)) = false := by simp [qaM, he, hn]
  have fX := @hd
  refine qaa qio.eq_1 ?_
  refine wR0 200 [0,1,7,8,9] fX ?_
  refine wF @hd ?_
  refine wX ?_
  refine wN ?_
  exact hQ0 rfl _
 | cons k rest ih =>
  intro pre i he hn hk hQ0 hQ1
  skip
  have hlt : (i : Int) < ((qaL xs).length : Int) := by simp [qaM, he]; omega
  have hlb : i ≤ 1000000 := by rw [he] at hl; simp at hl; omega
  have hd : decide ((i : Int) < ((qaL xs).length : Int)) = true := decide_eq_true hlt
  have hg : (qaL xs).getD (i : Int).toNat .undef = .agg [.str k.name, .int .i64 k.from_, .int .i64 k.to_, .list (qaf k.need), .list (qaf k.give), .list (qaf k.move), .int .i64 k.chan, .int .i64 k.act, .int .i64 k.lett, .list (qaf k.path), .list (qaf k.next), .list (qay k.takes), .list (qaf k.makes), .int .i64 k.second] := by rw [Int.toNat_natCast, he, ← hn]; exact qd8 _ k _
  have hw : IntKind.wrap .i64 ((i : Int) + 1) = (i : Int) + 1 := wrap64 (by omega) (by omega)
  have fX := (cJ3 @hd @hg @hw)
  refine qaa qio.eq_1 ?_
  refine wR0 200 [0,1,7,8,9] fX ?_
  refine wT @hd ?_
  refine wR0 300 [0,1,5,7,8] fX ?_
  refine wRn 400 [0,1,5,7,8,16] fX ?_
  refine rCv fX ?_
  refine ⟨_, hk k (List.mem_cons_self ..), rE fX ?_⟩
  refine wS cJ0 (fun hc400 => ?_) (fun hc400 => ?_)
  ·skip
   refine wR0 500 [4] fX ?_
   refine wE ?_
   refine wN ?_
   have e : ixF p (k :: rest) i = i := (by simp [ixF, hc400])
   rw [e] at hQ1
   exact hQ1 (by omega)
  ·skip
   refine wR0 600 [0,1,7,8] fX ?_
   refine wN ?_
   have e : ixF p (k :: rest) i = ixF p rest ((i + 1 : Nat) : Int) := (by simp [ixF, hc400])
   rw [e] at hQ0 hQ1
   have := ih (pre ++ [k]) (i + 1) (by simp [he]) (by simp; omega) (fun k' hk' => hk k' (List.mem_cons_of_mem _ hk')) hQ0 hQ1
   simpa using this
theorem qr3 (f : FuncId) (caps : List T) (hcaps : clL (fun _ => false) caps = true) (p : Rl → Bool) (xs : List Rl) (hl : xs.length ≤ 1000000) (hk : ∀ k ∈ xs, TP Tryz.prog f ([qbs k] ++ caps) (.bool (p k))) : TP Tryz.prog 109 [.list (qaL xs), .fn f caps] (.int .i64 (ixF p xs 0)) := by
 refine qak fn109 (by simp) ?_
 unfold i109
 simp only [argL]
 refine wR0 0 [0,1] cJ0 ?_
 refine wR0 100 [0,1,7,8] cJ0 ?_
 refine wL ?_
 refine qnU f caps hcaps p xs hl _ xs [] 0 rfl rfl hk ?_ ?_
 ·intro h i
  refine wN ?_
  refine wR0 700 [4] cJ0 ?_
  refine wP ?_
  exact qaK h.symm
 ·intro h
  refine wN ?_
  exact ⟨by simp, _, rfl, by exact .same rfl⟩
theorem qst (f : FuncId) (caps : List T) (hcaps : clL (fun _ => false) caps = true) (p : Rl → Bool) (xs : List Rl) (hl : xs.length ≤ 1000000) (hk : ∀ k ∈ xs, TP Tryz.prog f ([qbs k] ++ caps) (.bool (p k))) : TP Tryz.prog 73 [.list (qaL xs), .fn f caps] (.bool (xs.any p)) := by
 have hfr : froL [.list (qaL xs), .fn f caps] = true := by simp [froL, clL, T.cl, hcaps, qoe]
 refine qak fn73 (by simp) ?_
 unfold i73
 simp only [argL]
 refine wR0 0 [0,1] cJ0 ?_
 refine wRn 100 [4] cJ0 ?_
 refine rC cJ0 ?_
 refine ⟨_, qr3 f caps hcaps p xs hl hk, rE cJ0 ?_⟩
 refine wP ?_
 exact qab (qkc p xs 0 (by omega))
theorem qrt (f : FuncId) (caps : List T) (hcaps : clL (fun _ => false) caps = true) (x : Int) (b : Bool) (h : TP Tryz.prog f ([.int .i64 x] ++ caps) (.bool b)) : TP Tryz.prog 164 [.int .i64 x, .ptr [.fn f caps]] (.bool (!b)) := by
 refine qak fn164 (by simp) ?_
 unfold i164
 simp only [argL]
 refine wR0 0 [0,1] cJ0 ?_
 refine wRn 100 [3] cJ0 ?_
 refine rCv cJ0 ?_
 refine ⟨_, h, rE cJ0 ?_⟩
 refine wP ?_
 exact qab rfl
theorem all_tp (f : FuncId) (caps : List T) (hcaps : clL (fun _ => false) caps = true) (p : Int → Bool) (l : List Int) (hl : l.length ≤ 1000000) (hk : ∀ x ∈ l, TP Tryz.prog f ([.int .i64 x] ++ caps) (.bool (p x))) : TP Tryz.prog 116 [.list (qaf l), .fn f caps] (.bool (l.all p)) := by
 have hcaps0 : clL (fun i => decide (i = 0)) caps = true := qc4 (fun i hi => by simp at hi) _ hcaps
 refine qak fn116 (by simp) ?_
 unfold i116
 simp only [argL]
 refine wR0 0 [0,3] cJ0 ?_
 refine wRn 100 [4] cJ0 ?_
 refine rL [(0, .live ⟨_, [.fn f caps]⟩)] cJ0 ?_
 refine ⟨_, _, qlv 164 [.ptr [.fn f caps]] (by simp [clL, T.cl, hcaps]) (fun x => !p x) l hl (fun x hx => qrt f caps hcaps x _ (hk x hx)), fZl, rfl, rE cJ0 ?_⟩
 refine wP ?_
 exact qab (by rw [List.all_eq_not_any_not])
def qrb (x : Int) : Bool := btw x 0 16
def qlW (m : Md) (r : Rl) : Bool := ((r.need.length : Int) == m.places.length) && ((r.give.length : Int) == m.places.length) && r.need.all qrb && r.give.all qrb
def movesM (m : Md) (r : Rl) : Bool := ((r.move.length : Int) == 0) || (((r.move.length : Int) == m.places.length) && r.move.all fun x => btw x (-1) ((m.places.length : Int) - 1))
def actsM (m : Md) (r : Rl) : Bool := if r.act = 0 then (r.chan == 0) && (r.lett == 0) else btw r.act 1 2 && btw r.chan 0 ((m.places.length : Int) - 1) && btw r.lett 0 ((m.letters.length : Int) - 1)
def pathsM (m : Md) (r : Rl) : Bool := decide ((r.path.length : Int) ≤ m.levels) && decide ((r.next.length : Int) ≤ m.levels) && decide ((r.path.length : Int) + r.next.length > 0) && (r.path.all fun x => btw x 0 ((m.letters.length : Int) - 1)) && r.next.all fun x => btw x 0 ((m.letters.length : Int) - 1)
theorem Frz.fnL {H : Heap} {f : FuncId} {cs cs' : List T} (h : FrzL H cs cs') : Frz H (.fn f cs) (.fn f cs') := .fn h.1 h.2
theorem Frz.refL {H : Heap} {id ty n : Nat} {cs : List T} (hb : H id = .live ⟨ty, cs⟩) (hn : n = cs.length) (h1 : (cs.all T.one) = true) (hc : clL (fun _ => false) cs = true) : Frz H (.ref id n 0) (.ptr cs) := by
 subst hn
 refine Frz.ref hb rfl (by simp) (fun c hc => List.all_eq_true.1 h1 c hc) fun k hk => ?_
 rw [Nat.zero_add]
 exact .same (qa7 hc k)
def ascI : List Int → Bool
 | a :: b :: l => !decide (b < a) && ascI (b :: l)
 | _ => true
theorem qjD : ∀ (l : List Int) (a b : Int), ascI (l ++ [a, b]) = (ascI (l ++ [a]) && !decide (b < a))
 | [], a, b => by simp [ascI]
 | [x], a, b => by simp [ascI]
 | x :: y :: l, a, b => by
  have := qjD (y :: l) a b
  simp only [List.cons_append] at this
  simp only [List.cons_append, ascI, this, Bool.and_assoc]
def revI (x : Int) : List Int → Bool
 | [] => true
 | y :: ys => !decide (x < y) && revI y ys
theorem qo8 : ∀ (ys : List Int) (x : Int), revI x ys = ascI ((x :: ys).reverse)
 | [], x => rfl
 | y :: ys, x => by
  rw [List.reverse_cons, List.reverse_cons, List.append_assoc, List.singleton_append, qjD, ← List.reverse_cons, ← qo8 ys y, revI, Bool.and_comm]
theorem qr9 (a b : Int) : TP Tryz.prog 190 [.int .i64 a, .int .i64 b] (.bool (decide (a < b))) := by
 refine qak fn190 (by simp) ?_
 unfold i190
 simp only [argL]
 refine wR0 0 [0,1] cJ0 ?_
 refine wRn 100 [4] cJ0 ?_
 refine rC cJ0 ?_
 refine ⟨_, qpr a, rE cJ0 ?_⟩
 refine wP ?_
 exact qab rfl
theorem qor (xs : List Int) (hl : xs.length ≤ 1000000) (Q : IExit → (Nat → T) → Heap → Prop) : ∀ (ys : List Int) (x : Int) (zs : List Int) (i : Nat), xs = ys.reverse ++ x :: zs → ys.length = i →
 (revI x ys = true → ∀ i : Int, Q (.exit 0) (ofL [(0, .list (qaf xs)), (3, .int .i64 i), (8, .bool false)]) (hpL [])) →
 (revI x ys = false → Q .ret (ofL [(2, .bool false)]) (hpL [])) →
 WL Tryz.prog 21 qgB (ofL [(0, .list (qaf xs)), (3, .int .i64 i)]) (hpL []) Q := by
 intro ys
 induction ys with
 | nil =>
  intro x zs i he hi hQ0 hQ1
  have hd : decide ((i : Int) > 0) = false := decide_eq_false (by simp at hi; omega)
  have fX := @hd
  refine qaa qgB.eq_1 ?_
  refine wR0 200 [0,3,8] fX ?_
  refine wF @hd ?_
  refine wX ?_
  refine wN ?_
  exact hQ0 rfl _
 | cons y ys ih =>
  intro x zs i he hi hQ0 hQ1
  simp only [List.length_cons] at hi
  obtain ⟨m, rfl⟩ : ∃ m, i = m + 1 := ⟨ys.length, by omega⟩
  have hm : ys.reverse.length = m := by simp; omega
  have he1 : xs = ys.reverse ++ y :: x :: zs := by rw [he]; simp
  have he2 : xs = (ys.reverse ++ [y]) ++ x :: zs := by rw [he]; simp
  have hxl : ((qaf xs).length : Int) = m + 2 + zs.length := by rw [qai, he1]; simp at hm ⊢; omega
  have hlb : m + 2 ≤ 1000000 := by rw [qai] at hxl; omega
  have hlt : ((m + 1 : Nat) : Int) < ((qaf xs).length : Int) := by omega
  have hlt2 : (m : Int) < ((qaf xs).length : Int) := by omega
  have hd : decide (((m + 1 : Nat) : Int) > 0) = true := decide_eq_true (by omega)
  have hw3 : IntKind.wrap .i64 (((m + 1 : Nat) : Int) - 1) = (m : Int) := by rw [wrap64 (by omega) (by omega)]; omega
  have hg1 : (qaf xs).getD (((m + 1 : Nat) : Int)).toNat .undef = .int .i64 x := by
   have h := qbK (ys.reverse ++ [y]) x zs
   rw [← he2] at h
   rw [Int.toNat_natCast, show m + 1 = (ys.reverse ++ [y]).length by simp at hm ⊢; omega]; exact h
  have hg2 : (qaf xs).getD (m : Int).toNat .undef = .int .i64 y := by
   have h := qbK ys.reverse y (x :: zs)
   rw [← he1] at h
   rw [Int.toNat_natCast, ← hm]; exact h
  have fX := (cJ4 @hd @hg1 @hg2 @hw3)
  refine qaa qgB.eq_1 ?_
  refine wR0 200 [0,3,8] fX ?_
  refine wT @hd ?_
  refine wRn 300 [0,3,20] fX ?_
  refine rC fX ?_
  refine ⟨_, qr9 x y, rE fX ?_⟩
  refine wS cJ0 (fun hc300 => ?_) (fun hc300 => ?_)
  ·skip
   refine wR0 400 [2] fX ?_
   refine wE ?_
   refine wN ?_
   exact hQ1 (by rw [revI, hc300]; rfl)
  ·skip
   refine wR0 500 [0,3] fX ?_
   refine wN ?_
   have e : revI x (y :: ys) = revI y ys := (by rw [revI, hc300]; rfl)
   rw [e] at hQ0 hQ1
   exact ih y (x :: zs) m he1 (by simpa using hm) hQ0 hQ1
theorem qsn (xs : List Int) (hl : xs.length ≤ 1000000) : TP Tryz.prog 160 [.list (qaf xs)] (.bool (ascI xs)) := by
 have hw : IntKind.wrap .i64 (((qaf xs).length : Int) - 1) = ((qaf xs).length : Int) - 1 := wrap64 (by omega) (by rw [qai]; omega)
 refine qak fn160 (by simp) ?_
 unfold i160
 simp only [argL]
 refine wN ?_
 refine wR0 0 [0] cJ0 ?_
 refine wN ?_
 refine wR0 100 [0,3] @hw ?_
 refine wN ?_
 refine qbF ?_
 rcases List.eq_nil_or_concat xs with h | ⟨ini, x, h⟩
 ·subst h
  have hd : decide (((qaf []).length : Int) - 1 > 0) = false := rfl
  have fX := @hd
  refine qaa qgB.eq_1 ?_
  refine wR0 200 [0,3,8] fX ?_
  refine wF fX ?_
  refine wX ?_
  refine wN ?_
  skip
  (try simp only [inB, if_true, thn])
  refine wR0 600 [2] cJ0 ?_
  refine wN ?_
  refine qaC ?_
  (try simp only)
  exact ⟨by simp, _, rfl, by exact qab rfl⟩
 ·have hi : ((qaf xs).length : Int) - 1 = ((ini.length : Nat) : Int) := by rw [qai, h]; simp
  have hr : revI x ini.reverse = ascI xs := by rw [qo8, h]; simp
  rw [hi]
  refine qor xs hl _ ini.reverse x [] ini.length (by rw [h]; simp) (by simp) ?_ ?_
  ·intro h1 i
   simp only [inB, if_true, thn]
   refine wR0 600 [2] cJ0 ?_
   refine wN ?_
   refine qaC ?_
   (try simp only)
   exact ⟨by simp, _, rfl, by exact qab (by rw [← hr, h1])⟩
  ·intro h1
   simp only [inB, thn]
   exact ⟨by simp, _, rfl, qab (by rw [← hr, h1])⟩
theorem qpM (x n : Int) (hn : -1000000000000 ≤ n ∧ n ≤ 1000000000000) : TP Tryz.prog 161 [.int .i64 x, .ptr [.int .i64 n]] (.bool (btw x 0 (n - 1))) := by
 refine qak fn161 (by simp) ?_
 unfold i161
 simp only [argL]
 refine wR0 0 [0,1] cJ0 ?_
 refine wRn 100 [3] cJ0 ?_
 refine rC cJ0 ?_
 refine ⟨_, qea x n hn, rE cJ0 ?_⟩
 refine wP ?_
 exact qab rfl
def qfR (n age : Int) (t : Tk) : Bool := !btw t.place 0 (n - 1) || decide (t.low < 0) || decide (t.low > t.high) || decide (t.high > age + 1)
set_option maxHeartbeats 2000000 in
theorem qpT (m : Md) (a b c n : Int) (hn : -1000000000000 ≤ n ∧ n ≤ 1000000000000) (hm : 0 ≤ m.age ∧ m.age ≤ 1000) : TP Tryz.prog 163 [.agg [.int .i64 a, .int .i64 b, .int .i64 c], .ptr [.int .i64 n], .ptr (mdC m)] (.bool (qfR n m.age ⟨a, b, c⟩)) := by
 have hw : IntKind.wrap .i64 (m.age + 1) = m.age + 1 := wrap64 (by omega) (by omega)
 have fX := @hw
 refine qak fn163 (by simp) ?_
 unfold i163
 simp only [argL, mdC]
 refine wR0 0 [1,2,3] fX ?_
 refine wRn 100 [4] fX ?_
 refine rC fX ?_
 refine ⟨_, qea a n hn, rE fX ?_⟩
 refine wP ?_
 exact qab rfl
def qkK (m : Md) (r : Rl) : Bool := decide ((r.takes.length : Int) ≤ 3) && decide ((r.makes.length : Int) ≤ 3) && ascI r.makes && (r.makes.all fun x => btw x 0 ((m.places.length : Int) - 1)) && !r.takes.any fun t => qfR m.places.length m.age t
set_option maxHeartbeats 4000000 in
theorem qsb (m : Md) (r : Rl) (hp : m.places.length ≤ 1000) (hm : 0 ≤ m.age ∧ m.age ≤ 1000) (hr : r.fit) : TP Tryz.prog 115 [qau m, qbs r] (.bool (qkK m r)) := by
 have ha1 := all_tp 161 [.ptr [.int .i64 ((qan m.places).length : Int)]] rfl (fun x => btw x 0 (((qan m.places).length : Int) - 1)) r.makes hr.makes (fun x hx => qpM x _ (by rw [qad]; omega))
 have ha2 := qsl 163 [.ptr [.int .i64 ((qan m.places).length : Int)], .ptr (mdC m)] (by simp [clL, T.cl]) (fun t => qfR ((qan m.places).length : Int) m.age t) r.takes hr.takes (fun t ht => qpT m t.place t.low t.high _ (by rw [qad]; omega) hm)
 simp only [mdC] at ha2
 refine qak fn115 (by simp) ?_
 unfold i115
 simp only [argL, qau, mdC, qbs, rlC]
 refine wR0 0 [2,3] cJ0 ?_
 refine wR0 100 [2,3,5] cJ0 ?_
 refine wRn 200 [4] cJ0 ?_
 refine rCi cJ0 ?_
 refine ⟨_, fun hw => qsn r.makes hr.makes, rN cJ0 ?_⟩
 refine rLi [(103, .live ⟨_, [.int .i64 ((qan m.places).length : Int)]⟩)] cJ0 ?_
 refine ⟨_, _, fun hw => ha1, fZl, rfl, rN cJ0 ?_⟩
 refine rLi [(103, .live ⟨_, [.int .i64 ((qan m.places).length : Int)]⟩), (0, .live ⟨_, mdC m⟩)] cJ0 ?_
 refine ⟨_, _, fun hw => ha2, fZy, rfl, rE cJ0 ?_⟩
 refine wP ?_
 exact qab (by simp only [qkK, qai, qaR, qad])
def qnm (a b : Rl) : Bool :=
 (a.name.toList == b.name.toList) && (a.from_ == b.from_) && (a.to_ == b.to_) && qhr a.need b.need && qhr a.give b.give && qhr a.move b.move && (a.chan == b.chan) && (a.act == b.act) && (a.lett == b.lett) &&
  qhr a.path b.path && qhr a.next b.next && qpx a.takes b.takes && qhr a.makes b.makes && (a.second == b.second)
set_option maxHeartbeats 8000000 in
theorem qpc (a b : Rl) (ha : a.fit) : TP Tryz.prog 118 [qbs a, qbs b] (.bool (qnm a b)) := by
 have fX := (cJ3 @binS.eq_1 @binS.eq_2 @binS.eq_3)
 refine qak fn118 (by simp) ?_
 unfold i118
 simp only [argL, qbs, rlC]
 refine wR0 0 [2,3] fX ?_
 refine wRn 100 [4] fX ?_
 refine rCi fX ?_
 refine ⟨_, fun hw => qhR a.need b.need ha.need, rN fX ?_⟩
 refine rCi fX ?_
 refine ⟨_, fun hw => qhR a.give b.give ha.give, rN fX ?_⟩
 refine rCi fX ?_
 refine ⟨_, fun hw => qhR a.move b.move ha.move, rN fX ?_⟩
 refine rCi fX ?_
 refine ⟨_, fun hw => qhR a.path b.path ha.path, rN fX ?_⟩
 refine rCi fX ?_
 refine ⟨_, fun hw => qhR a.next b.next ha.next, rN fX ?_⟩
 refine rCi fX ?_
 refine ⟨_, fun hw => qsa a.takes b.takes ha.takes, rN fX ?_⟩
 refine rCi fX ?_
 refine ⟨_, fun hw => qhR a.makes b.makes ha.makes, rE fX ?_⟩
 refine wP ?_
 exact qab rfl
end
end Go.Proofs.YtikhhnopcjgjpaaGreat
