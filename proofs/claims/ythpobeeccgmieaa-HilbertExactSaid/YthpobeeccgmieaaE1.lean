/- The walks of the reference's Check and Apply of matrices. The walks of the reference's Apply, and of ref12's shape, Check, Solves, leq and zeros. The walks of ref12's Check and Solves. The walk of the reference's Copy (for packages whose CmpL lacks it). The walk of the reference's Put (the plain part is in PutL). The reference's vectors: all vectors of natural numbers with a bounded sum. The walk of the reference's vectors. -/
import Derived.Test.YthpobeeccgmieaaMatA
import Derived.BigQuiet
import Derived.Deep.QuietTactic
import Derived.Test.YthpobeeccgmieaaHil
import Derived.Test.YthpobeeccgmieaaCmpL
import Derived.Test.YthpobeeccgmieaaStep
import Derived.Test.YthpobeeccgmieaaOwnI
import Derived.Test.YthpobeeccgmieaaPutL
import Derived.Test.YthpobeeccgmieaaMinL
import Derived.Test.YthpobeeccgmieaaNow
import Derived.Test.YthpobeeccgmieaaPush
import Derived.Test.YthpobeeccgmieaaMat
import Derived.Test.YthpobeeccgmieaaConcatR
namespace Go.Proofs.Ythpobeeccgmieaa
set_option linter.unusedVariables false
open Go.RowKit

theorem entB_no {row : List Int} {j : Nat} (hj : j < row.length) (h : entB (row.getD j 0) = false) : row.all entB = false := by
  rw [← Bool.not_eq_true, List.all_eq_true]
  intro hh
  rw [hh _ (getD_mem hj)] at h
  cases h
theorem entB_yes {row : List Int} {j : Nat} (h : ∀ i, i < j → entB (row.getD i 0) = true) (hj : row.length ≤ j) : row.all entB = true := by
  rw [List.all_eq_true]
  intro x hx
  obtain ⟨i, hi, rfl⟩ := mem_getD (d := 0) hx
  exact h i (by omega)

set_option maxRecDepth 100000 in
set_option maxHeartbeats 2000000 in
theorem rmcheck_is {w : World} {l : List Nat} {v : Value} {A : List (List Int)} (h : IsII w l v A) (hn : A.length ≤ 1000000) (hx : ∀ r ∈ A, r.length ≤ 1000000) : Calls Try.prog 49 #[v] w (RetN (if matB A = true then 0 else 10) w) := by
  unfold RetN
  generalize hZ : (if matB A = true then (0 : Int) else 10) = Z
  have hB : matB A = (decide (1 ≤ A.length ∧ A.length ≤ 12) && decide (1 ≤ (A.getD 0 []).length ∧ (A.getD 0 []).length ≤ 12 ∧ ((A.getD 0 []).length ≤ 6 ∨ A.length ≤ 6)) && A.all (rowB (A.getD 0 []).length)) := rfl
  obtain ⟨V, c, rfl, hr⟩ := h.mrow
  have hrows : ∀ i, i < A.length → (A.getD i []).length ≤ 1000000 := fun i hi => hx _ (getD_mem hi)
  generalize hm : A.length = m at *
  clear h hx
  by_cases h1 : m < 1
  · have d1 : decide ((m : Int) < 1) = true := decide_eq_true (by omega)
    have hZ10 : Z = 10 := by rw [← hZ, hB, decide_eq_false (by omega), Bool.false_and, Bool.false_and]; rfl
    have HR := Lib.hid hr
    have HB := Lib.hid hB
    have HM := Lib.hid hm
    have HROWS := Lib.hid hrows
    have HZ := Lib.hid hZ
    have HZ10 := Lib.hid hZ10
    clear hr hB hm hrows hZ hZ10
    go_enter Try.func49, Try.ntmps49
    go_wp2_with fail
    go_ret
    exact ⟨ret_ni HZ10.out, Keeps.refl _ _⟩
  have d1 : decide ((m : Int) < 1) = false := decide_eq_false (by omega)
  by_cases h2 : 12 < m
  · have d2 : decide (12 < (m : Int)) = true := decide_eq_true (by omega)
    have hZ10 : Z = 10 := by rw [← hZ, hB, decide_eq_false (by omega), Bool.false_and, Bool.false_and]; rfl
    have HR := Lib.hid hr
    have HB := Lib.hid hB
    have HM := Lib.hid hm
    have HROWS := Lib.hid hrows
    have HZ := Lib.hid hZ
    have HZ10 := Lib.hid hZ10
    clear hr hB hm hrows hZ hZ10
    go_enter Try.func49, Try.ntmps49
    go_wp2_with fail
    go_ret
    exact ⟨ret_ni HZ10.out, Keeps.refl _ _⟩
  have d2 : decide (12 < (m : Int)) = false := decide_eq_false (by omega)
  obtain ⟨p0, B0, c0, e0, hp0, _⟩ := hr 0 (by omega)
  have hz : p0.add 0 = p0 := by simp [Addr.add]
  rw [hz] at hp0
  subst e0
  rw [decide_eq_true (show 1 ≤ m ∧ m ≤ 12 by omega), Bool.true_and] at hB
  have hn0 := hrows 0 (by omega)
  generalize hc : (A.getD 0 []).length = n at *
  by_cases h3 : n < 1
  · have d3 : decide ((n : Int) < 1) = true := decide_eq_true (by omega)
    have hZ10 : Z = 10 := by rw [← hZ, hB, decide_eq_false (by omega), Bool.false_and]; rfl
    have HR := Lib.hid hr
    have HB := Lib.hid hB
    have HM := Lib.hid hm
    have HROWS := Lib.hid hrows
    have HZ := Lib.hid hZ
    have HZ10 := Lib.hid hZ10
    have HC := Lib.hid hc
    clear hr hB hm hrows hZ hZ10 hc
    go_enter Try.func49, Try.ntmps49
    go_wp2_with fail
    go_ret
    exact ⟨ret_ni HZ10.out, Keeps.refl _ _⟩
  have d3 : decide ((n : Int) < 1) = false := decide_eq_false (by omega)
  by_cases h4 : 12 < n
  · have d4 : decide (12 < (n : Int)) = true := decide_eq_true (by omega)
    have hZ10 : Z = 10 := by rw [← hZ, hB, decide_eq_false (by omega), Bool.false_and]; rfl
    have HR := Lib.hid hr
    have HB := Lib.hid hB
    have HM := Lib.hid hm
    have HROWS := Lib.hid hrows
    have HZ := Lib.hid hZ
    have HZ10 := Lib.hid hZ10
    have HC := Lib.hid hc
    clear hr hB hm hrows hZ hZ10 hc
    go_enter Try.func49, Try.ntmps49
    go_wp2_with fail
    go_ret
    exact ⟨ret_ni HZ10.out, Keeps.refl _ _⟩
  have d4 : decide (12 < (n : Int)) = false := decide_eq_false (by omega)
  by_cases h5 : 6 < min n m
  · have d5 : decide (6 < (m : Int)) = true := decide_eq_true (by omega)
    have d6 : decide (6 < (n : Int)) = true := decide_eq_true (by omega)
    have hZ10 : Z = 10 := by rw [← hZ, hB, decide_eq_false (by omega), Bool.false_and]; rfl
    have HR := Lib.hid hr
    have HB := Lib.hid hB
    have HM := Lib.hid hm
    have HROWS := Lib.hid hrows
    have HZ := Lib.hid hZ
    have HZ10 := Lib.hid hZ10
    have HC := Lib.hid hc
    clear hr hB hm hrows hZ hZ10 hc
    go_enter Try.func49, Try.ntmps49
    go_wp2_with fail
    go_ret
    exact ⟨ret_ni HZ10.out, Keeps.refl _ _⟩
  rw [decide_eq_true (show 1 ≤ n ∧ n ≤ 12 ∧ (n ≤ 6 ∨ m ≤ 6) by omega), Bool.true_and] at hB
  rw [hB] at hZ
  have hp0w : ∀ W, Keeps [] w W → W.cell? p0 = some (.slice B0 n c0) := fun W k => k.read hp0 (by simp)
  have main : (6 < m → n ≤ 6) → Calls Try.prog 49 #[.slice (some p0) m c] w (fun e w' => e = .returned (.int .i64 Z) ∧ Keeps [] w w') := fun h67 => by
    by_cases h6 : 6 < m
    · have d5 : decide (6 < (m : Int)) = true := decide_eq_true (by omega)
      have d6 : decide (6 < (n : Int)) = false := decide_eq_false (by have := h67 h6; omega)
      have HR := Lib.hid hr
      have HB := Lib.hid hB
      have HM := Lib.hid hm
      have HROWS := Lib.hid hrows
      have HC := Lib.hid hc
      have HZ := Lib.hid hZ
      have HP0W := Lib.hid hp0w
      have H67 := Lib.hid h67
      clear hr hB hm hrows hc hZ hp0w h67
      go_enter Try.func49, Try.ntmps49
      go_wp2_with fail
      go_loopg [3] (m + 1) (fun gh kv wr => ∃ k : Nat, m + 1 ≤ k + gh ∧ k ≤ m ∧ kv = .int .i64 (k : Int) ∧ (∀ i, i < k → rowB n (A.getD i []) = true) ∧ Keeps [] w wr)
      case atStart => exact ⟨0, by omega, by omega, rfl, fun i hi => by omega, Keeps.refl _ _⟩
      case round =>
        obtain ⟨k, hgh, hk, rfl, hs, hkr⟩ := hrel
        by_cases hlt : k < m
        · obtain ⟨pa, Bk, ck, ea, hpa, hI⟩ := (HR.out.new hkr) k hlt
          obtain rfl : pa = p0 := by injection ea with e; exact e.symm
          have hlen := HROWS.out k hlt
          have hp0r := HP0W.out wr hkr
          have hrb : rowB n (A.getD k []) = (decide ((A.getD k []).length = n) && (A.getD k []).all entB) := rfl
          generalize hrow : A.getD k [] = row at *
          generalize hq : row.length = q at *
          by_cases hqn : q = n
          · subst hqn
            rw [decide_eq_true rfl, Bool.true_and] at hrb
            have d7 : ((q : Int) != (q : Int)) = false := by simp
            have hIo := hI.open
            obtain ⟨Bk', ck', ek, _, _, hck⟩ := hIo
            rw [hq] at ek hck
            obtain ⟨rfl, rfl⟩ : Bk = Bk' ∧ ck = ck' := by injection ek with e1 _ e2; exact ⟨e1, e2⟩
            generalize wr = wo at *
            have HKR := Lib.hid hkr
            have HI := Lib.hid hI
            have HS := Lib.hid hs
            have HRB := Lib.hid hrb
            have HROW := Lib.hid hrow
            have HQ := Lib.hid hq
            have HLEN := Lib.hid hlen
            have HCK := Lib.hid hck
            clear hkr hI hs hrb hrow hq hlen hck
            clear ek
            go_wp2_with fail
            go_quiet (fail)
            go_wp2_with fail
            go_loopg [4] (q + 1) (fun gh2 jv wr => ∃ j : Nat, q + 1 ≤ j + gh2 ∧ j ≤ q ∧ jv = .int .i64 (j : Int) ∧ (∀ i, i < j → entB (row.getD i 0) = true) ∧ Keeps [] wo wr)
            case atStart => exact ⟨0, by omega, by omega, rfl, fun i hi => by omega, kf [] wo _⟩
            case round =>
              obtain ⟨j, hgh2, hj, rfl, hes, hkr2⟩ := hrel
              have hpa2 := hkr2.read hpa (by simp)
              by_cases hlt2 : j < q
              · obtain ⟨pb, rfl, hpb⟩ := (HCK.out.keeps (hkr2.nil _)).at_ hlt2
                cases he : entB (row.getD j 0) with
                | true =>
                  have he2 := entB_true.1 he
                  have hes2 : ∀ i, i < j + 1 → entB (row.getD i 0) = true := fun i hi => by
                    by_cases e : i = j
                    · subst e; exact he
                    · exact hes i (by omega)
                  generalize row.getD j 0 = y at *
                  have d8 : decide (y < -16) = false := decide_eq_false (by omega)
                  have d9 : decide (16 < y) = false := decide_eq_false (by omega)
                  have HES := Lib.hid hes
                  have HES2 := Lib.hid hes2
                  have HKR2 := Lib.hid hkr2
                  have HE := Lib.hid he
                  have HE2 := Lib.hid he2
                  clear hes hes2 hkr2 he he2
                  go_wp2_with fail
                  go_roundg (q - j)
                  case measure => omega
                  case rel => exact ⟨j + 1, by omega, by omega, by go_num, HES2.out, HKR2.out⟩
                | false =>
                  have hno := rowsB_no (A := A) (n := q) (k := k) (by rw [HM.out]; exact hlt) (by rw [HROW.out, HRB.out]; exact entB_no (by rw [HQ.out]; exact hlt2) he)
                  have hZ10 : Z = 10 := by rw [← HZ.out, hno]; rfl
                  have he2 : ¬ (-16 ≤ row.getD j 0 ∧ row.getD j 0 ≤ 16) := fun h => by rw [entB_true.2 h] at he; cases he
                  generalize row.getD j 0 = y at *
                  by_cases hy : y < -16
                  · have d8 : decide (y < -16) = true := decide_eq_true hy
                    have HES := Lib.hid hes
                    have HKR2 := Lib.hid hkr2
                    have HE := Lib.hid he
                    have HE2 := Lib.hid he2
                    have HNO := Lib.hid hno
                    have HZ10 := Lib.hid hZ10
                    clear hes hkr2 he he2 hno hZ10
                    go_wp2_with fail
                    go_ret
                    exact ⟨ret_ni HZ10.out, HKR.out.trans HKR2.out⟩
                  · have d8 : decide (y < -16) = false := decide_eq_false hy
                    have d9 : decide (16 < y) = true := decide_eq_true (by omega)
                    have HES := Lib.hid hes
                    have HKR2 := Lib.hid hkr2
                    have HE := Lib.hid he
                    have HE2 := Lib.hid he2
                    have HNO := Lib.hid hno
                    have HZ10 := Lib.hid hZ10
                    clear hes hkr2 he he2 hno hZ10
                    go_wp2_with fail
                    go_ret
                    exact ⟨ret_ni HZ10.out, HKR.out.trans HKR2.out⟩
              · obtain rfl : j = q := by omega
                have hyes := entB_yes hes (by rw [HQ.out]; exact Nat.le_refl _)
                have hsk : ∀ i, i < k + 1 → rowB j (A.getD i []) = true := fun i hi => by
                  by_cases e : i = k
                  · subst e; rw [HROW.out, HRB.out]; exact hyes
                  · exact HS.out i (by omega)
                have HES := Lib.hid hes
                have HKR2 := Lib.hid hkr2
                have HYES := Lib.hid hyes
                have HSK := Lib.hid hsk
                clear hes hkr2 hyes hsk
                go_wp2_with fail
                go_roundg (m - k)
                case measure => omega
                case rel => exact ⟨k + 1, by omega, by omega, by go_num, HSK.out, HKR.out.trans HKR2.out⟩
          · rw [decide_eq_false hqn, Bool.false_and] at hrb
            have hno := rowsB_no (A := A) (n := n) (k := k) (by rw [HM.out]; exact hlt) (by rw [hrow]; exact hrb)
            have d7 : ((q : Int) != (n : Int)) = true := by
              have : (q : Int) ≠ (n : Int) := by omega
              simpa using this
            have hZ10 : Z = 10 := by rw [← HZ.out, hno]; rfl
            have HKR := Lib.hid hkr
            have HI := Lib.hid hI
            have HS := Lib.hid hs
            have HRB := Lib.hid hrb
            have HROW := Lib.hid hrow
            have HQ := Lib.hid hq
            have HLEN := Lib.hid hlen
            have HNO := Lib.hid hno
            have HZ10 := Lib.hid hZ10
            clear hkr hI hs hrb hrow hq hlen hno hZ10
            go_wp2_with fail
            go_quiet (fail)
            go_wp2_with fail
            go_ret
            exact ⟨ret_ni HZ10.out, HKR.out.trans (kf [] wr _)⟩
        · obtain rfl : k = m := by omega
          have hyes := rowsB_take (A := A) hs (by rw [HM.out]; exact Nat.le_refl _)
          have hZ0 : Z = 0 := by rw [← HZ.out, hyes]; rfl
          have HKR := Lib.hid hkr
          have HS := Lib.hid hs
          have HYES := Lib.hid hyes
          have HZ0 := Lib.hid hZ0
          clear hkr hs hyes hZ0
          go_wp2_with fail
          go_ret
          exact ⟨ret_ni HZ0.out, HKR.out⟩
    · have d5 : decide (6 < (m : Int)) = false := decide_eq_false (by omega)
      have HR := Lib.hid hr
      have HB := Lib.hid hB
      have HM := Lib.hid hm
      have HROWS := Lib.hid hrows
      have HC := Lib.hid hc
      have HZ := Lib.hid hZ
      have HP0W := Lib.hid hp0w
      have H67 := Lib.hid h67
      clear hr hB hm hrows hc hZ hp0w h67
      go_enter Try.func49, Try.ntmps49
      go_wp2_with fail
      go_loopg [3] (m + 1) (fun gh kv wr => ∃ k : Nat, m + 1 ≤ k + gh ∧ k ≤ m ∧ kv = .int .i64 (k : Int) ∧ (∀ i, i < k → rowB n (A.getD i []) = true) ∧ Keeps [] w wr)
      case atStart => exact ⟨0, by omega, by omega, rfl, fun i hi => by omega, Keeps.refl _ _⟩
      case round =>
        obtain ⟨k, hgh, hk, rfl, hs, hkr⟩ := hrel
        by_cases hlt : k < m
        · obtain ⟨pa, Bk, ck, ea, hpa, hI⟩ := (HR.out.new hkr) k hlt
          obtain rfl : pa = p0 := by injection ea with e; exact e.symm
          have hlen := HROWS.out k hlt
          have hp0r := HP0W.out wr hkr
          have hrb : rowB n (A.getD k []) = (decide ((A.getD k []).length = n) && (A.getD k []).all entB) := rfl
          generalize hrow : A.getD k [] = row at *
          generalize hq : row.length = q at *
          by_cases hqn : q = n
          · subst hqn
            rw [decide_eq_true rfl, Bool.true_and] at hrb
            have d7 : ((q : Int) != (q : Int)) = false := by simp
            have hIo := hI.open
            obtain ⟨Bk', ck', ek, _, _, hck⟩ := hIo
            rw [hq] at ek hck
            obtain ⟨rfl, rfl⟩ : Bk = Bk' ∧ ck = ck' := by injection ek with e1 _ e2; exact ⟨e1, e2⟩
            generalize wr = wo at *
            have HKR := Lib.hid hkr
            have HI := Lib.hid hI
            have HS := Lib.hid hs
            have HRB := Lib.hid hrb
            have HROW := Lib.hid hrow
            have HQ := Lib.hid hq
            have HLEN := Lib.hid hlen
            have HCK := Lib.hid hck
            clear hkr hI hs hrb hrow hq hlen hck
            clear ek
            go_wp2_with fail
            go_quiet (fail)
            go_wp2_with fail
            go_loopg [4] (q + 1) (fun gh2 jv wr => ∃ j : Nat, q + 1 ≤ j + gh2 ∧ j ≤ q ∧ jv = .int .i64 (j : Int) ∧ (∀ i, i < j → entB (row.getD i 0) = true) ∧ Keeps [] wo wr)
            case atStart => exact ⟨0, by omega, by omega, rfl, fun i hi => by omega, kf [] wo _⟩
            case round =>
              obtain ⟨j, hgh2, hj, rfl, hes, hkr2⟩ := hrel
              have hpa2 := hkr2.read hpa (by simp)
              by_cases hlt2 : j < q
              · obtain ⟨pb, rfl, hpb⟩ := (HCK.out.keeps (hkr2.nil _)).at_ hlt2
                cases he : entB (row.getD j 0) with
                | true =>
                  have he2 := entB_true.1 he
                  have hes2 : ∀ i, i < j + 1 → entB (row.getD i 0) = true := fun i hi => by
                    by_cases e : i = j
                    · subst e; exact he
                    · exact hes i (by omega)
                  generalize row.getD j 0 = y at *
                  have d8 : decide (y < -16) = false := decide_eq_false (by omega)
                  have d9 : decide (16 < y) = false := decide_eq_false (by omega)
                  have HES := Lib.hid hes
                  have HES2 := Lib.hid hes2
                  have HKR2 := Lib.hid hkr2
                  have HE := Lib.hid he
                  have HE2 := Lib.hid he2
                  clear hes hes2 hkr2 he he2
                  go_wp2_with fail
                  go_roundg (q - j)
                  case measure => omega
                  case rel => exact ⟨j + 1, by omega, by omega, by go_num, HES2.out, HKR2.out⟩
                | false =>
                  have hno := rowsB_no (A := A) (n := q) (k := k) (by rw [HM.out]; exact hlt) (by rw [HROW.out, HRB.out]; exact entB_no (by rw [HQ.out]; exact hlt2) he)
                  have hZ10 : Z = 10 := by rw [← HZ.out, hno]; rfl
                  have he2 : ¬ (-16 ≤ row.getD j 0 ∧ row.getD j 0 ≤ 16) := fun h => by rw [entB_true.2 h] at he; cases he
                  generalize row.getD j 0 = y at *
                  by_cases hy : y < -16
                  · have d8 : decide (y < -16) = true := decide_eq_true hy
                    have HES := Lib.hid hes
                    have HKR2 := Lib.hid hkr2
                    have HE := Lib.hid he
                    have HE2 := Lib.hid he2
                    have HNO := Lib.hid hno
                    have HZ10 := Lib.hid hZ10
                    clear hes hkr2 he he2 hno hZ10
                    go_wp2_with fail
                    go_ret
                    exact ⟨ret_ni HZ10.out, HKR.out.trans HKR2.out⟩
                  · have d8 : decide (y < -16) = false := decide_eq_false hy
                    have d9 : decide (16 < y) = true := decide_eq_true (by omega)
                    have HES := Lib.hid hes
                    have HKR2 := Lib.hid hkr2
                    have HE := Lib.hid he
                    have HE2 := Lib.hid he2
                    have HNO := Lib.hid hno
                    have HZ10 := Lib.hid hZ10
                    clear hes hkr2 he he2 hno hZ10
                    go_wp2_with fail
                    go_ret
                    exact ⟨ret_ni HZ10.out, HKR.out.trans HKR2.out⟩
              · obtain rfl : j = q := by omega
                have hyes := entB_yes hes (by rw [HQ.out]; exact Nat.le_refl _)
                have hsk : ∀ i, i < k + 1 → rowB j (A.getD i []) = true := fun i hi => by
                  by_cases e : i = k
                  · subst e; rw [HROW.out, HRB.out]; exact hyes
                  · exact HS.out i (by omega)
                have HES := Lib.hid hes
                have HKR2 := Lib.hid hkr2
                have HYES := Lib.hid hyes
                have HSK := Lib.hid hsk
                clear hes hkr2 hyes hsk
                go_wp2_with fail
                go_roundg (m - k)
                case measure => omega
                case rel => exact ⟨k + 1, by omega, by omega, by go_num, HSK.out, HKR.out.trans HKR2.out⟩
          · rw [decide_eq_false hqn, Bool.false_and] at hrb
            have hno := rowsB_no (A := A) (n := n) (k := k) (by rw [HM.out]; exact hlt) (by rw [hrow]; exact hrb)
            have d7 : ((q : Int) != (n : Int)) = true := by
              have : (q : Int) ≠ (n : Int) := by omega
              simpa using this
            have hZ10 : Z = 10 := by rw [← HZ.out, hno]; rfl
            have HKR := Lib.hid hkr
            have HI := Lib.hid hI
            have HS := Lib.hid hs
            have HRB := Lib.hid hrb
            have HROW := Lib.hid hrow
            have HQ := Lib.hid hq
            have HLEN := Lib.hid hlen
            have HNO := Lib.hid hno
            have HZ10 := Lib.hid hZ10
            clear hkr hI hs hrb hrow hq hlen hno hZ10
            go_wp2_with fail
            go_quiet (fail)
            go_wp2_with fail
            go_ret
            exact ⟨ret_ni HZ10.out, HKR.out.trans (kf [] wr _)⟩
        · obtain rfl : k = m := by omega
          have hyes := rowsB_take (A := A) hs (by rw [HM.out]; exact Nat.le_refl _)
          have hZ0 : Z = 0 := by rw [← HZ.out, hyes]; rfl
          have HKR := Lib.hid hkr
          have HS := Lib.hid hs
          have HYES := Lib.hid hyes
          have HZ0 := Lib.hid hZ0
          clear hkr hs hyes hZ0
          go_wp2_with fail
          go_ret
          exact ⟨ret_ni HZ0.out, HKR.out⟩
  exact main (by omega)
end Go.Proofs.Ythpobeeccgmieaa

namespace Go.Proofs.Ythpobeeccgmieaa
set_option linter.unusedVariables false
open Go.RowKit

set_option maxRecDepth 100000 in
set_option maxHeartbeats 2000000 in
theorem rapply_is {w : World} {l : List Nat} {av bv : Value} {A : List (List Int)} {v : List Int} {r n : Nat} (hA : IsII w l av A) (hv : IsI w l bv v) (hM : Mat A r n) (hvl : v.length = n) (hvr : ∀ y ∈ v, -1048576 ≤ y ∧ y ≤ 1048576) (hl : ∀ y ∈ l, y < w.heap.size) :
    Calls Try.prog 37 #[av, bv] w (ApPost l r (appL A v) w) := by
  unfold ApPost
  have hr12 := hM.r1
  have hc12 := hM.c1
  have hchk := rmcheck_is hA (by rw [hM.rows]; omega) (fun x hx => by rw [hM.len x hx]; omega)
  rw [if_pos hM.b.1] at hchk
  have htk : ∀ k, k < r → (appL A v).take (k + 1) = (appL A v).take k ++ [dotL (A.getD k []) v] := fun k hk => by
    have hk' : k < (appL A v).length := by simp [appL, hM.rows, hk]
    rw [List.take_succ_eq_append_getElem hk']
    congr 2
    simp [appL, List.getD_eq_getElem?_getD, show k < A.length by rw [hM.rows]; exact hk]
  have hal : (appL A v).length = r := by simp [appL, hM.rows]
  have hl0 : (A.getD 0 []).length = n := (hM.row (by omega)).1
  have hvb : ∀ i, i < n → -1048576 ≤ v.getD i 0 ∧ v.getD i 0 ≤ 1048576 := fun i hi => hvr _ (getD_mem (by omega))
  have hrb : ∀ k, k < r → ∀ i, i < n → -16 ≤ (A.getD k []).getD i 0 ∧ (A.getD k []).getD i 0 ≤ 16 := fun k hk i hi => (hM.row hk).2 _ (getD_mem (by rw [(hM.row hk).1]; exact hi))
  have hbd : ∀ k, k < r → ∀ j, j ≤ n → -16777216 * (j : Int) ≤ dotP (A.getD k []) v j ∧ dotP (A.getD k []) v j ≤ 16777216 * (j : Int) := fun k hk j hj => dotP_bound (fun i hi => hrb k hk i (by omega)) (fun i hi => hvb i (by omega))
  obtain ⟨V, c, rfl, hr⟩ := hA.mrow
  obtain ⟨B, c', rfl, _, _, hcv⟩ := hv.open
  rw [hM.rows] at hr hchk ⊢
  rw [hvl] at hcv ⊢
  obtain ⟨p0, B0, c0, rfl, hp0, _⟩ := hr 0 (by omega)
  have hz : p0.add 0 = p0 := by simp [Addr.add]
  rw [hz, hl0] at hp0
  have hrows := fun k (hk : k < r) => (hM.row hk).1
  obtain ⟨hr1, hr2⟩ := hr12
  obtain ⟨hc1, hc2⟩ := hc12
  have HA := Lib.hid hA
  have HV := Lib.hid hv
  have HM := Lib.hid hM
  have HVL := Lib.hid hvl
  have HVR := Lib.hid hvr
  have HL := Lib.hid hl
  have HCHK := Lib.hid hchk
  have HTK := Lib.hid htk
  have HAL := Lib.hid hal
  have HR := Lib.hid hr
  have HCV := Lib.hid hcv
  have HL0 := Lib.hid hl0
  have HROWS := Lib.hid hrows
  have HVB := Lib.hid hvb
  have HRB := Lib.hid hrb
  have HBD := Lib.hid hbd
  clear hA hv hM hvl hvr hl hchk htk hal hr hcv hl0 hrows hvb hrb hbd
  go_enter Try.func37, Try.ntmps37
  go_wp2_with fail
  refine HCHK.out.mono ?_
  rintro e w1 ⟨rfl, hk1⟩
  have hp1 := hk1.read hp0 (by simp)
  have hcv1 := HCV.out.keeps (hk1.nil l)
  have HK1 := Lib.hid hk1
  have HCV1 := Lib.hid hcv1
  clear hk1 hcv1
  go_wp2_with fail
  go_loopg [7] (n + 1) (fun gh kv wr => ∃ k : Nat, n + 1 ≤ k + gh ∧ k ≤ n ∧ kv = .int .i64 (k : Int) ∧ w1 = wr)
  case atStart => exact ⟨0, by omega, by omega, rfl, rfl⟩
  case round =>
    obtain ⟨k, hgh, hk, rfl, rfl⟩ := hrel
    by_cases hlt : k < n
    · obtain ⟨pb, rfl, hpb⟩ := HCV1.out.at_ hlt
      obtain ⟨hy1, hy2⟩ := HVB.out k hlt
      generalize v.getD k 0 = y at *
      have d1 : decide (y < -1048576) = false := decide_eq_false (by omega)
      have d2 : decide (1048576 < y) = false := decide_eq_false (by omega)
      go_wp2_with fail
      go_roundg (n - k)
      case measure => omega
      case rel => exact ⟨k + 1, by omega, by omega, by go_num, rfl⟩
    · obtain rfl : k = n := by omega
      have hz1 : w.heap.size ≤ w1.heap.size := HK1.out.size
      go_wp2_with fail
      go_loopg [8, 9] (r + 1) (fun gh sv kv wr => ∃ (i : Nat) (V' : Option Addr) (c3 : Nat), r + 1 ≤ i + gh ∧ i ≤ r ∧ kv = .int .i64 (i : Int) ∧ sv = .slice V' i c3 ∧ ((appL A v).take i).length = i ∧ OwL IsN 0 3 w.heap.size wr l (.slice V' i c3) ((appL A v).take i) ∧ Keeps [] w wr)
      case atStart => exact ⟨0, none, 0, by omega, by omega, rfl, rfl, rfl, OwL.nil, HK1.out⟩
      case round =>
        obtain ⟨i, V', c3, hgh, hi, rfl, rfl, htl, hO, hkr⟩ := hrel
        have hzr := hkr.size
        by_cases hlt : i < r
        · obtain ⟨pa, B2, c2, ea, hpa, hI⟩ := (HR.out.new hkr) i hlt
          obtain rfl : pa = p0 := by injection ea with e; exact e.symm
          have hqn := HROWS.out i hlt
          rw [hqn] at hpa hI
          obtain ⟨B2', c2', e2, _, _, hc2'⟩ := hI.open
          rw [hqn] at e2 hc2'
          obtain ⟨rfl, rfl⟩ : B2 = B2' ∧ c2 = c2' := by injection e2 with e1 _ e2; exact ⟨e1, e2⟩
          have htk := HTK.out i hlt
          have htk1 : ((appL A v).take (i + 1)).length = i + 1 := by rw [List.length_take, HAL.out]; omega
          have hbdi := HBD.out i hlt
          have hrbi := HRB.out i hlt
          have hdl : dotL (A.getD i []) v = dotP (A.getD i []) v k := by rw [dotL, hqn]
          have hcvr := HCV.out.keeps (hkr.nil l)
          generalize hrow : A.getD i [] = row at *
          generalize wr = wo at *
          have HTL := Lib.hid htl
          have HO := Lib.hid hO
          have HKR := Lib.hid hkr
          have HI := Lib.hid hI
          have HQN := Lib.hid hqn
          have HTK := Lib.hid htk
          have HTK1 := Lib.hid htk1
          have HBDI := Lib.hid hbdi
          have HRBI := Lib.hid hrbi
          have HDL := Lib.hid hdl
          have HROW := Lib.hid hrow
          have HC2' := Lib.hid hc2'
          have HCVR := Lib.hid hcvr
          clear htl hO hkr hI hqn htk htk1 hbdi hrbi hdl hrow hc2' hcvr
          clear e2
          go_wp2_with fail
          go_loopg [10, 11] (k + 1) (fun gh2 sv jv wr => ∃ j : Nat, k + 1 ≤ j + gh2 ∧ j ≤ k ∧ jv = .int .i64 (j : Int) ∧ sv = .int .i64 (dotP row v j) ∧ Keeps [] wo wr)
          case atStart => exact ⟨0, by omega, by omega, rfl, rfl, Keeps.refl _ _⟩
          case round =>
            obtain ⟨j, hgh2, hj, rfl, rfl, hkr2⟩ := hrel
            have hb0 := HBDI.out j hj
            by_cases hlt2 : j < k
            · have hpa2 := hkr2.read hpa (by simp)
              obtain ⟨pb, rfl, hpb⟩ := (HC2'.out.keeps (hkr2.nil _)).at_ hlt2
              obtain ⟨pv, rfl, hpv⟩ := (HCVR.out.keeps (hkr2.nil _)).at_ hlt2
              obtain ⟨hx1, hx2⟩ := HRBI.out j hlt2
              obtain ⟨hy1, hy2⟩ := HVB.out j hlt2
              have hs : dotP row v (j + 1) = dotP row v j + row.getD j 0 * v.getD j 0 := rfl
              have hm := mul_bound hx1 hx2 hy1 hy2
              generalize dotP row v j = s at *
              generalize row.getD j 0 = x at *
              generalize v.getD j 0 = y at *
              obtain ⟨hm1, hm2⟩ := hm
              obtain ⟨hb1, hb2⟩ := hb0
              have hw1 : IntKind.i64.wrap (x * y) = x * y := IntWalk.i64_in _ (by omega)
              have hw2 : IntKind.i64.wrap (s + x * y) = s + x * y := IntWalk.i64_in _ (by omega)
              have HS := Lib.hid hs
              have HKR2 := Lib.hid hkr2
              clear hs hkr2
              go_wp2_with fail
              go_quiet (fail)
              go_wp2_with fail
              go_roundg (k - j)
              case measure => omega
              case rel => exact ⟨j + 1, by omega, by omega, by go_num, by rw [HS.out], HKR2.out.trans (kf [] wr _)⟩
            · obtain rfl : j = k := by omega
              have hdl := HDL.out
              rw [← hdl]
              have hkk := HKR.out.trans hkr2
              have hO2 := HO.out.new hkr2
              have hzz : w.heap.size ≤ wr.heap.size := hkk.size
              generalize hd : dotL row v = d at *
              have HKR2 := Lib.hid hkr2
              have HKK := Lib.hid hkk
              have HO2 := Lib.hid hO2
              have HDL := Lib.hid hdl
              have HD := Lib.hid hd
              have HB0 := Lib.hid hb0
              clear hkr2 hkk hO2 hdl hd hb0
              go_wp2_with (at_builtin; refine wpList_push sl_int rfl _ _ rfl (w := wr) (u := .int .i64 d) (y := d) rfl rfl HO2.out rfl (m := i + 1) (by rw [HTL.out]) (by omega) hzz (w0 := w) (l0 := []) (Nat.le_refl _) HKK.out ?_; intro V6 c6 w6 hown hg6 hk6)
              go_roundg (r - i)
              case measure => omega
              case rel => exact ⟨i + 1, V6, c6, by omega, by omega, by go_num, rfl, HTK1.out, by rw [HTK.out]; exact hown, hk6⟩
        · obtain rfl : i = r := by omega
          have hfull : (appL A v).take i = appL A v := List.take_of_length_le (by rw [HAL.out]; exact Nat.le_refl _)
          rw [hfull] at hO
          have hI := hO.isL HL.out
          have hal := HAL.out
          have HI := Lib.hid hI
          have HKR := Lib.hid hkr
          have HAL := Lib.hid hal
          clear hI hkr hal
          clear hO hfull htl
          go_wp2_with fail
          go_ret2
          exact ⟨V', c3, rfl, HAL.out, HI.out, HKR.out⟩

set_option maxHeartbeats 400000 in
theorem rleq2_is {w : World} {l : List Nat} {av bv : Value} {a b : List Int} (ha : IsI w l av a) (hb : IsI w l bv b) (hl : a.length ≤ b.length) (hn : b.length ≤ 1000000) : Calls Try.prog 61 #[av, bv] w (RetB (pleB a b) w) := by
  unfold RetB
  obtain ⟨A, c, rfl, _, _, h1⟩ := ha.open
  obtain ⟨B, c', rfl, _, _, h2⟩ := hb.open
  generalize hna : a.length = n at *
  generalize hnb : b.length = m at *
  have H1 := Lib.hid h1
  have H2 := Lib.hid h2
  have HNA := Lib.hid hna
  have HNB := Lib.hid hnb
  have HA := Lib.hid ha
  have HB := Lib.hid hb
  clear h1 h2 hna hnb ha hb
  go_enter Try.func61, Try.ntmps61
  go_wp2_with fail
  go_loopg [5] (n + 1) (fun gh iv wr => ∃ k : Nat, n + 1 ≤ k + gh ∧ k ≤ n ∧ iv = .int .i64 (k : Int) ∧ (∀ i, i < k → a.getD i 0 ≤ b.getD i 0) ∧ Keeps [] w wr)
  case atStart => exact ⟨0, by omega, by omega, rfl, fun i hi => by omega, Keeps.refl _ _⟩
  case round =>
    obtain ⟨k, hgh, hk, rfl, hs, hkr⟩ := hrel
    have HS := Lib.hid hs
    clear hs
    by_cases hlt : k < n
    · obtain ⟨p, rfl, hp⟩ := (H1.out.keeps (hkr.nil _)).at_ hlt
      have hlm : k < m := by omega
      obtain ⟨p2, rfl, hp2⟩ := (H2.out.keeps (hkr.nil _)).at_ hlm
      generalize hx : a.getD k 0 = x at *
      generalize hy : b.getD k 0 = y at *
      have HX := Lib.hid hx
      have HY := Lib.hid hy
      have HKR := Lib.hid hkr
      clear hx hy hkr
      by_cases hle : x ≤ y
      · have ht : decide (y < x) = false := decide_eq_false (by omega)
        go_wp2_with fail
        go_quiet (fail)
        go_wp2_with fail
        go_roundg (n - k)
        case measure => omega
        case rel => exact ⟨k + 1, by omega, by omega, by go_num, fun i hi => by
          by_cases e : i = k
          · subst e; rw [HX.out, HY.out]; exact hle
          · exact HS.out i (by omega), HKR.out.trans (kf [] wr _)⟩
      · have ht : decide (y < x) = true := decide_eq_true (by omega)
        have hd : pleB a b = false := by
          rw [← Bool.not_eq_true, pleB_true]
          intro h
          have := h k (by rw [HNA.out]; exact hlt)
          rw [HX.out, HY.out] at this
          exact hle this
        have HD := Lib.hid hd
        clear hd
        go_wp2_with fail
        go_quiet (fail)
        go_wp2_with fail
        go_ret
        exact ⟨ret_b HD.out, HKR.out.trans (kf [] wr _)⟩
    · obtain rfl : k = n := by omega
      have hd : pleB a b = true := pleB_true.2 fun i hi => HS.out i (by rw [← HNA.out]; exact hi)
      have HD := Lib.hid hd
      have HKR := Lib.hid hkr
      clear hd hkr
      go_wp2_with fail
      go_ret
      exact ⟨ret_b HD.out, HKR.out⟩

def ZerPost (n : Nat) (w : World) (e : Ending) (w' : World) : Prop := ∃ g, e = .returned (.slice (some ⟨g, 0, none⟩) n n) ∧ (∀ l', (∀ y ∈ l', y < w.heap.size) → IsI w' l' (.slice (some ⟨g, 0, none⟩) n n) (List.replicate n 0)) ∧ Keeps [] w w'
theorem zeros_is (w : World) (n : Nat) (hn : n ≤ 1000000) : Calls Try.prog 42 #[.int .i64 (n : Int)] w (ZerPost n w) := by
  unfold ZerPost
  have hmk := run_make_n sl_int n (by omega) w
  have hO : Own (w.alloc (.cells (madeCells #[Value.int .i64 0] n) 3)) w.heap.size n (fun _ => .int .i64 0) := own_made w (.int .i64 0) rfl n 3
  have hI : ∀ l', (∀ y ∈ l', y < w.heap.size) → IsI (w.alloc (.cells (madeCells #[Value.int .i64 0] n) 3)) l' (.slice (some ⟨w.heap.size, 0, none⟩) n n) (List.replicate n 0) := fun l' hl => Own.isI (f := fun _ => 0) hO (fun h => by have := hl _ h; omega) (Nat.le_refl _) (by simp) (fun i hi => by simp [List.getD_eq_getElem?_getD, hi])
  have HO := Lib.hid hO
  have HI := Lib.hid hI
  clear hO hI
  go_enter Try.func42, Try.ntmps42
  go_wp2_with fail
  go_ret
  exact ⟨_, rfl, HI.out, (Keeps.refl _ _).alloc _⟩

set_option maxHeartbeats 400000 in
theorem rshape_is {w : World} {l : List Nat} {v : Value} {A : List (List Int)} (h : IsII w l v A) (hn : A.length ≤ 1000000) (hx : ∀ r ∈ A, r.length ≤ 1000000) : Calls Try.prog 34 #[v] w (RetB (shB A) w) := by
  unfold RetB
  have hchk := rmcheck_is h hn hx
  unfold shB
  cases hm : matB A with
  | false =>
    rw [hm] at hchk
    obtain ⟨V, c, rfl, hr⟩ := h.mrow
    generalize hlen : A.length = m at *
    have H := Lib.hid h
    have HN := Lib.hid hn
    have HX := Lib.hid hx
    have HM := Lib.hid hm
    have HR := Lib.hid hr
    have HLEN := Lib.hid hlen
    have HCHK := Lib.hid hchk
    clear h hn hx hm hr hlen hchk
    go_enter Try.func34, Try.ntmps34
    go_wp2_with fail
    refine HCHK.out.mono ?_
    rintro e w1 ⟨rfl, hk1⟩
    have HK1 := Lib.hid hk1
    clear hk1
    go_wp2_with fail
    go_ret
    exact ⟨rfl, HK1.out⟩
  | true =>
    rw [hm] at hchk
    have hM := matB_true.1 hm
    obtain ⟨V, c, rfl, hr⟩ := h.mrow
    have hm1 := hM.r1
    have hr0 := hr 0 (by omega)
    generalize hlen : A.length = m at *
    generalize hc : (A.getD 0 []).length = n at *
    obtain ⟨p0, B0, c0, rfl, hp0, _⟩ := hr0
    have hz : p0.add 0 = p0 := by simp [Addr.add]
    rw [hz] at hp0
    have hn12 := hM.c1
    obtain ⟨hm1, hm2⟩ := hm1
    obtain ⟨hn1, hn2⟩ := hn12
    generalize hZ : (true && decide (m ≤ 6) && decide (n ≤ 6)) = Z
    by_cases h6 : m ≤ 6
    · have d1 : decide ((m : Int) ≤ 6) = true := decide_eq_true (by omega)
      by_cases h7 : n ≤ 6
      · have d2 : decide ((n : Int) ≤ 6) = true := decide_eq_true (by omega)
        have hZ1 : Z = true := by rw [← hZ, decide_eq_true h6, decide_eq_true h7]; rfl
        have H := Lib.hid h
        have HX := Lib.hid hx
        have HM := Lib.hid hm
        have HR := Lib.hid hr
        have HLEN := Lib.hid hlen
        have HCHK := Lib.hid hchk
        have HM := Lib.hid hM
        have HZ := Lib.hid hZ
        have HZ1 := Lib.hid hZ1
        have HC := Lib.hid hc
        clear h hx hm hr hlen hchk hM hZ hZ1 hc
        go_enter Try.func34, Try.ntmps34
        go_wp2_with fail
        refine HCHK.out.mono ?_
        rintro e w1 ⟨rfl, hk1⟩
        have hp1 := hk1.read hp0 (by simp)
        have HK1 := Lib.hid hk1
        clear hk1
        go_wp2_with fail
        go_ret
        exact ⟨ret_b HZ1.out, HK1.out⟩
      · have d2 : decide ((n : Int) ≤ 6) = false := decide_eq_false (by omega)
        have hZ1 : Z = false := by rw [← hZ, decide_eq_false h7, Bool.and_false]
        have H := Lib.hid h
        have HX := Lib.hid hx
        have HM := Lib.hid hm
        have HR := Lib.hid hr
        have HLEN := Lib.hid hlen
        have HCHK := Lib.hid hchk
        have HM := Lib.hid hM
        have HZ := Lib.hid hZ
        have HZ1 := Lib.hid hZ1
        have HC := Lib.hid hc
        clear h hx hm hr hlen hchk hM hZ hZ1 hc
        go_enter Try.func34, Try.ntmps34
        go_wp2_with fail
        refine HCHK.out.mono ?_
        rintro e w1 ⟨rfl, hk1⟩
        have hp1 := hk1.read hp0 (by simp)
        have HK1 := Lib.hid hk1
        clear hk1
        go_wp2_with fail
        go_ret
        exact ⟨ret_b HZ1.out, HK1.out⟩
    · have d1 : decide ((m : Int) ≤ 6) = false := decide_eq_false (by omega)
      have hZ1 : Z = false := by rw [← hZ, decide_eq_false h6]; rfl
      have H := Lib.hid h
      have HX := Lib.hid hx
      have HM := Lib.hid hm
      have HR := Lib.hid hr
      have HLEN := Lib.hid hlen
      have HCHK := Lib.hid hchk
      have HM := Lib.hid hM
      have HZ := Lib.hid hZ
      have HZ1 := Lib.hid hZ1
      have HC := Lib.hid hc
      clear h hx hm hr hlen hchk hM hZ hZ1 hc
      go_enter Try.func34, Try.ntmps34
      go_wp2_with fail
      refine HCHK.out.mono ?_
      rintro e w1 ⟨rfl, hk1⟩
      have HK1 := Lib.hid hk1
      clear hk1
      go_wp2_with fail
      go_ret
      exact ⟨ret_b HZ1.out, HK1.out⟩
end Go.Proofs.Ythpobeeccgmieaa

namespace Go.Proofs.Ythpobeeccgmieaa
set_option linter.unusedVariables false
open Go.RowKit

set_option maxRecDepth 100000 in
set_option maxHeartbeats 1000000 in
theorem rcheck_is {w : World} {l : List Nat} {av bv : Value} {A : List (List Int)} {b : List Int} (hA : IsII w l av A) (hb : IsI w l bv b) (hn : A.length ≤ 1000000) (hx : ∀ r ∈ A, r.length ≤ 1000000) (hbl : b.length ≤ 1000000) : Calls Try.prog 16 #[av, bv] w (RetN (chkE A b) w) := by
  unfold RetN
  have hsh := rshape_is hA hn hx
  have hrng : rngB b = true ↔ ∀ i, i < b.length → -1048576 ≤ b.getD i 0 ∧ b.getD i 0 ≤ 1048576 := by
    unfold rngB
    rw [List.all_eq_true]
    constructor
    · intro h i hi
      exact of_decide_eq_true (h _ (getD_mem hi))
    · intro h y hy
      obtain ⟨i, hi, rfl⟩ := mem_getD (d := 0) hy
      exact decide_eq_true (h i hi)
  obtain ⟨VA, cA, rfl, _⟩ := hA.mrow
  obtain ⟨VB, cB, rfl, _, _, hcb⟩ := hb.open
  generalize hZ : chkE A b = Z
  unfold chkE at hZ
  generalize A.length = m at *
  generalize b.length = q at *
  cases hs : shB A with
  | false =>
    rw [hs] at hsh hZ
    obtain rfl : 10 = Z := hZ
    have HA := Lib.hid hA
    have HB := Lib.hid hb
    have HSH := Lib.hid hsh
    have HS := Lib.hid hs
    have HX := Lib.hid hx
    have HRNG := Lib.hid hrng
    have HCB := Lib.hid hcb
    clear hA hb hsh hs hx hrng hcb
    go_enter Try.func16, Try.ntmps16
    go_wp2_with fail
    refine HSH.out.mono ?_
    rintro e w1 ⟨rfl, hk1⟩
    go_wp2_with fail
    go_ret
    exact ⟨rfl, hk1⟩
  | true =>
    rw [hs] at hsh hZ
    simp only [if_true] at hZ
    by_cases hq : q = m
    · rw [if_pos hq] at hZ
      subst hq
      have d1 : ((q : Int) != (q : Int)) = false := by simp
      have HA := Lib.hid hA
      have HB := Lib.hid hb
      have HSH := Lib.hid hsh
      have HS := Lib.hid hs
      have HX := Lib.hid hx
      have HRNG := Lib.hid hrng
      have HCB := Lib.hid hcb
      have HZ := Lib.hid hZ
      clear hA hb hsh hs hx hrng hcb hZ
      go_enter Try.func16, Try.ntmps16
      go_wp2_with fail
      refine HSH.out.mono ?_
      rintro e w1 ⟨rfl, hk1⟩
      have hcb1 := HCB.out.keeps (hk1.nil l)
      have HK1 := Lib.hid hk1
      have HCB1 := Lib.hid hcb1
      clear hk1 hcb1
      go_wp2_with fail
      go_loopg [5] (q + 1) (fun gh kv wr => ∃ k : Nat, q + 1 ≤ k + gh ∧ k ≤ q ∧ kv = .int .i64 (k : Int) ∧ (∀ i, i < k → -1048576 ≤ b.getD i 0 ∧ b.getD i 0 ≤ 1048576) ∧ w1 = wr)
      case atStart => exact ⟨0, by omega, by omega, rfl, fun i hi => by omega, rfl⟩
      case round =>
        obtain ⟨k, hgh, hk, rfl, hs, rfl⟩ := hrel
        by_cases hlt : k < q
        · obtain ⟨p, rfl, hp⟩ := HCB1.out.at_ hlt
          by_cases hy : -1048576 ≤ b.getD k 0 ∧ b.getD k 0 ≤ 1048576
          · have hs2 : ∀ i, i < k + 1 → -1048576 ≤ b.getD i 0 ∧ b.getD i 0 ≤ 1048576 := fun i hi => by
              by_cases e : i = k
              · subst e; exact hy
              · exact hs i (by omega)
            obtain ⟨hy1, hy2⟩ := hy
            generalize b.getD k 0 = y at *
            have d2 : decide (y < -1048576) = false := decide_eq_false (by omega)
            have d3 : decide (1048576 < y) = false := decide_eq_false (by omega)
            have HS := Lib.hid hs
            have HS2 := Lib.hid hs2
            clear hs hs2
            go_wp2_with fail
            go_roundg (q - k)
            case measure => omega
            case rel => exact ⟨k + 1, by omega, by omega, by go_num, HS2.out, rfl⟩
          · have hno : rngB b = false := by
              rw [← Bool.not_eq_true, HRNG.out]
              exact fun h => hy (h k hlt)
            have hZ2 : Z = 2 := by rw [← HZ.out, hno]; rfl
            generalize b.getD k 0 = y at *
            by_cases hy1 : y < -1048576
            · have d2 : decide (y < -1048576) = true := decide_eq_true hy1
              have HS := Lib.hid hs
              have HNO := Lib.hid hno
              have HZ2 := Lib.hid hZ2
              have HY := Lib.hid hy
              clear hs hno hZ2 hy
              go_wp2_with fail
              go_ret
              exact ⟨ret_ni HZ2.out, HK1.out⟩
            · have d2 : decide (y < -1048576) = false := decide_eq_false hy1
              have d3 : decide (1048576 < y) = true := decide_eq_true (by omega)
              have HS := Lib.hid hs
              have HNO := Lib.hid hno
              have HZ2 := Lib.hid hZ2
              have HY := Lib.hid hy
              clear hs hno hZ2 hy
              go_wp2_with fail
              go_ret
              exact ⟨ret_ni HZ2.out, HK1.out⟩
        · obtain rfl : k = q := by omega
          have hyes : rngB b = true := HRNG.out.2 hs
          have hZ0 : Z = 0 := by rw [← HZ.out, hyes]; rfl
          have HS := Lib.hid hs
          have HYES := Lib.hid hyes
          have HZ0 := Lib.hid hZ0
          clear hs hyes hZ0
          go_wp2_with fail
          go_ret
          exact ⟨ret_ni HZ0.out, HK1.out⟩
    · rw [if_neg hq] at hZ
      obtain rfl : 3 = Z := hZ
      have d1 : ((q : Int) != (m : Int)) = true := by
        have : (q : Int) ≠ (m : Int) := by omega
        simpa using this
      have HA := Lib.hid hA
      have HB := Lib.hid hb
      have HSH := Lib.hid hsh
      have HS := Lib.hid hs
      have HX := Lib.hid hx
      have HRNG := Lib.hid hrng
      have HCB := Lib.hid hcb
      clear hA hb hsh hs hx hrng hcb
      go_enter Try.func16, Try.ntmps16
      go_wp2_with fail
      refine HSH.out.mono ?_
      rintro e w1 ⟨rfl, hk1⟩
      go_wp2_with fail
      go_ret
      exact ⟨rfl, hk1⟩

set_option maxRecDepth 100000 in
set_option maxHeartbeats 1000000 in
theorem rsolves_is {w : World} {l : List Nat} {av bv xv : Value} {A : List (List Int)} {b x : List Int} (hA : IsII w l av A) (hb : IsI w l bv b) (hx : IsI w l xv x) (hn : A.length ≤ 1000000) (hr : ∀ r ∈ A, r.length ≤ 1000000) (hbl : b.length ≤ 1000000) (hxl : x.length ≤ 1000000) :
    Calls Try.prog 18 #[av, bv, xv] w (RetB (solvesB A b x) w) := by
  unfold RetB
  have hchk := rcheck_is hA hb hn hr hbl
  generalize hZ : solvesB A b x = Z
  unfold solvesB at hZ
  by_cases hc : chkE A b = 0
  · obtain ⟨h1, h2, h3⟩ := chkE_zero.1 hc
    rw [hc] at hchk
    rw [decide_eq_true hc, Bool.true_and] at hZ
    have hS := shB_true.1 h1
    have hm1 := hS.mat.r1
    have hn6 := hS.n6
    have hr6 := hS.r6
    have hfv : vfB x = true ↔ x.length ≤ 6 ∧ ∀ i, i < x.length → 0 ≤ x.getD i 0 ∧ x.getD i 0 ≤ 1048576 := by
      rw [vfB_true]
      constructor
      · rintro ⟨a, b⟩
        exact ⟨a, fun i hi => b _ (getD_mem hi)⟩
      · rintro ⟨a, b⟩
        refine ⟨a, fun y hy => ?_⟩
        obtain ⟨i, hi, rfl⟩ := mem_getD (d := 0) hy
        exact b i hi
    have hap := fun (hq : x.length = (A.getD 0 []).length) (hv : vfB x = true) W (k : Keeps [] w W) => rapply_is (l := []) (Rok.weak (hA.new k) (by simp)) (Rok.weak (hx.new k) (by simp)) hS.mat hq (fun y hy => by have := (vfB_true.1 hv).el y hy; omega) (by simp)
    have hal : (appL A x).length ≤ 1000000 := by
      have : (appL A x).length = A.length := by simp [appL]
      omega
    have hsame := fun W u (k : Keeps [] w W) (hu : IsI W [] u (appL A x)) => same_is hu (Rok.weak (hb.new k) (by simp) : IsI W [] bv b) hal hbl
    have hsol : solB A b x = decide (appL A x = b) := rfl
    obtain ⟨VA, cA, rfl, hrA⟩ := hA.mrow
    obtain ⟨VB, cB, rfl, _⟩ := hb.open
    obtain ⟨VX, cX, rfl, _, _, hcx⟩ := hx.open
    obtain ⟨p0, B0, c0, rfl, hp0, _⟩ := hrA 0 (by omega)
    have hz : p0.add 0 = p0 := by simp [Addr.add]
    rw [hz] at hp0
    have hp1 : ∀ W, Keeps [] w W → W.cell? p0 = some (.slice B0 (A.getD 0 []).length c0) := fun W k => k.read hp0 (by simp)
    generalize solB A b x = sB at *
    have hA0 : 0 < A.length := by omega
    generalize A.length = m at *
    generalize b.length = q at *
    generalize x.length = y at *
    generalize (A.getD 0 []).length = n at *
    generalize hfB : vfB x = fB at *
    generalize appL A x = ax at *
    by_cases hq : y = n
    · have hap1 := hap hq
      rw [decide_eq_true hq, Bool.true_and] at hZ
      subst hq
      have hd : ((y : Int) != (y : Int)) = false := by simp
      have HA := Lib.hid hA
      have HB := Lib.hid hb
      have HX := Lib.hid hx
      have HCHK := Lib.hid hchk
      have HAP := Lib.hid hap
      have HAP1 := Lib.hid hap1
      have HSAME := Lib.hid hsame
      have HSOL := Lib.hid hsol
      have HRA := Lib.hid hrA
      have HR := Lib.hid hr
      have H1 := Lib.hid h1
      have H2 := Lib.hid h2
      have H3 := Lib.hid h3
      have HC := Lib.hid hc
      have HS := Lib.hid hS
      have HM1 := Lib.hid hm1
      have HP0 := Lib.hid hp0
      have HP1 := Lib.hid hp1
      have HCX := Lib.hid hcx
      have HFV := Lib.hid hfv
      have HFB := Lib.hid hfB
      have HZ := Lib.hid hZ
      have HN6 := Lib.hid hn6
      have HR6 := Lib.hid hr6
      clear hA hb hx hchk hap hap1 hsame hsol hrA hr h1 h2 h3 hc hS hm1 hp0 hp1 hcx hfv hfB hZ hn6 hr6
      go_enter Try.func18, Try.ntmps18
      go_wp2_with fail
      refine HCHK.out.mono ?_
      rintro e w1 ⟨rfl, hk1⟩
      have hp2 := HP1.out w1 hk1
      have hcx1 := HCX.out.keeps (hk1.nil l)
      have HK1 := Lib.hid hk1
      have HCX1 := Lib.hid hcx1
      clear hk1 hcx1
      go_wp2_with fail
      go_loopg [7] (y + 1) (fun gh kv wr => ∃ k : Nat, y + 1 ≤ k + gh ∧ k ≤ y ∧ kv = .int .i64 (k : Int) ∧ (∀ i, i < k → 0 ≤ x.getD i 0 ∧ x.getD i 0 ≤ 1048576) ∧ w1 = wr)
      case atStart => exact ⟨0, by omega, by omega, rfl, fun i hi => by omega, rfl⟩
      case round =>
        obtain ⟨k, hgh, hk, rfl, hs, rfl⟩ := hrel
        by_cases hlt : k < y
        · obtain ⟨p, rfl, hp⟩ := HCX1.out.at_ hlt
          by_cases hy : 0 ≤ x.getD k 0 ∧ x.getD k 0 ≤ 1048576
          · have hs2 : ∀ i, i < k + 1 → 0 ≤ x.getD i 0 ∧ x.getD i 0 ≤ 1048576 := fun i hi => by
              by_cases e : i = k
              · subst e; exact hy
              · exact hs i (by omega)
            obtain ⟨hy1, hy2⟩ := hy
            generalize x.getD k 0 = z at *
            have d2 : decide (z < 0) = false := decide_eq_false (by omega)
            have d3 : decide (1048576 < z) = false := decide_eq_false (by omega)
            have HS := Lib.hid hs
            have HS2 := Lib.hid hs2
            clear hs hs2
            go_wp2_with fail
            go_roundg (y - k)
            case measure => omega
            case rel => exact ⟨k + 1, by omega, by omega, by go_num, HS2.out, rfl⟩
          · have hno : fB = false := by
              rw [← HFB.out, ← Bool.not_eq_true, HFB.out, HFV.out]
              exact fun h => hy (h.2 k hlt)
            have hZ2 : Z = false := by rw [← HZ.out, hno]; rfl
            generalize x.getD k 0 = z at *
            by_cases hy1 : z < 0
            · have d2 : decide (z < 0) = true := decide_eq_true hy1
              have HS := Lib.hid hs
              have HNO := Lib.hid hno
              have HZ2 := Lib.hid hZ2
              have HY := Lib.hid hy
              clear hs hno hZ2 hy
              go_wp2_with fail
              go_ret
              exact ⟨ret_b HZ2.out, HK1.out⟩
            · have d2 : decide (z < 0) = false := decide_eq_false hy1
              have d3 : decide (1048576 < z) = true := decide_eq_true (by omega)
              have HS := Lib.hid hs
              have HNO := Lib.hid hno
              have HZ2 := Lib.hid hZ2
              have HY := Lib.hid hy
              clear hs hno hZ2 hy
              go_wp2_with fail
              go_ret
              exact ⟨ret_b HZ2.out, HK1.out⟩
        · obtain rfl : k = y := by omega
          have hyes : fB = true := HFV.out.2 ⟨HN6.out, hs⟩
          have hZ0 : sB = Z := by rw [← HZ.out, hyes]; rfl
          have hap2 := HAP1.out hyes w1 HK1.out
          have HS := Lib.hid hs
          have HYES := Lib.hid hyes
          have HZ0 := Lib.hid hZ0
          have HAP2 := Lib.hid hap2
          clear hs hyes hZ0 hap2
          go_wp2_with fail
          refine HAP2.out.mono ?_
          rintro e w2 ⟨V2, c2, rfl, hyl, hI, hk2⟩
          have hk3 := HK1.out.trans hk2
          have hsm := HSAME.out w2 _ hk3 hI
          rw [← HSOL.out, HZ0.out] at hsm
          have HK3 := Lib.hid hk3
          have HSM := Lib.hid hsm
          have HI := Lib.hid hI
          have HYL := Lib.hid hyl
          clear hk3 hsm hI hyl
          clear hk2
          go_wp2_with fail
          refine HSM.out.mono ?_
          rintro e w4 ⟨rfl, qq, rfl⟩
          go_wp2_with fail
          go_ret
          exact ⟨rfl, HK3.out.drewN qq⟩
    · have hdd : ((y : Int) != (n : Int)) = true := by
        have : (y : Int) ≠ (n : Int) := by omega
        simpa using this
      rw [decide_eq_false hq, Bool.false_and] at hZ
      subst hZ
      have HA := Lib.hid hA
      have HB := Lib.hid hb
      have HX := Lib.hid hx
      have HCHK := Lib.hid hchk
      have HAP := Lib.hid hap
      have HSAME := Lib.hid hsame
      have HSOL := Lib.hid hsol
      have HRA := Lib.hid hrA
      have HR := Lib.hid hr
      have H1 := Lib.hid h1
      have H2 := Lib.hid h2
      have H3 := Lib.hid h3
      have HC := Lib.hid hc
      have HS := Lib.hid hS
      have HM1 := Lib.hid hm1
      have HP0 := Lib.hid hp0
      have HP1 := Lib.hid hp1
      have HCX := Lib.hid hcx
      have HFV := Lib.hid hfv
      have HFB := Lib.hid hfB
      have HN6 := Lib.hid hn6
      have HR6 := Lib.hid hr6
      clear hA hb hx hchk hap hsame hsol hrA hr h1 h2 h3 hc hS hm1 hp0 hp1 hcx hfv hfB hn6 hr6
      go_enter Try.func18, Try.ntmps18
      go_wp2_with fail
      refine HCHK.out.mono ?_
      rintro e w1 ⟨rfl, hk1⟩
      have hp2 := HP1.out w1 hk1
      go_wp2_with fail
      go_ret
      exact ⟨rfl, hk1⟩
  · rw [decide_eq_false hc, Bool.false_and] at hZ
    subst hZ
    obtain ⟨VA, cA, rfl, hrA⟩ := hA.mrow
    obtain ⟨VB, cB, rfl, _⟩ := hb.open
    obtain ⟨VX, cX, rfl, _⟩ := hx.open
    generalize chkE A b = z at *
    generalize A.length = m at *
    generalize b.length = q at *
    generalize x.length = y at *
    have hd : (z != 0) = true := by simpa using hc
    have HA := Lib.hid hA
    have HB := Lib.hid hb
    have HX := Lib.hid hx
    have HCHK := Lib.hid hchk
    have HRA := Lib.hid hrA
    have HR := Lib.hid hr
    have HC := Lib.hid hc
    clear hA hb hx hchk hrA hr hc
    go_enter Try.func18, Try.ntmps18
    go_wp2_with fail
    refine HCHK.out.mono ?_
    rintro e w1 ⟨rfl, hk1⟩
    go_wp2_with fail
    go_ret
    exact ⟨rfl, hk1⟩
end Go.Proofs.Ythpobeeccgmieaa

namespace Go.Proofs.Ythpobeeccgmieaa
set_option linter.unusedVariables false
open Go.RowKit

set_option maxHeartbeats 400000 in
theorem copy_is {w : World} {l : List Nat} {v : Value} {xs : List Int} (h : IsI w l v xs) (hn : xs.length ≤ 1000000) : Calls Try.prog 67 #[v] w (CloPost l xs w) := by
  have h' := h
  obtain ⟨A, c, rfl, _⟩ := h'.open
  have hnil : OwL IsN 0 3 w.heap.size w l (.slice none 0 0) [] := OwL.nil
  have hx : IsL IsN 0 w ([] ++ l) (.slice A xs.length c) xs := h
  clear h'
  have HNIL := Lib.hid hnil
  have HX := Lib.hid hx
  have H := Lib.hid h
  clear hnil hx h
  go_enter Try.func67, Try.ntmps67
  go_wp2_with (at_builtin; refine wpList_join sl_int rfl _ _ rfl rfl rfl HNIL.out HX.out (m := xs.length) (by simp) (by omega) (Nat.le_refl _) (w0 := w) (l0 := []) (Nat.le_refl _) (Keeps.refl _ _) ?_; intro V' c' w3 hown hkk hk3)
  go_ret
  exact ⟨V', c', rfl, hown, hk3⟩
end Go.Proofs.Ythpobeeccgmieaa

namespace Go.Proofs.Ythpobeeccgmieaa
set_option linter.unusedVariables false
open Go.RowKit

def PutPost (l : List Nat) (L : List (List Int)) (v : List Int) (w : World) (e : Ending) (w' : World) : Prop := ∃ A n c, e = .returned (.slice A n c) ∧ IsII w' l (.slice A n c) (putL L v) ∧ Keeps [] w w'

set_option maxRecDepth 100000 in
set_option maxHeartbeats 4000000 in
theorem put_is {w : World} {l : List Nat} {lv vv : Value} {L : List (List Int)} {v : List Int} (hl : ∀ x ∈ l, x < w.heap.size) (h : IsII w l lv L) (hv : IsI w l vv v) (hn : L.length ≤ 1000000) (hlens : ∀ x ∈ L, x.length ≤ 1000000) (hvn : v.length ≤ 1000000) :
    Calls Try.prog 62 #[lv, vv] w (PutPost l L v w) := by
  have h' := h
  obtain ⟨A, c, V, rfl, h2, h3, h4, h5⟩ := h'
  obtain ⟨B, cb, rfl, _⟩ := hv.open
  have eg := enters_of Try.func67 (by kernel_rfl) rfl
  generalize hnn : L.length = n at *
  have H := Lib.hid h
  have HV := Lib.hid hv
  have HL := Lib.hid hl
  have HLENS := Lib.hid hlens
  have H4 := Lib.hid h4
  have H5 := Lib.hid h5
  have HNN := Lib.hid hnn
  clear h hv hl hlens h4 h5 hnn
  go_enter Try.func62, Try.ntmps62
  go_wp2_with fail
  go_loopg [5] (n + 1) (fun gh kv wr => ∃ k : Nat, n + 1 ≤ k + gh ∧ k ≤ n ∧ kv = .int .i64 (k : Int) ∧ (∀ i, i < k → cmpL (L.getD i []) v < 0) ∧ Keeps [] w wr)
  case atStart => exact ⟨0, by omega, by omega, rfl, fun i hi => by omega, Keeps.refl _ _⟩
  case round =>
    obtain ⟨k, hgh, hk, rfl, hs, hK⟩ := hrel
    have HS := Lib.hid hs
    have HK := Lib.hid hK
    clear hs hK
    by_cases hlt : k < n
    · obtain ⟨a, rfl, ha⟩ := (H4.out.keeps (HK.out.nil l)).at_ hlt
      have hx := (H5.out k hlt).new HK.out
      have hxl := HLENS.out _ (getD_mem (d := []) (show k < L.length by rw [HNN.out]; exact hlt))
      have hcall := cmp_is hx (HV.out.new HK.out) hxl hvn
      by_cases hc : cmpL (L.getD k []) v < 0
      · have hcd : decide (cmpL (L.getD k []) v < 0) = true := decide_eq_true hc
        generalize V k = u at *
        generalize hcm : cmpL (L.getD k []) v = z at *
        have HCM := Lib.hid hcm
        have HX := Lib.hid hx
        have HCALL := Lib.hid hcall
        clear hcm hx hcall
        have HC := Lib.hid hc
        clear hc
        go_wp2_with fail
        refine HCALL.out.mono ?_
        rintro e w1 ⟨rfl, hq⟩
        have HQ := Lib.hid (HK.out.trans (quiet_keeps hq))
        clear hq
        go_wp2_with fail
        go_roundg (n - k)
        case measure => omega
        case rel => exact ⟨k + 1, by omega, by omega, by go_num, fun i hi => by
          by_cases e : i = k
          · subst e; rw [HCM.out]; exact HC.out
          · exact HS.out i (by omega), HQ.out⟩
      · have hcd : decide (cmpL (L.getD k []) v < 0) = false := decide_eq_false hc
        have hput := putL_at (L := L) (v := v) (k := k) (by rw [HNN.out]; omega) HS.out (fun _ => hc)
        generalize hvk : V k = u at *
        generalize hcm : cmpL (L.getD k []) v = z at *
        have HC := Lib.hid hc
        have HX := Lib.hid hx
        have HCALL := Lib.hid hcall
        clear hx hcall
        have HCM := Lib.hid hcm
        have HPUT := Lib.hid hput
        clear hcm hput
        clear hc
        go_wp2_with fail
        refine HCALL.out.mono ?_
        rintro e w1 ⟨rfl, hq⟩
        have hk1 := HK.out.trans (quiet_keeps hq)
        have ha := (quiet_keeps hq).read ha (by simp)
        have hx1 : IsI w1 l u (L.getD k []) := HX.out.new (quiet_keeps hq)
        have hcall2 := same_is hx1 (HV.out.new hk1) hxl hvn
        have HK1 := Lib.hid hk1
        have HX1 := Lib.hid hx1
        have HCALL2 := Lib.hid hcall2
        clear hk1 hx1 hcall2
        clear hq
        go_wp2_with fail
        refine HCALL2.out.mono ?_
        rintro e w2 ⟨rfl, hq⟩
        have hk2 := HK1.out.trans (quiet_keeps hq)
        have HK2 := Lib.hid hk2
        clear hk2
        clear hq
        by_cases hsm : L.getD k [] = v
        · have hsd : decide (L.getD k [] = v) = true := decide_eq_true hsm
          have HSM := Lib.hid hsm
          clear hsm
          go_wp2_with fail
          go_ret
          exact ⟨_, _, _, rfl, by rw [HPUT.out, if_pos ⟨by rw [HNN.out]; exact hlt, HSM.out⟩]; exact H.out.new HK2.out, HK2.out⟩
        · have hsd : decide (L.getD k [] = v) = false := decide_eq_false hsm
          have HSM := Lib.hid hsm
          clear hsm
          go_wp2_with fail
          have hput := HPUT.out
          rw [if_neg (fun h => HSM.out h.2)] at hput
          have HPUT := Lib.hid hput
          clear hput
          have hl1 : ∀ x ∈ l, x < w2.heap.size := fun x hx => by have := HL.out x hx; have := HK2.out.size; omega
          have hT0 : IsL IsI [] w l (.slice (some a) n c) L := H.out
          obtain ⟨A1, hs1, hT⟩ := slice_to sl_rowsi hT0 k (by omega)
          obtain ⟨A2, hs2, hD⟩ := slice_from sl_rowsi hT0 k (by omega)
          have htl : (L.take k).length = k := by rw [List.length_take, HNN.out]; omega
          have hdl : (L.drop k).length = n - k := by rw [List.length_drop, HNN.out]
          have hz := HK2.out.size
          have hk0 : Keeps [] w w2.drew := HK2.out.drew
          have HK0 := Lib.hid hk0
          have hTn : IsL IsI [] w2.drew ([] ++ l) (.slice A1 k c) (L.take k) := Rok.keeps hT (hk0.nil _)
          have HTN := Lib.hid hTn
          clear hTn
          have HL1 := Lib.hid hl1
          have HT := Lib.hid hT
          have HD := Lib.hid hD
          have HTL := Lib.hid htl
          have HDL := Lib.hid hdl
          clear hl1 hT hD htl hdl
          clear hT0 hk0
          go_region_law (first
            | (have _t := hown2; refine step_join sl_rowsi rfl (.tmp 41) (.tmp 44) rfl (v := .slice V2 (k + 1) c2) (u := .slice A2 (n - k) (c - k)) (by simp [Act.eval]) (by simp [Act.eval]) hown2 (hown2.putw HD.out hk41 (Nat.le_refl _)) (m := n + 1) (by rw [List.length_append, HTL.out, HDL.out]; simp; omega) (by omega) hk41.size (w0 := w) (l0 := []) (Nat.le_refl _) hk41 ?_; intro V3 c3 w45 hown3 hg3 hk45)
            | (have _t := hcp; refine step_push sl_rowsi rfl (.tmp 37) (.tmp 40) rfl (w := wC) (v := .slice V1 k c1) (by simp [Act.eval]) (by simp [Act.eval]) hown1 hcp (m := k + 1) (by rw [HTL.out]) (by omega) hkC.size (w0 := w) (l0 := []) (Nat.le_refl _) hkC ?_; intro V2 c2 w41 hown2 hg2 hk41)
            | (have _t := hown1; refine step_call1 rfl 67 (.tmp 38) #[22] rfl eg (copy_is (l := (Value.slice V1 k c1).ownBlock.toList ++ l) (hown1.putw HV.out hk37 (Nat.le_refl _)) hvn) (by simp [Act.eval]) ?_; rintro e wC ⟨Ac, cc, rfl, hownC, hkC0⟩; refine ⟨_, rfl, ?_⟩; have hcp := hownC.isL (hown1.putb (fun y hy => Nat.lt_of_lt_of_le (HL.out y hy) hk37.size)); have hkC := hk37.trans hkC0; have hown1 := hown1.new hkC0)
            | (refine step_join sl_rowsi rfl (.const (.slice none 0 0)) (.tmp 36) rfl (w := w2.drew) (l := l) (base := w.heap.size) (v := .slice none 0 0) (u := .slice A1 k c) (by simp [Act.eval]) (by simp [Act.eval, Act.put]) OwL.nil HTN.out (m := k) (by simp [HTL.out]) (by omega) hz (w0 := w) (l0 := []) (Nat.le_refl _) HK0.out ?_; intro V1 c1 w37 hown1 hg1 hk37; rw [List.nil_append] at hown1))
          all_goals
            have hfin := hown3.isL (fun y hy => HL.out y hy)
            have hput := HPUT.out
            rw [List.append_assoc, List.singleton_append] at hfin
            go_wp2_with fail
            go_ret
            exact ⟨_, _, _, rfl, by rw [hput]; exact hfin, hk45⟩
    · have hput := putL_at (L := L) (v := v) (k := k) (by rw [HNN.out]; omega) HS.out (fun h => by rw [HNN.out] at h; omega)
      rw [if_neg (fun h => by have := h.1; rw [HNN.out] at this; omega)] at hput
      have HPUT := Lib.hid hput
      clear hput
      go_wp2_with fail
      have hl1 : ∀ x ∈ l, x < wr.heap.size := fun x hx => by have := HL.out x hx; have := HK.out.size; omega
      have hT0 : IsL IsI [] w l (.slice A n c) L := H.out
      obtain ⟨A1, hs1, hT⟩ := slice_to sl_rowsi hT0 k (by omega)
      obtain ⟨A2, hs2, hD⟩ := slice_from sl_rowsi hT0 k (by omega)
      have htl : (L.take k).length = k := by rw [List.length_take, HNN.out]; omega
      have hdl : (L.drop k).length = n - k := by rw [List.length_drop, HNN.out]
      have hz := HK.out.size
      have hk0 : Keeps [] w wr.drew := HK.out.drew
      have HK0 := Lib.hid hk0
      have hTn : IsL IsI [] wr.drew ([] ++ l) (.slice A1 k c) (L.take k) := Rok.keeps hT (hk0.nil _)
      have HTN := Lib.hid hTn
      clear hTn
      have HL1 := Lib.hid hl1
      have HT := Lib.hid hT
      have HD := Lib.hid hD
      have HTL := Lib.hid htl
      have HDL := Lib.hid hdl
      clear hl1 hT hD htl hdl
      clear hT0 hk0
      go_region_law (first
        | (have _t := hown2; refine step_join sl_rowsi rfl (.tmp 41) (.tmp 44) rfl (v := .slice V2 (k + 1) c2) (u := .slice A2 (n - k) (c - k)) (by simp [Act.eval]) (by simp [Act.eval]) hown2 (hown2.putw HD.out hk41 (Nat.le_refl _)) (m := n + 1) (by rw [List.length_append, HTL.out, HDL.out]; simp; omega) (by omega) hk41.size (w0 := w) (l0 := []) (Nat.le_refl _) hk41 ?_; intro V3 c3 w45 hown3 hg3 hk45)
        | (have _t := hcp; refine step_push sl_rowsi rfl (.tmp 37) (.tmp 40) rfl (w := wC) (v := .slice V1 k c1) (by simp [Act.eval]) (by simp [Act.eval]) hown1 hcp (m := k + 1) (by rw [HTL.out]) (by omega) hkC.size (w0 := w) (l0 := []) (Nat.le_refl _) hkC ?_; intro V2 c2 w41 hown2 hg2 hk41)
        | (have _t := hown1; refine step_call1 rfl 67 (.tmp 38) #[22] rfl eg (copy_is (l := (Value.slice V1 k c1).ownBlock.toList ++ l) (hown1.putw HV.out hk37 (Nat.le_refl _)) hvn) (by simp [Act.eval]) ?_; rintro e wC ⟨Ac, cc, rfl, hownC, hkC0⟩; refine ⟨_, rfl, ?_⟩; have hcp := hownC.isL (hown1.putb (fun y hy => Nat.lt_of_lt_of_le (HL.out y hy) hk37.size)); have hkC := hk37.trans hkC0; have hown1 := hown1.new hkC0)
        | (refine step_join sl_rowsi rfl (.const (.slice none 0 0)) (.tmp 36) rfl (w := wr.drew) (l := l) (base := w.heap.size) (v := .slice none 0 0) (u := .slice A1 k c) (by simp [Act.eval]) (by simp [Act.eval, Act.put]) OwL.nil HTN.out (m := k) (by simp [HTL.out]) (by omega) hz (w0 := w) (l0 := []) (Nat.le_refl _) HK0.out ?_; intro V1 c1 w37 hown1 hg1 hk37; rw [List.nil_append] at hown1))
      all_goals
        have hfin := hown3.isL (fun y hy => HL.out y hy)
        have hput := HPUT.out
        rw [List.append_assoc, List.singleton_append] at hfin
        go_wp2_with fail
        go_ret
        exact ⟨_, _, _, rfl, by rw [hput]; exact hfin, hk45⟩
end Go.Proofs.Ythpobeeccgmieaa

namespace Go.Proofs.Ythpobeeccgmieaa
set_option linter.unusedVariables false
open Go.RowKit

def rvecs : Nat → Nat → List (List Int)
  | 0, _ => [[]]
  | n + 1, s => (List.range (s + 1)).flatMap fun x => (rvecs n (s - x)).map ((x : Int) :: ·)
def rupto (n s x : Nat) : List (List Int) := (List.range x).flatMap fun y => (rvecs n (s - y)).map ((y : Int) :: ·)
theorem rupto_succ (n s x : Nat) : rupto n s (x + 1) = rupto n s x ++ (rvecs n (s - x)).map ((x : Int) :: ·) := by simp [rupto, List.range_succ]
theorem rupto_all (n s : Nat) : rupto n s (s + 1) = rvecs (n + 1) s := rfl
theorem rupto_zero (n s : Nat) : rupto n s 0 = [] := rfl
theorem mem_rvecs : ∀ {n s : Nat} {v : List Int}, v ∈ rvecs n s ↔ v.length = n ∧ (∀ x ∈ v, 0 ≤ x) ∧ isum v ≤ (s : Int)
  | 0, s, v => by
    simp only [rvecs, List.mem_singleton]
    constructor
    · rintro rfl; exact ⟨rfl, by simp, by simp [isum]⟩
    · rintro ⟨h1, _, _⟩
      exact List.length_eq_zero_iff.1 h1
  | n + 1, s, v => by
    simp only [rvecs, List.mem_flatMap, List.mem_range, List.mem_map]
    constructor
    · rintro ⟨x, hx, u, hu, rfl⟩
      obtain ⟨h1, h2, h3⟩ := mem_rvecs.1 hu
      refine ⟨by simp [h1], fun y hy => ?_, by rw [isum_cons]; omega⟩
      rcases List.mem_cons.1 hy with e | hy
      · omega
      · exact h2 y hy
    · rintro ⟨h1, h2, h3⟩
      match v, h1 with
      | x :: u, h1 =>
        have hx := h2 x (by simp)
        have hu : ∀ y ∈ u, 0 ≤ y := fun y hy => h2 y (by simp [hy])
        have hs := (isum_ge hu).1
        rw [isum_cons] at h3
        refine ⟨x.toNat, by omega, u, mem_rvecs.2 ⟨by simpa using h1, hu, by omega⟩, by rw [Int.toNat_of_nonneg hx]⟩
theorem rupto_len (n s : Nat) (hs : ∀ r, r ≤ 10 → (rvecs n r).length ≤ 11 ^ n) (h : s ≤ 10) : ∀ x, (rupto n s x).length ≤ x * 11 ^ n
  | 0 => by simp [rupto_zero]
  | x + 1 => by
    rw [rupto_succ, List.length_append, List.length_map, Nat.succ_mul]
    have := rupto_len n s hs h x
    have := hs (s - x) (by omega)
    omega
theorem rvecs_len : ∀ (n s : Nat), s ≤ 10 → (rvecs n s).length ≤ 11 ^ n
  | 0, s, _ => by simp [rvecs]
  | n + 1, s, h => by
    rw [← rupto_all]
    have := rupto_len n s (fun r hr => rvecs_len n r hr) h (s + 1)
    refine Nat.le_trans this ?_
    rw [Nat.pow_succ, Nat.mul_comm]
    exact Nat.mul_le_mul_left _ (by omega)
theorem pow116 {k : Nat} (h : k ≤ 6) : 11 ^ k ≤ 1771561 := by
  have : k = 0 ∨ k = 1 ∨ k = 2 ∨ k = 3 ∨ k = 4 ∨ k = 5 ∨ k = 6 := by omega
  rcases this with rfl | rfl | rfl | rfl | rfl | rfl | rfl <;> decide
theorem nodup_map_cons (x : Int) {L : List (List Int)} (h : L.Nodup) : (L.map (x :: ·)).Nodup := by
  unfold List.Nodup at *
  rw [List.pairwise_map]
  exact h.imp fun {a b} hab e => hab (List.cons.inj e).2
theorem rupto_head {n s x : Nat} {v : List Int} (h : v ∈ rupto n s x) : ∃ y : Nat, y < x ∧ v.head? = some (y : Int) := by
  simp only [rupto, List.mem_flatMap, List.mem_range, List.mem_map] at h
  obtain ⟨y, hy, u, _, rfl⟩ := h
  exact ⟨y, hy, rfl⟩
theorem rvecs_nodup : ∀ (n s : Nat), (rvecs n s).Nodup
  | 0, s => by simp [rvecs]
  | n + 1, s => by
    rw [← rupto_all]
    have key : ∀ x, (rupto n s x).Nodup := fun x => by
      induction x with
      | zero => simp [rupto_zero]
      | succ x ih =>
        rw [rupto_succ, List.nodup_append]
        refine ⟨ih, nodup_map_cons _ (rvecs_nodup n _), fun a ha b hb e => ?_⟩
        obtain ⟨y, hy, h1⟩ := rupto_head ha
        obtain ⟨u, _, rfl⟩ := List.mem_map.1 hb
        rw [e] at h1
        simp at h1
        omega
    exact key _

/-- A slice of one new cell, as the call's own. -/
theorem own_lit (w : World) (u : Value) (e : TypeId) : (w.alloc (.cells #[u] e)).ownsRow w.heap.size e 1 (.slice (some ⟨w.heap.size, 0, none⟩) 1 1) 1 [u] :=
  ⟨rfl, .inr ⟨w.heap.size, 1, #[u], rfl, Nat.le_refl _, heap_alloc_new _ _, Nat.le_refl _, by unfold maxLen; omega, rfl, rfl⟩⟩
end Go.Proofs.Ythpobeeccgmieaa

namespace Go.Proofs.Ythpobeeccgmieaa
set_option linter.unusedVariables false
open Go.RowKit

theorem CloPost.fresh6 {l O : List Nat} {xs : List Int} {B : Nat} {W' : World} {v : Value} (h : OwL IsN 0 3 B W' l v xs) (hO : ∀ y ∈ O, y < B) : IsI W' O v xs := by
  obtain ⟨us, h1, h2, h3⟩ := h
  have h' : OwL IsN 0 3 B W' O v xs := ⟨us, h1, h2, h3⟩
  exact h'.isL hO
def RvPost (lx : List Nat) (ys : List (List Int)) (w : World) (e : Ending) (w' : World) : Prop :=
  ∃ V m c, m = ys.length ∧ e = .returned (.slice V m c) ∧ IsII w' lx (.slice V m c) ys ∧ Keeps [] w w'
set_option maxRecDepth 100000 in
set_option maxHeartbeats 2000000 in
theorem rvectors_is : ∀ (n s : Nat) (w : World) (lx : List Nat), n ≤ 6 → s ≤ 10 → (∀ y ∈ lx, y < w.heap.size) → Calls Try.prog 60 #[.int .i64 (n : Int), .int .i64 (s : Int)] w (RvPost lx (rvecs n s) w) := by
  intro n
  induction n with
  | zero =>
    intro s w lx _ hs hlx
    unfold RvPost
    have hI : IsII (w.alloc (.cells #[.slice none 0 0] 22)) lx (.slice (some ⟨w.heap.size, 0, none⟩) 1 1) [[]] := isL_new (xs := [[]]) hlx rfl fun i hi => by
      have e : i = 0 := by simpa using hi
      subst e; exact IsI.nil
    have HI := Lib.hid hI
    have HLX := Lib.hid hlx
    clear hI hlx
    go_enter Try.func60, Try.ntmps60
    go_wp2_with fail
    go_ret
    exact ⟨_, 1, 1, rfl, rfl, HI.out, (Keeps.refl _ _).alloc _⟩
  | succ n ih =>
    intro s w lx hn hs hlx
    unfold RvPost
    have hd0 : ((n + 1 : Nat) : Int) ≠ 0 := by omega
    have hdd : (((n : Int) + 1) == 0) = false := by
      have : (n : Int) + 1 ≠ 0 := by omega
      simpa using this
    have hih := fun (r : Nat) (hr : r ≤ 10) (W : World) (lz : List Nat) (hz : ∀ y ∈ lz, y < W.heap.size) => ih r W lz (by omega) hr hz
    have hlen : ∀ r, r ≤ 10 → (rvecs n r).length ≤ 1771561 := fun r hr => Nat.le_trans (rvecs_len n r hr) (pow116 (by omega))
    have hul : ∀ x, x ≤ s + 1 → (rupto n s x).length ≤ 19487171 := fun x hx => by
      have h1 := rupto_len n s (fun r hr => rvecs_len n r hr) hs x
      have h2 := Nat.mul_le_mul (show x ≤ 11 by omega) (pow116 (show n ≤ 6 by omega))
      omega
    clear ih
    have HIH := Lib.hid hih
    have HLX := Lib.hid hlx
    have HLEN := Lib.hid hlen
    have HUL := Lib.hid hul
    clear hih hlx hlen hul
    go_enter Try.func60, Try.ntmps60
    go_wp2_with fail
    go_loopg [5, 6] (s + 2) (fun gh ov xv wr => ∃ (x : Nat) (V : Option Addr) (m c : Nat), s + 2 ≤ x + gh ∧ x ≤ s + 1 ∧ xv = .int .i64 (x : Int) ∧ ov = .slice V m c ∧ m = (rupto n s x).length ∧ OwL IsI [] 22 w.heap.size wr lx (.slice V m c) (rupto n s x) ∧ Keeps [] w wr)
    case atStart => exact ⟨0, none, 0, 0, by omega, by omega, rfl, rfl, rfl, OwL.nil, Keeps.refl _ _⟩
    case round =>
      obtain ⟨x, V, m, c, hgh, hx, rfl, rfl, hm, hO, hkr⟩ := hrel
      have hzr := hkr.size
      by_cases hlt : x ≤ s
      · obtain ⟨r, rfl⟩ : ∃ r, s = x + r := ⟨s - x, by omega⟩
        have hle : decide ((x : Int) ≤ ((x + r : Nat) : Int)) = true := decide_eq_true (by omega)
        have hih1 := HIH.out r (by omega) wr (Value.slice V m c).ownBlock.toList (fun y hy => (hO.blocks y hy).2)
        have hrl := HLEN.out r (by omega)
        have hsucc := rupto_succ n (x + r) x
        rw [show x + r - x = r by omega] at hsucc
        have hul1 := HUL.out (x + 1) (by omega)
        rw [hsucc, List.length_append, List.length_map] at hul1
        have hcall : Calls Try.prog 60 #[.int .i64 (n : Int), .int .i64 ((x : Int) + (r : Int) - (x : Int))] wr (RvPost (Value.slice V m c).ownBlock.toList (rvecs n r) wr) := by
          rw [show (x : Int) + (r : Int) - (x : Int) = (r : Int) by omega]
          exact hih1
        have hrestl : ∀ v ∈ rvecs n r, v.length = n := fun v hv => (mem_rvecs.1 hv).1
        generalize rvecs n r = rest at *
        generalize rupto n (x + r) x = base at *
        have HIH1 := Lib.hid hih1
        have HRL := Lib.hid hrl
        have HSUCC := Lib.hid hsucc
        have HUL1 := Lib.hid hul1
        have HCALL := Lib.hid hcall
        have HM := Lib.hid hm
        have HO := Lib.hid hO
        have HKR := Lib.hid hkr
        have HRESTL := Lib.hid hrestl
        clear hih1 hrl hsucc hul1 hcall hm hO hkr hrestl
        go_wp2_with fail
        refine HCALL.out.mono ?_
        rintro e w2 ⟨V2, m2, c2, hm2, rfl, hI2, hk2⟩
        have hO2 := HO.out.new hk2
        have hk3 := HKR.out.trans hk2
        have hz3 := hk3.size
        have hz2 := hk2.size
        have hm2b : m2 ≤ 1771561 := by have := HRL.out; omega
        obtain ⟨V2', c2', e2, hr2⟩ := hI2.mrow
        rw [← hm2] at e2 hr2
        obtain ⟨rfl, rfl⟩ : V2 = V2' ∧ c2 = c2' := by injection e2 with e1 _ e3; exact ⟨e1, e3⟩
        have hmlt : m + m2 ≤ 19487171 := by have := HUL1.out; have := HM.out; omega
        have HI2 := Lib.hid hI2
        have HO2 := Lib.hid hO2
        have HK3 := Lib.hid hk3
        have HR2 := Lib.hid hr2
        have HM2 := Lib.hid hm2
        clear hI2 hO2 hk3 hr2 hm2
        clear hk2 e2
        go_wp2_with fail
        go_loopg [5, 8] (m2 + 1) (fun gh2 ov iv wr => ∃ (i : Nat) (V3 : Option Addr) (m3 c3 : Nat), m2 + 1 ≤ i + gh2 ∧ i ≤ m2 ∧ iv = .int .i64 (i : Int) ∧ ov = .slice V3 m3 c3 ∧ m3 = m + i ∧ (base ++ (rest.take i).map ((x : Int) :: ·)).length = m3 ∧ OwL IsI [] 22 w.heap.size wr lx (.slice V3 m3 c3) (base ++ (rest.take i).map ((x : Int) :: ·)) ∧ Keeps [] w wr ∧ Keeps (Value.slice V m c).ownBlock.toList w2 wr ∧ ∀ y ∈ (Value.slice V3 m3 c3).ownBlock.toList, y ∈ (Value.slice V m c).ownBlock.toList ∨ w2.heap.size ≤ y)
        case atStart => exact ⟨0, V, m, c, by omega, by omega, rfl, rfl, rfl, by simp [HM.out], by simpa using HO2.out, HK3.out, Keeps.refl _ _, fun y hy => .inl hy⟩
        case round =>
          obtain ⟨i, V3, m3, c3, hgh2, hi, rfl, rfl, hm3, hl3, hO3, hkr3, hkr4, hnw3⟩ := hrel
          have hzr3 := hkr3.size
          have hzr4 := hkr4.size
          by_cases hlt2 : i < m2
          · obtain ⟨Vq, cq, eq, hrq⟩ := (Rok.keeps HI2.out hkr4 : IsII wr (Value.slice V m c).ownBlock.toList (.slice V2 m2 c2) rest).mrow
            rw [← HM2.out] at eq hrq
            obtain ⟨rfl, rfl⟩ : V2 = Vq ∧ c2 = cq := by injection eq with e1 _ e3; exact ⟨e1, e3⟩
            obtain ⟨pa, Bi, ci, rfl, hpa0, hIi0⟩ := hrq i hlt2
            have hIi : IsI wr [] (.slice Bi (rest.getD i []).length ci) (rest.getD i []) := Rok.weak hIi0 (by simp)
            have hpa : (wr.alloc (.cells #[.int .i64 (x : Int)] 3)).cell? (pa.add i) = some (.slice Bi (rest.getD i []).length ci) := ((Keeps.refl [] wr).alloc (.cells #[.int .i64 (x : Int)] 3)).read hpa0 (by simp)
            clear hpa0
            clear eq hIi0
            have htake : (rest.take (i + 1)).map ((x : Int) :: ·) = (rest.take i).map ((x : Int) :: ·) ++ [(x : Int) :: rest.getD i []] := by
              rw [List.take_succ_eq_append_getElem (by rw [← HM2.out]; exact hlt2), List.map_append]
              simp [List.getD_eq_getElem?_getD, show i < rest.length by rw [← HM2.out]; exact hlt2]
            have hrl2 := HRESTL.out (rest.getD i []) (getD_mem (by rw [← HM2.out]; exact hlt2))
            rw [hrl2] at hpa hIi
            have hlit : OwL IsN 0 3 wr.heap.size (wr.alloc (.cells #[.int .i64 (x : Int)] 3)) [] (.slice (some ⟨wr.heap.size, 0, none⟩) 1 1) [(x : Int)] := isN_own (xs := [(x : Int)]) rfl (own_lit wr (.int .i64 (x : Int)) 3)
            have hka : Keeps [] wr (wr.alloc (.cells #[.int .i64 (x : Int)] 3)) := (Keeps.refl _ _).alloc _
            have hrowJ : IsL IsN 0 (wr.alloc (.cells #[.int .i64 (x : Int)] 3)) ((Value.slice (some ⟨wr.heap.size, 0, none⟩) 1 1).ownBlock.toList ++ []) (.slice Bi n ci) (rest.getD i []) := by
              have := Rok.weak (R := IsI) (l' := (Value.slice (some ⟨wr.heap.size, 0, none⟩) 1 1).ownBlock.toList ++ []) hIi (fun y hy => .inr (by simp [Value.ownBlock] at hy; omega))
              exact this.new hka
            have hob3 : ∀ y ∈ (Value.slice V3 m3 c3).ownBlock.toList, y < wr.heap.size := fun y hy => (hO3.blocks y hy).2
            have hlxr : ∀ y ∈ lx, y < wr.heap.size := fun y hy => Nat.lt_of_lt_of_le (HLX.out y hy) hzr3
            have hm31 : m3 + 1 ≤ 100000000 := by omega
            generalize hrow : rest.getD i [] = row at *
            have htl2 : (base ++ (rest.take (i + 1)).map ((x : Int) :: ·)).length = m3 + 1 := by rw [htake, ← List.append_assoc, List.length_append, hl3]; rfl
            have HII := Lib.hid hIi
            have HO3 := Lib.hid hO3
            have HKR3 := Lib.hid hkr3
            have HKR4 := Lib.hid hkr4
            have HTAKE := Lib.hid htake
            have HRL2 := Lib.hid hrl2
            have HLIT := Lib.hid hlit
            have HKA := Lib.hid hka
            have HROWJ := Lib.hid hrowJ
            have HOB3 := Lib.hid hob3
            have HLXR := Lib.hid hlxr
            have HROW := Lib.hid hrow
            have HL3 := Lib.hid hl3
            have HTL2 := Lib.hid htl2
            have HM3 := Lib.hid hm3
            have HNW3 := Lib.hid hnw3
            clear hIi hO3 hkr3 hkr4 htake hrl2 hlit hka hrowJ hob3 hlxr hrow hl3 htl2 hm3 hnw3
            go_wp2_with (first
              | (at_builtin; refine wpList_pushg sl_rowsi rfl _ _ rfl (w := w4) (u := .slice V4 (n + 1) c4) (y := (x : Int) :: row) (v := .slice V3 m3 c3) rfl rfl HO4.out HI4.out (m := m3 + 1) (by rw [HL3.out]) (by omega) hz4 ?_; intro V6 c6 w6 hown6 hg6 hb6)
              | (at_builtin; refine wpList_join sl_int rfl _ _ rfl rfl rfl HLIT.out HROWJ.out (m := n + 1) (by rw [HRL2.out]; show 1 + n = n + 1; omega) (by omega) HKA.out.size (w0 := wr) (l0 := []) (Nat.le_refl _) HKA.out ?_; intro V4 c4 w4 hown4 hg4 hk4; have hz4 : w.heap.size ≤ w4.heap.size := Nat.le_trans hzr3 hk4.size; have HO4 := Lib.hid (HO3.out.new hk4); have HK4 := Lib.hid (HKR3.out.trans hk4); have HK42 := Lib.hid hk4; have HI4 : Hid (IsI w4 ((Value.slice V3 m3 c3).ownBlock.toList ++ lx) (.slice V4 (n + 1) c4) ((x : Int) :: row)) := Lib.hid (CloPost.fresh6 hown4 (fun y hy => (List.mem_append.1 hy).elim (HOB3.out y) (HLXR.out y))); clear hown4 hg4 hk4))
            have hk64 : Keeps [] w w6 := HK4.out.step hg6 (fun y hy => .inr (HO4.out.blocks y hy).1)
            have hk62 : Keeps (Value.slice V m c).ownBlock.toList w2 w6 := (HKR4.out.trans (HK42.out.nil _)).step hg6 HNW3.out
            have hnw6 : ∀ y ∈ (Value.slice V6 (m3 + 1) c6).ownBlock.toList, y ∈ (Value.slice V m c).ownBlock.toList ∨ w2.heap.size ≤ y := fun y hy => by
              rcases hb6 y hy with h | h
              · exact HNW3.out y h
              · exact .inr (by have := HK42.out.size; omega)
            have HK64 := Lib.hid hk64
            have HK62 := Lib.hid hk62
            have HNW6 := Lib.hid hnw6
            have HOWN6 := Lib.hid hown6
            clear hk64 hk62 hnw6 hown6
            clear hg6 hb6
            go_roundg (m2 - i)
            case measure => omega
            case rel => exact ⟨i + 1, V6, m3 + 1, c6, by omega, by omega, by go_num, rfl, by have := HM3.out; omega, HTL2.out, by rw [HTAKE.out, ← List.append_assoc]; exact HOWN6.out, HK64.out, HK62.out, HNW6.out⟩
          · obtain rfl : i = m2 := by omega
            have hfull : rest.take i = rest := List.take_of_length_le (by rw [← HM2.out]; exact Nat.le_refl _)
            rw [hfull, ← HSUCC.out] at hO3 hl3
            have HO3 := Lib.hid hO3
            have HL3 := Lib.hid hl3
            have HKR3 := Lib.hid hkr3
            have HKR4 := Lib.hid hkr4
            have HFULL := Lib.hid hfull
            have HM3 := Lib.hid hm3
            have HNW3 := Lib.hid hnw3
            clear hO3 hl3 hkr3 hkr4 hfull hm3 hnw3
            go_wp2_with fail
            go_roundg (x + r + 1 - x)
            case measure => omega
            case rel => exact ⟨x + 1, V3, m3, c3, by omega, by omega, by go_num, rfl, HL3.out.symm, HO3.out, HKR3.out⟩
      · obtain rfl : x = s + 1 := by omega
        have hle : decide (((s + 1 : Nat) : Int) ≤ (s : Int)) = false := decide_eq_false (by omega)
        rw [rupto_all] at hm hO
        have hI := hO.isL HLX.out
        have HM := Lib.hid hm
        have HO := Lib.hid hO
        have HKR := Lib.hid hkr
        have HI := Lib.hid hI
        clear hm hO hkr hI
        go_wp2_with fail
        go_ret
        exact ⟨V, m, c, HM.out, rfl, HI.out, HKR.out⟩
end Go.Proofs.Ythpobeeccgmieaa
