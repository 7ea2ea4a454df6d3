/- The walks of matrix.Check, dot and Apply. -/
import Derived.Test.YthpobeeccgmieaaMatL
import Derived.Test.YthpobeeccgmieaaVecF
import Derived.Test.YthpobeeccgmieaaPush
import Derived.Test.YthpobeeccgmieaaOwnI
import Derived.Test.YthpobeeccgmieaaEqI
import Derived.Test.YthpobeeccgmieaaNow
namespace Go.Proofs.Ythpobeeccgmieaa
set_option linter.unusedVariables false
open Go.RowKit

def MRow (w : World) (l : List Nat) (A : Option Addr) (n : Nat) (L : List (List Int)) : Prop := ∀ i, i < n → ∃ a B c, A = some a ∧ w.cell? (a.add i) = some (.slice B (L.getD i []).length c) ∧ IsI w l (.slice B (L.getD i []).length c) (L.getD i [])
theorem IsII.mrow {w : World} {l : List Nat} {v : Value} {L : List (List Int)} (h : IsII w l v L) : ∃ A c, v = .slice A L.length c ∧ MRow w l A L.length L := by
  obtain ⟨A, c, V, rfl, _, _, hc, hv⟩ := h
  refine ⟨A, c, rfl, fun i hi => ?_⟩
  obtain ⟨a, rfl, hp⟩ := hc.at_ hi
  obtain ⟨B, c', e, _⟩ := (hv i hi).open
  rw [e] at hp
  exact ⟨a, B, c', rfl, hp, e ▸ hv i hi⟩
theorem MRow.new {w w' : World} {l : List Nat} {A : Option Addr} {n : Nat} {L : List (List Int)} (h : MRow w l A n L) (k : Keeps [] w w') : MRow w' l A n L := fun i hi => by
  obtain ⟨a, B, c, e, h1, h2⟩ := h i hi
  exact ⟨a, B, c, e, k.read h1 (by simp), h2.new k⟩

set_option maxHeartbeats 400000 in
theorem mcheck1_any (x : Int) (w : World) : Calls Try.prog 69 #[.int .i64 x] w fun e w' => e = .returned (.bool (!decide (-16 ≤ x ∧ x ≤ 16))) ∧ w = w' := by
  by_cases h1 : x < -16
  · have hd : decide (x < -16) = true := decide_eq_true h1
    have hr : (!decide (-16 ≤ x ∧ x ≤ 16)) = true := by rw [decide_eq_false (by omega)]; rfl
    rw [hr]
    go_enter Try.func69, Try.ntmps69
    go_wp2_with fail
    go_ret
    exact ⟨rfl, rfl⟩
  · have hd : decide (x < -16) = false := decide_eq_false h1
    by_cases h2 : x > 16
    · have hd2 : decide (16 < x) = true := decide_eq_true h2
      have hr : (!decide (-16 ≤ x ∧ x ≤ 16)) = true := by rw [decide_eq_false (by omega)]; rfl
      rw [hr]
      go_enter Try.func69, Try.ntmps69
      go_wp2_with fail
      go_ret
      exact ⟨rfl, rfl⟩
    · have hd2 : decide (16 < x) = false := decide_eq_false h2
      have hr : (!decide (-16 ≤ x ∧ x ≤ 16)) = false := by rw [decide_eq_true (by omega)]; rfl
      rw [hr]
      go_enter Try.func69, Try.ntmps69
      go_wp2_with fail
      go_ret
      exact ⟨rfl, rfl⟩
set_option maxHeartbeats 400000 in
theorem mapply1_any (x : Int) (w : World) : Calls Try.prog 70 #[.int .i64 x] w fun e w' => e = .returned (.bool (!decide (-1048576 ≤ x ∧ x ≤ 1048576))) ∧ w = w' := by
  by_cases h1 : x < -1048576
  · have hd : decide (x < -1048576) = true := decide_eq_true h1
    have hr : (!decide (-1048576 ≤ x ∧ x ≤ 1048576)) = true := by rw [decide_eq_false (by omega)]; rfl
    rw [hr]
    go_enter Try.func70, Try.ntmps70
    go_wp2_with fail
    go_ret
    exact ⟨rfl, rfl⟩
  · have hd : decide (x < -1048576) = false := decide_eq_false h1
    by_cases h2 : x > 1048576
    · have hd2 : decide (1048576 < x) = true := decide_eq_true h2
      have hr : (!decide (-1048576 ≤ x ∧ x ≤ 1048576)) = true := by rw [decide_eq_false (by omega)]; rfl
      rw [hr]
      go_enter Try.func70, Try.ntmps70
      go_wp2_with fail
      go_ret
      exact ⟨rfl, rfl⟩
    · have hd2 : decide (1048576 < x) = false := decide_eq_false h2
      have hr : (!decide (-1048576 ≤ x ∧ x ≤ 1048576)) = false := by rw [decide_eq_true (by omega)]; rfl
      rw [hr]
      go_enter Try.func70, Try.ntmps70
      go_wp2_with fail
      go_ret
      exact ⟨rfl, rfl⟩
set_option maxHeartbeats 400000 in
theorem hcheck1_any (x : Int) (w : World) : Calls Try.prog 33 #[.int .i64 x] w fun e w' => e = .returned (.bool (!decide (-1048576 ≤ x ∧ x ≤ 1048576))) ∧ w = w' := by
  by_cases h1 : x < -1048576
  · have hd : decide (x < -1048576) = true := decide_eq_true h1
    have hr : (!decide (-1048576 ≤ x ∧ x ≤ 1048576)) = true := by rw [decide_eq_false (by omega)]; rfl
    rw [hr]
    go_enter Try.func33, Try.ntmps33
    go_wp2_with fail
    go_ret
    exact ⟨rfl, rfl⟩
  · have hd : decide (x < -1048576) = false := decide_eq_false h1
    by_cases h2 : x > 1048576
    · have hd2 : decide (1048576 < x) = true := decide_eq_true h2
      have hr : (!decide (-1048576 ≤ x ∧ x ≤ 1048576)) = true := by rw [decide_eq_false (by omega)]; rfl
      rw [hr]
      go_enter Try.func33, Try.ntmps33
      go_wp2_with fail
      go_ret
      exact ⟨rfl, rfl⟩
    · have hd2 : decide (1048576 < x) = false := decide_eq_false h2
      have hr : (!decide (-1048576 ≤ x ∧ x ≤ 1048576)) = false := by rw [decide_eq_true (by omega)]; rfl
      rw [hr]
      go_enter Try.func33, Try.ntmps33
      go_wp2_with fail
      go_ret
      exact ⟨rfl, rfl⟩

set_option maxHeartbeats 400000 in
theorem dot_is {w : World} {l : List Nat} {av bv : Value} {a b : List Int} {n : Nat} (ha : IsI w l av a) (hb : IsI w l bv b) (hla : a.length = n) (hlb : b.length = n) (hn : n ≤ 12) (hea : ∀ y ∈ a, -16 ≤ y ∧ y ≤ 16) (heb : ∀ y ∈ b, -1048576 ≤ y ∧ y ≤ 1048576) :
    Calls Try.prog 71 #[av, bv] w (RetN (dotL a b) w) := by
  unfold RetN
  have h1 : ∀ i, i < n → -16 ≤ a.getD i 0 ∧ a.getD i 0 ≤ 16 := fun i hi => hea _ (getD_mem (by omega))
  have h2 : ∀ i, i < n → -1048576 ≤ b.getD i 0 ∧ b.getD i 0 ≤ 1048576 := fun i hi => heb _ (getD_mem (by omega))
  have hbd : ∀ k, k ≤ n → -16777216 * (k : Int) ≤ dotP a b k ∧ dotP a b k ≤ 16777216 * (k : Int) := fun k hk => dotP_bound (fun i hi => h1 i (by omega)) (fun i hi => h2 i (by omega))
  have hd : dotL a b = dotP a b n := by rw [dotL, hla]
  obtain ⟨A, c, rfl, _, _, hc1⟩ := ha.open
  obtain ⟨B, c', rfl, _, _, hc2⟩ := hb.open
  rw [hla] at hc1 ⊢
  rw [hlb] at hc2 ⊢
  have H1 := Lib.hid h1
  have H2 := Lib.hid h2
  have HBD := Lib.hid hbd
  have HD := Lib.hid hd
  have HC1 := Lib.hid hc1
  have HC2 := Lib.hid hc2
  have HA := Lib.hid ha
  have HB := Lib.hid hb
  have HLA := Lib.hid hla
  have HLB := Lib.hid hlb
  have HEA := Lib.hid hea
  have HEB := Lib.hid heb
  clear h1 h2 hbd hd hc1 hc2 ha hb hla hlb hea heb
  go_enter Try.func71, Try.ntmps71
  go_wp2_with fail
  go_loopg [5, 10] (n + 1) (fun gh sv kv wr => ∃ k : Nat, n + 1 ≤ k + gh ∧ k ≤ n ∧ kv = .int .i64 (k : Int) ∧ sv = .int .i64 (dotP a b k) ∧ w = wr)
  case atStart => exact ⟨0, by omega, by omega, rfl, rfl, rfl⟩
  case round =>
    obtain ⟨k, hgh, hk, rfl, rfl, rfl⟩ := hrel
    have hb0 := HBD.out k hk
    by_cases hlt : k < n
    · obtain ⟨p, rfl, hp⟩ := HC1.out.at_ hlt
      obtain ⟨p2, rfl, hp2⟩ := HC2.out.at_ hlt
      have hx := H1.out k hlt
      have hy := H2.out k hlt
      have hm := mul_bound hx.1 hx.2 hy.1 hy.2
      have hs : dotP a b (k + 1) = dotP a b k + a.getD k 0 * b.getD k 0 := rfl
      generalize dotP a b k = s at *
      generalize a.getD k 0 = x at *
      generalize b.getD k 0 = y at *
      obtain ⟨hm1, hm2⟩ := hm
      obtain ⟨hb1, hb2⟩ := hb0
      obtain ⟨hx1, hx2⟩ := hx
      obtain ⟨hy1, hy2⟩ := hy
      have HS := Lib.hid hs
      clear hs
      go_wp2_with fail
      go_roundg (n - k)
      case measure => omega
      case rel => exact ⟨k + 1, by omega, by omega, by go_num, by rw [HS.out], rfl⟩
    · obtain rfl : k = n := by omega
      go_wp2_with fail
      go_ret
      exact ⟨ret_ni HD.out, Keeps.refl _ _⟩

theorem rowsB_take {A : List (List Int)} {n k : Nat} (h : ∀ i, i < k → rowB n (A.getD i []) = true) (hk : A.length ≤ k) : A.all (rowB n) = true := by
  rw [List.all_eq_true]
  intro x hx
  obtain ⟨i, hi, rfl⟩ := mem_getD (d := []) hx
  exact h i (by omega)
theorem rowsB_no {A : List (List Int)} {n k : Nat} (hk : k < A.length) (h : rowB n (A.getD k []) = false) : A.all (rowB n) = false := by
  rw [← Bool.not_eq_true, List.all_eq_true]
  intro hh
  rw [hh _ (getD_mem hk)] at h
  cases h

theorem anyAll_ints {w : World} {l : List Nat} {v : Value} {row : List Int} {g : Nat} {q : Int → Bool} (h : IsI w l v row) (hn : row.length ≤ 1000000) (eg : ∀ args w, (callFunc g args).run Try.prog w = .ok (.enter g args) w)
    (hq : ∀ x w, Calls Try.prog g #[.int .i64 x] w fun e w' => e = .returned (.bool (!q x)) ∧ w = w') : Calls Try.prog 32 #[v, .func (.func g) #[] #[]] w (RetB (!row.all q) w) := by
  refine (anr_ints (w := w) (l := l) (p := fun i => !q (row.getD i 0)) (show IsL IsN 0 w l v row from h) hn eg (pred_ints (q := fun x => !q x) hq l _ w)).mono ?_
  rintro e w' ⟨r, rfl, h2, h3⟩
  refine ⟨?_, h3⟩
  congr 2
  cases hall : row.all q with
  | true =>
    cases r with
    | false => rfl
    | true =>
      obtain ⟨i, hi, hp⟩ := h2.1 rfl
      rw [List.all_eq_true] at hall
      simp only [hall _ (getD_mem (d := 0) hi)] at hp
      cases hp
  | false =>
    refine h2.2 (Classical.byContradiction fun hne => ?_)
    rw [← Bool.not_eq_true, List.all_eq_true] at hall
    refine hall fun x hx => ?_
    obtain ⟨i, hi, rfl⟩ := mem_getD (d := 0) hx
    cases he : q (row.getD i 0) with
    | true => rfl
    | false => exact absurd ⟨i, hi, by simp only [he]; rfl⟩ hne

set_option maxHeartbeats 1000000 in
theorem mcheck_is {w : World} {l : List Nat} {v : Value} {A : List (List Int)} (h : IsII w l v A) (hn : A.length ≤ 1000000) (hx : ∀ r ∈ A, r.length ≤ 1000000) : Calls Try.prog 47 #[v] w (RetN (if matB A = true then 0 else 10) w) := by
  unfold RetN
  generalize hZ : (if matB A = true then (0 : Int) else 10) = Z
  have eg := enters_of Try.func69 (by kernel_rfl) rfl
  have hB : matB A = (decide (1 ≤ A.length ∧ A.length ≤ 12) && decide (1 ≤ (A.getD 0 []).length ∧ (A.getD 0 []).length ≤ 12 ∧ ((A.getD 0 []).length ≤ 6 ∨ A.length ≤ 6)) && A.all (rowB (A.getD 0 []).length)) := rfl
  obtain ⟨V, c, rfl, hr⟩ := h.mrow
  have hrows : ∀ i, i < A.length → (A.getD i []).length ≤ 1000000 := fun i hi => hx _ (getD_mem hi)
  generalize hm : A.length = m at *
  clear h hx
  by_cases h1 : m < 1
  · have d1 : decide ((m : Int) < 1) = true := decide_eq_true (by omega)
    have hZ10 : Z = 10 := by rw [← hZ, hB, decide_eq_false (by omega), Bool.false_and, Bool.false_and]; rfl
    have HR := Lib.hid hr
    have HB := Lib.hid hB
    have HM := Lib.hid hm
    have HROWS := Lib.hid hrows
    have HZ := Lib.hid hZ
    have HZ10 := Lib.hid hZ10
    clear hr hB hm hrows hZ hZ10
    go_enter Try.func47, Try.ntmps47
    go_wp2_with fail
    go_ret
    exact ⟨ret_ni HZ10.out, Keeps.refl _ _⟩
  have d1 : decide ((m : Int) < 1) = false := decide_eq_false (by omega)
  by_cases h2 : 12 < m
  · have d2 : decide (12 < (m : Int)) = true := decide_eq_true (by omega)
    have hZ10 : Z = 10 := by rw [← hZ, hB, decide_eq_false (by omega), Bool.false_and, Bool.false_and]; rfl
    have HR := Lib.hid hr
    have HB := Lib.hid hB
    have HM := Lib.hid hm
    have HROWS := Lib.hid hrows
    have HZ := Lib.hid hZ
    have HZ10 := Lib.hid hZ10
    clear hr hB hm hrows hZ hZ10
    go_enter Try.func47, Try.ntmps47
    go_wp2_with fail
    go_ret
    exact ⟨ret_ni HZ10.out, Keeps.refl _ _⟩
  have d2 : decide (12 < (m : Int)) = false := decide_eq_false (by omega)
  obtain ⟨p0, B0, c0, e0, hp0, _⟩ := hr 0 (by omega)
  have hz : p0.add 0 = p0 := by simp [Addr.add]
  rw [hz] at hp0
  subst e0
  rw [decide_eq_true (show 1 ≤ m ∧ m ≤ 12 by omega), Bool.true_and] at hB
  have hn0 := hrows 0 (by omega)
  generalize hc : (A.getD 0 []).length = n at *
  by_cases h3 : n < 1
  · have d3 : decide ((n : Int) < 1) = true := decide_eq_true (by omega)
    have hZ10 : Z = 10 := by rw [← hZ, hB, decide_eq_false (by omega), Bool.false_and]; rfl
    have HR := Lib.hid hr
    have HB := Lib.hid hB
    have HM := Lib.hid hm
    have HROWS := Lib.hid hrows
    have HC := Lib.hid hc
    have HZ := Lib.hid hZ
    have HZ10 := Lib.hid hZ10
    clear hr hB hm hrows hc hZ hZ10
    go_enter Try.func47, Try.ntmps47
    go_wp2_with fail
    go_ret
    exact ⟨ret_ni HZ10.out, Keeps.refl _ _⟩
  have d3 : decide ((n : Int) < 1) = false := decide_eq_false (by omega)
  by_cases h4 : 12 < n
  · have d4 : decide (12 < (n : Int)) = true := decide_eq_true (by omega)
    have hZ10 : Z = 10 := by rw [← hZ, hB, decide_eq_false (by omega), Bool.false_and]; rfl
    have HR := Lib.hid hr
    have HB := Lib.hid hB
    have HM := Lib.hid hm
    have HROWS := Lib.hid hrows
    have HC := Lib.hid hc
    have HZ := Lib.hid hZ
    have HZ10 := Lib.hid hZ10
    clear hr hB hm hrows hc hZ hZ10
    go_enter Try.func47, Try.ntmps47
    go_wp2_with fail
    go_ret
    exact ⟨ret_ni HZ10.out, Keeps.refl _ _⟩
  have d4 : decide (12 < (n : Int)) = false := decide_eq_false (by omega)
  by_cases h5 : 6 < min n m
  · have d5 : decide (6 < min (n : Int) (m : Int)) = true := decide_eq_true (by omega)
    have hZ10 : Z = 10 := by rw [← hZ, hB, decide_eq_false (by omega), Bool.false_and]; rfl
    have HR := Lib.hid hr
    have HB := Lib.hid hB
    have HM := Lib.hid hm
    have HROWS := Lib.hid hrows
    have HC := Lib.hid hc
    have HZ := Lib.hid hZ
    have HZ10 := Lib.hid hZ10
    clear hr hB hm hrows hc hZ hZ10
    go_enter Try.func47, Try.ntmps47
    go_wp2_with fail
    go_ret
    exact ⟨ret_ni HZ10.out, Keeps.refl _ _⟩
  have d5 : decide (6 < min (n : Int) (m : Int)) = false := decide_eq_false (by omega)
  rw [decide_eq_true (show 1 ≤ n ∧ n ≤ 12 ∧ (n ≤ 6 ∨ m ≤ 6) by omega), Bool.true_and] at hB
  rw [hB] at hZ
  have HR := Lib.hid hr
  have HB := Lib.hid hB
  have HM := Lib.hid hm
  have HROWS := Lib.hid hrows
  have HC := Lib.hid hc
  have HZ := Lib.hid hZ
  clear hr hB hm hrows hc hZ
  go_enter Try.func47, Try.ntmps47
  go_wp2_with fail
  go_loopg [33] (m + 1) (fun gh kv wr => ∃ k : Nat, m + 1 ≤ k + gh ∧ k ≤ m ∧ kv = .int .i64 (k : Int) ∧ (∀ i, i < k → rowB n (A.getD i []) = true) ∧ Keeps [] w wr)
  case atStart => exact ⟨0, by omega, by omega, rfl, fun i hi => by omega, Keeps.refl _ _⟩
  case round =>
    obtain ⟨k, hgh, hk, rfl, hs, hkr⟩ := hrel
    by_cases hlt : k < m
    · obtain ⟨pa, B, c', ea, hpa, hI⟩ := (HR.out.new hkr) k hlt
      obtain rfl : pa = p0 := by injection ea with e; exact e.symm
      have hlen := HROWS.out k hlt
      have hrb : rowB n (A.getD k []) = (decide ((A.getD k []).length = n) && (A.getD k []).all entB) := rfl
      have hany := anyAll_ints hI hlen eg mcheck1_any
      rw [show (fun x : Int => decide (-16 ≤ x ∧ x ≤ 16)) = entB from rfl] at hany
      generalize hrow : A.getD k [] = row at *
      generalize hq : row.length = q at *
      by_cases hqn : q = n
      · subst hqn
        rw [decide_eq_true rfl, Bool.true_and] at hrb
        have d6 : ((q : Int) != (q : Int)) = false := by simp
        cases hall : row.all entB with
        | true =>
          rw [hall] at hrb hany
          have HANY := Lib.hid hany
          have HKR := Lib.hid hkr
          have HI := Lib.hid hI
          have HS := Lib.hid hs
          have HRB := Lib.hid hrb
          have HALL := Lib.hid hall
          have HROW := Lib.hid hrow
          have HQ := Lib.hid hq
          have HLEN := Lib.hid hlen
          clear hany hkr hI hs hrb hall hrow hq hlen
          go_wp2_with (refine HANY.out.mono ?_; rintro e w1 ⟨rfl, hk1⟩)
          go_roundg (m - k)
          case measure => omega
          case rel => exact ⟨k + 1, by omega, by omega, by go_num, fun i hi => by
            by_cases e : i = k
            · subst e; rw [HROW.out]; exact HRB.out
            · exact HS.out i (by omega), HKR.out.trans hk1⟩
        | false =>
          rw [hall] at hrb hany
          have hno := rowsB_no (A := A) (n := q) (k := k) (by rw [HM.out]; exact hlt) (by rw [hrow]; exact hrb)
          have hZ10 : Z = 10 := by rw [← HZ.out, hno]; rfl
          have HANY := Lib.hid hany
          have HKR := Lib.hid hkr
          have HI := Lib.hid hI
          have HS := Lib.hid hs
          have HRB := Lib.hid hrb
          have HALL := Lib.hid hall
          have HROW := Lib.hid hrow
          have HQ := Lib.hid hq
          have HLEN := Lib.hid hlen
          have HNO := Lib.hid hno
          have HZ10 := Lib.hid hZ10
          clear hany hkr hI hs hrb hall hrow hq hlen hno hZ10
          go_wp2_with (refine HANY.out.mono ?_; rintro e w1 ⟨rfl, hk1⟩)
          go_ret
          exact ⟨ret_ni HZ10.out, HKR.out.trans hk1⟩
      · rw [decide_eq_false hqn, Bool.false_and] at hrb
        have hno := rowsB_no (A := A) (n := n) (k := k) (by rw [HM.out]; exact hlt) (by rw [hrow]; exact hrb)
        have d6 : ((q : Int) != (n : Int)) = true := by
          have : (q : Int) ≠ (n : Int) := by omega
          simpa using this
        have hZ10 : Z = 10 := by rw [← HZ.out, hno]; rfl
        have HKR := Lib.hid hkr
        have HI := Lib.hid hI
        have HS := Lib.hid hs
        have HRB := Lib.hid hrb
        have HROW := Lib.hid hrow
        have HQ := Lib.hid hq
        have HLEN := Lib.hid hlen
        have HNO := Lib.hid hno
        have HANY := Lib.hid hany
        have HZ10 := Lib.hid hZ10
        clear hkr hI hs hrb hrow hq hlen hno hany hZ10
        go_wp2_with fail
        go_ret
        exact ⟨ret_ni HZ10.out, HKR.out⟩
    · obtain rfl : k = m := by omega
      have hyes := rowsB_take (A := A) hs (by rw [HM.out]; exact Nat.le_refl _)
      have hZ0 : Z = 0 := by rw [← HZ.out, hyes]; rfl
      have HKR := Lib.hid hkr
      have HS := Lib.hid hs
      have HYES := Lib.hid hyes
      have HZ0 := Lib.hid hZ0
      clear hkr hs hyes hZ0
      go_wp2_with fail
      go_ret
      exact ⟨ret_ni HZ0.out, HKR.out⟩
end Go.Proofs.Ythpobeeccgmieaa
