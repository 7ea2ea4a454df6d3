/- The walks of hilbert.Check, Solves, sum, Minimal, free and Free. -/
import Derived.Test.YthpobeeccgmieaaMin
namespace Go.Proofs.Ythpobeeccgmieaa
set_option linter.unusedVariables false
open Go.RowKit

def rngB (b : List Int) : Bool := b.all fun x => decide (-1048576 ≤ x ∧ x ≤ 1048576)
def chkE (A : List (List Int)) (b : List Int) : Int := if shB A = true then (if b.length = A.length then (if rngB b = true then 0 else 2) else 3) else 10
set_option maxHeartbeats 400000 in
theorem check_is {w : World} {l : List Nat} {av bv : Value} {A : List (List Int)} {b : List Int} (hA : IsII w l av A) (hb : IsI w l bv b) (hn : A.length ≤ 1000000) (hx : ∀ r ∈ A, r.length ≤ 1000000) (hbl : b.length ≤ 1000000) : Calls Try.prog 15 #[av, bv] w (RetN (chkE A b) w) := by
  unfold RetN
  have eg := enters_of Try.func33 (by kernel_rfl) rfl
  have hsh := shape_is hA hn hx
  have hany := fun W (k : Keeps [] w W) => anyAll_ints (hb.new k) hbl eg hcheck1_any
  rw [show b.all (fun x => decide (-1048576 ≤ x ∧ x ≤ 1048576)) = rngB b from rfl] at hany
  obtain ⟨VA, cA, rfl, _⟩ := hA.mrow
  obtain ⟨VB, cB, rfl, _⟩ := hb.open
  generalize hZ : chkE A b = Z
  unfold chkE at hZ
  generalize A.length = m at *
  generalize b.length = q at *
  cases hs : shB A with
  | false =>
    rw [hs] at hsh hZ
    obtain rfl : 10 = Z := hZ
    have HA := Lib.hid hA
    have HB := Lib.hid hb
    have HSH := Lib.hid hsh
    have HANY := Lib.hid hany
    have HS := Lib.hid hs
    have HX := Lib.hid hx
    clear hA hb hsh hany hs hx
    go_enter Try.func15, Try.ntmps15
    go_wp2_with fail
    refine HSH.out.mono ?_
    rintro e w1 ⟨rfl, hk1⟩
    go_wp2_with fail
    go_ret
    exact ⟨rfl, hk1⟩
  | true =>
    rw [hs] at hsh hZ
    simp only [if_true] at hZ
    by_cases hq : q = m
    · rw [if_pos hq] at hZ
      subst hq
      have d1 : ((q : Int) != (q : Int)) = false := by simp
      cases hr : rngB b with
      | true =>
        rw [hr] at hZ hany
        obtain rfl : 0 = Z := hZ
        have HA := Lib.hid hA
        have HB := Lib.hid hb
        have HSH := Lib.hid hsh
        have HANY := Lib.hid hany
        have HS := Lib.hid hs
        have HX := Lib.hid hx
        have HR := Lib.hid hr
        clear hA hb hsh hany hs hx hr
        go_enter Try.func15, Try.ntmps15
        go_wp2_with fail
        refine HSH.out.mono ?_
        rintro e w1 ⟨rfl, hk1⟩
        have ha := HANY.out w1 hk1
        have HA := Lib.hid ha
        clear ha
        go_wp2_with fail
        refine HA.out.mono ?_
        rintro e w2 ⟨rfl, hk2⟩
        go_wp2_with fail
        go_ret
        exact ⟨rfl, hk1.trans hk2⟩
      | false =>
        rw [hr] at hZ hany
        obtain rfl : 2 = Z := hZ
        have HA := Lib.hid hA
        have HB := Lib.hid hb
        have HSH := Lib.hid hsh
        have HANY := Lib.hid hany
        have HS := Lib.hid hs
        have HX := Lib.hid hx
        have HR := Lib.hid hr
        clear hA hb hsh hany hs hx hr
        go_enter Try.func15, Try.ntmps15
        go_wp2_with fail
        refine HSH.out.mono ?_
        rintro e w1 ⟨rfl, hk1⟩
        have ha := HANY.out w1 hk1
        have HA := Lib.hid ha
        clear ha
        go_wp2_with fail
        refine HA.out.mono ?_
        rintro e w2 ⟨rfl, hk2⟩
        go_wp2_with fail
        go_ret
        exact ⟨rfl, hk1.trans hk2⟩
    · rw [if_neg hq] at hZ
      obtain rfl : 3 = Z := hZ
      have d1 : ((q : Int) != (m : Int)) = true := by
        have : (q : Int) ≠ (m : Int) := by omega
        simpa using this
      have HA := Lib.hid hA
      have HB := Lib.hid hb
      have HSH := Lib.hid hsh
      have HANY := Lib.hid hany
      have HS := Lib.hid hs
      have HX := Lib.hid hx
      clear hA hb hsh hany hs hx
      go_enter Try.func15, Try.ntmps15
      go_wp2_with fail
      refine HSH.out.mono ?_
      rintro e w1 ⟨rfl, hk1⟩
      go_wp2_with fail
      go_ret
      exact ⟨rfl, hk1⟩

def sumE (n : Int) : Int := if 0 ≤ n ∧ n ≤ 10 then 0 else 2
set_option maxHeartbeats 400000 in
theorem sum_any (n : Int) (w : World) : Calls Try.prog 38 #[.int .i64 n] w (RetN (sumE n) w) := by
  unfold RetN
  generalize hZ : sumE n = Z
  unfold sumE at hZ
  by_cases h1 : n < 0
  · have d1 : decide (n < 0) = true := decide_eq_true h1
    rw [if_neg (by omega)] at hZ
    subst hZ
    go_enter Try.func38, Try.ntmps38
    go_wp2_with fail
    go_ret
    exact ⟨rfl, Keeps.refl _ _⟩
  · have d1 : decide (n < 0) = false := decide_eq_false h1
    by_cases h2 : 10 < n
    · have d2 : decide (10 < n) = true := decide_eq_true h2
      rw [if_neg (by omega)] at hZ
      subst hZ
      go_enter Try.func38, Try.ntmps38
      go_wp2_with fail
      go_ret
      exact ⟨rfl, Keeps.refl _ _⟩
    · have d2 : decide (10 < n) = false := decide_eq_false h2
      rw [if_pos (by omega)] at hZ
      subst hZ
      go_enter Try.func38, Try.ntmps38
      go_wp2_with fail
      go_ret
      exact ⟨rfl, Keeps.refl _ _⟩

/-- A list of rows and an error, 0. -/
def RowsPost (lx : List Nat) (Q : List (List Int) → Prop) (w : World) (e : Ending) (w' : World) : Prop :=
  ∃ V m c ys, m = ys.length ∧ e = .returned (.tuple #[.slice V m c, .int .i64 0]) ∧ Q ys ∧ OwL IsI [] 22 w.heap.size w' lx (.slice V m c) ys ∧ Keeps [] w w'
def MinQ (P : List Int → Bool) (k lo hi : Nat) (ys : List (List Int)) : Prop := Asc ys ∧ ∀ x, x ∈ ys ↔ MinS P k lo hi x
def ErrPost (z : Int) (w : World) (e : Ending) (w' : World) : Prop := e = .returned (.tuple #[.slice none 0 0, .int .i64 z]) ∧ Keeps [] w w'

set_option maxHeartbeats 400000 in
theorem Minimal_ok {w : World} {l : List Nat} {av bv : Value} {A : List (List Int)} {b : List Int} {r n hi : Nat} (hA : IsII w l av A) (hb : IsI w l bv b) (hS : Sys A r n) (hbl : b.length = r) (hbr : rngB b = true) (hhi : hi ≤ 10) {lx : List Nat} (hlx : ∀ y ∈ lx, y < w.heap.size) :
    Calls Try.prog 19 #[av, bv, .int .i64 (hi : Int)] w (RowsPost lx (MinQ (solB A b) (n - 1) 0 hi) w) := by
  unfold RowsPost
  have hr := hS.r6
  have hchk := check_is hA hb (by rw [hS.mat.rows]; omega) (fun x hx => by rw [hS.mat.len x hx]; have := hS.n6; omega) (by omega)
  rw [show chkE A b = 0 by rw [chkE, hS.b.1, hS.mat.rows, hbl, hbr]; simp] at hchk
  have hsum := fun W => sum_any (hi : Int) W
  rw [show sumE (hi : Int) = 0 by unfold sumE; rw [if_pos (by omega)]] at hsum
  have hmin := fun W (k : Keeps [] w W) => minimal_is (lo := 0) (hA.new k) (hb.new k) hS (by omega) (by omega) hhi (fun y hy => Nat.lt_of_lt_of_le (hlx y hy) k.size)
  obtain ⟨VA, cA, rfl, _⟩ := hA.mrow
  obtain ⟨VB, cB, rfl, _⟩ := hb.open
  generalize A.length = m at *
  generalize b.length = q at *
  generalize solB A b = P at *
  have HA := Lib.hid hA
  have HB := Lib.hid hb
  have HS := Lib.hid hS
  have HBL := Lib.hid hbl
  have HBR := Lib.hid hbr
  have HCHK := Lib.hid hchk
  have HSUM := Lib.hid hsum
  have HMIN := Lib.hid hmin
  have HR := Lib.hid hr
  have HLX := Lib.hid hlx
  clear hA hb hS hbl hbr hchk hsum hmin hr hlx
  go_enter Try.func19, Try.ntmps19
  go_wp2_with fail
  refine HCHK.out.mono ?_
  rintro e w1 ⟨rfl, hk1⟩
  go_wp2_with fail
  refine (HSUM.out w1).mono ?_
  rintro e w2 ⟨rfl, hk2⟩
  have hk3 := hk1.trans hk2
  have hm := HMIN.out w2 hk3
  have HM := Lib.hid hm
  have HK3 := Lib.hid hk3
  clear hm hk3
  clear hk1 hk2
  go_wp2_with fail
  refine HM.out.mono ?_
  rintro e w3 ⟨V, m3, c, ys, hml, rfl, h1, h2, h3, h4⟩
  have hk5 := HK3.out.trans h4
  have h6 := h3.low HK3.out.size
  have HML := Lib.hid hml
  have H1 := Lib.hid h1
  have H2 := Lib.hid h2
  have H6 := Lib.hid h6
  have HK5 := Lib.hid hk5
  clear hml h1 h2 h6 hk5
  clear h3 h4
  go_wp2_with fail
  go_ret2
  exact ⟨V, m3, c, ys, HML.out, rfl, ⟨H1.out, H2.out⟩, H6.out, HK5.out⟩

set_option maxHeartbeats 400000 in
theorem free_is {w : World} {l : List Nat} {av : Value} {A : List (List Int)} {r n hi : Nat} (hA : IsII w l av A) (hS : Sys A r n) (hhi : hi ≤ 10) {lx : List Nat} (hlx : ∀ y ∈ lx, y < w.heap.size) :
    Calls Try.prog 41 #[av, .int .i64 (hi : Int)] w (MinPost lx (solB A (List.replicate r 0)) (n - 1) 1 hi w) := by
  unfold MinPost
  have hr := hS.r6
  have hmk := run_make_n sl_int r (by omega) w
  have hO : Own (w.alloc (.cells (madeCells #[Value.int .i64 0] r) 3)) w.heap.size r (fun _ => .int .i64 0) := own_made w (.int .i64 0) rfl r 3
  have hk0 : Keeps [] w (w.alloc (.cells (madeCells #[Value.int .i64 0] r) 3)) := (Keeps.refl _ _).alloc _
  obtain ⟨w1, hw1⟩ : ∃ w1, w.alloc (.cells (madeCells #[Value.int .i64 0] r) 3) = w1 := ⟨_, rfl⟩
  rw [hw1] at hO hk0
  have hI : IsI w1 [] (.slice (some ⟨w.heap.size, 0, none⟩) r r) (List.replicate r 0) := Own.isI (f := fun _ => 0) hO (by simp) (Nat.le_refl _) (by simp) (fun i hi => by simp [List.getD_eq_getElem?_getD, hi])
  have hA1 : IsII w1 [] av A := Rok.weak (hA.new hk0) (by simp)
  have hmin := minimal_is (lo := 1) hA1 hI hS (by simp; omega) (by omega) hhi (fun y hy => Nat.lt_of_lt_of_le (hlx y hy) hk0.size)
  obtain ⟨VA, cA, rfl, _⟩ := hA.mrow
  rw [hS.mat.rows] at hmin ⊢
  rw [show ((1 : Nat) : Int) = 1 from rfl, ← hw1] at hmin
  rw [← hw1] at hk0
  clear hw1
  generalize solB A (List.replicate r 0) = P at *
  have HA := Lib.hid hA
  have HS := Lib.hid hS
  have HMIN := Lib.hid hmin
  have HR := Lib.hid hr
  have HO := Lib.hid hO
  have HI := Lib.hid hI
  have HA1 := Lib.hid hA1
  have HK0 := Lib.hid hk0
  have HLX := Lib.hid hlx
  clear hA hS hmin hr hO hI hA1 hk0 hlx
  go_enter Try.func41, Try.ntmps41
  go_wp2_with fail
  refine HMIN.out.mono ?_
  rintro e w3 ⟨V, m3, c, ys, hml, rfl, h1, h2, h3, h4⟩
  have hk5 := HK0.out.trans h4
  have h6 := h3.low HK0.out.size
  have HML := Lib.hid hml
  have H1 := Lib.hid h1
  have H2 := Lib.hid h2
  have H6 := Lib.hid h6
  have HK5 := Lib.hid hk5
  clear hml h1 h2 h6 hk5
  clear h3 h4
  go_wp2_with fail
  go_ret
  exact ⟨V, m3, c, ys, HML.out, rfl, H1.out, H2.out, H6.out, HK5.out⟩
set_option maxHeartbeats 400000 in
theorem Free_ok {w : World} {l : List Nat} {av : Value} {A : List (List Int)} {r n hi : Nat} (hA : IsII w l av A) (hS : Sys A r n) (hhi : hi ≤ 10) {lx : List Nat} (hlx : ∀ y ∈ lx, y < w.heap.size) :
    Calls Try.prog 22 #[av, .int .i64 (hi : Int)] w (RowsPost lx (MinQ (solB A (List.replicate r 0)) (n - 1) 1 hi) w) := by
  unfold RowsPost
  have hsh := shape_is hA (by have := hS.r6; rw [hS.mat.rows]; omega) (fun x hx => by rw [hS.mat.len x hx]; have := hS.n6; omega)
  rw [if_pos hS.b.1] at hsh
  have hsum := fun W => sum_any (hi : Int) W
  rw [show sumE (hi : Int) = 0 by unfold sumE; rw [if_pos (by omega)]] at hsum
  have hmin := fun W (k : Keeps [] w W) => free_is (hA.new k) hS hhi (fun y hy => Nat.lt_of_lt_of_le (hlx y hy) k.size)
  obtain ⟨VA, cA, rfl, _⟩ := hA.mrow
  generalize A.length = m at *
  generalize solB A (List.replicate r 0) = P at *
  have HA := Lib.hid hA
  have HS := Lib.hid hS
  have HSH := Lib.hid hsh
  have HSUM := Lib.hid hsum
  have HMIN := Lib.hid hmin
  have HLX := Lib.hid hlx
  clear hA hS hsh hsum hmin hlx
  go_enter Try.func22, Try.ntmps22
  go_wp2_with fail
  refine HSH.out.mono ?_
  rintro e w1 ⟨rfl, hk1⟩
  go_wp2_with fail
  refine (HSUM.out w1).mono ?_
  rintro e w2 ⟨rfl, hk2⟩
  have hk3 := hk1.trans hk2
  have hm := HMIN.out w2 hk3
  have HM := Lib.hid hm
  have HK3 := Lib.hid hk3
  clear hm hk3
  clear hk1 hk2
  go_wp2_with fail
  refine HM.out.mono ?_
  rintro e w3 ⟨V, m3, c, ys, hml, rfl, h1, h2, h3, h4⟩
  have hk5 := HK3.out.trans h4
  have h6 := h3.low HK3.out.size
  have HML := Lib.hid hml
  have H1 := Lib.hid h1
  have H2 := Lib.hid h2
  have H6 := Lib.hid h6
  have HK5 := Lib.hid hk5
  clear hml h1 h2 h6 hk5
  clear h3 h4
  go_wp2_with fail
  go_ret2
  exact ⟨V, m3, c, ys, HML.out, rfl, ⟨H1.out, H2.out⟩, H6.out, HK5.out⟩

/-- x solves the system that A and b are. -/
def solvesB (A : List (List Int)) (b x : List Int) : Bool := decide (chkE A b = 0) && (decide (x.length = (A.getD 0 []).length) && (vfB x && solB A b x))
theorem chkE_zero {A : List (List Int)} {b : List Int} : chkE A b = 0 ↔ shB A = true ∧ b.length = A.length ∧ rngB b = true := by
  unfold chkE
  by_cases h1 : shB A = true
  · by_cases h2 : b.length = A.length
    · by_cases h3 : rngB b = true
      · simp [h1, h2, h3]
      · simp [h1, h2, h3]
    · simp [h1, h2]
  · simp [h1]
set_option maxHeartbeats 1000000 in
theorem Solves_is {w : World} {l : List Nat} {av bv xv : Value} {A : List (List Int)} {b x : List Int} (hA : IsII w l av A) (hb : IsI w l bv b) (hx : IsI w l xv x) (hn : A.length ≤ 1000000) (hr : ∀ r ∈ A, r.length ≤ 1000000) (hbl : b.length ≤ 1000000) (hxl : x.length ≤ 1000000) :
    Calls Try.prog 17 #[av, bv, xv] w (RetB (solvesB A b x) w) := by
  unfold RetB
  have hchk := check_is hA hb hn hr hbl
  generalize hZ : solvesB A b x = Z
  unfold solvesB at hZ
  by_cases hc : chkE A b = 0
  · obtain ⟨h1, h2, h3⟩ := chkE_zero.1 hc
    rw [hc] at hchk
    rw [decide_eq_true hc, Bool.true_and] at hZ
    have hS := shB_true.1 h1
    have hfin := fun W (k : Keeps [] w W) => finite_is (hx.new k) hxl
    have hm1 := hS.mat.r1
    have hsol := fun (hq : x.length = (A.getD 0 []).length) (hv : vfB x = true) W (k : Keeps [] w W) => solves_is (l := []) (Rok.weak (hA.new k) (by simp)) (Rok.weak (hb.new k) (by simp)) (Rok.weak (hx.new k) (by simp)) hS.mat (by have := hS.r6; omega) hq (fun y hy => by have := (vfB_true.1 hv).el y hy; omega) (by simp)
    obtain ⟨VA, cA, rfl, hrA⟩ := hA.mrow
    obtain ⟨VB, cB, rfl, _⟩ := hb.open
    obtain ⟨VX, cX, rfl, _⟩ := hx.open
    obtain ⟨p0, B0, c0, rfl, hp0, _⟩ := hrA 0 (by omega)
    have hz : p0.add 0 = p0 := by simp [Addr.add]
    rw [hz] at hp0
    have hp1 : ∀ W, Keeps [] w W → W.cell? p0 = some (.slice B0 (A.getD 0 []).length c0) := fun W k => k.read hp0 (by simp)
    generalize solB A b x = sB at *
    have hA0 : 0 < A.length := by omega
    generalize A.length = m at *
    generalize b.length = q at *
    generalize x.length = y at *
    generalize (A.getD 0 []).length = n at *
    generalize vfB x = fB at *
    by_cases hq : y = n
    · have hsol1 := hsol hq
      have hd : decide (y = n) = true := decide_eq_true hq
      rw [hd, Bool.true_and] at hZ
      subst hq
      cases fB with
      | false =>
        obtain rfl : false = Z := hZ
        have HA := Lib.hid hA
        have HB := Lib.hid hb
        have HX := Lib.hid hx
        have HCHK := Lib.hid hchk
        have HFIN := Lib.hid hfin
        have HSOL := Lib.hid hsol
        have HSOL1 := Lib.hid hsol1
        have HRA := Lib.hid hrA
        have HR := Lib.hid hr
        have H1 := Lib.hid h1
        have H2 := Lib.hid h2
        have H3 := Lib.hid h3
        have HC := Lib.hid hc
        have HS := Lib.hid hS
        have HM1 := Lib.hid hm1
        have HD := Lib.hid hd
        have HP0 := Lib.hid hp0
        have HP1 := Lib.hid hp1
        clear hA hb hx hchk hfin hsol hsol1 hrA hr h1 h2 h3 hc hS hm1 hd hp0 hp1
        go_enter Try.func17, Try.ntmps17
        go_wp2_with fail
        refine HCHK.out.mono ?_
        rintro e w1 ⟨rfl, hk1⟩
        have hp2 := HP1.out w1 hk1
        have hf2 := HFIN.out w1 hk1
        have HF2 := Lib.hid hf2
        have HK1 := Lib.hid hk1
        clear hf2 hk1
        go_wp2_with fail
        refine HF2.out.mono ?_
        rintro e w2 ⟨rfl, hk2⟩
        go_wp2_with fail
        go_ret
        exact ⟨rfl, HK1.out.trans hk2⟩
      | true =>
        obtain rfl : sB = Z := hZ
        have hsol2 := hsol1 rfl
        have HA := Lib.hid hA
        have HB := Lib.hid hb
        have HX := Lib.hid hx
        have HCHK := Lib.hid hchk
        have HFIN := Lib.hid hfin
        have HSOL := Lib.hid hsol
        have HSOL1 := Lib.hid hsol1
        have HSOL2 := Lib.hid hsol2
        have HRA := Lib.hid hrA
        have HR := Lib.hid hr
        have H1 := Lib.hid h1
        have H2 := Lib.hid h2
        have H3 := Lib.hid h3
        have HC := Lib.hid hc
        have HS := Lib.hid hS
        have HM1 := Lib.hid hm1
        have HD := Lib.hid hd
        have HP0 := Lib.hid hp0
        have HP1 := Lib.hid hp1
        clear hA hb hx hchk hfin hsol hsol1 hsol2 hrA hr h1 h2 h3 hc hS hm1 hd hp0 hp1
        go_enter Try.func17, Try.ntmps17
        go_wp2_with fail
        refine HCHK.out.mono ?_
        rintro e w1 ⟨rfl, hk1⟩
        have hp2 := HP1.out w1 hk1
        have hf2 := HFIN.out w1 hk1
        have HF2 := Lib.hid hf2
        have HK1 := Lib.hid hk1
        clear hf2 hk1
        go_wp2_with fail
        refine HF2.out.mono ?_
        rintro e w2 ⟨rfl, hk2⟩
        have hk3 := HK1.out.trans hk2
        have hs2 := HSOL2.out w2 hk3
        have HS2 := Lib.hid hs2
        have HK3 := Lib.hid hk3
        clear hs2 hk3
        go_wp2_with fail
        refine HS2.out.mono ?_
        rintro e w3 ⟨rfl, hk4⟩
        go_wp2_with fail
        go_ret
        exact ⟨rfl, HK3.out.trans hk4⟩
    · have hd : decide ((y : Int) = (n : Int)) = false := decide_eq_false (by omega)
      have hdd : ((y : Int) == (n : Int)) = false := by
        have : (y : Int) ≠ (n : Int) := by omega
        simpa using this
      rw [decide_eq_false hq, Bool.false_and] at hZ
      subst hZ
      have HA := Lib.hid hA
      have HB := Lib.hid hb
      have HX := Lib.hid hx
      have HCHK := Lib.hid hchk
      have HFIN := Lib.hid hfin
      have HSOL := Lib.hid hsol
      have HRA := Lib.hid hrA
      have HR := Lib.hid hr
      have H1 := Lib.hid h1
      have H2 := Lib.hid h2
      have H3 := Lib.hid h3
      have HC := Lib.hid hc
      have HS := Lib.hid hS
      have HM1 := Lib.hid hm1
      have HP0 := Lib.hid hp0
      have HP1 := Lib.hid hp1
      clear hA hb hx hchk hfin hsol hrA hr h1 h2 h3 hc hS hm1 hp0 hp1
      go_enter Try.func17, Try.ntmps17
      go_wp2_with fail
      refine HCHK.out.mono ?_
      rintro e w1 ⟨rfl, hk1⟩
      have hp2 := HP1.out w1 hk1
      go_wp2_with fail
      go_ret
      exact ⟨rfl, hk1⟩
  · rw [decide_eq_false hc, Bool.false_and] at hZ
    subst hZ
    obtain ⟨VA, cA, rfl, hrA⟩ := hA.mrow
    obtain ⟨VB, cB, rfl, _⟩ := hb.open
    obtain ⟨VX, cX, rfl, _⟩ := hx.open
    generalize chkE A b = z at *
    generalize A.length = m at *
    generalize b.length = q at *
    generalize x.length = y at *
    have hd : (z == 0) = false := by simpa using hc
    have HA := Lib.hid hA
    have HB := Lib.hid hb
    have HX := Lib.hid hx
    have HCHK := Lib.hid hchk
    have HRA := Lib.hid hrA
    have HR := Lib.hid hr
    have HC := Lib.hid hc
    clear hA hb hx hchk hrA hr hc
    go_enter Try.func17, Try.ntmps17
    go_wp2_with fail
    refine HCHK.out.mono ?_
    rintro e w1 ⟨rfl, hk1⟩
    go_wp2_with fail
    go_ret
    exact ⟨rfl, hk1⟩
end Go.Proofs.Ythpobeeccgmieaa
