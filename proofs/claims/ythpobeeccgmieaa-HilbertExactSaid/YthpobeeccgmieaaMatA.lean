/- The walks of matrix.Apply, and of hilbert's shape, solves, Check and Solves. -/
import Derived.Test.YthpobeeccgmieaaMat
namespace Go.Proofs.Ythpobeeccgmieaa
set_option linter.unusedVariables false
open Go.RowKit

def ApPost (l : List Nat) (r : Nat) (ys : List Int) (w : World) (e : Ending) (w' : World) : Prop :=
  ∃ V c, e = .returned (.tuple #[.slice V r c, .int .i64 0]) ∧ ys.length = r ∧ IsI w' l (.slice V r c) ys ∧ Keeps [] w w'
theorem Mat.row {A : List (List Int)} {r n : Nat} (h : Mat A r n) {k : Nat} (hk : k < r) : (A.getD k []).length = n ∧ ∀ y ∈ A.getD k [], -16 ≤ y ∧ y ≤ 16 :=
  ⟨h.len _ (getD_mem (by rw [h.rows]; exact hk)), h.ent _ (getD_mem (by rw [h.rows]; exact hk))⟩
theorem all_range {v : List Int} {M : Int} (h : ∀ y ∈ v, -M ≤ y ∧ y ≤ M) : v.all (fun x => decide (-M ≤ x ∧ x ≤ M)) = true := by
  rw [List.all_eq_true]; exact fun x hx => decide_eq_true (h x hx)

set_option maxHeartbeats 1000000 in
theorem apply_is {w : World} {l : List Nat} {av bv : Value} {A : List (List Int)} {v : List Int} {r n : Nat} (hA : IsII w l av A) (hv : IsI w l bv v) (hM : Mat A r n) (hvl : v.length = n) (hvr : ∀ y ∈ v, -1048576 ≤ y ∧ y ≤ 1048576) (hl : ∀ y ∈ l, y < w.heap.size) :
    Calls Try.prog 52 #[av, bv] w (ApPost l r (appL A v) w) := by
  unfold ApPost
  have eg := enters_of Try.func70 (by kernel_rfl) rfl
  have hr12 := hM.r1
  have hc12 := hM.c1
  have hchk := mcheck_is hA (by rw [hM.rows]; omega) (fun x hx => by rw [hM.len x hx]; omega)
  rw [if_pos hM.b.1] at hchk
  have hany := fun W (k : Keeps [] w W) => anyAll_ints (hv.new k) (by omega) eg mapply1_any
  rw [all_range hvr] at hany
  have hdot := fun (k : Nat) (hk : k < r) W (kw : Keeps [] w W) u (hu : IsI W l u (A.getD k [])) => dot_is hu (hv.new kw) (hM.row hk).1 hvl (by omega) (hM.row hk).2 hvr
  have hap : ∀ k, k < r → appL A v = (appL A v).take k ++ dotL (A.getD k []) v :: (appL A v).drop (k + 1) := fun k hk => by
    have hk' : k < (appL A v).length := by simp [appL, hM.rows, hk]
    conv => lhs; rw [← List.take_append_drop k (appL A v), List.drop_eq_getElem_cons hk']
    have : (appL A v)[k] = dotL (A.getD k []) v := by
      simp [appL, List.getD_eq_getElem?_getD, show k < A.length by rw [hM.rows]; exact hk]
    rw [this]
  have htk : ∀ k, k < r → (appL A v).take (k + 1) = (appL A v).take k ++ [dotL (A.getD k []) v] := fun k hk => by
    have hk' : k < (appL A v).length := by simp [appL, hM.rows, hk]
    rw [List.take_succ_eq_append_getElem hk']
    congr 2
    simp [appL, List.getD_eq_getElem?_getD, show k < A.length by rw [hM.rows]; exact hk]
  have hal : (appL A v).length = r := by simp [appL, hM.rows]
  have hl0 : (A.getD 0 []).length = n := (hM.row (by omega)).1
  obtain ⟨V, c, rfl, hr⟩ := hA.mrow
  obtain ⟨B, c', rfl, _, _, hcv⟩ := hv.open
  rw [hM.rows] at hr hchk ⊢
  rw [hvl] at hcv hany hdot ⊢
  obtain ⟨p0, B0, c0, rfl, hp0, _⟩ := hr 0 (by omega)
  have hz : p0.add 0 = p0 := by simp [Addr.add]
  rw [hz, hl0] at hp0
  have hrows := fun k (hk : k < r) => (hM.row hk).1
  obtain ⟨hr1, hr2⟩ := hr12
  obtain ⟨hc1, hc2⟩ := hc12
  have HA := Lib.hid hA
  have HV := Lib.hid hv
  have HM := Lib.hid hM
  have HVL := Lib.hid hvl
  have HVR := Lib.hid hvr
  have HL := Lib.hid hl
  have HCHK := Lib.hid hchk
  have HANY := Lib.hid hany
  have HDOT := Lib.hid hdot
  have HAP := Lib.hid hap
  have HTK := Lib.hid htk
  have HAL := Lib.hid hal
  have HR := Lib.hid hr
  have HCV := Lib.hid hcv
  have HL0 := Lib.hid hl0
  have HROWS := Lib.hid hrows
  clear hA hv hM hvl hvr hl hchk hany hdot hap htk hal hr hcv hl0 hrows
  go_enter Try.func52, Try.ntmps52
  go_wp2_with fail
  refine HCHK.out.mono ?_
  rintro e w1 ⟨rfl, hk1⟩
  have hp1 := hk1.read hp0 (by simp)
  have hany1 := HANY.out w1 hk1
  have HK1 := Lib.hid hk1
  have HANY1 := Lib.hid hany1
  clear hk1 hany1
  go_wp2_with fail
  refine HANY1.out.mono ?_
  rintro e w2 ⟨rfl, hk2⟩
  have hk3 := HK1.out.trans hk2
  have hw2 : w.heap.size ≤ w2.heap.size := hk3.size
  have HK3 := Lib.hid hk3
  clear hk3
  clear hk2
  go_wp2_with fail
  go_loopg [7, 28] (r + 1) (fun gh sv kv wr => ∃ (k : Nat) (V' : Option Addr) (c3 : Nat), r + 1 ≤ k + gh ∧ k ≤ r ∧ kv = .int .i64 (k : Int) ∧ sv = .slice V' k c3 ∧ ((appL A v).take k).length = k ∧ OwL IsN 0 3 w.heap.size wr l (.slice V' k c3) ((appL A v).take k) ∧ Keeps [] w wr)
  case atStart => exact ⟨0, none, 0, by omega, by omega, rfl, rfl, rfl, OwL.nil, HK3.out⟩
  case round =>
    obtain ⟨k, V', c3, hgh, hk, rfl, rfl, htl, hO, hkr⟩ := hrel
    have hzr := hkr.size
    by_cases hlt : k < r
    · obtain ⟨pa, B2, c2, ea, hpa, hI⟩ := (HR.out.new hkr) k hlt
      obtain rfl : pa = p0 := by injection ea with e; exact e.symm
      have hdk := HDOT.out k hlt wr hkr _ hI
      have hqn := HROWS.out k hlt
      rw [hqn] at hpa hI hdk
      have htk := HTK.out k hlt
      have htk1 : ((appL A v).take (k + 1)).length = k + 1 := by rw [List.length_take, HAL.out]; omega
      generalize hd : dotL (A.getD k []) v = d at *
      have HTL := Lib.hid htl
      have HO := Lib.hid hO
      have HKR := Lib.hid hkr
      have HI := Lib.hid hI
      have HDK := Lib.hid hdk
      have HQN := Lib.hid hqn
      have HTK := Lib.hid htk
      have HD := Lib.hid hd
      have HTK1 := Lib.hid htk1
      clear htl hO hkr hI hdk hqn htk hd htk1
      go_wp2_with fail
      refine HDK.out.mono ?_
      rintro e w4 ⟨rfl, hk4⟩
      have hO4 := HO.out.new hk4
      have hk5 := HKR.out.trans hk4
      have hz4 := hk5.size
      have HO4 := Lib.hid hO4
      have HK5 := Lib.hid hk5
      clear hO4 hk5
      clear hk4
      go_wp2_with (at_builtin; refine wpList_push sl_int rfl _ _ rfl (w := w4) (u := .int .i64 d) (y := d) rfl rfl HO4.out rfl (m := k + 1) (by rw [HTL.out]) (by omega) hz4 (w0 := w) (l0 := []) (Nat.le_refl _) HK5.out ?_; intro V6 c6 w6 hown hg6 hk6)
      go_roundg (r - k)
      case measure => omega
      case rel => exact ⟨k + 1, V6, c6, by omega, by omega, by go_num, rfl, HTK1.out, by rw [HTK.out]; exact hown, hk6⟩
    · obtain rfl : k = r := by omega
      have hfull : (appL A v).take k = appL A v := List.take_of_length_le (by rw [HAL.out]; exact Nat.le_refl _)
      rw [hfull] at hO
      have hI := hO.isL HL.out
      have hal := HAL.out
      have HI := Lib.hid hI
      have HKR := Lib.hid hkr
      have HAL := Lib.hid hal
      clear hI hkr hal
      clear hO hfull htl
      go_wp2_with fail
      go_ret2
      exact ⟨V', c3, rfl, HAL.out, HI.out, HKR.out⟩

/-- The matrix of a system with r equations in n unknowns. -/
structure Sys (A : List (List Int)) (r n : Nat) : Prop where
  mat : Mat A r n
  r6 : r ≤ 6
  n6 : n ≤ 6
theorem shB_true {A : List (List Int)} : shB A = true ↔ Sys A A.length (A.getD 0 []).length := by
  unfold shB
  rw [Bool.and_eq_true, Bool.and_eq_true, decide_eq_true_eq, decide_eq_true_eq, matB_true]
  exact ⟨fun ⟨⟨a, b⟩, c⟩ => ⟨a, b, c⟩, fun ⟨a, b, c⟩ => ⟨⟨a, b⟩, c⟩⟩
theorem Sys.b {A : List (List Int)} {r n : Nat} (h : Sys A r n) : shB A = true ∧ A.length = r ∧ (A.getD 0 []).length = n := by
  have h0 := h.mat.b.2
  refine ⟨shB_true.2 ?_, h.mat.rows, h0⟩
  rw [h0, h.mat.rows]; exact h

set_option maxHeartbeats 400000 in
theorem shape_is {w : World} {l : List Nat} {v : Value} {A : List (List Int)} (h : IsII w l v A) (hn : A.length ≤ 1000000) (hx : ∀ r ∈ A, r.length ≤ 1000000) : Calls Try.prog 31 #[v] w (RetN (if shB A = true then 0 else 10) w) := by
  unfold RetN
  have hchk := mcheck_is h hn hx
  unfold shB
  cases hm : matB A with
  | false =>
    rw [hm] at hchk
    obtain ⟨V, c, rfl, hr⟩ := h.mrow
    generalize hlen : A.length = m at *
    have H := Lib.hid h
    have HN := Lib.hid hn
    have HX := Lib.hid hx
    have HM := Lib.hid hm
    have HR := Lib.hid hr
    have HLEN := Lib.hid hlen
    have HCHK := Lib.hid hchk
    clear h hn hx hm hr hlen hchk
    go_enter Try.func31, Try.ntmps31
    go_wp2_with fail
    refine HCHK.out.mono ?_
    rintro e w1 ⟨rfl, hk1⟩
    have HK1 := Lib.hid hk1
    clear hk1
    go_wp2_with fail
    go_ret
    exact ⟨rfl, HK1.out⟩
  | true =>
    rw [hm] at hchk
    have hM := matB_true.1 hm
    obtain ⟨V, c, rfl, hr⟩ := h.mrow
    have hm1 := hM.r1
    have hr0 := hr 0 (by omega)
    generalize hlen : A.length = m at *
    generalize hc : (A.getD 0 []).length = n at *
    obtain ⟨p0, B0, c0, rfl, hp0, _⟩ := hr0
    have hz : p0.add 0 = p0 := by simp [Addr.add]
    rw [hz] at hp0
    have hn12 := hM.c1
    obtain ⟨hm1, hm2⟩ := hm1
    obtain ⟨hn1, hn2⟩ := hn12
    generalize hZ : (if (true && decide (m ≤ 6) && decide (n ≤ 6)) = true then (0 : Int) else 10) = Z
    by_cases h6 : 6 < m
    · have d1 : decide (6 < (m : Int)) = true := decide_eq_true (by omega)
      have hZ10 : Z = 10 := by rw [← hZ, decide_eq_false (show ¬ m ≤ 6 by omega)]; rfl
      have H := Lib.hid h
      have HX := Lib.hid hx
      have HM := Lib.hid hm
      have HR := Lib.hid hr
      have HLEN := Lib.hid hlen
      have HCHK := Lib.hid hchk
      have HM := Lib.hid hM
      have HZ := Lib.hid hZ
      have HZ10 := Lib.hid hZ10
      have HC := Lib.hid hc
      clear h hx hm hr hlen hchk hM hZ hZ10 hc
      go_enter Try.func31, Try.ntmps31
      go_wp2_with fail
      refine HCHK.out.mono ?_
      rintro e w1 ⟨rfl, hk1⟩
      have HK1 := Lib.hid hk1
      clear hk1
      go_wp2_with fail
      go_ret
      exact ⟨ret_ni HZ10.out, HK1.out⟩
    · have d1 : decide (6 < (m : Int)) = false := decide_eq_false (by omega)
      by_cases h7 : 6 < n
      · have d2 : decide (6 < (n : Int)) = true := decide_eq_true (by omega)
        have hZ10 : Z = 10 := by rw [← hZ, decide_eq_false (show ¬ n ≤ 6 by omega), Bool.and_false]; rfl
        have H := Lib.hid h
        have HX := Lib.hid hx
        have HM := Lib.hid hm
        have HR := Lib.hid hr
        have HLEN := Lib.hid hlen
        have HCHK := Lib.hid hchk
        have HM := Lib.hid hM
        have HZ := Lib.hid hZ
        have HZ10 := Lib.hid hZ10
        have HC := Lib.hid hc
        clear h hx hm hr hlen hchk hM hZ hZ10 hc
        go_enter Try.func31, Try.ntmps31
        go_wp2_with fail
        refine HCHK.out.mono ?_
        rintro e w1 ⟨rfl, hk1⟩
        have hp1 := hk1.read hp0 (by simp)
        have HK1 := Lib.hid hk1
        clear hk1
        go_wp2_with fail
        go_ret
        exact ⟨ret_ni HZ10.out, HK1.out⟩
      · have d2 : decide (6 < (n : Int)) = false := decide_eq_false (by omega)
        have hZ0 : Z = 0 := by rw [← hZ, decide_eq_true (show m ≤ 6 by omega), decide_eq_true (show n ≤ 6 by omega)]; rfl
        have H := Lib.hid h
        have HX := Lib.hid hx
        have HM := Lib.hid hm
        have HR := Lib.hid hr
        have HLEN := Lib.hid hlen
        have HCHK := Lib.hid hchk
        have HM := Lib.hid hM
        have HZ := Lib.hid hZ
        have HZ0 := Lib.hid hZ0
        have HC := Lib.hid hc
        clear h hx hm hr hlen hchk hM hZ hZ0 hc
        go_enter Try.func31, Try.ntmps31
        go_wp2_with fail
        refine HCHK.out.mono ?_
        rintro e w1 ⟨rfl, hk1⟩
        have hp1 := hk1.read hp0 (by simp)
        have HK1 := Lib.hid hk1
        clear hk1
        go_wp2_with fail
        go_ret
        exact ⟨ret_ni HZ0.out, HK1.out⟩

/-- v solves the system. -/
def solB (A : List (List Int)) (b v : List Int) : Bool := decide (appL A v = b)
set_option maxRecDepth 100000 in
set_option maxHeartbeats 400000 in
theorem solves_is {w : World} {l : List Nat} {av bv vv : Value} {A : List (List Int)} {b v : List Int} {r n : Nat} (hA : IsII w l av A) (hb : IsI w l bv b) (hv : IsI w l vv v) (hM : Mat A r n) (hbl : b.length ≤ 1000) (hvl : v.length = n) (hvr : ∀ y ∈ v, -1048576 ≤ y ∧ y ≤ 1048576) (hl : ∀ y ∈ l, y < w.heap.size) :
    Calls Try.prog 36 #[av, bv, vv] w (RetB (solB A b v) w) := by
  unfold RetB
  have hap := apply_is hA hv hM hvl hvr hl
  have hr12 := hM.r1
  have heq := fun W (k : Keeps [] w W) u (hu : IsI W l u (appL A v)) => equal_is hu (hb.new k) (by have : (appL A v).length = r := by simp [appL, hM.rows]
                                                                                                   omega) (by omega)
  obtain ⟨V, c, rfl, _⟩ := hA.mrow
  obtain ⟨B, c', rfl, _⟩ := hb.open
  obtain ⟨C, c2, rfl, _⟩ := hv.open
  have hsol : solB A b v = decide (appL A v = b) := rfl
  generalize solB A b v = z at *
  generalize A.length = m at *
  generalize b.length = bn at *
  generalize v.length = vn at *
  generalize appL A v = ys at *
  have HA := Lib.hid hA
  have HB := Lib.hid hb
  have HV := Lib.hid hv
  have HM := Lib.hid hM
  have HVR := Lib.hid hvr
  have HL := Lib.hid hl
  have HAP := Lib.hid hap
  have HEQ := Lib.hid heq
  have HSOL := Lib.hid hsol
  have HVL := Lib.hid hvl
  have HBL := Lib.hid hbl
  have HR12 := Lib.hid hr12
  clear hA hb hv hM hvr hl hap heq hsol hvl hbl hr12
  go_enter Try.func36, Try.ntmps36
  go_wp2_with fail
  refine HAP.out.mono ?_
  rintro e w1 ⟨V1, c1, rfl, hyl, hI, hk1⟩
  have hq := HEQ.out w1 hk1 _ hI
  have HK1 := Lib.hid hk1
  have HQ := Lib.hid hq
  have HI := Lib.hid hI
  have HYL := Lib.hid hyl
  clear hk1 hq hI hyl
  go_wp2_with fail
  refine HQ.out.mono ?_
  rintro e w2 ⟨rfl, q, rfl⟩
  go_wp2_with fail
  go_ret
  exact ⟨ret_b HSOL.out, HK1.out.drewN q⟩
end Go.Proofs.Ythpobeeccgmieaa
