/- The walk of coverabilitylaw12.HilbertExact. -/
import Derived.Test.YthpobeeccgmieaaHLaw
import Derived.Test.YthpobeeccgmieaaE2
import Derived.Test.YthpobeeccgmieaaRSameAll
import Derived.Deep.QuietTactic
import Derived.Deep.RegionHeld3

namespace Go.Proofs.Ythpobeeccgmieaa
set_option linter.unusedVariables false
open Go.RowKit

theorem lit_at {α : Type} {R : Rp α} {d : α} {w : World} {l : List Nat} {g n c : Nat} {xs : List α} (h : IsL R d w l (.slice (some ⟨g, 0, none⟩) n c) xs) {i : Nat} (hi : i < xs.length) : ∃ u, w.cell? ⟨g, i, none⟩ = some u ∧ R w l u (xs.getD i d) := by
  obtain ⟨A, c', V, e, _, _, h4, h5⟩ := h
  injection e with e1 e2 e3
  subst e1
  obtain ⟨a, e, _, h6⟩ := h4 (by omega)
  injection e with e
  subst e
  have := h6 i hi
  rw [addz] at this
  exact ⟨_, this, h5 i hi⟩
/-- A matrix as the law takes it. -/
def Few20 (A : List (List Int)) : Prop := A.length ≤ 20 ∧ ∀ r ∈ A, r.length ≤ 20
set_option maxRecDepth 100000 in
set_option maxHeartbeats 8000000 in
theorem hexact_law (w : World) (len cap n1 c1 n2 c2 n3 c3 : Nat) (A0 A1 A2 A3 : Option Addr) (most : Int) (l : Nat → Int) (raw : List (List Int)) (bb x : List Int) (hR : Rd w w.heap.size A0 len (fun i => .int .i64 (l i)))
    (hraw : IsII w [] (.slice A1 n1 c1) raw) (hb : IsI w [] (.slice A2 n2 c2) bb) (hx : IsI w [] (.slice A3 n3 c3) x) (hn1 : n1 = raw.length) (hm1 : n1 ≤ maxLen) (hn2 : n2 = bb.length) (hn3 : n3 = x.length) (hmo1 : -9223372036854775808 ≤ most) (hmo2 : most ≤ 9223372036854775807) :
    Calls Try.prog 3 #[.slice A0 len cap, .slice A1 n1 c1, .slice A2 n2 c2, .slice A3 n3 c3, .int .i64 most] w fun e w' => e = .returned (.bool true) ∧ Below w.heap.size w w' := by
  have hnar := fun W (k : Below w.heap.size w W) => narrow_is (Rok.keeps hraw (k.toK (l := [])) : IsII W [] (.slice A1 n1 c1) raw) hn1 hm1
  have hnt : narB raw = true → Few20 raw := fun h => ⟨(narB_true.1 h).2, (narB_true.1 h).1⟩
  generalize narB raw = nr at *
  have HRAW := Lib.hid hraw
  have HB := Lib.hid hb
  have HX := Lib.hid hx
  have HN1 := Lib.hid hn1
  have HN2 := Lib.hid hn2
  have HN3 := Lib.hid hn3
  have HNAR := Lib.hid hnar
  have HNT := Lib.hid hnt
  have HM1 := Lib.hid hm1
  clear hraw hb hx hn1 hn2 hn3 hnar hnt hm1
  have HR := Lib.hid hR
  clear hR
  by_cases hlen : len ≤ 400
  · have hd : decide ((len : Int) ≤ 400) = true := by simp; omega
    cases nr with
    | true =>
      by_cases h2 : n2 ≤ 20
      · have d2 : decide ((20 : Int) < (n2 : Int)) = false := decide_eq_false (by omega)
        have e2 : decide (20 < n2) = false := decide_eq_false (by omega)
        by_cases h3 : n3 ≤ 20
        · have d3 : decide ((20 : Int) < (n3 : Int)) = false := decide_eq_false (by omega)
          have e3 : decide (20 < n3) = false := decide_eq_false (by omega)
          go_enter Try.func3, Try.ntmps3
          go_wp2_with fail
          refine (awake_any w).mono ?_
          rintro e w1 ⟨rfl, hb1⟩
          have hz1 := hb1.size
          have hnr1 := HNAR.out w1 hb1
          have HNR1 := Lib.hid hnr1
          clear hnr1
          go_wp2_with fail
          refine (few_any w1 A0 len cap).mono ?_
          rintro e w' ⟨rfl, rfl⟩
          rw [hd]
          go_wp2_with fail
          refine HNR1.out.mono ?_
          rintro e w' ⟨rfl, rfl⟩
          go_wp2_with fail
          refine (new_any w1 w.heap.size A0 len cap l (HR.out.below hb1) hlen hz1).mono ?_
          rintro e w2 ⟨rfl, hD2, hb2⟩
          have hz2 := hb2.size
          have hbl2 := hD2.lt
          have hBW := hb1.trans (hb2.mono hz1)
          have HD2 := Lib.hid hD2
          have HBW := Lib.hid hBW
          clear hD2 hBW
          clear hb1 hb2
          generalize w1.heap.size = b at *
          have hw : ∀ y ∈ [b], y ∈ ([] : List Nat) ∨ w.heap.size ≤ y := fun y hy => by rw [List.mem_singleton.1 hy]; exact .inr (by omega)
          have hr2 : IsII w2 [b] (.slice A1 n1 c1) raw := Rok.keeps (Rok.weak HRAW.out hw) HBW.out.toK
          have hb2 : IsI w2 [b] (.slice A2 n2 c2) bb := Rok.keeps (Rok.weak HB.out hw) HBW.out.toK
          have hx2 : IsI w2 [b] (.slice A3 n3 c3) x := Rok.keeps (Rok.weak HX.out hw) HBW.out.toK
          have HR2 := Lib.hid hr2
          have HB2 := Lib.hid hb2
          have HX2 := Lib.hid hx2
          clear hr2 hb2 hx2
          clear hw
          go_wp2_with fail
          refine (next_any w2 b w.heap.size 3 HD2.out (by omega)).mono ?_
          rintro e w3 ⟨r0, rfl, _, hr0, hD3, hK3⟩
          have hr0 := hr0 (by omega)
          have hz3 := hK3.size
          haveI kb3 : KB [b] w3 w2 := ⟨hK3⟩
          have HD3 := Lib.hid hD3
          clear hD3
          clear hK3
          go_wp2_with fail
          refine (next_any w3 b w.heap.size 4 HD3.out (by omega)).mono ?_
          rintro e w4 ⟨c0, rfl, _, hc0, hD4, hK4⟩
          have hc0 := hc0 (by omega)
          have hz4 := hK4.size
          haveI kb4 : KB [b] w4 w3 := ⟨hK4⟩
          have HD4 := Lib.hid hD4
          clear hD4
          clear hK4
          go_wp2_with fail
          obtain ⟨r, hr⟩ : ∃ r : Nat, r = r0 + 1 := ⟨_, rfl⟩
          obtain ⟨c, hc⟩ : ∃ c : Nat, c = c0 + 1 := ⟨_, rfl⟩
          rw [show (1 : Int) + (r0 : Int) = (r : Int) by omega, show (1 : Int) + (c0 : Int) = (c : Int) by omega]
          have hr3 : r ≤ 3 := by omega
          have hc4 : c ≤ 4 := by omega
          clear hr hc hr0 hc0
          refine (matrix_any w4 b w.heap.size r c HD4.out (by omega) (by omega)).mono ?_
          rintro e w5 ⟨MA, cM, M, rfl, hMl, hMe, hMI, hD5, hK5⟩
          have hz5 := hK5.size
          haveI kb5 : KB [b] w5 w4 := ⟨hK5⟩
          clear hK5
          have hb5 : b < w5.heap.size := by omega
          have hfM : Few20 M := ⟨by omega, fun x hx => by have := (hMe x hx).1; omega⟩
          have hms : IsL IsII [] (w5.alloc (.cells #[.slice A1 n1 c1, .slice MA r cM] 23)) [b] (.slice (some ⟨w5.heap.size, 0, none⟩) 2 2) [raw, M] := isL_new (xs := [raw, M]) (by simp; omega) rfl fun i hi => by
            have hc : i = 0 ∨ i = 1 := by simp at hi; omega
            rcases hc with rfl | rfl
            · exact IsII.now HR2.out
            · exact hMI
          have hmf : ∀ A ∈ [raw, M], Few20 A := fun A hA => by
            rcases List.mem_cons.1 hA with rfl | hA
            · exact HNT.out (by first | trivial | rfl)
            · rw [List.mem_singleton.1 hA]; exact hfM
          have hal5 : Keeps [] w5 (w5.alloc (.cells #[.slice A1 n1 c1, .slice MA r cM] 23)) := (Keeps.refl _ _).alloc _
          have hD6 : Deck (w5.alloc (.cells #[.slice A1 n1 c1, .slice MA r cM] 23)) b w.heap.size := hD5.keeps hal5 (by simp) (by simp)
          have hk6 : Keeps [b] w2 (w5.alloc (.cells #[.slice A1 n1 c1, .slice MA r cM] 23)) := (kf [b] w2 w5).trans (hal5.nil _)
          have hb6 : IsI (w5.alloc (.cells #[.slice A1 n1 c1, .slice MA r cM] 23)) [b] (.slice A2 n2 c2) bb := Rok.keeps HB2.out hk6
          have hx6 : IsI (w5.alloc (.cells #[.slice A1 n1 c1, .slice MA r cM] 23)) [b] (.slice A3 n3 c3) x := Rok.keeps HX2.out hk6
          have HMS := Lib.hid hms
          have HMF := Lib.hid hmf
          have HD6 := Lib.hid hD6
          have HK6 := Lib.hid hk6
          have HB6 := Lib.hid hb6
          have HX6 := Lib.hid hx6
          clear hms hmf hD6 hk6 hb6 hx6
          clear hMe hfM hal5 hMI hD5
          go_wp2_with fail
          have hbz6 : b < (w5.alloc (.cells #[.slice A1 n1 c1, .slice MA r cM] 23)).heap.size := by simp; omega
          generalize w5.alloc (.cells #[.slice A1 n1 c1, .slice MA r cM] 23) = w6 at *
          generalize w5.heap.size = g6 at *
          go_loopg [68] 3 (fun gh iv wr => ∃ j : Nat, 3 ≤ j + gh ∧ j ≤ 2 ∧ iv = .int .i64 (j : Int) ∧ Deck wr b w.heap.size ∧ Keeps [b] w6 wr)
          case atStart => exact ⟨0, by omega, by omega, rfl, HD6.out, Keeps.refl _ _⟩
          case round =>
            obtain ⟨j, hgh, hj2, rfl, hDr, hkr⟩ := hrel
            generalize wr = wo at *
            by_cases hj : j < 2
            · obtain ⟨u, hcu, hAu⟩ := lit_at (Rok.keeps HMS.out hkr) hj
              have hf := HMF.out _ (getD_mem (d := []) (show j < ([raw, M] : List (List (List Int))).length from hj))
              generalize ([raw, M] : List (List (List Int))).getD j [] = A at *
              obtain ⟨VA, cA, rfl, _⟩ := hAu.mrow
              have hbo : b < wo.heap.size := Nat.lt_of_lt_of_le hbz6 hkr.size
              have hzo := hkr.size
              have hjj : (j : Int) < 2 := by omega
              generalize hma : A.length = ma at *
              have HAU := Lib.hid hAu
              have HF := Lib.hid hf
              have HMA := Lib.hid hma
              have HDR := Lib.hid hDr
              have HKR := Lib.hid hkr
              clear hAu hf hma hDr hkr
              go_wp2_with fail
              refine (small_any wo b w.heap.size r 3 HDR.out (by omega) (by omega)).mono ?_
              rintro e w7 ⟨X, cX, sm, rfl, hsl, _, hown, hD7, hK7⟩
              have hsI : IsI w7 [b] (.slice X r cX) sm := (isN_own (l := [b]) rfl (by rw [hsl]; exact hown)).isL (fun y hy => by rw [List.mem_singleton.1 hy]; omega)
              have hk67 : Keeps [b] w6 w7 := HKR.out.trans hK7
              have hz7 := hK7.size
              have hal7 : Keeps [] w7 (w7.alloc (.cells #[.slice A2 n2 c2, .slice X r cX] 22)) := (Keeps.refl _ _).alloc _
              have hys : IsL IsI [] (w7.alloc (.cells #[.slice A2 n2 c2, .slice X r cX] 22)) [b] (.slice (some ⟨w7.heap.size, 0, none⟩) 2 2) [bb, sm] := isL_new (xs := [bb, sm]) (by simp; omega) rfl fun i hi => by
                have hc : i = 0 ∨ i = 1 := by simp at hi; omega
                rcases hc with rfl | rfl
                · exact Rok.keeps HB6.out hk67
                · exact hsI
              have hyf : ∀ y ∈ [bb, sm], y.length ≤ 20 := fun y hy => by
                rcases List.mem_cons.1 hy with rfl | hy
                · have := HN2.out; omega
                · rw [List.mem_singleton.1 hy]; omega
              have hD8 : Deck (w7.alloc (.cells #[.slice A2 n2 c2, .slice X r cX] 22)) b w.heap.size := hD7.keeps hal7 (by simp) (by simp)
              have hk68 : Keeps [b] w6 (w7.alloc (.cells #[.slice A2 n2 c2, .slice X r cX] 22)) := hk67.trans (hal7.nil _)
              have hA8 : IsII (w7.alloc (.cells #[.slice A2 n2 c2, .slice X r cX] 22)) [b] (.slice VA ma cA) A := Rok.keeps HAU.out (hK7.trans (hal7.nil _))
              have hbz8 : b < (w7.alloc (.cells #[.slice A2 n2 c2, .slice X r cX] 22)).heap.size := by simp; omega
              have HYS := Lib.hid hys
              have HYF := Lib.hid hyf
              have HD8 := Lib.hid hD8
              have HK68 := Lib.hid hk68
              have HA8 := Lib.hid hA8
              clear hys hyf hD8 hk68 hA8
              clear hown hD7 hK7 hsI hk67 hal7 hcu
              go_wp2_with fail
              generalize w7.alloc (.cells #[.slice A2 n2 c2, .slice X r cX] 22) = w8 at *
              generalize w7.heap.size = g8 at *
              go_loopg [78] 3 (fun gh iv wr => ∃ k : Nat, 3 ≤ k + gh ∧ k ≤ 2 ∧ iv = .int .i64 (k : Int) ∧ Deck wr b w.heap.size ∧ Keeps [b] w8 wr)
              case atStart => exact ⟨0, by omega, by omega, rfl, HD8.out, Keeps.refl _ _⟩
              case round =>
                obtain ⟨k, hgh2, hk2, rfl, hDp, hkp⟩ := hrel
                generalize wr = wp at *
                by_cases hk : k < 2
                · obtain ⟨u2, hcu2, hyu⟩ := lit_at (Rok.keeps HYS.out hkp) hk
                  have hyl := HYF.out _ (getD_mem (d := []) (show k < ([bb, sm] : List (List Int)).length from hk))
                  generalize ([bb, sm] : List (List Int)).getD k [] = y at *
                  obtain ⟨Vy, cy, rfl, _⟩ := hyu.open
                  have hAp : IsII wp [b] (.slice VA ma cA) A := Rok.keeps HA8.out hkp
                  have hxp : IsI wp [b] (.slice A3 n3 c3) x := Rok.keeps HX6.out (HK68.out.trans hkp)
                  have hAn : A.length ≤ 1000000 := by have := HF.out.1; omega
                  have hAr : ∀ r ∈ A, r.length ≤ 1000000 := fun r hr => by have := HF.out.2 r hr; omega
                  have hxl : x.length ≤ 1000000 := by have := HN3.out; omega
                  have hc1 := fun W (k : Keeps [] wp W) => check_is (hAp.new k) (hyu.new k) hAn hAr (by omega)
                  have hc2 := fun W (k : Keeps [] wp W) => rcheck_is (hAp.new k) (hyu.new k) hAn hAr (by omega)
                  have hs1 := fun W (k : Keeps [] wp W) => Solves_is (hAp.new k) (hyu.new k) (hxp.new k) hAn hAr (by omega) hxl
                  have hs2 := fun W (k : Keeps [] wp W) => rsolves_is (hAp.new k) (hyu.new k) (hxp.new k) hAn hAr (by omega) hxl
                  have hkk : (k : Int) < 2 := by omega
                  have hbp : b < wp.heap.size := Nat.lt_of_lt_of_le hbz8 hkp.size
                  generalize chkE A y = z1 at *
                  generalize solvesB A y x = z2 at *
                  generalize hny : y.length = ny at *
                  have HYU := Lib.hid hyu
                  have HYL := Lib.hid hyl
                  have HDP := Lib.hid hDp
                  have HKP := Lib.hid hkp
                  have HC1 := Lib.hid hc1
                  have HC2 := Lib.hid hc2
                  have HS1 := Lib.hid hs1
                  have HS2 := Lib.hid hs2
                  have HNY := Lib.hid hny
                  have HAP := Lib.hid hAp
                  have HXP := Lib.hid hxp
                  have HAN := Lib.hid hAn
                  have HAR := Lib.hid hAr
                  have HXL := Lib.hid hxl
                  clear hyu hyl hDp hkp hc1 hc2 hs1 hs2 hny hAp hxp hAn hAr hxl
                  go_wp2_with (first
                    | ((with_reducible refine (HC1.out _ (kf [] wp _)).mono ?_); rintro e wz1 ⟨rfl, hk⟩; haveI kq : KB [] wz1 _ := ⟨hk⟩; clear hk)
                    | ((with_reducible refine (HC2.out _ (kf [] wp _)).mono ?_); rintro e wz2 ⟨rfl, hk⟩; haveI kq : KB [] wz2 _ := ⟨hk⟩; clear hk)
                    | ((with_reducible refine (HS1.out _ (kf [] wp _)).mono ?_); rintro e wz3 ⟨rfl, hk⟩; haveI kq : KB [] wz3 _ := ⟨hk⟩; clear hk)
                    | ((with_reducible refine (HS2.out _ (kf [] wp _)).mono ?_); rintro e wz4 ⟨rfl, hk⟩; haveI kq : KB [] wz4 _ := ⟨hk⟩; clear hk))
                  have hkp4 : Keeps [] wp wz4 := kf [] wp wz4
                  refine (next_any wz4 b w.heap.size 5 (HDP.out.keeps hkp4 (by simp) (by simp)) (by omega)).mono ?_
                  rintro e w9 ⟨q0, rfl, _, hq0, hD9, hK9⟩
                  have hq0 := hq0 (by omega)
                  have hz9 := hK9.size
                  have hzp4 := hkp4.size
                  have hal9 : Keeps [] w9 (w9.alloc (.cells #[.int .i64 most, .int .i64 (q0 : Int)] 3)) := (Keeps.refl _ _).alloc _
                  have hns : IsI (w9.alloc (.cells #[.int .i64 most, .int .i64 (q0 : Int)] 3)) [b] (.slice (some ⟨w9.heap.size, 0, none⟩) 2 2) [most, (q0 : Int)] := isL_new (R := IsN) (d := 0) (xs := [most, (q0 : Int)]) (by simp; omega) rfl fun i hi => by
                    have hc : i = 0 ∨ i = 1 := by simp at hi; omega
                    rcases hc with rfl | rfl
                    · rfl
                    · rfl
                  have hD10 : Deck (w9.alloc (.cells #[.int .i64 most, .int .i64 (q0 : Int)] 3)) b w.heap.size := hD9.keeps hal9 (by simp) (by simp)
                  have hkp10 : Keeps [b] wp (w9.alloc (.cells #[.int .i64 most, .int .i64 (q0 : Int)] 3)) := ((hkp4.nil _).trans hK9).trans (hal9.nil _)
                  have hA10 : IsII (w9.alloc (.cells #[.int .i64 most, .int .i64 (q0 : Int)] 3)) [b] (.slice VA ma cA) A := Rok.keeps HAP.out hkp10
                  have hy10 : IsI (w9.alloc (.cells #[.int .i64 most, .int .i64 (q0 : Int)] 3)) [b] (.slice Vy ny cy) y := Rok.keeps HYU.out hkp10
                  have hbz10 : b < (w9.alloc (.cells #[.int .i64 most, .int .i64 (q0 : Int)] 3)).heap.size := by simp; omega
                  have hk810 := HKP.out.trans hkp10
                  have HNS := Lib.hid hns
                  have HD10 := Lib.hid hD10
                  have HK810 := Lib.hid hk810
                  have HA10 := Lib.hid hA10
                  have HY10 := Lib.hid hy10
                  clear hns hD10 hk810 hA10 hy10
                  clear hal9 hD9 hK9 hkp10 hkp4 hcu2
                  go_wp2_with fail
                  generalize w9.alloc (.cells #[.int .i64 most, .int .i64 (q0 : Int)] 3) = w10 at *
                  generalize w9.heap.size = g10 at *
                  go_loopg [105] 3 (fun gh iv wr => ∃ q : Nat, 3 ≤ q + gh ∧ q ≤ 2 ∧ iv = .int .i64 (q : Int) ∧ Keeps [] w10 wr)
                  case atStart => exact ⟨0, by omega, by omega, rfl, Keeps.refl _ _⟩
                  case round =>
                    obtain ⟨q, hgh3, hq2, rfl, hkq⟩ := hrel
                    generalize wr = wq at *
                    by_cases hq : q < 2
                    · obtain ⟨u3, hcu3, hyu3⟩ := lit_at (R := IsN) (d := 0) (HNS.out.new hkq) hq
                      have hy3 : u3 = .int .i64 (([most, (q0 : Int)] : List Int).getD q 0) := hyu3
                      have hn0 : -9223372036854775808 ≤ ([most, (q0 : Int)] : List Int).getD q 0 ∧ ([most, (q0 : Int)] : List Int).getD q 0 ≤ 9223372036854775807 := by
                        have hc : q = 0 ∨ q = 1 := by omega
                        rcases hc with rfl | rfl
                        · exact ⟨hmo1, hmo2⟩
                        · show -9223372036854775808 ≤ (q0 : Int) ∧ (q0 : Int) ≤ 9223372036854775807; omega
                      subst hy3
                      generalize ([most, (q0 : Int)] : List Int).getD q 0 = n0 at *
                      obtain ⟨hn01, hn02⟩ := hn0
                      have hqq : (q : Int) < 2 := by omega
                      have hAq := HA10.out.new hkq
                      have hyq := HY10.out.new hkq
                      have hbq : ∀ W, Keeps [] wq W → ∀ y ∈ [b], y < W.heap.size := fun W k y hy => by
                        rw [List.mem_singleton.1 hy]; exact Nat.lt_of_lt_of_le hbz10 (hkq.trans k).size
                      clear hyu3
                      by_cases h5 : 5 < n0
                      · have g5 : decide (5 < n0) = true := decide_eq_true h5
                        by_cases h10 : n0 ≤ 10
                        · have g10 : decide (n0 ≤ 10) = true := decide_eq_true h10
                          have hm1 := fun W (k : Keeps [] wq W) => Minimal_two (lx := [b]) (5) (hAq.new k) (hyq.new k) HAN.out HAR.out (by rw [HNY.out]; have := HYL.out; omega) (hbq W k)
                          have hm2 := fun W (k : Keeps [] wq W) => rMinimal_two (lx := [b]) (5) (hAq.new k) (hyq.new k) HAN.out HAR.out (by rw [HNY.out]; have := HYL.out; omega) (hbq W k)
                          have hf1 := fun W (k : Keeps [] wq W) => Free_two (lx := [b]) (5) (hAq.new k) HAN.out HAR.out (hbq W k)
                          have hf2 := fun W (k : Keeps [] wq W) => rFree_two (lx := [b]) (5) (hAq.new k) HAN.out HAR.out (hbq W k)
                          have hx1 := min_fix A y (5)
                          have hx2 := fre_fix A (5)
                          generalize minE A y (5) = v1 at *
                          generalize freE A (5) = v2 at *
                          have HAQ := Lib.hid hAq
                          have HYQ := Lib.hid hyq
                          have HBQ := Lib.hid hbq
                          have HM1 := Lib.hid hm1
                          have HM2 := Lib.hid hm2
                          have HF1 := Lib.hid hf1
                          have HF2 := Lib.hid hf2
                          have HX1 := Lib.hid hx1
                          have HX2 := Lib.hid hx2
                          have HKQ := Lib.hid hkq
                          clear hAq hyq hbq hm1 hm2 hf1 hf2 hx1 hx2 hkq
                          go_wp2_with fail
                          refine (HM1.out _ (kf [] wq _)).mono ?_
                          rintro e wa1 ⟨U11, m11, k11, ys1, hm11, rfl, hq11, hz11, hi11, hk⟩
                          haveI kqa1 : KB [] wa1 _ := ⟨hk⟩
                          have HM11 := Lib.hid hm11
                          have HQ11 := Lib.hid hq11
                          have HZ11 := Lib.hid hz11
                          have HI11 := Lib.hid hi11
                          clear hm11 hq11 hz11 hi11
                          clear hk
                          go_wp2_with fail
                          refine (HM2.out _ (kf [] wq _)).mono ?_
                          rintro e wb1 ⟨U21, m21, k21, zs1, hm21, rfl, hq2, hz2, hi21, hk⟩
                          haveI kqb1 : KB [] wb1 _ := ⟨hk⟩
                          obtain ⟨ezy, hs1, hs2⟩ := HX1.out.use HQ11.out HZ11.out hq2 hz2
                          rw [ezy] at hi21 hm21
                          have hi1n : IsII wb1 [b] (.slice U11 m11 k11) ys1 := Rok.keeps HI11.out ((kf [] wa1 wb1).nil _)
                          have hsa1 := sameall_is hi1n hi21 hs1 hs1 hs2 hs2
                          rw [decide_eq_true (rfl : ys1 = ys1)] at hsa1
                          have HSA1 := Lib.hid hsa1
                          have HM21 := Lib.hid hm21
                          have HI21 := Lib.hid hi21
                          clear hsa1 hm21 hi21
                          clear hk hq2 hz2 hi1n ezy hs1 hs2
                          go_wp2_with fail
                          refine HSA1.out.mono ?_
                          rintro e wc1 ⟨rfl, hk⟩
                          haveI kqc1 : KB [] wc1 _ := ⟨hk⟩
                          clear hk
                          go_wp2_with fail
                          refine (HF1.out _ (kf [] wq _)).mono ?_
                          rintro e wa2 ⟨U12, m12, k12, ys2, hm12, rfl, hq12, hz12, hi12, hk⟩
                          haveI kqa2 : KB [] wa2 _ := ⟨hk⟩
                          have HM12 := Lib.hid hm12
                          have HQ12 := Lib.hid hq12
                          have HZ12 := Lib.hid hz12
                          have HI12 := Lib.hid hi12
                          clear hm12 hq12 hz12 hi12
                          clear hk
                          go_wp2_with fail
                          refine (HF2.out _ (kf [] wq _)).mono ?_
                          rintro e wb2 ⟨U22, m22, k22, zs2, hm22, rfl, hq2, hz2, hi22, hk⟩
                          haveI kqb2 : KB [] wb2 _ := ⟨hk⟩
                          obtain ⟨ezy, hs1, hs2⟩ := HX2.out.use HQ12.out HZ12.out hq2 hz2
                          rw [ezy] at hi22 hm22
                          have hi1n : IsII wb2 [b] (.slice U12 m12 k12) ys2 := Rok.keeps HI12.out ((kf [] wa2 wb2).nil _)
                          have hsa2 := sameall_is hi1n hi22 hs1 hs1 hs2 hs2
                          rw [decide_eq_true (rfl : ys2 = ys2)] at hsa2
                          have HSA2 := Lib.hid hsa2
                          have HM22 := Lib.hid hm22
                          have HI22 := Lib.hid hi22
                          clear hsa2 hm22 hi22
                          clear hk hq2 hz2 hi1n ezy hs1 hs2
                          go_wp2_with fail
                          refine HSA2.out.mono ?_
                          rintro e wc2 ⟨rfl, hk⟩
                          haveI kqc2 : KB [] wc2 _ := ⟨hk⟩
                          clear hk
                          go_wp2_with fail
                          have hkend := HKQ.out.trans (kf [] wq wc2)
                          have HKEND := Lib.hid hkend
                          clear hkend
                          go_roundg (2 - q)
                          case measure => omega
                          case rel => exact ⟨q + 1, by omega, by omega, by go_num, HKEND.out⟩
                        · have g10 : decide (n0 ≤ 10) = false := decide_eq_false h10
                          have hm1 := fun W (k : Keeps [] wq W) => Minimal_two (lx := [b]) (n0) (hAq.new k) (hyq.new k) HAN.out HAR.out (by rw [HNY.out]; have := HYL.out; omega) (hbq W k)
                          have hm2 := fun W (k : Keeps [] wq W) => rMinimal_two (lx := [b]) (n0) (hAq.new k) (hyq.new k) HAN.out HAR.out (by rw [HNY.out]; have := HYL.out; omega) (hbq W k)
                          have hf1 := fun W (k : Keeps [] wq W) => Free_two (lx := [b]) (n0) (hAq.new k) HAN.out HAR.out (hbq W k)
                          have hf2 := fun W (k : Keeps [] wq W) => rFree_two (lx := [b]) (n0) (hAq.new k) HAN.out HAR.out (hbq W k)
                          have hx1 := min_fix A y (n0)
                          have hx2 := fre_fix A (n0)
                          generalize minE A y (n0) = v1 at *
                          generalize freE A (n0) = v2 at *
                          have HAQ := Lib.hid hAq
                          have HYQ := Lib.hid hyq
                          have HBQ := Lib.hid hbq
                          have HM1 := Lib.hid hm1
                          have HM2 := Lib.hid hm2
                          have HF1 := Lib.hid hf1
                          have HF2 := Lib.hid hf2
                          have HX1 := Lib.hid hx1
                          have HX2 := Lib.hid hx2
                          have HKQ := Lib.hid hkq
                          clear hAq hyq hbq hm1 hm2 hf1 hf2 hx1 hx2 hkq
                          go_wp2_with fail
                          refine (HM1.out _ (kf [] wq _)).mono ?_
                          rintro e wa1 ⟨U11, m11, k11, ys1, hm11, rfl, hq11, hz11, hi11, hk⟩
                          haveI kqa1 : KB [] wa1 _ := ⟨hk⟩
                          have HM11 := Lib.hid hm11
                          have HQ11 := Lib.hid hq11
                          have HZ11 := Lib.hid hz11
                          have HI11 := Lib.hid hi11
                          clear hm11 hq11 hz11 hi11
                          clear hk
                          go_wp2_with fail
                          refine (HM2.out _ (kf [] wq _)).mono ?_
                          rintro e wb1 ⟨U21, m21, k21, zs1, hm21, rfl, hq2, hz2, hi21, hk⟩
                          haveI kqb1 : KB [] wb1 _ := ⟨hk⟩
                          obtain ⟨ezy, hs1, hs2⟩ := HX1.out.use HQ11.out HZ11.out hq2 hz2
                          rw [ezy] at hi21 hm21
                          have hi1n : IsII wb1 [b] (.slice U11 m11 k11) ys1 := Rok.keeps HI11.out ((kf [] wa1 wb1).nil _)
                          have hsa1 := sameall_is hi1n hi21 hs1 hs1 hs2 hs2
                          rw [decide_eq_true (rfl : ys1 = ys1)] at hsa1
                          have HSA1 := Lib.hid hsa1
                          have HM21 := Lib.hid hm21
                          have HI21 := Lib.hid hi21
                          clear hsa1 hm21 hi21
                          clear hk hq2 hz2 hi1n ezy hs1 hs2
                          go_wp2_with fail
                          refine HSA1.out.mono ?_
                          rintro e wc1 ⟨rfl, hk⟩
                          haveI kqc1 : KB [] wc1 _ := ⟨hk⟩
                          clear hk
                          go_wp2_with fail
                          refine (HF1.out _ (kf [] wq _)).mono ?_
                          rintro e wa2 ⟨U12, m12, k12, ys2, hm12, rfl, hq12, hz12, hi12, hk⟩
                          haveI kqa2 : KB [] wa2 _ := ⟨hk⟩
                          have HM12 := Lib.hid hm12
                          have HQ12 := Lib.hid hq12
                          have HZ12 := Lib.hid hz12
                          have HI12 := Lib.hid hi12
                          clear hm12 hq12 hz12 hi12
                          clear hk
                          go_wp2_with fail
                          refine (HF2.out _ (kf [] wq _)).mono ?_
                          rintro e wb2 ⟨U22, m22, k22, zs2, hm22, rfl, hq2, hz2, hi22, hk⟩
                          haveI kqb2 : KB [] wb2 _ := ⟨hk⟩
                          obtain ⟨ezy, hs1, hs2⟩ := HX2.out.use HQ12.out HZ12.out hq2 hz2
                          rw [ezy] at hi22 hm22
                          have hi1n : IsII wb2 [b] (.slice U12 m12 k12) ys2 := Rok.keeps HI12.out ((kf [] wa2 wb2).nil _)
                          have hsa2 := sameall_is hi1n hi22 hs1 hs1 hs2 hs2
                          rw [decide_eq_true (rfl : ys2 = ys2)] at hsa2
                          have HSA2 := Lib.hid hsa2
                          have HM22 := Lib.hid hm22
                          have HI22 := Lib.hid hi22
                          clear hsa2 hm22 hi22
                          clear hk hq2 hz2 hi1n ezy hs1 hs2
                          go_wp2_with fail
                          refine HSA2.out.mono ?_
                          rintro e wc2 ⟨rfl, hk⟩
                          haveI kqc2 : KB [] wc2 _ := ⟨hk⟩
                          clear hk
                          go_wp2_with fail
                          have hkend := HKQ.out.trans (kf [] wq wc2)
                          have HKEND := Lib.hid hkend
                          clear hkend
                          go_roundg (2 - q)
                          case measure => omega
                          case rel => exact ⟨q + 1, by omega, by omega, by go_num, HKEND.out⟩
                      · have g5 : decide (5 < n0) = false := decide_eq_false h5
                        have hm1 := fun W (k : Keeps [] wq W) => Minimal_two (lx := [b]) (n0) (hAq.new k) (hyq.new k) HAN.out HAR.out (by rw [HNY.out]; have := HYL.out; omega) (hbq W k)
                        have hm2 := fun W (k : Keeps [] wq W) => rMinimal_two (lx := [b]) (n0) (hAq.new k) (hyq.new k) HAN.out HAR.out (by rw [HNY.out]; have := HYL.out; omega) (hbq W k)
                        have hf1 := fun W (k : Keeps [] wq W) => Free_two (lx := [b]) (n0) (hAq.new k) HAN.out HAR.out (hbq W k)
                        have hf2 := fun W (k : Keeps [] wq W) => rFree_two (lx := [b]) (n0) (hAq.new k) HAN.out HAR.out (hbq W k)
                        have hx1 := min_fix A y (n0)
                        have hx2 := fre_fix A (n0)
                        generalize minE A y (n0) = v1 at *
                        generalize freE A (n0) = v2 at *
                        have HAQ := Lib.hid hAq
                        have HYQ := Lib.hid hyq
                        have HBQ := Lib.hid hbq
                        have HM1 := Lib.hid hm1
                        have HM2 := Lib.hid hm2
                        have HF1 := Lib.hid hf1
                        have HF2 := Lib.hid hf2
                        have HX1 := Lib.hid hx1
                        have HX2 := Lib.hid hx2
                        have HKQ := Lib.hid hkq
                        clear hAq hyq hbq hm1 hm2 hf1 hf2 hx1 hx2 hkq
                        go_wp2_with fail
                        refine (HM1.out _ (kf [] wq _)).mono ?_
                        rintro e wa1 ⟨U11, m11, k11, ys1, hm11, rfl, hq11, hz11, hi11, hk⟩
                        haveI kqa1 : KB [] wa1 _ := ⟨hk⟩
                        have HM11 := Lib.hid hm11
                        have HQ11 := Lib.hid hq11
                        have HZ11 := Lib.hid hz11
                        have HI11 := Lib.hid hi11
                        clear hm11 hq11 hz11 hi11
                        clear hk
                        go_wp2_with fail
                        refine (HM2.out _ (kf [] wq _)).mono ?_
                        rintro e wb1 ⟨U21, m21, k21, zs1, hm21, rfl, hq2, hz2, hi21, hk⟩
                        haveI kqb1 : KB [] wb1 _ := ⟨hk⟩
                        obtain ⟨ezy, hs1, hs2⟩ := HX1.out.use HQ11.out HZ11.out hq2 hz2
                        rw [ezy] at hi21 hm21
                        have hi1n : IsII wb1 [b] (.slice U11 m11 k11) ys1 := Rok.keeps HI11.out ((kf [] wa1 wb1).nil _)
                        have hsa1 := sameall_is hi1n hi21 hs1 hs1 hs2 hs2
                        rw [decide_eq_true (rfl : ys1 = ys1)] at hsa1
                        have HSA1 := Lib.hid hsa1
                        have HM21 := Lib.hid hm21
                        have HI21 := Lib.hid hi21
                        clear hsa1 hm21 hi21
                        clear hk hq2 hz2 hi1n ezy hs1 hs2
                        go_wp2_with fail
                        refine HSA1.out.mono ?_
                        rintro e wc1 ⟨rfl, hk⟩
                        haveI kqc1 : KB [] wc1 _ := ⟨hk⟩
                        clear hk
                        go_wp2_with fail
                        refine (HF1.out _ (kf [] wq _)).mono ?_
                        rintro e wa2 ⟨U12, m12, k12, ys2, hm12, rfl, hq12, hz12, hi12, hk⟩
                        haveI kqa2 : KB [] wa2 _ := ⟨hk⟩
                        have HM12 := Lib.hid hm12
                        have HQ12 := Lib.hid hq12
                        have HZ12 := Lib.hid hz12
                        have HI12 := Lib.hid hi12
                        clear hm12 hq12 hz12 hi12
                        clear hk
                        go_wp2_with fail
                        refine (HF2.out _ (kf [] wq _)).mono ?_
                        rintro e wb2 ⟨U22, m22, k22, zs2, hm22, rfl, hq2, hz2, hi22, hk⟩
                        haveI kqb2 : KB [] wb2 _ := ⟨hk⟩
                        obtain ⟨ezy, hs1, hs2⟩ := HX2.out.use HQ12.out HZ12.out hq2 hz2
                        rw [ezy] at hi22 hm22
                        have hi1n : IsII wb2 [b] (.slice U12 m12 k12) ys2 := Rok.keeps HI12.out ((kf [] wa2 wb2).nil _)
                        have hsa2 := sameall_is hi1n hi22 hs1 hs1 hs2 hs2
                        rw [decide_eq_true (rfl : ys2 = ys2)] at hsa2
                        have HSA2 := Lib.hid hsa2
                        have HM22 := Lib.hid hm22
                        have HI22 := Lib.hid hi22
                        clear hsa2 hm22 hi22
                        clear hk hq2 hz2 hi1n ezy hs1 hs2
                        go_wp2_with fail
                        refine HSA2.out.mono ?_
                        rintro e wc2 ⟨rfl, hk⟩
                        haveI kqc2 : KB [] wc2 _ := ⟨hk⟩
                        clear hk
                        go_wp2_with fail
                        have hkend := HKQ.out.trans (kf [] wq wc2)
                        have HKEND := Lib.hid hkend
                        clear hkend
                        go_roundg (2 - q)
                        case measure => omega
                        case rel => exact ⟨q + 1, by omega, by omega, by go_num, HKEND.out⟩
                    · obtain rfl : q = 2 := by omega
                      have hkk2 := HK810.out.trans (hkq.nil _)
                      have hDz := HD10.out.keeps hkq (by simp) (by simp)
                      have HKK2 := Lib.hid hkk2
                      have HDZ := Lib.hid hDz
                      have HKQ := Lib.hid hkq
                      clear hkk2 hDz hkq
                      go_wp2_with fail
                      go_roundg (2 - k)
                      case measure => omega
                      case rel => exact ⟨k + 1, by omega, by omega, by go_num, HDZ.out, HKK2.out⟩
                · obtain rfl : k = 2 := by omega
                  have esmall := enters_of Try.func14 (by kernel_rfl) rfl
                  have hmk := run_make_n sl_int c (by omega)
                  have hbp : b < wp.heap.size := Nat.lt_of_lt_of_le hbz8 hkp.size
                  have HDP := Lib.hid hDp
                  have HKP := Lib.hid hkp
                  clear hDp hkp
                  go_upto_region 28 with fail
                  go_region_held3 (fun W => True) (exact trivial) (first
                    | (refine step_callw 14 #[.tmp 162, .tmp 163, .const (.int .i64 2)] _ rfl esmall (small_any _ b w.heap.size c 2 (HDP.out.keeps (kf [] wp _) (by simp) (by simp)) (by omega) (by omega)) (by first | rfl | (simp [Region.wanted, yielded]; done) | simp [Region.wanted, yielded, Act.put]) (by first | (simp [Act.eval]; done) | (simp only [Act.eval, Act.put]; simp; done) | simp [Act.eval, Act.put]) ?_; rintro e w11 ⟨X2, cX2, s2, rfl, hs2l, _, hown2, hD11, hK11⟩; refine ⟨_, rfl, ?_⟩))
                  · have hs2I : IsI w11 [b] (.slice X2 c cX2) s2 := (isN_own (l := [b]) rfl (by rw [hs2l]; exact hown2)).isL (fun y hy => by rw [List.mem_singleton.1 hy]; simpa using hbp)
                    have hz11 := hK11.size
                    have hb11 : b < w11.heap.size := by simp at hz11; omega
                    have hkm : Keeps [] w11 (w11.alloc (.cells (madeCells #[Value.int .i64 0] c) 3)) := (Keeps.refl _ _).alloc _
                    have hzI : IsI (w11.alloc (.cells (madeCells #[Value.int .i64 0] c) 3)) [b] (.slice (some ⟨w11.heap.size, 0, none⟩) c c) (List.replicate c 0) := Own.isI (f := fun _ => 0) (own_made w11 (.int .i64 0) rfl c 3) (fun h => by have := List.mem_singleton.1 h; omega) (Nat.le_refl _) (by simp) (fun i hi => by simp [List.getD_eq_getElem?_getD, hi])
                    have hkm8 : Keeps [b] wp (w11.alloc (.cells (madeCells #[Value.int .i64 0] c) 3)) := ((Keeps.refl _ _).drew.trans hK11).trans (hkm.nil _)
                    have hDm : Deck (w11.alloc (.cells (madeCells #[Value.int .i64 0] c) 3)) b w.heap.size := hD11.keeps hkm (by simp) (by simp)
                    have hs2m := hs2I.new hkm
                    have hbm : b < (w11.alloc (.cells (madeCells #[Value.int .i64 0] c) 3)).heap.size := by simp; omega
                    clear hown2 hK11 hD11 hkm hs2I
                    have hgm : (w11.alloc (.cells (madeCells #[Value.int .i64 0] c) 3)).heap.size = w11.heap.size + 1 := by simp
                    generalize w11.alloc (.cells (madeCells #[Value.int .i64 0] c) 3) = wm at *
                    generalize w11.heap.size = gm at *
                    have halz : Keeps [] wm (wm.alloc (.cells #[.slice A3 n3 c3, .slice X2 c cX2, .slice (some ⟨gm, 0, none⟩) c c] 22)) := (Keeps.refl _ _).alloc _
                    have hk8m := HKP.out.trans hkm8
                    have hzs : IsL IsI [] (wm.alloc (.cells #[.slice A3 n3 c3, .slice X2 c cX2, .slice (some ⟨gm, 0, none⟩) c c] 22)) [b] (.slice (some ⟨wm.heap.size, 0, none⟩) 3 3) [x, s2, List.replicate c 0] := isL_new (xs := [x, s2, List.replicate c 0]) (by simp; omega) rfl fun i hi => by
                      have hc : i = 0 ∨ i = 1 ∨ i = 2 := by simp at hi; omega
                      rcases hc with rfl | rfl | rfl
                      · exact Rok.keeps HX6.out (HK68.out.trans hk8m)
                      · exact hs2m
                      · exact hzI
                    have hzf : ∀ z ∈ [x, s2, List.replicate c 0], z.length ≤ 20 := fun z hz => by
                      rcases List.mem_cons.1 hz with rfl | hz
                      · have := HN3.out; omega
                      · rcases List.mem_cons.1 hz with rfl | hz
                        · omega
                        · rw [List.mem_singleton.1 hz, List.length_replicate]; omega
                    have hD12 : Deck (wm.alloc (.cells #[.slice A3 n3 c3, .slice X2 c cX2, .slice (some ⟨gm, 0, none⟩) c c] 22)) b w.heap.size := hDm.keeps halz (by simp) (by simp)
                    have hk812 : Keeps [b] w8 (wm.alloc (.cells #[.slice A3 n3 c3, .slice X2 c cX2, .slice (some ⟨gm, 0, none⟩) c c] 22)) := hk8m.trans (halz.nil _)
                    have hA12 : IsII (wm.alloc (.cells #[.slice A3 n3 c3, .slice X2 c cX2, .slice (some ⟨gm, 0, none⟩) c c] 22)) [b] (.slice VA ma cA) A := Rok.keeps HA8.out hk812
                    have hbz12 : b < (wm.alloc (.cells #[.slice A3 n3 c3, .slice X2 c cX2, .slice (some ⟨gm, 0, none⟩) c c] 22)).heap.size := by simp; omega
                    have HZS := Lib.hid hzs
                    have HZF := Lib.hid hzf
                    have HD12 := Lib.hid hD12
                    have HK812 := Lib.hid hk812
                    have HA12 := Lib.hid hA12
                    clear hzs hzf hD12 hk812 hA12
                    clear halz hk8m hDm hs2m hzI hkm8
                    go_wp2_with fail
                    generalize wm.alloc (.cells #[.slice A3 n3 c3, .slice X2 c cX2, .slice (some ⟨gm, 0, none⟩) c c] 22) = w12 at *
                    generalize wm.heap.size = g12 at *
                    subst hgm
                    go_loopg [169] 4 (fun gh iv wr => ∃ q : Nat, 4 ≤ q + gh ∧ q ≤ 3 ∧ iv = .int .i64 (q : Int) ∧ Keeps [] w12 wr)
                    case atStart => exact ⟨0, by omega, by omega, rfl, Keeps.refl _ _⟩
                    case round =>
                      obtain ⟨q, hgh3, hq2, rfl, hkq⟩ := hrel
                      generalize wr = wq at *
                      by_cases hq : q < 3
                      · obtain ⟨u3, hcu3, hyu3⟩ := lit_at (Rok.keeps HZS.out (hkq.nil _)) hq
                        have hzl := HZF.out _ (getD_mem (d := []) (show q < ([x, s2, List.replicate c 0] : List (List Int)).length from hq))
                        generalize ([x, s2, List.replicate c 0] : List (List Int)).getD q [] = z at *
                        obtain ⟨Vz, cz, rfl, _⟩ := hyu3.open
                        have hAq := HA12.out.new hkq
                        have hAn : A.length ≤ 1000000 := by have := HF.out.1; omega
                        have hAr : ∀ r ∈ A, r.length ≤ 1000000 := fun r hr => by have := HF.out.2 r hr; omega
                        have hqq : (q : Int) < 3 := by omega
                        have hbq : ∀ W, Keeps [] wq W → ∀ y ∈ [b], y < W.heap.size := fun W k y hy => by
                          rw [List.mem_singleton.1 hy]; exact Nat.lt_of_lt_of_le hbz12 (hkq.trans k).size
                        have hm1 := fun W (k : Keeps [] wq W) => Split_two (lx := [b]) (hAq.new k) (hyu3.new k) hAn hAr (by omega) (hbq W k)
                        have hm2 := fun W (k : Keeps [] wq W) => rSplit_two (lx := [b]) (hAq.new k) (hyu3.new k) hAn hAr (by omega) (hbq W k) (fun y hy => hy)
                        have hx1 := spl_fix A z
                        generalize sclE A z = v1 at *
                        generalize hnz : z.length = nz at *
                        have HAQ := Lib.hid hAq
                        have HYU3 := Lib.hid hyu3
                        have HBQ := Lib.hid hbq
                        have HM1 := Lib.hid hm1
                        have HM2 := Lib.hid hm2
                        have HX1 := Lib.hid hx1
                        have HKQ := Lib.hid hkq
                        have HAN := Lib.hid hAn
                        have HAR := Lib.hid hAr
                        have HZL := Lib.hid hzl
                        have HNZ := Lib.hid hnz
                        clear hAq hyu3 hbq hm1 hm2 hx1 hkq hAn hAr hzl hnz
                        go_wp2_with fail
                        refine (HM1.out _ (kf [] wq _)).mono ?_
                        rintro e wa3 ⟨U13, m13, k13, ys3, hm13, rfl, hq13, hz13, hi13, hk⟩
                        haveI kqa3 : KB [] wa3 _ := ⟨hk⟩
                        have HM13 := Lib.hid hm13
                        have HQ13 := Lib.hid hq13
                        have HZ13 := Lib.hid hz13
                        have HI13 := Lib.hid hi13
                        clear hm13 hq13 hz13 hi13
                        clear hk
                        go_wp2_with fail
                        refine (HM2.out _ (kf [] wq _)).mono ?_
                        rintro e wb3 ⟨U23, m23, k23, zs3, hm23, rfl, hq2, hz2, hi23, hk⟩
                        haveI kqb3 : KB [] wb3 _ := ⟨hk⟩
                        obtain ⟨ezy, hs1, hs2⟩ := HX1.out.use HQ13.out HZ13.out hq2 hz2
                        rw [ezy] at hi23 hm23
                        have hi1n : IsII wb3 [b] (.slice U13 m13 k13) ys3 := Rok.keeps HI13.out ((kf [] wa3 wb3).nil _)
                        have hsa3 := sameall_is hi1n hi23 hs1 hs1 hs2 hs2
                        rw [decide_eq_true (rfl : ys3 = ys3)] at hsa3
                        have HSA3 := Lib.hid hsa3
                        have HM23 := Lib.hid hm23
                        have HI23 := Lib.hid hi23
                        clear hsa3 hm23 hi23
                        clear hk hq2 hz2 hi1n ezy hs1 hs2
                        go_wp2_with fail
                        refine HSA3.out.mono ?_
                        rintro e wc3 ⟨rfl, hk⟩
                        haveI kqc3 : KB [] wc3 _ := ⟨hk⟩
                        clear hk
                        go_wp2_with fail
                        have hkend := HKQ.out.trans (kf [] wq wc3)
                        have HKEND := Lib.hid hkend
                        clear hkend
                        go_roundg (3 - q)
                        case measure => omega
                        case rel => exact ⟨q + 1, by omega, by omega, by go_num, HKEND.out⟩
                      · obtain rfl : q = 3 := by omega
                        have hkk2 := HK68.out.trans (HK812.out.trans (hkq.nil _))
                        have hDz := HD12.out.keeps hkq (by simp) (by simp)
                        have HKK2 := Lib.hid hkk2
                        have HDZ := Lib.hid hDz
                        have HKQ := Lib.hid hkq
                        clear hkk2 hDz hkq
                        go_wp2_with fail
                        go_roundg (2 - j)
                        case measure => omega
                        case rel => exact ⟨j + 1, by omega, by omega, by go_num, HDZ.out, HKK2.out⟩
                  · have hbd : b < (wp.alloc (.cells (madeCells #[Value.int .i64 0] c) 3)).drew.heap.size := by simp; omega
                    have hs2m : IsI w11 [b] (.slice X2 c cX2) s2 := (isN_own (l := [b]) rfl (by rw [hs2l]; exact hown2)).isL (fun y hy => by rw [List.mem_singleton.1 hy]; exact hbd)
                    have hbm : b < w11.heap.size := Nat.lt_of_lt_of_le hbd hK11.size
                    have hzI0 : IsI (wp.alloc (.cells (madeCells #[Value.int .i64 0] c) 3)) [b] (.slice (some ⟨wp.heap.size, 0, none⟩) c c) (List.replicate c 0) := Own.isI (f := fun _ => 0) (own_made wp (.int .i64 0) rfl c 3) (fun h => by have := List.mem_singleton.1 h; omega) (Nat.le_refl _) (by simp) (fun i hi => by simp [List.getD_eq_getElem?_getD, hi])
                    have hzI : IsI w11 [b] (.slice (some ⟨wp.heap.size, 0, none⟩) c c) (List.replicate c 0) := Rok.keeps hzI0 ((Keeps.refl _ _).drew.trans hK11)
                    have hkm8 : Keeps [b] wp w11 := ((Keeps.refl _ _).alloc _).drew.trans hK11
                    have hDm := hD11
                    clear hown2 hK11 hD11 hzI0 hbd
                    generalize w11 = wm at *
                    generalize wp.heap.size = gm at *
                    have halz : Keeps [] wm (wm.alloc (.cells #[.slice A3 n3 c3, .slice X2 c cX2, .slice (some ⟨gm, 0, none⟩) c c] 22)) := (Keeps.refl _ _).alloc _
                    have hk8m := HKP.out.trans hkm8
                    have hzs : IsL IsI [] (wm.alloc (.cells #[.slice A3 n3 c3, .slice X2 c cX2, .slice (some ⟨gm, 0, none⟩) c c] 22)) [b] (.slice (some ⟨wm.heap.size, 0, none⟩) 3 3) [x, s2, List.replicate c 0] := isL_new (xs := [x, s2, List.replicate c 0]) (by simp; omega) rfl fun i hi => by
                      have hc : i = 0 ∨ i = 1 ∨ i = 2 := by simp at hi; omega
                      rcases hc with rfl | rfl | rfl
                      · exact Rok.keeps HX6.out (HK68.out.trans hk8m)
                      · exact hs2m
                      · exact hzI
                    have hzf : ∀ z ∈ [x, s2, List.replicate c 0], z.length ≤ 20 := fun z hz => by
                      rcases List.mem_cons.1 hz with rfl | hz
                      · have := HN3.out; omega
                      · rcases List.mem_cons.1 hz with rfl | hz
                        · omega
                        · rw [List.mem_singleton.1 hz, List.length_replicate]; omega
                    have hD12 : Deck (wm.alloc (.cells #[.slice A3 n3 c3, .slice X2 c cX2, .slice (some ⟨gm, 0, none⟩) c c] 22)) b w.heap.size := hDm.keeps halz (by simp) (by simp)
                    have hk812 : Keeps [b] w8 (wm.alloc (.cells #[.slice A3 n3 c3, .slice X2 c cX2, .slice (some ⟨gm, 0, none⟩) c c] 22)) := hk8m.trans (halz.nil _)
                    have hA12 : IsII (wm.alloc (.cells #[.slice A3 n3 c3, .slice X2 c cX2, .slice (some ⟨gm, 0, none⟩) c c] 22)) [b] (.slice VA ma cA) A := Rok.keeps HA8.out hk812
                    have hbz12 : b < (wm.alloc (.cells #[.slice A3 n3 c3, .slice X2 c cX2, .slice (some ⟨gm, 0, none⟩) c c] 22)).heap.size := by simp; omega
                    have HZS := Lib.hid hzs
                    have HZF := Lib.hid hzf
                    have HD12 := Lib.hid hD12
                    have HK812 := Lib.hid hk812
                    have HA12 := Lib.hid hA12
                    clear hzs hzf hD12 hk812 hA12
                    clear halz hk8m hDm hs2m hzI hkm8
                    go_wp2_with fail
                    generalize wm.alloc (.cells #[.slice A3 n3 c3, .slice X2 c cX2, .slice (some ⟨gm, 0, none⟩) c c] 22) = w12 at *
                    generalize wm.heap.size = g12 at *
                    skip
                    go_loopg [169] 4 (fun gh iv wr => ∃ q : Nat, 4 ≤ q + gh ∧ q ≤ 3 ∧ iv = .int .i64 (q : Int) ∧ Keeps [] w12 wr)
                    case atStart => exact ⟨0, by omega, by omega, rfl, Keeps.refl _ _⟩
                    case round =>
                      obtain ⟨q, hgh3, hq2, rfl, hkq⟩ := hrel
                      generalize wr = wq at *
                      by_cases hq : q < 3
                      · obtain ⟨u3, hcu3, hyu3⟩ := lit_at (Rok.keeps HZS.out (hkq.nil _)) hq
                        have hzl := HZF.out _ (getD_mem (d := []) (show q < ([x, s2, List.replicate c 0] : List (List Int)).length from hq))
                        generalize ([x, s2, List.replicate c 0] : List (List Int)).getD q [] = z at *
                        obtain ⟨Vz, cz, rfl, _⟩ := hyu3.open
                        have hAq := HA12.out.new hkq
                        have hAn : A.length ≤ 1000000 := by have := HF.out.1; omega
                        have hAr : ∀ r ∈ A, r.length ≤ 1000000 := fun r hr => by have := HF.out.2 r hr; omega
                        have hqq : (q : Int) < 3 := by omega
                        have hbq : ∀ W, Keeps [] wq W → ∀ y ∈ [b], y < W.heap.size := fun W k y hy => by
                          rw [List.mem_singleton.1 hy]; exact Nat.lt_of_lt_of_le hbz12 (hkq.trans k).size
                        have hm1 := fun W (k : Keeps [] wq W) => Split_two (lx := [b]) (hAq.new k) (hyu3.new k) hAn hAr (by omega) (hbq W k)
                        have hm2 := fun W (k : Keeps [] wq W) => rSplit_two (lx := [b]) (hAq.new k) (hyu3.new k) hAn hAr (by omega) (hbq W k) (fun y hy => hy)
                        have hx1 := spl_fix A z
                        generalize sclE A z = v1 at *
                        generalize hnz : z.length = nz at *
                        have HAQ := Lib.hid hAq
                        have HYU3 := Lib.hid hyu3
                        have HBQ := Lib.hid hbq
                        have HM1 := Lib.hid hm1
                        have HM2 := Lib.hid hm2
                        have HX1 := Lib.hid hx1
                        have HKQ := Lib.hid hkq
                        have HAN := Lib.hid hAn
                        have HAR := Lib.hid hAr
                        have HZL := Lib.hid hzl
                        have HNZ := Lib.hid hnz
                        clear hAq hyu3 hbq hm1 hm2 hx1 hkq hAn hAr hzl hnz
                        go_wp2_with fail
                        refine (HM1.out _ (kf [] wq _)).mono ?_
                        rintro e wa3 ⟨U13, m13, k13, ys3, hm13, rfl, hq13, hz13, hi13, hk⟩
                        haveI kqa3 : KB [] wa3 _ := ⟨hk⟩
                        have HM13 := Lib.hid hm13
                        have HQ13 := Lib.hid hq13
                        have HZ13 := Lib.hid hz13
                        have HI13 := Lib.hid hi13
                        clear hm13 hq13 hz13 hi13
                        clear hk
                        go_wp2_with fail
                        refine (HM2.out _ (kf [] wq _)).mono ?_
                        rintro e wb3 ⟨U23, m23, k23, zs3, hm23, rfl, hq2, hz2, hi23, hk⟩
                        haveI kqb3 : KB [] wb3 _ := ⟨hk⟩
                        obtain ⟨ezy, hs1, hs2⟩ := HX1.out.use HQ13.out HZ13.out hq2 hz2
                        rw [ezy] at hi23 hm23
                        have hi1n : IsII wb3 [b] (.slice U13 m13 k13) ys3 := Rok.keeps HI13.out ((kf [] wa3 wb3).nil _)
                        have hsa3 := sameall_is hi1n hi23 hs1 hs1 hs2 hs2
                        rw [decide_eq_true (rfl : ys3 = ys3)] at hsa3
                        have HSA3 := Lib.hid hsa3
                        have HM23 := Lib.hid hm23
                        have HI23 := Lib.hid hi23
                        clear hsa3 hm23 hi23
                        clear hk hq2 hz2 hi1n ezy hs1 hs2
                        go_wp2_with fail
                        refine HSA3.out.mono ?_
                        rintro e wc3 ⟨rfl, hk⟩
                        haveI kqc3 : KB [] wc3 _ := ⟨hk⟩
                        clear hk
                        go_wp2_with fail
                        have hkend := HKQ.out.trans (kf [] wq wc3)
                        have HKEND := Lib.hid hkend
                        clear hkend
                        go_roundg (3 - q)
                        case measure => omega
                        case rel => exact ⟨q + 1, by omega, by omega, by go_num, HKEND.out⟩
                      · obtain rfl : q = 3 := by omega
                        have hkk2 := HK68.out.trans (HK812.out.trans (hkq.nil _))
                        have hDz := HD12.out.keeps hkq (by simp) (by simp)
                        have HKK2 := Lib.hid hkk2
                        have HDZ := Lib.hid hDz
                        have HKQ := Lib.hid hkq
                        clear hkk2 hDz hkq
                        go_wp2_with fail
                        go_roundg (2 - j)
                        case measure => omega
                        case rel => exact ⟨j + 1, by omega, by omega, by go_num, HDZ.out, HKK2.out⟩
            · obtain rfl : j = 2 := by omega
              have hfin : Keeps [b] w2 wo := HK6.out.trans hkr
              have HFIN := Lib.hid hfin
              have HDR := Lib.hid hDr
              have HKR := Lib.hid hkr
              clear hfin hDr hkr
              go_wp2_with fail
              go_ret
              exact ⟨rfl, HBW.out.trans (HFIN.out.below (by simp; omega) (by omega))⟩
        · have d3 : decide ((20 : Int) < (n3 : Int)) = true := decide_eq_true (by omega)
          have e3 : decide (20 < n3) = true := decide_eq_true (by omega)
          go_enter Try.func3, Try.ntmps3
          go_wp2_with fail
          refine (awake_any w).mono ?_
          rintro e w1 ⟨rfl, hb1⟩
          have hnr1 := HNAR.out w1 hb1
          have HNR1 := Lib.hid hnr1
          clear hnr1
          go_wp2_with fail
          refine (few_any w1 A0 len cap).mono ?_
          rintro e w' ⟨rfl, rfl⟩
          rw [hd]
          go_wp2_with fail
          refine HNR1.out.mono ?_
          rintro e w' ⟨rfl, rfl⟩
          go_wp2_with fail
          refine (awake_any w1).mono ?_
          rintro e w2 ⟨rfl, hb2⟩
          go_wp2_with fail
          go_ret
          exact ⟨rfl, hb1.trans (hb2.mono hb1.size)⟩
      · have d2 : decide ((20 : Int) < (n2 : Int)) = true := decide_eq_true (by omega)
        have e2 : decide (20 < n2) = true := decide_eq_true (by omega)
        go_enter Try.func3, Try.ntmps3
        go_wp2_with fail
        refine (awake_any w).mono ?_
        rintro e w1 ⟨rfl, hb1⟩
        have hnr1 := HNAR.out w1 hb1
        have HNR1 := Lib.hid hnr1
        clear hnr1
        go_wp2_with fail
        refine (few_any w1 A0 len cap).mono ?_
        rintro e w' ⟨rfl, rfl⟩
        rw [hd]
        go_wp2_with fail
        refine HNR1.out.mono ?_
        rintro e w' ⟨rfl, rfl⟩
        go_wp2_with fail
        refine (awake_any w1).mono ?_
        rintro e w2 ⟨rfl, hb2⟩
        go_wp2_with fail
        go_ret
        exact ⟨rfl, hb1.trans (hb2.mono hb1.size)⟩
    | false =>
      go_enter Try.func3, Try.ntmps3
      go_wp2_with fail
      refine (awake_any w).mono ?_
      rintro e w1 ⟨rfl, hb1⟩
      have hnr1 := HNAR.out w1 hb1
      have HNR1 := Lib.hid hnr1
      clear hnr1
      go_wp2_with fail
      refine (few_any w1 A0 len cap).mono ?_
      rintro e w' ⟨rfl, rfl⟩
      rw [hd]
      go_wp2_with fail
      refine HNR1.out.mono ?_
      rintro e w' ⟨rfl, rfl⟩
      go_wp2_with fail
      refine (awake_any w1).mono ?_
      rintro e w2 ⟨rfl, hb2⟩
      go_wp2_with fail
      go_ret
      exact ⟨rfl, hb1.trans (hb2.mono hb1.size)⟩
  · have hd : decide ((len : Int) ≤ 400) = false := by simp; omega
    go_enter Try.func3, Try.ntmps3
    go_wp2_with fail
    refine (awake_any w).mono ?_
    rintro e w1 ⟨rfl, hb1⟩
    go_wp2_with fail
    refine (few_any w1 A0 len cap).mono ?_
    rintro e w' ⟨rfl, rfl⟩
    rw [hd]
    go_wp2_with fail
    refine (awake_any w1).mono ?_
    rintro e w2 ⟨rfl, hb2⟩
    go_wp2_with fail
    go_ret
    exact ⟨rfl, hb1.trans (hb2.mono hb1.size)⟩
end Go.Proofs.Ythpobeeccgmieaa
