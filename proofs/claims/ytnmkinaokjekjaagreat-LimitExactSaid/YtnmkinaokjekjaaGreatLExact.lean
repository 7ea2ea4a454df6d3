/- The walk of coverabilitylaw08.LimitExact. -/
import Derived.Test.YtnmkinaokjekjaaGreatE2
import Derived.Test.YtnmkinaokjekjaaGreatDeckV
import Derived.Test.YtnmkinaokjekjaaGreatAwake
import Derived.Test.YtnmkinaokjekjaaGreatInter
import Derived.Test.YtnmkinaokjekjaaGreatRSameAll
import Derived.Deep.QuietTactic
namespace Go.Proofs.YtnmkinaokjekjaaGreat
set_option linter.unusedVariables false
open Go.RowKit

theorem lit_at {α : Type} {R : Rp α} {d : α} {w : World} {l : List Nat} {g n c : Nat} {xs : List α} (h : IsL R d w l (.slice (some ⟨g, 0, none⟩) n c) xs) {i : Nat} (hi : i < xs.length) : ∃ u, w.cell? ⟨g, i, none⟩ = some u ∧ R w l u (xs.getD i d) := by
  obtain ⟨A, c', V, e, _, _, h4, h5⟩ := h
  injection e with e1 e2 e3
  subst e1
  obtain ⟨a, e, _, h6⟩ := h4 (by omega)
  injection e with e
  subst e
  have := h6 i hi
  rw [addz] at this
  exact ⟨_, this, h5 i hi⟩
theorem Sm.len6 {R : List (List Int)} (h : Sm R) : R.length ≤ 1000000 := by have := h.1; omega
theorem Sm.row6 {R : List (List Int)} (h : Sm R) : ∀ x ∈ R, x.length ≤ 1000000 := fun x hx => by have := h.2 x hx; omega
set_option maxRecDepth 100000 in
set_option maxHeartbeats 16000000 in
theorem lexact_law (w : World) (len cap : Nat) (n : Int) (n2 c2 n3 c3 n4 c4 : Nat) (A0 A2 A3 A4 : Option Addr) (l : Nat → Int) (ra rb : List (List Int)) (vv : List Int) (hR : Rd w w.heap.size A0 len (fun i => .int .i64 (l i)))
    (ha : IsII w [] (.slice A2 n2 c2) ra) (hb : IsII w [] (.slice A3 n3 c3) rb) (hv : IsI w [] (.slice A4 n4 c4) vv) (hn2 : n2 = ra.length) (hm2 : n2 ≤ maxLen) (hn3 : n3 = rb.length) (hm3 : n3 ≤ maxLen) (hn4 : n4 = vv.length) :
    Calls Tryz.prog 3 #[.slice A0 len cap, .int .i64 n, .slice A2 n2 c2, .slice A3 n3 c3, .slice A4 n4 c4] w fun e w' => e = .returned (.bool true) ∧ Below w.heap.size w w' := by
  have hna := fun W (k : Below w.heap.size w W) => narrow_is (Rok.keeps ha (k.toK (l := [])) : IsII W [] (.slice A2 n2 c2) ra) hn2 hm2
  have hnb := fun W (k : Below w.heap.size w W) => narrow_is (Rok.keeps hb (k.toK (l := [])) : IsII W [] (.slice A3 n3 c3) rb) hn3 hm3
  have hsa : narB ra = true → Sm ra := fun h => ⟨by have := (narB_true.1 h).2; omega, (narB_true.1 h).1⟩
  have hsb : narB rb = true → Sm rb := fun h => ⟨by have := (narB_true.1 h).2; omega, (narB_true.1 h).1⟩
  generalize narB ra = na at *
  generalize narB rb = nb at *
  have HR := Lib.hid hR
  clear hR
  have HA := Lib.hid ha
  have HB := Lib.hid hb
  have HV := Lib.hid hv
  have HN2 := Lib.hid hn2
  have HM2 := Lib.hid hm2
  have HN3 := Lib.hid hn3
  have HM3 := Lib.hid hm3
  have HN4 := Lib.hid hn4
  have HNA := Lib.hid hna
  have HNB := Lib.hid hnb
  have HSA := Lib.hid hsa
  have HSB := Lib.hid hsb
  clear ha hb hv hn2 hm2 hn3 hm3 hn4 hna hnb hsa hsb
  by_cases hlen : len ≤ 400
  · have hd : decide ((len : Int) ≤ 400) = true := by simp; omega
    cases na with
    | false =>
      go_enter Tryz.func3, Tryz.ntmps3
      go_wp2_with fail
      refine (awake_any w).mono ?_
      rintro e w1 ⟨rfl, hb1⟩
      have hz1 := hb1.size
      go_wp2_with fail
      refine (few_any w1 A0 len cap).mono ?_
      rintro e w' ⟨rfl, rfl⟩
      rw [hd]
      have hnr := HNA.out w1 hb1
      have HNR := Lib.hid hnr
      clear hnr
      go_wp2_with fail
      refine HNR.out.mono ?_
      rintro e w' ⟨rfl, rfl⟩
      go_wp2_with fail
      refine (awake_any w1).mono ?_
      rintro e w2 ⟨rfl, hb2⟩
      go_wp2_with fail
      go_ret
      exact ⟨rfl, hb1.trans (hb2.mono hb1.size)⟩
    | true =>
      cases nb with
      | false =>
        go_enter Tryz.func3, Tryz.ntmps3
        go_wp2_with fail
        refine (awake_any w).mono ?_
        rintro e w1 ⟨rfl, hb1⟩
        have hz1 := hb1.size
        go_wp2_with fail
        refine (few_any w1 A0 len cap).mono ?_
        rintro e w' ⟨rfl, rfl⟩
        rw [hd]
        have hnr := HNA.out w1 hb1
        have HNR := Lib.hid hnr
        clear hnr
        go_wp2_with fail
        refine HNR.out.mono ?_
        rintro e w' ⟨rfl, rfl⟩
        have hnr := HNB.out w1 hb1
        have HNR := Lib.hid hnr
        clear hnr
        go_wp2_with fail
        refine HNR.out.mono ?_
        rintro e w' ⟨rfl, rfl⟩
        go_wp2_with fail
        refine (awake_any w1).mono ?_
        rintro e w2 ⟨rfl, hb2⟩
        go_wp2_with fail
        go_ret
        exact ⟨rfl, hb1.trans (hb2.mono hb1.size)⟩
      | true =>
        by_cases h4 : n4 ≤ 20
        · have d4 : decide ((20 : Int) < (n4 : Int)) = false := decide_eq_false (by omega)
          have e4 : decide (20 < n4) = false := decide_eq_false (by omega)
          have hsma := HSA.out rfl
          have hsmb := HSB.out rfl
          have hvl : vv.length ≤ 1000000 := by rw [← HN4.out]; omega
          have HSMA := Lib.hid hsma
          have HSMB := Lib.hid hsmb
          have HVL := Lib.hid hvl
          clear hsma hsmb hvl
          go_enter Tryz.func3, Tryz.ntmps3
          go_wp2_with fail
          refine (awake_any w).mono ?_
          rintro e w1 ⟨rfl, hb1⟩
          have hz1 := hb1.size
          go_wp2_with fail
          refine (few_any w1 A0 len cap).mono ?_
          rintro e w' ⟨rfl, rfl⟩
          rw [hd]
          have hnr := HNA.out w1 hb1
          have HNR := Lib.hid hnr
          clear hnr
          go_wp2_with fail
          refine HNR.out.mono ?_
          rintro e w' ⟨rfl, rfl⟩
          have hnr := HNB.out w1 hb1
          have HNR := Lib.hid hnr
          clear hnr
          go_wp2_with fail
          refine HNR.out.mono ?_
          rintro e w' ⟨rfl, rfl⟩
          go_wp2_with fail
          refine (new_any w1 w.heap.size A0 len cap l (HR.out.below hb1) hlen hz1).mono ?_
          rintro e w2 ⟨rfl, hD2, hb2⟩
          have hz2 := hb2.size
          have hbl2 := hD2.lt
          have hBW := hb1.trans (hb2.mono hz1)
          have HD2 := Lib.hid hD2
          have HBW := Lib.hid hBW
          clear hD2 hBW
          clear hb1 hb2
          generalize w1.heap.size = b at *
          have hw : ∀ y ∈ [b], y ∈ ([] : List Nat) ∨ w.heap.size ≤ y := fun y hy => by rw [List.mem_singleton.1 hy]; exact .inr (by omega)
          have ha2 : IsII w2 [b] (.slice A2 n2 c2) ra := Rok.keeps (Rok.weak HA.out hw) HBW.out.toK
          have hb2 : IsII w2 [b] (.slice A3 n3 c3) rb := Rok.keeps (Rok.weak HB.out hw) HBW.out.toK
          have hv2 : IsI w2 [b] (.slice A4 n4 c4) vv := Rok.keeps (Rok.weak HV.out hw) HBW.out.toK
          have HA2 := Lib.hid ha2
          have HB2 := Lib.hid hb2
          have HV2 := Lib.hid hv2
          clear ha2 hb2 hv2
          clear hw
          go_wp2_with fail
          refine (next_any w2 b w.heap.size 4 HD2.out (by omega)).mono ?_
          rintro e w3 ⟨m0, rfl, _, hm0, hD3, hK3⟩
          have hm0 := hm0 (by omega)
          have hz3 := hK3.size
          haveI kb3 : KB [b] w3 w2 := ⟨hK3⟩
          have HD3 := Lib.hid hD3
          clear hD3
          clear hK3
          go_wp2_with fail
          obtain ⟨m, hmm⟩ : ∃ m : Nat, m = m0 + 1 := ⟨_, rfl⟩
          rw [show (1 : Int) + (m0 : Int) = (m : Int) by omega]
          have hm4 : m ≤ 4 := by omega
          have hm1 : 1 ≤ m := by omega
          clear hmm hm0
          refine (vectors_any w3 b w.heap.size m true 6 HD3.out (by omega) (by omega)).mono ?_
          rintro e w4 ⟨SA, sn, sc, S, hsn, rfl, hsm, hSe, hSI, hD4, hK4⟩
          have hz4 := hK4.size
          haveI kb4 : KB [b] w4 w3 := ⟨hK4⟩
          have hSs : Sm S := ⟨by omega, fun x hx => by rw [(hSe x hx).1]; omega⟩
          have hmx := rmaximise_is (n := (m : Int)) (l := [b]) (fun y hy => by rw [List.mem_singleton.1 hy]; omega) hSI (by have := hSs.1; omega) hSs.row6
          unfold PairR at hmx
          have hXs := maxP_sm (m : Int) hSs.2
          obtain ⟨X, hX⟩ : ∃ X, X = (maxP (m : Int) S).2 := ⟨_, rfl⟩
          rw [← hX] at hmx hXs
          generalize (maxP (m : Int) S).1 = xz at *
          have HD4 := Lib.hid hD4
          have HMX := Lib.hid hmx
          have HSI := Lib.hid hSI
          have HSS := Lib.hid hSs
          have HSN := Lib.hid hsn
          have HXS := Lib.hid hXs
          clear hD4 hmx hSI hSs hsn hXs
          clear hK4 hSe hX
          go_wp2_with fail
          refine HMX.out.mono ?_
          rintro e w5 ⟨hK5, XA, xn, xc, hxn, rfl, hXI⟩
          have hz5 := hK5.size
          haveI kb5 : KB [b] w5 w4 := ⟨hK5.nil _⟩
          have hD5 := HD4.out.keeps hK5 (by simp) (by simp)
          have HD5 := Lib.hid hD5
          have HXI := Lib.hid hXI
          have HXN := Lib.hid hxn
          clear hD5 hXI hxn
          clear hK5
          go_wp2_with fail
          refine (vectors_any w5 b w.heap.size m true 4 HD5.out (by omega) (by omega)).mono ?_
          rintro e w6 ⟨TA, tn, tc, T, htn, rfl, htm, hTe, hTI, hD6, hK6⟩
          have hz6 := hK6.size
          haveI kb6 : KB [b] w6 w5 := ⟨hK6⟩
          have hTs : Sm T := ⟨by omega, fun x hx => by rw [(hTe x hx).1]; omega⟩
          have hmy := rmaximise_is (n := (m : Int)) (l := [b]) (fun y hy => by rw [List.mem_singleton.1 hy]; omega) hTI (by have := hTs.1; omega) hTs.row6
          unfold PairR at hmy
          have hYs := maxP_sm (m : Int) hTs.2
          obtain ⟨Y, hY⟩ : ∃ Y, Y = (maxP (m : Int) T).2 := ⟨_, rfl⟩
          rw [← hY] at hmy hYs
          generalize (maxP (m : Int) T).1 = yz at *
          have HD6 := Lib.hid hD6
          have HMY := Lib.hid hmy
          have HYS := Lib.hid hYs
          have HTN := Lib.hid htn
          clear hD6 hmy hYs htn
          clear hK6 hTe hTI hTs hY
          go_wp2_with fail
          refine HMY.out.mono ?_
          rintro e w7 ⟨hK7, YA, yn, yc, hyn, rfl, hYI⟩
          have hz7 := hK7.size
          haveI kb7 : KB [b] w7 w6 := ⟨hK7.nil _⟩
          have hD7 := HD6.out.keeps hK7 (by simp) (by simp)
          have hal7 : Keeps [] w7 (w7.alloc (.cells #[.int .i64 n, .int .i64 (m : Int)] 3)) := (Keeps.refl _ _).alloc _
          have hns : IsI (w7.alloc (.cells #[.int .i64 n, .int .i64 (m : Int)] 3)) [b] (.slice (some ⟨w7.heap.size, 0, none⟩) 2 2) [n, (m : Int)] := isL_new (R := IsN) (d := 0) (xs := [n, (m : Int)]) (by simp; omega) rfl fun i hi => by
            have hc : i = 0 ∨ i = 1 := by simp at hi; omega
            rcases hc with rfl | rfl
            · rfl
            · rfl
          have hD8 : Deck (w7.alloc (.cells #[.int .i64 n, .int .i64 (m : Int)] 3)) b w.heap.size := hD7.keeps hal7 (by simp) (by simp)
          have hk28 : Keeps [b] w2 (w7.alloc (.cells #[.int .i64 n, .int .i64 (m : Int)] 3)) := (kf [b] w2 w7).trans (hal7.nil _)
          have hk48 : Keeps [b] w4 (w7.alloc (.cells #[.int .i64 n, .int .i64 (m : Int)] 3)) := (kf [b] w4 w7).trans (hal7.nil _)
          have hk58 : Keeps [b] w5 (w7.alloc (.cells #[.int .i64 n, .int .i64 (m : Int)] 3)) := (kf [b] w5 w7).trans (hal7.nil _)
          have ha8 : IsII (w7.alloc (.cells #[.int .i64 n, .int .i64 (m : Int)] 3)) [b] (.slice A2 n2 c2) ra := Rok.keeps HA2.out hk28
          have hb8 : IsII (w7.alloc (.cells #[.int .i64 n, .int .i64 (m : Int)] 3)) [b] (.slice A3 n3 c3) rb := Rok.keeps HB2.out hk28
          have hv8 : IsI (w7.alloc (.cells #[.int .i64 n, .int .i64 (m : Int)] 3)) [b] (.slice A4 n4 c4) vv := Rok.keeps HV2.out hk28
          have hS8 : IsII (w7.alloc (.cells #[.int .i64 n, .int .i64 (m : Int)] 3)) [b] (.slice SA sn sc) S := Rok.keeps HSI.out hk48
          have hX8 : IsII (w7.alloc (.cells #[.int .i64 n, .int .i64 (m : Int)] 3)) [b] (.slice XA xn xc) X := Rok.keeps HXI.out hk58
          have hY8 : IsII (w7.alloc (.cells #[.int .i64 n, .int .i64 (m : Int)] 3)) [b] (.slice YA yn yc) Y := Rok.keeps hYI (hal7.nil _)
          have hbz8 : b < (w7.alloc (.cells #[.int .i64 n, .int .i64 (m : Int)] 3)).heap.size := by simp; omega
          have HNS := Lib.hid hns
          have HD8 := Lib.hid hD8
          have HK28 := Lib.hid hk28
          have HA8 := Lib.hid ha8
          have HB8 := Lib.hid hb8
          have HV8 := Lib.hid hv8
          have HS8 := Lib.hid hS8
          have HX8 := Lib.hid hX8
          have HY8 := Lib.hid hY8
          have HYN := Lib.hid hyn
          clear hns hD8 hk28 ha8 hb8 hv8 hS8 hX8 hY8 hyn
          clear hal7 hk48 hk58 hYI hD7 hK7
          go_wp2_with fail
          generalize w7.alloc (.cells #[.int .i64 n, .int .i64 (m : Int)] 3) = w8 at *
          generalize w7.heap.size = g8 at *
          go_loopg [79] 3 (fun gh iv wr => ∃ j : Nat, 3 ≤ j + gh ∧ j ≤ 2 ∧ iv = .int .i64 (j : Int) ∧ Deck wr b w.heap.size ∧ Keeps [b] w8 wr)
          case atStart => exact ⟨0, by omega, by omega, rfl, HD8.out, Keeps.refl _ _⟩
          case round =>
            obtain ⟨j, hgh, hj2, rfl, hDr, hkr⟩ := hrel
            generalize wr = wo at *
            by_cases hj : j < 2
            · obtain ⟨u, hcu, hku⟩ := lit_at (R := IsN) (d := 0) (Rok.keeps (R := IsL IsN 0) HNS.out hkr) hj
              have hu : u = .int .i64 (([n, (m : Int)] : List Int).getD j 0) := hku
              subst hu
              generalize ([n, (m : Int)] : List Int).getD j 0 = kk at *
              have hbo : b < wo.heap.size := Nat.lt_of_lt_of_le hbz8 hkr.size
              have hjj : (j : Int) < 2 := by omega
              have HDR := Lib.hid hDr
              have HKR := Lib.hid hkr
              clear hDr hkr
              clear hku
              go_wp2_with fail
              refine (vectors_any wo b w.heap.size m false 5 HDR.out (by omega) (by omega)).mono ?_
              rintro e w9 ⟨ZA, zn, zc, Z, hzn, rfl, hzm, hZe, hZI, hD9, hK9⟩
              have hz9 := hK9.size
              have hZs : Sm Z := ⟨by omega, fun x hx => by rw [(hZe x hx).1]; omega⟩
              have hk9 := HKR.out.trans hK9
              have hal9 : Keeps [] w9 (w9.alloc (.cells #[.slice A2 n2 c2, .slice A3 n3 c3, .slice XA xn xc, .slice YA yn yc, .slice SA sn sc, .slice XA xn xc, .slice ZA zn zc, .slice YA yn yc, .slice XA xn xc, .slice A3 n3 c3] 34)) := (Keeps.refl _ _).alloc _
              have hps : IsPairR (w9.alloc (.cells #[.slice A2 n2 c2, .slice A3 n3 c3, .slice XA xn xc, .slice YA yn yc, .slice SA sn sc, .slice XA xn xc, .slice ZA zn zc, .slice YA yn yc, .slice XA xn xc, .slice A3 n3 c3] 34)) [b] (.slice (some ⟨w9.heap.size, 0, none⟩) 5 5) [(ra, rb), (X, Y), (S, X), (Z, Y), (X, rb)] := IsPairR.lit (by simp; omega) rfl rfl fun i hi => by
                have hc : i = 0 ∨ i = 1 ∨ i = 2 ∨ i = 3 ∨ i = 4 := by omega
                rcases hc with rfl | rfl | rfl | rfl | rfl
                · exact ⟨Rok.keeps HA8.out hk9, Rok.keeps HB8.out hk9⟩
                · exact ⟨Rok.keeps HX8.out hk9, Rok.keeps HY8.out hk9⟩
                · exact ⟨Rok.keeps HS8.out hk9, Rok.keeps HX8.out hk9⟩
                · exact ⟨hZI, Rok.keeps HY8.out hk9⟩
                · exact ⟨Rok.keeps HX8.out hk9, Rok.keeps HB8.out hk9⟩
              have hsp : ∀ i, i < 5 → Sm (([(ra, rb), (X, Y), (S, X), (Z, Y), (X, rb)] : List RP).getD i ([], [])).1 ∧ Sm (([(ra, rb), (X, Y), (S, X), (Z, Y), (X, rb)] : List RP).getD i ([], [])).2 := fun i hi => by
                have hc : i = 0 ∨ i = 1 ∨ i = 2 ∨ i = 3 ∨ i = 4 := by omega
                rcases hc with rfl | rfl | rfl | rfl | rfl
                · exact ⟨HSMA.out, HSMB.out⟩
                · exact ⟨HXS.out, HYS.out⟩
                · exact ⟨HSS.out, HXS.out⟩
                · exact ⟨hZs, HYS.out⟩
                · exact ⟨HXS.out, HSMB.out⟩
              have hD10 : Deck (w9.alloc (.cells #[.slice A2 n2 c2, .slice A3 n3 c3, .slice XA xn xc, .slice YA yn yc, .slice SA sn sc, .slice XA xn xc, .slice ZA zn zc, .slice YA yn yc, .slice XA xn xc, .slice A3 n3 c3] 34)) b w.heap.size := hD9.keeps hal9 (by simp) (by simp)
              have hk810 : Keeps [b] w8 (w9.alloc (.cells #[.slice A2 n2 c2, .slice A3 n3 c3, .slice XA xn xc, .slice YA yn yc, .slice SA sn sc, .slice XA xn xc, .slice ZA zn zc, .slice YA yn yc, .slice XA xn xc, .slice A3 n3 c3] 34)) := hk9.trans (hal9.nil _)
              have hv10 : IsI (w9.alloc (.cells #[.slice A2 n2 c2, .slice A3 n3 c3, .slice XA xn xc, .slice YA yn yc, .slice SA sn sc, .slice XA xn xc, .slice ZA zn zc, .slice YA yn yc, .slice XA xn xc, .slice A3 n3 c3] 34)) [b] (.slice A4 n4 c4) vv := Rok.keeps HV8.out hk810
              have hbz10 : b < (w9.alloc (.cells #[.slice A2 n2 c2, .slice A3 n3 c3, .slice XA xn xc, .slice YA yn yc, .slice SA sn sc, .slice XA xn xc, .slice ZA zn zc, .slice YA yn yc, .slice XA xn xc, .slice A3 n3 c3] 34)).heap.size := by simp; omega
              generalize ([(ra, rb), (X, Y), (S, X), (Z, Y), (X, rb)] : List RP) = ps at *
              have HPS := Lib.hid hps
              have HSP := Lib.hid hsp
              have HD10 := Lib.hid hD10
              have HK810 := Lib.hid hk810
              have HV10 := Lib.hid hv10
              have HZN := Lib.hid hzn
              clear hps hsp hD10 hk810 hv10 hzn
              clear hZe hZI hD9 hK9 hZs hk9 hal9
              go_wp2_with fail
              generalize w9.alloc (.cells #[.slice A2 n2 c2, .slice A3 n3 c3, .slice XA xn xc, .slice YA yn yc, .slice SA sn sc, .slice XA xn xc, .slice ZA zn zc, .slice YA yn yc, .slice XA xn xc, .slice A3 n3 c3] 34) = w10 at *
              generalize w9.heap.size = g10 at *
              go_loopg [102] 6 (fun gh iv wr => ∃ q : Nat, 6 ≤ q + gh ∧ q ≤ 5 ∧ iv = .int .i64 (q : Int) ∧ Deck wr b w.heap.size ∧ Keeps [b] w10 wr)
              case atStart => exact ⟨0, by omega, by omega, rfl, HD10.out, Keeps.refl _ _⟩
              case round =>
                obtain ⟨q, hgh2, hq5, rfl, hDp, hkp⟩ := hrel
                generalize wr = wp at *
                by_cases hq : q < 5
                · obtain ⟨a0, u1, u2, ea0, hab, hc1, hc2, hi1, hi2⟩ := (HPS.out.keeps hkp).at_ hq
                  injection ea0 with ea0
                  subst ea0
                  rw [addz] at hc1 hc2
                  replace hc2 : wp.cell? ⟨g10, q * 2 + 1, none⟩ = some u2 := hc2
                  obtain ⟨hs1, hs2⟩ := HSP.out q hq
                  generalize (ps.getD q ([], [])).1 = x at *
                  generalize (ps.getD q ([], [])).2 = y at *
                  obtain ⟨U1, k1, eu1, _⟩ := hi1.mrow
                  obtain ⟨U2, k2, eu2, _⟩ := hi2.mrow
                  subst eu1; subst eu2
                  have hxl := hs1.len6
                  have hyl := hs2.len6
                  have hxr := hs1.row6
                  have hyr := hs2.row6
                  have hbp : b < wp.heap.size := Nat.lt_of_lt_of_le hbz10 hkp.size
                  have hvp : IsI wp [b] (.slice A4 n4 c4) vv := Rok.keeps HV10.out hkp
                  generalize hxn2 : x.length = nx at *
                  generalize hyn2 : y.length = ny at *
                  have hqq : (q : Int) < 5 := by omega
                  have HI1 := Lib.hid hi1
                  have HI2 := Lib.hid hi2
                  have HXN2 := Lib.hid hxn2
                  have HYN2 := Lib.hid hyn2
                  have HDP := Lib.hid hDp
                  have HKP := Lib.hid hkp
                  have HS1 := Lib.hid hs1
                  have HS2 := Lib.hid hs2
                  have HXR := Lib.hid hxr
                  have HYR := Lib.hid hyr
                  have HVP := Lib.hid hvp
                  clear hi1 hi2 hxn2 hyn2 hDp hkp hs1 hs2 hxr hyr hvp
                  clear hab
                  go_wp2_with fail
                  have hp0 := World.cell?_alloc_new wp #[.slice U1 nx k1, .slice U2 ny k2] 34 0
                  have hp1 := World.cell?_alloc_new wp #[.slice U1 nx k1, .slice U2 ny k2] 34 1
                  go_quiet (fail)
                  have hkq : Keeps [] wp ((wp.alloc (.cells #[.slice U1 nx k1, .slice U2 ny k2] 34)).drewN nq) := ((Keeps.refl _ _).alloc _).drewN _
                  generalize (wp.alloc (.cells #[.slice U1 nx k1, .slice U2 ny k2] 34)).drewN nq = wq at *
                  have hx : IsII wq [b] (.slice U1 nx k1) x := HI1.out.new hkq
                  have hy : IsII wq [b] (.slice U2 ny k2) y := HI2.out.new hkq
                  have hvq : IsI wq [b] (.slice A4 n4 c4) vv := HVP.out.new hkq
                  have hbq : ∀ W, Keeps [] wq W → ∀ y ∈ [b], y < W.heap.size := fun W k y hy => by
                    rw [List.mem_singleton.1 hy]; exact Nat.lt_of_lt_of_le hbp (hkq.trans k).size
                  have hDq := HDP.out.keeps hkq (by simp) (by simp)
                  have hc1 := fun W (k : Keeps [] wq W) => check_is (n := kk) (hbq W k) (hx.new k) (by rw [HXN2.out]; omega) HXR.out
                  have hc2 := fun W (k : Keeps [] wq W) => rcheck_is (n := kk) (hx.new k) (by rw [HXN2.out]; omega) HXR.out
                  have hu1 := fun W (k : Keeps [] wq W) => subset_is (n := kk) (hbq W k) (hx.new k) (by rw [HXN2.out]; omega) HXR.out (hy.new k) (by rw [HYN2.out]; omega) HYR.out
                  have hu2 := fun W (k : Keeps [] wq W) => rsubset_is (n := kk) (hx.new k) (by rw [HXN2.out]; omega) HXR.out (hy.new k) (by rw [HYN2.out]; omega) HYR.out
                  generalize chkL kk x = z1 at *
                  generalize subB kk x y = z2 at *
                  have hkpq := hkq
                  have HX := Lib.hid hx
                  have HY := Lib.hid hy
                  have HVQ := Lib.hid hvq
                  have HBQ := Lib.hid hbq
                  have HDQ := Lib.hid hDq
                  have HC1 := Lib.hid hc1
                  have HC2 := Lib.hid hc2
                  have HU1 := Lib.hid hu1
                  have HU2 := Lib.hid hu2
                  have HKPQ := Lib.hid hkpq
                  clear hx hy hvq hbq hDq hc1 hc2 hu1 hu2 hkpq
                  clear hp0 hp1 hkq
                  go_wp2_with (first
                    | ((with_reducible refine (HC1.out _ (kf [] wq _)).mono ?_); rintro e wz1 ⟨rfl, hk⟩; haveI kq : KB [] wz1 _ := ⟨hk⟩; clear hk)
                    | ((with_reducible refine (HC2.out _ (kf [] wq _)).mono ?_); rintro e wz2 ⟨rfl, hk⟩; haveI kq : KB [] wz2 _ := ⟨hk⟩; clear hk)
                    | ((with_reducible refine (HU1.out _ (kf [] wq _)).mono ?_); rintro e wz3 ⟨rfl, hk⟩; haveI kq : KB [] wz3 _ := ⟨hk⟩; clear hk)
                    | ((with_reducible refine (HU2.out _ (kf [] wq _)).mono ?_); rintro e wz4 ⟨rfl, hk⟩; haveI kq : KB [] wz4 _ := ⟨hk⟩; clear hk))
                  have hkp4 : Keeps [] wq wz4 := kf [] wq wz4
                  have hbz4 := HBQ.out wz4 hkp4 b (by simp)
                  refine (vector_any wz4 b w.heap.size m false (HDQ.out.keeps hkp4 (by simp) (by simp)) (by omega)).mono ?_
                  rintro e w11 ⟨VA, vc, zs, rfl, hzl, _, hown, hD11, hK11⟩
                  have hsI : IsI w11 [b] (.slice VA m vc) zs := (isN_own (l := [b]) rfl (by rw [hzl]; exact hown)).isL (fun y hy => by rw [List.mem_singleton.1 hy]; exact hbz4)
                  have hz11 := hK11.size
                  have hkq11 : Keeps [b] wq w11 := (hkp4.nil _).trans hK11
                  have hal11 : Keeps [] w11 (w11.alloc (.cells #[.slice A4 n4 c4, .slice VA m vc] 22)) := (Keeps.refl _ _).alloc _
                  have hvs : IsL IsI [] (w11.alloc (.cells #[.slice A4 n4 c4, .slice VA m vc] 22)) [b] (.slice (some ⟨w11.heap.size, 0, none⟩) 2 2) [vv, zs] := isL_new (xs := [vv, zs]) (by simp; omega) rfl fun i hi => by
                    have hc : i = 0 ∨ i = 1 := by simp at hi; omega
                    rcases hc with rfl | rfl
                    · exact Rok.keeps HVQ.out hkq11
                    · exact hsI
                  have hvf : ∀ y ∈ [vv, zs], y.length ≤ 1000000 := fun y hy => by
                    rcases List.mem_cons.1 hy with rfl | hy
                    · exact HVL.out
                    · rw [List.mem_singleton.1 hy]; omega
                  have hD12 : Deck (w11.alloc (.cells #[.slice A4 n4 c4, .slice VA m vc] 22)) b w.heap.size := hD11.keeps hal11 (by simp) (by simp)
                  have hkq12 : Keeps [b] wq (w11.alloc (.cells #[.slice A4 n4 c4, .slice VA m vc] 22)) := hkq11.trans (hal11.nil _)
                  have hx12 : IsII (w11.alloc (.cells #[.slice A4 n4 c4, .slice VA m vc] 22)) [b] (.slice U1 nx k1) x := Rok.keeps HX.out hkq12
                  have hy12 : IsII (w11.alloc (.cells #[.slice A4 n4 c4, .slice VA m vc] 22)) [b] (.slice U2 ny k2) y := Rok.keeps HY.out hkq12
                  have hbz12 : b < (w11.alloc (.cells #[.slice A4 n4 c4, .slice VA m vc] 22)).heap.size := by simp; omega
                  have HVS := Lib.hid hvs
                  have HVF := Lib.hid hvf
                  have HD12 := Lib.hid hD12
                  have HKQ12 := Lib.hid hkq12
                  have HX12 := Lib.hid hx12
                  have HY12 := Lib.hid hy12
                  clear hvs hvf hD12 hkq12 hx12 hy12
                  clear hal11 hkq11 hsI hown hD11 hK11 hkp4
                  go_wp2_with fail
                  generalize w11.alloc (.cells #[.slice A4 n4 c4, .slice VA m vc] 22) = w12 at *
                  generalize w11.heap.size = g12 at *
                  go_loopg [134] 3 (fun gh iv wr => ∃ s : Nat, 3 ≤ s + gh ∧ s ≤ 2 ∧ iv = .int .i64 (s : Int) ∧ Keeps [] w12 wr)
                  case atStart => exact ⟨0, by omega, by omega, rfl, Keeps.refl _ _⟩
                  case round =>
                    obtain ⟨s, hgh3, hs2, rfl, hks⟩ := hrel
                    generalize wr = ws at *
                    have hxs := HX12.out.new hks
                    have hys := HY12.out.new hks
                    have hbs : ∀ W, Keeps [] ws W → ∀ y ∈ [b], y < W.heap.size := fun W k y hy => by
                      rw [List.mem_singleton.1 hy]; exact Nat.lt_of_lt_of_le hbz12 (hks.trans k).size
                    by_cases hs : s < 2
                    · obtain ⟨u3, hcu3, hyu3⟩ := lit_at (Rok.keeps (R := IsL IsI []) HVS.out (hks.nil _)) hs
                      have hzl := HVF.out _ (getD_mem (d := []) (show s < ([vv, zs] : List (List Int)).length from hs))
                      generalize ([vv, zs] : List (List Int)).getD s [] = z at *
                      obtain ⟨Vz, cz, rfl, _⟩ := hyu3.open
                      have hss : (s : Int) < 2 := by omega
                      have hh1 := fun W (k : Keeps [] ws W) => has_is (n := kk) (hbs W k) (hxs.new k) (by rw [HXN2.out]; omega) HXR.out (IsI.new hyu3 k) hzl
                      have hh2 := fun W (k : Keeps [] ws W) => rhas_is (n := kk) (hxs.new k) (by rw [HXN2.out]; omega) HXR.out (IsI.new hyu3 k) hzl
                      generalize hasB kk x z = z3 at *
                      generalize hnz : z.length = nz at *
                      have HH1 := Lib.hid hh1
                      have HH2 := Lib.hid hh2
                      have HKS := Lib.hid hks
                      have HXS := Lib.hid hxs
                      have HYS := Lib.hid hys
                      have HBS := Lib.hid hbs
                      have HYU3 := Lib.hid hyu3
                      have HZL := Lib.hid hzl
                      have HNZ := Lib.hid hnz
                      clear hh1 hh2 hks hxs hys hbs hyu3 hzl hnz
                      go_wp2_with fail
                      refine (HH1.out _ (Keeps.refl _ _)).mono ?_
                      rintro e wt1 ⟨rfl, hk⟩
                      haveI kt1 : KB [] wt1 ws := ⟨hk⟩
                      have hcu4 := hk.read hcu3 (by simp)
                      clear hk
                      go_wp2_with fail
                      refine (HH2.out _ (kf [] ws _)).mono ?_
                      rintro e wt2 ⟨rfl, hk⟩
                      haveI kt2 : KB [] wt2 wt1 := ⟨hk⟩
                      have hkend := HKS.out.trans (kf [] ws wt2)
                      have HKEND := Lib.hid hkend
                      clear hkend
                      clear hk hcu4 hcu3
                      go_wp2_with fail
                      go_roundg (2 - s)
                      case measure => omega
                      case rel => exact ⟨s + 1, by omega, by omega, by go_num, HKEND.out⟩
                    · obtain rfl : s = 2 := by omega
                      have hm1' := fun W (k : Keeps [] ws W) => maximise2_is (n := kk) (hbs W k) (hxs.new k) (by rw [HXN2.out]; omega) HXR.out
                      have hm2' := fun W (k : Keeps [] ws W) => rmaximise_is (n := kk) (hbs W k) (hxs.new k) (by rw [HXN2.out]; omega) HXR.out
                      have hu1' := fun W (k : Keeps [] ws W) => union2_is (n := kk) (hbs W k) (hxs.new k) (by rw [HXN2.out]; omega) HXR.out (hys.new k) (by rw [HYN2.out]; omega) HYR.out
                      have hu2' := fun W (k : Keeps [] ws W) => runion_is (n := kk) (hbs W k) (hxs.new k) (by rw [HXN2.out]; omega) HXR.out (hys.new k) (by rw [HYN2.out]; omega) HYR.out
                      have hi1' := fun W (k : Keeps [] ws W) => intersect2_is (n := kk) (hbs W k) (hxs.new k) (by rw [HXN2.out]; omega) HXR.out (hys.new k) (by rw [HYN2.out]; omega) HYR.out
                      have hi2' := fun W (k : Keeps [] ws W) => rintersect_is (n := kk) (hbs W k) (hxs.new k) (by rw [HXN2.out]; omega) HXR.out (hys.new k) (by rw [HYN2.out]; omega) HYR.out
                      have hb1' := fun W (k : Keeps [] ws W) => below2_is (n := kk) (hbs W k) (hxs.new k) (by rw [HXN2.out]; omega) HXR.out
                      have hb2' := fun W (k : Keeps [] ws W) => rbelow_is (n := kk) (hbs W k) (hxs.new k) (by rw [HXN2.out]; omega) HXR.out
                      have ha1' := fun W (k : Keeps [] ws W) => above2_is (n := kk) (hbs W k) (hxs.new k) (by rw [HXN2.out]; omega) HXR.out
                      have ha2' := fun W (k : Keeps [] ws W) => rabove_is (n := kk) (hbs W k) (hxs.new k) (by rw [HXN2.out]; omega) HXR.out
                      have hsm1 := maxP_sm kk HS1.out.2
                      have hsm2 := uniP_sm kk HS1.out.2 HS2.out.2
                      have hsm3 := intP_sm kk (a := x) (b := y)
                      have hsm4 := bwP_sm kk x
                      have hsm5 := abP_sm kk x
                      unfold PairR at hm1' hm2' hu1' hu2' hi1' hi2' hb1' hb2' ha1' ha2'
                      generalize (maxP kk x).2 = P1 at *
                      generalize (maxP kk x).1 = z1e at *
                      generalize (setP kk x y (greatL (x ++ y))).2 = P2 at *
                      generalize (setP kk x y (greatL (x ++ y))).1 = z2e at *
                      generalize (setP kk x y (greatL (prodL kk.toNat x y))).2 = P3 at *
                      generalize (setP kk x y (greatL (prodL kk.toNat x y))).1 = z3e at *
                      generalize (bwP kk x).2 = P4 at *
                      generalize (bwP kk x).1 = z4e at *
                      generalize (abP kk x).2 = P5 at *
                      generalize (abP kk x).1 = z5e at *
                      have hkpz := hks
                      generalize ws = wq2 at *
                      have HM1' := Lib.hid hm1'
                      have HM2' := Lib.hid hm2'
                      have HU1' := Lib.hid hu1'
                      have HU2' := Lib.hid hu2'
                      have HI1' := Lib.hid hi1'
                      have HI2' := Lib.hid hi2'
                      have HB1' := Lib.hid hb1'
                      have HB2' := Lib.hid hb2'
                      have HA1' := Lib.hid ha1'
                      have HA2' := Lib.hid ha2'
                      have HSM1 := Lib.hid hsm1
                      have HSM2 := Lib.hid hsm2
                      have HSM3 := Lib.hid hsm3
                      have HSM4 := Lib.hid hsm4
                      have HSM5 := Lib.hid hsm5
                      have HKS := Lib.hid hks
                      have HXS := Lib.hid hxs
                      have HYS := Lib.hid hys
                      have HBS := Lib.hid hbs
                      have HKPZ := Lib.hid hkpz
                      clear hm1' hm2' hu1' hu2' hi1' hi2' hb1' hb2' ha1' ha2' hsm1 hsm2 hsm3 hsm4 hsm5 hks hxs hys hbs hkpz
                      go_wp2_with fail
                      refine (HM1'.out _ (kf [] wq2 _)).mono ?_
                      rintro e wa1 ⟨hk, U11, m11, k11, hm11, rfl, hi11⟩
                      haveI kqa1 : KB [] wa1 _ := ⟨hk⟩
                      have HM11 := Lib.hid hm11
                      have HI11 := Lib.hid hi11
                      clear hm11 hi11
                      clear hk
                      go_wp2_with fail
                      refine (HM2'.out _ (kf [] wq2 _)).mono ?_
                      rintro e wb1 ⟨hk, U21, m21, k21, hm21, rfl, hi21⟩
                      haveI kqb1 : KB [] wb1 _ := ⟨hk⟩
                      have hi1n := IsII.new HI11.out (kf [] wa1 wb1)
                      have hsa1 := sameall_is hi1n hi21 (Sm.len6 HSM1.out) (Sm.len6 HSM1.out) (Sm.row6 HSM1.out) (Sm.row6 HSM1.out)
                      rw [decide_eq_true rfl] at hsa1
                      have HSA1 := Lib.hid hsa1
                      have HM21 := Lib.hid hm21
                      have HI21 := Lib.hid hi21
                      clear hsa1 hm21 hi21
                      clear hk hi1n
                      go_wp2_with fail
                      refine HSA1.out.mono ?_
                      rintro e wc1 ⟨rfl, hk⟩
                      haveI kqc1 : KB [] wc1 _ := ⟨hk⟩
                      clear hk
                      go_wp2_with fail
                      refine (HU1'.out _ (kf [] wq2 _)).mono ?_
                      rintro e wa2 ⟨hk, U12, m12, k12, hm12, rfl, hi12⟩
                      haveI kqa2 : KB [] wa2 _ := ⟨hk⟩
                      have HM12 := Lib.hid hm12
                      have HI12 := Lib.hid hi12
                      clear hm12 hi12
                      clear hk
                      go_wp2_with fail
                      refine (HU2'.out _ (kf [] wq2 _)).mono ?_
                      rintro e wb2 ⟨hk, U22, m22, k22, hm22, rfl, hi22⟩
                      haveI kqb2 : KB [] wb2 _ := ⟨hk⟩
                      have hi1n := IsII.new HI12.out (kf [] wa2 wb2)
                      have hsa2 := sameall_is hi1n hi22 (Sm.len6 HSM2.out) (Sm.len6 HSM2.out) (Sm.row6 HSM2.out) (Sm.row6 HSM2.out)
                      rw [decide_eq_true rfl] at hsa2
                      have HSA2 := Lib.hid hsa2
                      have HM22 := Lib.hid hm22
                      have HI22 := Lib.hid hi22
                      clear hsa2 hm22 hi22
                      clear hk hi1n
                      go_wp2_with fail
                      refine HSA2.out.mono ?_
                      rintro e wc2 ⟨rfl, hk⟩
                      haveI kqc2 : KB [] wc2 _ := ⟨hk⟩
                      clear hk
                      go_wp2_with fail
                      refine (HI1'.out _ (kf [] wq2 _)).mono ?_
                      rintro e wa3 ⟨hk, U13, m13, k13, hm13, rfl, hi13⟩
                      haveI kqa3 : KB [] wa3 _ := ⟨hk⟩
                      have HM13 := Lib.hid hm13
                      have HI13 := Lib.hid hi13
                      clear hm13 hi13
                      clear hk
                      go_wp2_with fail
                      refine (HI2'.out _ (kf [] wq2 _)).mono ?_
                      rintro e wb3 ⟨hk, U23, m23, k23, hm23, rfl, hi23⟩
                      haveI kqb3 : KB [] wb3 _ := ⟨hk⟩
                      have hi1n := IsII.new HI13.out (kf [] wa3 wb3)
                      have hsa3 := sameall_is hi1n hi23 (Sm.len6 HSM3.out) (Sm.len6 HSM3.out) (Sm.row6 HSM3.out) (Sm.row6 HSM3.out)
                      rw [decide_eq_true rfl] at hsa3
                      have HSA3 := Lib.hid hsa3
                      have HM23 := Lib.hid hm23
                      have HI23 := Lib.hid hi23
                      clear hsa3 hm23 hi23
                      clear hk hi1n
                      go_wp2_with fail
                      refine HSA3.out.mono ?_
                      rintro e wc3 ⟨rfl, hk⟩
                      haveI kqc3 : KB [] wc3 _ := ⟨hk⟩
                      clear hk
                      go_wp2_with fail
                      refine (HB1'.out _ (kf [] wq2 _)).mono ?_
                      rintro e wa4 ⟨hk, U14, m14, k14, hm14, rfl, hi14⟩
                      haveI kqa4 : KB [] wa4 _ := ⟨hk⟩
                      have HM14 := Lib.hid hm14
                      have HI14 := Lib.hid hi14
                      clear hm14 hi14
                      clear hk
                      go_wp2_with fail
                      refine (HB2'.out _ (kf [] wq2 _)).mono ?_
                      rintro e wb4 ⟨hk, U24, m24, k24, hm24, rfl, hi24⟩
                      haveI kqb4 : KB [] wb4 _ := ⟨hk⟩
                      have hi1n := IsII.new HI14.out (kf [] wa4 wb4)
                      have hsa4 := sameall_is hi1n hi24 (Sm.len6 HSM4.out) (Sm.len6 HSM4.out) (Sm.row6 HSM4.out) (Sm.row6 HSM4.out)
                      rw [decide_eq_true rfl] at hsa4
                      have HSA4 := Lib.hid hsa4
                      have HM24 := Lib.hid hm24
                      have HI24 := Lib.hid hi24
                      clear hsa4 hm24 hi24
                      clear hk hi1n
                      go_wp2_with fail
                      refine HSA4.out.mono ?_
                      rintro e wc4 ⟨rfl, hk⟩
                      haveI kqc4 : KB [] wc4 _ := ⟨hk⟩
                      clear hk
                      go_wp2_with fail
                      refine (HA1'.out _ (kf [] wq2 _)).mono ?_
                      rintro e wa5 ⟨hk, U15, m15, k15, hm15, rfl, hi15⟩
                      haveI kqa5 : KB [] wa5 _ := ⟨hk⟩
                      have HM15 := Lib.hid hm15
                      have HI15 := Lib.hid hi15
                      clear hm15 hi15
                      clear hk
                      go_wp2_with fail
                      refine (HA2'.out _ (kf [] wq2 _)).mono ?_
                      rintro e wb5 ⟨hk, U25, m25, k25, hm25, rfl, hi25⟩
                      haveI kqb5 : KB [] wb5 _ := ⟨hk⟩
                      have hi1n := IsII.new HI15.out (kf [] wa5 wb5)
                      have hsa5 := sameall_is hi1n hi25 (Sm.len6 HSM5.out) (Sm.len6 HSM5.out) (Sm.row6 HSM5.out) (Sm.row6 HSM5.out)
                      rw [decide_eq_true rfl] at hsa5
                      have HSA5 := Lib.hid hsa5
                      have HM25 := Lib.hid hm25
                      have HI25 := Lib.hid hi25
                      clear hsa5 hm25 hi25
                      clear hk hi1n
                      go_wp2_with fail
                      refine HSA5.out.mono ?_
                      rintro e wc5 ⟨rfl, hk⟩
                      haveI kqc5 : KB [] wc5 _ := ⟨hk⟩
                      clear hk
                      go_wp2_with fail
                      have hkz : Keeps [] w12 wc5 := HKS.out.trans (kf [] wq2 wc5)
                      have hDz := HD12.out.keeps hkz (by simp) (by simp)
                      have hkend := HKP.out.trans ((HKPQ.out.nil _).trans (HKQ12.out.trans (hkz.nil _)))
                      have HKEND := Lib.hid hkend
                      have HDZ := Lib.hid hDz
                      clear hkend hDz
                      clear hkz
                      go_roundg (5 - q)
                      case measure => omega
                      case rel => exact ⟨q + 1, by omega, by omega, by go_num, HDZ.out, HKEND.out⟩
                · obtain rfl : q = 5 := by omega
                  have hkend := HK810.out.trans hkp
                  have HKEND := Lib.hid hkend
                  have HDP := Lib.hid hDp
                  have HKP := Lib.hid hkp
                  clear hkend hDp hkp
                  go_wp2_with fail
                  go_roundg (2 - j)
                  case measure => omega
                  case rel => exact ⟨j + 1, by omega, by omega, by go_num, HDP.out, HKEND.out⟩
            · obtain rfl : j = 2 := by omega
              have hfin : Keeps [b] w2 wo := HK28.out.trans hkr
              have HFIN := Lib.hid hfin
              have HDR := Lib.hid hDr
              have HKR := Lib.hid hkr
              clear hfin hDr hkr
              go_wp2_with fail
              go_ret
              exact ⟨rfl, HBW.out.trans (HFIN.out.below (by simp; omega) (by omega))⟩
        · have d4 : decide ((20 : Int) < (n4 : Int)) = true := decide_eq_true (by omega)
          have e4 : decide (20 < n4) = true := decide_eq_true (by omega)
          go_enter Tryz.func3, Tryz.ntmps3
          go_wp2_with fail
          refine (awake_any w).mono ?_
          rintro e w1 ⟨rfl, hb1⟩
          have hz1 := hb1.size
          go_wp2_with fail
          refine (few_any w1 A0 len cap).mono ?_
          rintro e w' ⟨rfl, rfl⟩
          rw [hd]
          have hnr := HNA.out w1 hb1
          have HNR := Lib.hid hnr
          clear hnr
          go_wp2_with fail
          refine HNR.out.mono ?_
          rintro e w' ⟨rfl, rfl⟩
          have hnr := HNB.out w1 hb1
          have HNR := Lib.hid hnr
          clear hnr
          go_wp2_with fail
          refine HNR.out.mono ?_
          rintro e w' ⟨rfl, rfl⟩
          go_wp2_with fail
          refine (awake_any w1).mono ?_
          rintro e w2 ⟨rfl, hb2⟩
          go_wp2_with fail
          go_ret
          exact ⟨rfl, hb1.trans (hb2.mono hb1.size)⟩
  · have hd : decide ((len : Int) ≤ 400) = false := by simp; omega
    go_enter Tryz.func3, Tryz.ntmps3
    go_wp2_with fail
    refine (awake_any w).mono ?_
    rintro e w1 ⟨rfl, hb1⟩
    have hz1 := hb1.size
    go_wp2_with fail
    refine (few_any w1 A0 len cap).mono ?_
    rintro e w' ⟨rfl, rfl⟩
    rw [hd]
    go_wp2_with fail
    refine (awake_any w1).mono ?_
    rintro e w2 ⟨rfl, hb2⟩
    go_wp2_with fail
    go_ret
    exact ⟨rfl, hb1.trans (hb2.mono hb1.size)⟩
end Go.Proofs.YtnmkinaokjekjaaGreat
