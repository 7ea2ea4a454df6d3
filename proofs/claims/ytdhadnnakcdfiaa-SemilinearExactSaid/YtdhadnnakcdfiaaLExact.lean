/- The walk of coverabilitylaw13.SemilinearExact. -/
import Derived.Test.YtdhadnnakcdfiaaE1
import Derived.Test.YtdhadnnakcdfiaaE2
import Derived.Test.YtdhadnnakcdfiaaQuietK
import Derived.Deep.RegionHeld3
import Derived.Test.YtdhadnnakcdfiaaAwake
import Derived.Test.YtdhadnnakcdfiaaLinear
namespace Go.Proofs.Ytdhadnnakcdfiaa
set_option linter.unusedVariables false

open Go.RowKit

theorem IsLin.vals {w : World} {l : List Nat} {u pv : Value} {s : Lin} (h : IsLin w l u pv s) : ∃ A c Ap cp, u = .slice A s.base.length c ∧ pv = .slice Ap s.per.length cp := by
  obtain ⟨A, c, e, _⟩ := h.1.open
  have hp := h.2
  obtain ⟨Ap, cp, V, e2, _⟩ := hp
  exact ⟨A, c, Ap, cp, e, e2⟩
set_option maxRecDepth 100000 in
set_option maxHeartbeats 16000000 in
theorem sexact_law (w : World) (len cap nr cr q3 d3 r3 e3 q4 d4 r4 e4 n5 c5 n6 c6 : Nat) (n : Int) (A0 AR A3 B3 A4 B4 A5 A6 : Option Addr) (l : Nat → Int) (raw : List Lin) (sa sb : Lin) (v t : List Int) (hR : Rd w w.heap.size A0 len (fun i => .int .i64 (l i)))
    (hraw : IsLins w [] (.slice AR nr cr) raw) (ha : IsLin w [] (.slice A3 q3 d3) (.slice B3 r3 e3) sa) (hb : IsLin w [] (.slice A4 q4 d4) (.slice B4 r4 e4) sb) (hv : IsI w [] (.slice A5 n5 c5) v) (ht : IsI w [] (.slice A6 n6 c6) t)
    (hrm : ∀ s ∈ raw, s.per.length ≤ maxLen) (ham : sa.per.length ≤ maxLen) (hbm : sb.per.length ≤ maxLen) :
    Calls Try.prog 6 #[.slice A0 len cap, .int .i64 n, .slice AR nr cr, .agg #[.slice A3 q3 d3, .slice B3 r3 e3], .agg #[.slice A4 q4 d4, .slice B4 r4 e4], .slice A5 n5 c5, .slice A6 n6 c6] w fun e w' => e = .returned (.bool true) ∧ Below w.heap.size w w' := by
  have hn5 : n5 = v.length := isL_n hv
  have hn6 : n6 = t.length := isL_n ht
  have hnr : nr = raw.length := by obtain ⟨_, _, e, _⟩ := hraw; injection e
  have hk0 : Keeps [] w ((w.alloc (.cells #[.slice A3 q3 d3, .slice B3 r3 e3] 29)).alloc (.cells #[.slice A4 q4 d4, .slice B4 r4 e4] 29)) := ((Keeps.refl _ _).alloc _).alloc _
  have hbb : BoxAt ((w.alloc (.cells #[.slice A3 q3 d3, .slice B3 r3 e3] 29)).alloc (.cells #[.slice A4 q4 d4, .slice B4 r4 e4] 29)) (w.heap.size + 1) (.slice A4 q4 d4) (.slice B4 r4 e4) := by
    have := BoxAt.start (w.alloc (.cells #[.slice A3 q3 d3, .slice B3 r3 e3] 29)) (.slice A4 q4 d4) (.slice B4 r4 e4) 29
    simpa using this
  have hba := (BoxAt.start w (.slice A3 q3 d3) (.slice B3 r3 e3) 29).new ((Keeps.refl _ _).alloc (.cells #[.slice A4 q4 d4, .slice B4 r4 e4] 29))
  have hraw := hraw.new hk0
  have hla := ha.new hk0
  have hlb := hb.new hk0
  have hvb : IsI _ [] (.slice A5 n5 c5) v := hv.new hk0
  have htb : IsI _ [] (.slice A6 n6 c6) t := ht.new hk0
  have hna := fun W (k : Keeps [] ((w.alloc (.cells #[.slice A3 q3 d3, .slice B3 r3 e3] 29)).alloc (.cells #[.slice A4 q4 d4, .slice B4 r4 e4] 29)) W) => narrow_is (hla.new k) ham
  have hnb := fun W (k : Keeps [] ((w.alloc (.cells #[.slice A3 q3 d3, .slice B3 r3 e3] 29)).alloc (.cells #[.slice A4 q4 d4, .slice B4 r4 e4] 29)) W) => narrow_is (hlb.new k) hbm
  unfold BoolP at hna hnb
  have hsa : narB sa = true → Nar sa := narB_true.1
  have hsb : narB sb = true → Nar sb := narB_true.1
  have hRb : Rd ((w.alloc (.cells #[.slice A3 q3 d3, .slice B3 r3 e3] 29)).alloc (.cells #[.slice A4 q4 d4, .slice B4 r4 e4] 29)) w.heap.size A0 len (fun i => .int .i64 (l i)) := hR.below hk0.to_below
  have hwz : w.heap.size ≤ ((w.alloc (.cells #[.slice A3 q3 d3, .slice B3 r3 e3] 29)).alloc (.cells #[.slice A4 q4 d4, .slice B4 r4 e4] 29)).heap.size := hk0.size
  generalize narB sa = na at *
  generalize narB sb = nb at *
  clear ha hb hv ht hR
  have HRB := Lib.hid hRb
  clear hRb
  have HK0 := Lib.hid hk0
  have HBB := Lib.hid hbb
  have HBA := Lib.hid hba
  have HRAW := Lib.hid hraw
  have HLA := Lib.hid hla
  have HLB := Lib.hid hlb
  have HVB := Lib.hid hvb
  have HTB := Lib.hid htb
  have HNA := Lib.hid hna
  have HNB := Lib.hid hnb
  have HSA := Lib.hid hsa
  have HSB := Lib.hid hsb
  have HN5 := Lib.hid hn5
  have HN6 := Lib.hid hn6
  have HNR := Lib.hid hnr
  have HRM := Lib.hid hrm
  have HAM := Lib.hid ham
  have HBM := Lib.hid hbm
  clear hk0 hbb hba hraw hla hlb hvb htb hna hnb hsa hsb hn5 hn6 hnr hrm ham hbm
  by_cases hlen : len ≤ 400
  · have hd : decide ((len : Int) ≤ 400) = true := by simp; omega
    by_cases h12 : nr ≤ 12
    · have d1 : decide ((12 : Int) < (nr : Int)) = false := decide_eq_false (by omega)
      have d1' : decide (12 < nr) = false := decide_eq_false (by omega)
      cases na with
      | false =>
        go_enter Try.func6, Try.ntmps6
        go_upto_region 1 with fail
        generalize (w.alloc (.cells #[.slice A3 q3 d3, .slice B3 r3 e3] 29)).alloc (.cells #[.slice A4 q4 d4, .slice B4 r4 e4] 29) = wb at *
        go_wp2_with fail
        refine (awake_any wb).mono ?_
        rintro e w1 ⟨rfl, hbw1⟩
        have hkw1 := hbw1.toK (l := [])
        have hbb1 := HBB.out.new hkw1
        have hba1 := HBA.out.new hkw1
        have hb0 := hbb1.c0
        have hb1 := hbb1.c1
        have ha0 := hba1.c0
        have ha1 := hba1.c1
        clear hbb1 hba1
        have HKW1 := Lib.hid hkw1
        clear hkw1
        clear hbw1
        go_wp2_with fail
        refine (few_any w1 A0 len cap).mono ?_
        rintro e w' ⟨rfl, rfl⟩
        rw [hd]
        go_wp2_with fail
        refine (HNA.out w1 HKW1.out).mono ?_
        rintro e w3 ⟨rfl, hk3⟩
        have hkw3 := HKW1.out.trans hk3
        clear hk3
        clear hb0 hb1 ha0 ha1
        have hbb1 := HBB.out.new hkw3
        have hba1 := HBA.out.new hkw3
        have hb0 := hbb1.c0
        have hb1 := hbb1.c1
        have ha0 := hba1.c0
        have ha1 := hba1.c1
        clear hbb1 hba1
        have HKW3 := Lib.hid hkw3
        clear hkw3
        clear hb0 hb1 ha0 ha1
        go_wp2_with fail
        refine (awake_any w3).mono ?_
        rintro e w9 ⟨rfl, hb9⟩
        have hk9 := (HK0.out.trans HKW3.out).trans (hb9.toK (l := []))
        have HK9 := Lib.hid hk9
        clear hk9
        clear hb9
        go_wp2_with fail
        go_ret
        exact ⟨rfl, HK9.out.to_below⟩
      | true =>
        cases nb with
        | false =>
          go_enter Try.func6, Try.ntmps6
          go_upto_region 1 with fail
          generalize (w.alloc (.cells #[.slice A3 q3 d3, .slice B3 r3 e3] 29)).alloc (.cells #[.slice A4 q4 d4, .slice B4 r4 e4] 29) = wb at *
          go_wp2_with fail
          refine (awake_any wb).mono ?_
          rintro e w1 ⟨rfl, hbw1⟩
          have hkw1 := hbw1.toK (l := [])
          have hbb1 := HBB.out.new hkw1
          have hba1 := HBA.out.new hkw1
          have hb0 := hbb1.c0
          have hb1 := hbb1.c1
          have ha0 := hba1.c0
          have ha1 := hba1.c1
          clear hbb1 hba1
          have HKW1 := Lib.hid hkw1
          clear hkw1
          clear hbw1
          go_wp2_with fail
          refine (few_any w1 A0 len cap).mono ?_
          rintro e w' ⟨rfl, rfl⟩
          rw [hd]
          go_wp2_with fail
          refine (HNA.out w1 HKW1.out).mono ?_
          rintro e w3 ⟨rfl, hk3⟩
          have hkw3 := HKW1.out.trans hk3
          clear hk3
          clear hb0 hb1 ha0 ha1
          have hbb1 := HBB.out.new hkw3
          have hba1 := HBA.out.new hkw3
          have hb0 := hbb1.c0
          have hb1 := hbb1.c1
          have ha0 := hba1.c0
          have ha1 := hba1.c1
          clear hbb1 hba1
          have HKW3 := Lib.hid hkw3
          clear hkw3
          go_wp2_with fail
          refine (HNB.out w3 HKW3.out).mono ?_
          rintro e w4 ⟨rfl, hk4⟩
          have hkw4 := HKW3.out.trans hk4
          clear hk4
          clear hb0 hb1 ha0 ha1
          have hbb1 := HBB.out.new hkw4
          have hba1 := HBA.out.new hkw4
          have hb0 := hbb1.c0
          have hb1 := hbb1.c1
          have ha0 := hba1.c0
          have ha1 := hba1.c1
          clear hbb1 hba1
          have HKW4 := Lib.hid hkw4
          clear hkw4
          clear hb0 hb1 ha0 ha1
          go_wp2_with fail
          refine (awake_any w4).mono ?_
          rintro e w9 ⟨rfl, hb9⟩
          have hk9 := (HK0.out.trans HKW4.out).trans (hb9.toK (l := []))
          have HK9 := Lib.hid hk9
          clear hk9
          clear hb9
          go_wp2_with fail
          go_ret
          exact ⟨rfl, HK9.out.to_below⟩
        | true =>
          by_cases h5 : n5 ≤ 12
          · have d5 : decide ((12 : Int) < (n5 : Int)) = false := decide_eq_false (by omega)
            have d5' : decide (12 < n5) = false := decide_eq_false (by omega)
            by_cases h6 : n6 ≤ 12
            · have d6 : decide ((12 : Int) < (n6 : Int)) = false := decide_eq_false (by omega)
              have d6' : decide (12 < n6) = false := decide_eq_false (by omega)
              have hga := HSA.out rfl
              have hgb := HSB.out rfl
              have HGA := Lib.hid hga
              have HGB := Lib.hid hgb
              clear hga hgb
              go_enter Try.func6, Try.ntmps6
              go_upto_region 1 with fail
              generalize (w.alloc (.cells #[.slice A3 q3 d3, .slice B3 r3 e3] 29)).alloc (.cells #[.slice A4 q4 d4, .slice B4 r4 e4] 29) = wb at *
              go_wp2_with fail
              refine (awake_any wb).mono ?_
              rintro e w1 ⟨rfl, hbw1⟩
              have hkw1 := hbw1.toK (l := [])
              have hbb1 := HBB.out.new hkw1
              have hba1 := HBA.out.new hkw1
              have hb0 := hbb1.c0
              have hb1 := hbb1.c1
              have ha0 := hba1.c0
              have ha1 := hba1.c1
              clear hbb1 hba1
              have HKW1 := Lib.hid hkw1
              clear hkw1
              clear hbw1
              go_wp2_with fail
              refine (few_any w1 A0 len cap).mono ?_
              rintro e w' ⟨rfl, rfl⟩
              rw [hd]
              go_wp2_with fail
              refine (HNA.out w1 HKW1.out).mono ?_
              rintro e w3 ⟨rfl, hk3⟩
              have hkw3 := HKW1.out.trans hk3
              clear hk3
              clear hb0 hb1 ha0 ha1
              have hbb1 := HBB.out.new hkw3
              have hba1 := HBA.out.new hkw3
              have hb0 := hbb1.c0
              have hb1 := hbb1.c1
              have ha0 := hba1.c0
              have ha1 := hba1.c1
              clear hbb1 hba1
              have HKW3 := Lib.hid hkw3
              clear hkw3
              go_wp2_with fail
              refine (HNB.out w3 HKW3.out).mono ?_
              rintro e w4 ⟨rfl, hk4⟩
              have hkw4 := HKW3.out.trans hk4
              clear hk4
              clear hb0 hb1 ha0 ha1
              have hbb1 := HBB.out.new hkw4
              have hba1 := HBA.out.new hkw4
              have hb0 := hbb1.c0
              have hb1 := hbb1.c1
              have ha0 := hba1.c0
              have ha1 := hba1.c1
              clear hbb1 hba1
              have HKW4 := Lib.hid hkw4
              clear hkw4
              go_wp2_with fail
              clear hb0 hb1 ha0 ha1
              go_loopg [75] (nr + 1) (fun gh iv wr => ∃ i : Nat, nr + 1 ≤ i + gh ∧ i ≤ nr ∧ iv = .int .i64 (i : Int) ∧ (∀ j, j < i → Nar (raw.getD j default)) ∧ Keeps [] wb wr)
              case atStart => exact ⟨0, by omega, by omega, rfl, fun j hj => by omega, HKW4.out⟩
              case round =>
                obtain ⟨i, hgh, hi, rfl, hall, hkr⟩ := hrel
                have HALL := Lib.hid hall
                clear hall
                by_cases hlt : i < nr
                · obtain ⟨AA, cc, ee, _, _, hcell⟩ := HRAW.out.new hkr
                  injection ee with ee1 ee2 ee3
                  subst ee1; subst ee3
                  obtain ⟨a, ea, _, hcs⟩ := hcell (by rw [← HNR.out]; omega)
                  obtain ⟨u, pv, hu, hpv, hlin⟩ := hcs i (by rw [← HNR.out]; exact hlt)
                  subst ea
                  have hcall := narrow_is hlin (HRM.out _ (getD_mem (d := default) (show i < raw.length by rw [← HNR.out]; exact hlt)))
                  unfold BoolP at hcall
                  have hlt2 : (i : Int) < (nr : Int) := by omega
                  have hnt : narB (raw.getD i default) = true → Nar (raw.getD i default) := narB_true.1
                  generalize narB (raw.getD i default) = r at *
                  have HKR := Lib.hid hkr
                  have HCALL := Lib.hid hcall
                  have HLIN := Lib.hid hlin
                  have HNT := Lib.hid hnt
                  clear hcall hlin hnt
                  clear hkr hcs hcell ee2
                  cases r with
                  | true =>
                    have h2 : ∀ j, j < i + 1 → Nar (raw.getD j default) := fun j hj => by
                      by_cases e : j = i
                      · rw [e]; exact HNT.out (by first | rfl | trivial)
                      · exact HALL.out j (by omega)
                    have H2 := Lib.hid h2
                    clear h2
                    go_wp2_with fail
                    refine HCALL.out.mono ?_
                    rintro e w5 ⟨rfl, hk5⟩
                    have hk6 := HKR.out.trans hk5
                    have HK6 := Lib.hid hk6
                    clear hk6
                    clear hk5 hu hpv
                    go_wp2_with fail
                    go_roundg (nr - i)
                    case measure => omega
                    case rel => exact ⟨i + 1, by omega, by omega, by go_num, H2.out, HK6.out⟩
                  | false =>
                    go_wp2_with fail
                    refine HCALL.out.mono ?_
                    rintro e w5 ⟨rfl, hk5⟩
                    have hk6 := (HK0.out.trans HKR.out).trans hk5
                    have HK6 := Lib.hid hk6
                    clear hk6
                    clear hk5 hu hpv
                    go_wp2_with fail
                    go_ret
                    exact ⟨rfl, HK6.out.to_below⟩
                · obtain rfl : i = nr := by omega
                  have hrn : ∀ s ∈ raw, Nar s := fun s hs => by
                    obtain ⟨j, hj, e⟩ := mem_getD (d := default) hs
                    rw [← e]; exact HALL.out j (by rw [HNR.out]; exact hj)
                  have hzr := hkr.size
                  have hRr : Rd wr w.heap.size A0 len (fun i => .int .i64 (l i)) := HRB.out.below (hkr.below (by simp) hwz)
                  have HKR := Lib.hid hkr
                  have HRR := Lib.hid hRr
                  have HRN := Lib.hid hrn
                  clear hrn
                  clear hkr hRr
                  go_wp2_with fail
                  refine (new_any wr w.heap.size A0 len cap l HRR.out hlen (by omega)).mono ?_
                  rintro e w5 ⟨rfl, hD5, hbw5⟩
                  have hbl5 := hD5.lt
                  have hk5 : Keeps [] wb w5 := HKR.out.trans hbw5.toK
                  have hzb : wb.heap.size ≤ wr.heap.size := hzr
                  generalize wr.heap.size = b at *
                  have hw : ∀ y ∈ [b], y ∈ ([] : List Nat) ∨ wb.heap.size ≤ y := fun y hy => by rw [List.mem_singleton.1 hy]; exact .inr hzb
                  have hraw5 : IsLins w5 [b] (.slice AR i cr) raw := (HRAW.out.weak hw).new hk5
                  have hla5 : IsLin w5 [b] (.slice A3 q3 d3) (.slice B3 r3 e3) sa := (HLA.out.weak hw).new hk5
                  have hlb5 : IsLin w5 [b] (.slice A4 q4 d4) (.slice B4 r4 e4) sb := (HLB.out.weak hw).new hk5
                  have hv5 : IsI w5 [b] (.slice A5 n5 c5) v := (HVB.out.weak hw).new hk5
                  have ht5 : IsI w5 [b] (.slice A6 n6 c6) t := (HTB.out.weak hw).new hk5
                  have hba5 := HBA.out.new hk5
                  have hbb5 := HBB.out.new hk5
                  have hwb : w.heap.size + 1 < b := by
                    have := lt_of_cell HBB.out.c0
                    simp at this; omega
                  have HD5 := Lib.hid hD5
                  have HK5 := Lib.hid hk5
                  have HRAW5 := Lib.hid hraw5
                  have HLA5 := Lib.hid hla5
                  have HLB5 := Lib.hid hlb5
                  have HV5 := Lib.hid hv5
                  have HT5 := Lib.hid ht5
                  have HBA5 := Lib.hid hba5
                  have HBB5 := Lib.hid hbb5
                  clear hD5 hk5 hraw5 hla5 hlb5 hv5 ht5 hba5 hbb5
                  clear hw hbw5
                  go_wp2_with fail
                  refine (next_any w5 b w.heap.size 4 HD5.out (by omega)).mono ?_
                  rintro e w6 ⟨m0, rfl, _, hm0, hD6, hK6⟩
                  have hm0 := hm0 (by omega)
                  have hz6 := hK6.size
                  haveI kb6 : KB [b] w6 w5 := ⟨hK6⟩
                  have HD6 := Lib.hid hD6
                  clear hD6
                  clear hK6
                  go_wp2_with fail
                  obtain ⟨m, hmm⟩ : ∃ m : Nat, m = m0 + 1 := ⟨_, rfl⟩
                  rw [show (1 : Int) + (m0 : Int) = (m : Int) by omega]
                  have hm4 : m ≤ 4 := by omega
                  have hm1 : 1 ≤ m := by omega
                  clear hmm hm0
                  refine (linear_is w6 b w.heap.size m HD6.out hm1 hm4).mono ?_
                  rintro e w7 ⟨AX, cX, BX, mX, dX, x, rfl, hX, hXs, hD7, hK7⟩
                  have hz7 := hK7.size
                  haveI kb7 : KB [b] w7 w6 := ⟨hK7⟩
                  have HD7 := Lib.hid hD7
                  have HX := Lib.hid hX
                  have HXS := Lib.hid hXs
                  clear hD7 hX hXs
                  clear hK7
                  go_wp2_with fail
                  refine (linear_is w7 b w.heap.size m HD7.out hm1 hm4).mono ?_
                  rintro e w8 ⟨AY, cY, BY, mY, dY, y, rfl, hY, hYs, hD8, hK8⟩
                  have hz8 := hK8.size
                  haveI kb8 : KB [b] w8 w7 := ⟨hK8⟩
                  have HD8 := Lib.hid hD8
                  have HY := Lib.hid hY
                  have HYS := Lib.hid hYs
                  clear hD8 hY hYs
                  clear hK8
                  have hk9 : Keeps [] w8 (((w8.alloc (.cells #[.slice AX m cX, .slice BX mX dX] 29)).alloc (.cells #[.slice AY m cY, .slice BY mY dY] 29)).alloc (.cells #[.int .i64 n, .int .i64 (m : Int)] 3)) := (((Keeps.refl _ _).alloc _).alloc _).alloc _
                  have hk59 : Keeps [b] w5 (((w8.alloc (.cells #[.slice AX m cX, .slice BX mX dX] 29)).alloc (.cells #[.slice AY m cY, .slice BY mY dY] 29)).alloc (.cells #[.int .i64 n, .int .i64 (m : Int)] 3)) := (kf [b] w5 w8).trans (hk9.nil _)
                  have hD9 : Deck (((w8.alloc (.cells #[.slice AX m cX, .slice BX mX dX] 29)).alloc (.cells #[.slice AY m cY, .slice BY mY dY] 29)).alloc (.cells #[.int .i64 n, .int .i64 (m : Int)] 3)) b w.heap.size := HD8.out.keeps hk9 (by simp) (by simp)
                  have hb8 : b < w8.heap.size := by omega
                  have hbx : BoxAt (((w8.alloc (.cells #[.slice AX m cX, .slice BX mX dX] 29)).alloc (.cells #[.slice AY m cY, .slice BY mY dY] 29)).alloc (.cells #[.int .i64 n, .int .i64 (m : Int)] 3)) w8.heap.size (.slice AX m cX) (.slice BX mX dX) := ((BoxAt.start w8 (.slice AX m cX) (.slice BX mX dX) 29).new ((Keeps.refl _ _).alloc _)).new ((Keeps.refl _ _).alloc _)
                  have hby : BoxAt (((w8.alloc (.cells #[.slice AX m cX, .slice BX mX dX] 29)).alloc (.cells #[.slice AY m cY, .slice BY mY dY] 29)).alloc (.cells #[.int .i64 n, .int .i64 (m : Int)] 3)) (w8.heap.size + 1) (.slice AY m cY) (.slice BY mY dY) := by
                    have := (BoxAt.start (w8.alloc (.cells #[.slice AX m cX, .slice BX mX dX] 29)) (.slice AY m cY) (.slice BY mY dY) 29).new ((Keeps.refl _ _).alloc (.cells #[.int .i64 n, .int .i64 (m : Int)] 3))
                    simpa using this
                  have hns : IsI (((w8.alloc (.cells #[.slice AX m cX, .slice BX mX dX] 29)).alloc (.cells #[.slice AY m cY, .slice BY mY dY] 29)).alloc (.cells #[.int .i64 n, .int .i64 (m : Int)] 3)) [b] (.slice (some ⟨w8.heap.size + 2, 0, none⟩) 2 2) [n, (m : Int)] := by
                    have := isL_new (R := IsN) (d := 0) (w := (w8.alloc (.cells #[.slice AX m cX, .slice BX mX dX] 29)).alloc (.cells #[.slice AY m cY, .slice BY mY dY] 29)) (l := [b]) (us := #[.int .i64 n, .int .i64 (m : Int)]) (e := 3) (xs := [n, (m : Int)]) (by simp; omega) rfl fun i hi => by
                      have hc : i = 0 ∨ i = 1 := by simp at hi; omega
                      rcases hc with rfl | rfl
                      · rfl
                      · rfl
                    rw [show ((w8.alloc (.cells #[.slice AX m cX, .slice BX mX dX] 29)).alloc (.cells #[.slice AY m cY, .slice BY mY dY] 29)).heap.size = w8.heap.size + 2 by simp] at this
                    exact this
                  have hraw9 := HRAW5.out.keeps hk59
                  have hla9 := HLA5.out.keeps hk59
                  have hlb9 := HLB5.out.keeps hk59
                  have hv9 : IsI (((w8.alloc (.cells #[.slice AX m cX, .slice BX mX dX] 29)).alloc (.cells #[.slice AY m cY, .slice BY mY dY] 29)).alloc (.cells #[.int .i64 n, .int .i64 (m : Int)] 3)) [b] (.slice A5 n5 c5) v := Rok.keeps HV5.out hk59
                  have ht9 : IsI (((w8.alloc (.cells #[.slice AX m cX, .slice BX mX dX] 29)).alloc (.cells #[.slice AY m cY, .slice BY mY dY] 29)).alloc (.cells #[.int .i64 n, .int .i64 (m : Int)] 3)) [b] (.slice A6 n6 c6) t := Rok.keeps HT5.out hk59
                  have hba9 := HBA5.out.keeps hk59 (by simp; omega)
                  have hbb9 := HBB5.out.keeps hk59 (by simp; omega)
                  have hlx9 := HX.out.keeps ((kf [b] w7 w8).trans (hk9.nil _))
                  have hly9 := HY.out.keeps (hk9.nil [b])
                  have hz9 := hk9.size
                  have hnx := HXS.out.nar hm4
                  have hny := HYS.out.nar hm4
                  have HK59 := Lib.hid hk59
                  have HD9 := Lib.hid hD9
                  have HBX := Lib.hid hbx
                  have HBY := Lib.hid hby
                  have HNS := Lib.hid hns
                  have HRAW9 := Lib.hid hraw9
                  have HLA9 := Lib.hid hla9
                  have HLB9 := Lib.hid hlb9
                  have HV9 := Lib.hid hv9
                  have HT9 := Lib.hid ht9
                  have HBA9 := Lib.hid hba9
                  have HBB9 := Lib.hid hbb9
                  have HLX9 := Lib.hid hlx9
                  have HLY9 := Lib.hid hly9
                  have HNX := Lib.hid hnx
                  have HNY := Lib.hid hny
                  clear hk59 hD9 hbx hby hns hraw9 hla9 hlb9 hv9 ht9 hba9 hbb9 hlx9 hly9 hnx hny
                  clear hk9
                  go_wp2_with fail
                  generalize (((w8.alloc (.cells #[.slice AX m cX, .slice BX mX dX] 29)).alloc (.cells #[.slice AY m cY, .slice BY mY dY] 29)).alloc (.cells #[.int .i64 n, .int .i64 (m : Int)] 3)) = wa at *
                  generalize w8.heap.size = g8 at *
                  go_loopg [100] 3 (fun gh iv wr => ∃ j : Nat, 3 ≤ j + gh ∧ j ≤ 2 ∧ iv = .int .i64 (j : Int) ∧ Deck wr b w.heap.size ∧ Keeps [b] wa wr)
                  case atStart => exact ⟨0, by omega, by omega, rfl, HD9.out, Keeps.refl _ _⟩
                  case round =>
                    obtain ⟨j, hgh1, hj2, rfl, hDr, hkr⟩ := hrel
                    generalize wr = wo at *
                    by_cases hj : j < 2
                    · obtain ⟨u, hcu, hyu⟩ := lit_at (Rok.keeps HNS.out hkr) hj
                      have hyu : u = .int .i64 (([n, (m : Int)] : List Int).getD j 0) := hyu
                      subst hyu
                      generalize ([n, (m : Int)] : List Int).getD j 0 = z at *
                      have hbo : b < wo.heap.size := Nat.lt_of_lt_of_le (by omega) hkr.size
                      have hjj : (j : Int) < 2 := by omega
                      have hrs : ∀ s ∈ raw, s.Small := fun s hs => (HRN.out s hs).small
                      have hrl : raw.length ≤ 1000000 := by rw [← HNR.out]; omega
                      have hraw := HRAW9.out.keeps hkr
                      have hc1 := fun W (k : Keeps [] wo W) => check_is (n := z) (hraw.new k) hrs hrl
                      have hc2 := fun W (k : Keeps [] wo W) => rcheck_is (n := z) (hraw.new k) hrs hrl
                      unfold CkPost at hc1 hc2
                      generalize chkL z raw = rz at *
                      have HDR := Lib.hid hDr
                      have HKR := Lib.hid hkr
                      have HRS := Lib.hid hrs
                      have HRL := Lib.hid hrl
                      have HRAW := Lib.hid hraw
                      have HC1 := Lib.hid hc1
                      have HC2 := Lib.hid hc2
                      clear hDr hkr hrs hrl hraw hc1 hc2
                      go_wp2_with fail
                      refine (HC1.out _ (kf [] wo _)).mono ?_
                      rintro e wz1 ⟨rfl, hk⟩
                      haveI kq1 : KB [] wz1 wo := ⟨hk⟩
                      clear hk
                      go_wp2_with fail
                      refine (HC2.out _ (kf [] wo _)).mono ?_
                      rintro e wz2 ⟨rfl, hk⟩
                      haveI kq2 : KB [] wz2 wz1 := ⟨hk⟩
                      clear hk hcu
                      have hk2 := HKR.out.trans ((kf [] wo wz2).nil [b])
                      have hDz := HDR.out.keeps (kf [] wo wz2) (by simp) (by simp)
                      have hxba := HBA9.out.keeps hk2 (by simp; omega)
                      have hxbb := HBB9.out.keeps hk2 (by simp; omega)
                      have hxbx := HBX.out.keeps hk2 (by simp; omega)
                      have hxby := HBY.out.keeps hk2 (by simp; omega)
                      have f1 := hxba.c0
                      have f2 := hxba.c1
                      have f3 := hxbb.c0
                      have f4 := hxbb.c1
                      have f5 := hxbx.c0
                      have f6 := hxbx.c1
                      have f7 := hxby.c0
                      have f8 := hxby.c1
                      have hb2 : b < wz2.heap.size := Nat.lt_of_lt_of_le hbo (kf [] wo wz2).size
                      have hps := fun p hp => pairs_new (ty := 44) (HLA9.out.keeps hk2) (HLB9.out.keeps hk2) (HLX9.out.keeps hk2) (HLY9.out.keeps hk2) HGA.out HGB.out HNX.out HNY.out p hp
                      have hk3 : Keeps [] wz2 (wz2.alloc (.cells #[.slice A3 q3 d3, .slice B3 r3 e3, .slice A4 q4 d4, .slice B4 r4 e4, .slice AX m cX, .slice BX mX dX, .slice AY m cY, .slice BY mY dY, .slice AX m cX, .slice BX mX dX, .slice A3 q3 d3, .slice B3 r3 e3, .slice AX m cX, .slice BX mX dX, .slice AX m cX, .slice BX mX dX] 44)) := (Keeps.refl _ _).alloc _
                      have hDp := hDz.keeps hk3 (by simp) (by simp)
                      have hkp := hk2.trans (hk3.nil [b])
                      have HKP := Lib.hid hkp
                      have HDP := Lib.hid hDp
                      have HPS := Lib.hid hps
                      clear hkp hDp hps
                      clear hxba hxbb hxbx hxby hDz hk2 hk3
                      go_wp2_with fail
                      generalize (wz2.alloc (.cells #[.slice A3 q3 d3, .slice B3 r3 e3, .slice A4 q4 d4, .slice B4 r4 e4, .slice AX m cX, .slice BX mX dX, .slice AY m cY, .slice BY mY dY, .slice AX m cX, .slice BX mX dX, .slice A3 q3 d3, .slice B3 r3 e3, .slice AX m cX, .slice BX mX dX, .slice AX m cX, .slice BX mX dX] 44)) = wp at *
                      generalize wz2.heap.size = gp at *
                      go_loopg [125] 5 (fun gh iv wr => ∃ p : Nat, 5 ≤ p + gh ∧ p ≤ 4 ∧ iv = .int .i64 (p : Int) ∧ Deck wr b w.heap.size ∧ Keeps [b] wp wr)
                      case atStart => exact ⟨0, by omega, by omega, rfl, HDP.out, Keeps.refl _ _⟩
                      case round =>
                        obtain ⟨p, hgh2, hp2, rfl, hDq, hkq⟩ := hrel
                        generalize wr = wq at *
                        by_cases hp : p < 4
                        · obtain ⟨SA, sn, sc, SB, sm, sd, TA, tn, tc, TB, tm, td, s, s2, o0, o1, o2, o3, hls, hlt, hns, hnt⟩ := (HPS.out p hp).keeps hkq (by simp; omega)
                          have hpp : (p : Int) < 4 := by omega
                          have hkpq := HKP.out.trans hkq
                          have HDQ := Lib.hid hDq
                          have HKQ := Lib.hid hkq
                          have HLS := Lib.hid hls
                          have HLT := Lib.hid hlt
                          have HNS := Lib.hid hns
                          have HNT := Lib.hid hnt
                          have HKPQ := Lib.hid hkpq
                          clear hDq hkq hls hlt hns hnt hkpq
                          go_upto_region 20 with fail
                          go_cut [24, 25] (fun v24 v25 wx => ∃ ga gb : Nat, v24 = .pointer (some ⟨ga, 0, none⟩) ∧ v25 = .pointer (some ⟨gb, 0, none⟩) ∧ BoxAt wx ga (.slice SA sn sc) (.slice SB sm sd) ∧ BoxAt wx gb (.slice TA tn tc) (.slice TB tm td) ∧ wq.heap.size ≤ ga ∧ wq.heap.size ≤ gb ∧ Keeps [] wq wx)
                          case first =>
                            go_region
                            · go_wp2_with fail
                              go_meet
                              have hx := boxes2 wq (.cells #[.slice SA sn sc, .slice SB sm sd, .slice TA tn tc, .slice TB tm td] 44) (.slice SA sn sc) (.slice SB sm sd) (.slice TA tn tc) (.slice TB tm td) 29
                              exact ⟨_, _, rfl, rfl, hx.1, hx.2.1, by omega, by omega, hx.2.2⟩
                            · go_wp2_with fail
                              go_meet
                              have hx := boxes2 wq (.cells #[.slice SA sn sc, .slice SB sm sd, .slice TA tn tc, .slice TB tm td] 44) (.slice TA tn tc) (.slice TB tm td) (.slice SA sn sc) (.slice SB sm sd) 29
                              exact ⟨_, _, rfl, rfl, hx.2.1, hx.1, by omega, by omega, hx.2.2⟩
                          case rest => as_aux_lemma =>
                            obtain ⟨ga, gb, rfl, rfl, hbS, hbT, hga, hgb, hkc⟩ := hcut
                            obtain ⟨wd, hwd⟩ : ∃ wd : World, wd = wc := ⟨_, rfl⟩
                            subst hwd
                            have hbq := HDQ.out.lt.1
                            have hDc := HDQ.out.keeps hkc (by simp) (by simp)
                            have hbc := hDc.lt.1
                            have hkpc := HKPQ.out.trans (hkc.nil [b])
                            have hkqc := HKQ.out.trans (hkc.nil [b])
                            have hlsc := HLS.out.new hkc
                            have hltc := HLT.out.new hkc
                            have f1 := hbT.c0
                            have esmall := enters_of Try.func13 (by kernel_rfl) rfl
                            have HDC := Lib.hid hDc
                            have HBS := Lib.hid hbS
                            have HBT := Lib.hid hbT
                            have HLSC := Lib.hid hlsc
                            have HLTC := Lib.hid hltc
                            have HKPC := Lib.hid hkpc
                            have HKQC := Lib.hid hkqc
                            clear hDc hbS hbT hlsc hltc hkpc hkqc
                            clear hkc
                            go_upto_region 21 with fail
                            go_region_held3 (fun W => W.cell? ⟨gb, 0, none⟩ = some (.slice TA tn tc)) (first | exact f1 | exact x0 | go_keep) (first
                              | (refine step_callw 13 #[.tmp 134, .tmp 135, .const (.int .i64 9)] _ rfl esmall (small_any _ b w.heap.size m 9 (HDC.out.keeps (kf [] wd _) (by simp) (by simp)) (by omega) (by omega)) (by first | rfl | (simp [Region.wanted, yielded]; done) | simp [Region.wanted, yielded, Act.put]) (by first | (simp [Act.eval]; done) | (simp only [Act.eval, Act.put]; simp; done) | simp [Act.eval, Act.put]) ?_; rintro e w11 ⟨X2, cX2, sv, rfl, hs2l, _, hown2, hD11, hK11⟩; have x0 := (BoxAt.keeps (HBT.out.new (kf [] wd _)) hK11 (by simp; omega)).c0; refine ⟨_, rfl, ?_⟩))
                            have hkd11 : Keeps [b] wd w11 := ((kf [] wd wd.drew).nil [b]).trans hK11
                            have hsI : IsI w11 [b] (.slice X2 m cX2) sv := (isN_own (l := [b]) rfl (by rw [hs2l]; exact hown2)).isL (fun y hy => by rw [List.mem_singleton.1 hy]; simpa using hbc)
                            have hal : Keeps [] w11 (w11.alloc (.cells #[.slice A5 n5 c5, .slice X2 m cX2, .slice TA tn tc] 22)) := (Keeps.refl _ _).alloc _
                            have hk11 : Keeps [b] wd (w11.alloc (.cells #[.slice A5 n5 c5, .slice X2 m cX2, .slice TA tn tc] 22)) := hkd11.trans (hal.nil _)
                            have hb11 := hD11.lt.1
                            have hvs : IsL IsI [] (w11.alloc (.cells #[.slice A5 n5 c5, .slice X2 m cX2, .slice TA tn tc] 22)) [b] (.slice (some ⟨w11.heap.size, 0, none⟩) 3 3) [v, sv, s2.base] := isL_new (xs := [v, sv, s2.base]) (by simp; omega) rfl fun i hi => by
                              have hc : i = 0 ∨ i = 1 ∨ i = 2 := by simp at hi; omega
                              rcases hc with rfl | rfl | rfl
                              · exact Rok.keeps HV9.out (HKPC.out.trans hkd11)
                              · exact hsI
                              · exact HLTC.out.1.keeps hkd11
                            have hvf : ∀ y ∈ [v, sv, s2.base], y.length ≤ 12 := fun y hy => by
                              rcases List.mem_cons.1 hy with rfl | hy
                              · have := HN5.out; omega
                              · rcases List.mem_cons.1 hy with rfl | hy
                                · omega
                                · rw [List.mem_singleton.1 hy]; exact HNT.out.base
                            have hDv : Deck (w11.alloc (.cells #[.slice A5 n5 c5, .slice X2 m cX2, .slice TA tn tc] 22)) b w.heap.size := hD11.keeps hal (by simp) (by simp)
                            have HVS := Lib.hid hvs
                            have HVF := Lib.hid hvf
                            have HDV := Lib.hid hDv
                            have HK11 := Lib.hid hk11
                            clear hvs hvf hDv hk11
                            clear hown2 hD11 hK11 hsI hal hkd11 x0 f1 esmall hs2l
                            go_wp2_with fail
                            generalize (w11.alloc (.cells #[.slice A5 n5 c5, .slice X2 m cX2, .slice TA tn tc] 22)) = wv at *
                            generalize w11.heap.size = gv at *
                            have hbv := HDV.out.lt.1
                            have hbsv := HBS.out.keeps HK11.out (by simp; omega)
                            have hbtv := HBT.out.keeps HK11.out (by simp; omega)
                            have hlsv := HLSC.out.keeps HK11.out
                            have hltv := HLTC.out.keeps HK11.out
                            have hkav := HKPC.out.trans HK11.out
                            have hrvv := HRAW9.out.keeps hkav
                            have htv : IsI wv [b] (.slice A6 n6 c6) t := Rok.keeps HT9.out hkav
                            have HBSV := Lib.hid hbsv
                            have HBTV := Lib.hid hbtv
                            have HLSV := Lib.hid hlsv
                            have HLTV := Lib.hid hltv
                            have HRVV := Lib.hid hrvv
                            have HTV := Lib.hid htv
                            have HKAV := Lib.hid hkav
                            clear hbsv hbtv hlsv hltv hrvv htv hkav
                            go_loopg [141] 4 (fun gh iv wr => ∃ q : Nat, 4 ≤ q + gh ∧ q ≤ 3 ∧ iv = .int .i64 (q : Int) ∧ Keeps [] wv wr)
                            case atStart => exact ⟨0, by omega, by omega, rfl, Keeps.refl _ _⟩
                            case round =>
                              obtain ⟨q, hgh3, hqq3, rfl, hkt⟩ := hrel
                              generalize wr = wt at *
                              have hbt : b < wt.heap.size := Nat.lt_of_lt_of_le hbv hkt.size
                              have hbl : ∀ W, Keeps [] wt W → ∀ y ∈ [b], y < W.heap.size := fun W k y hy => by
                                rw [List.mem_singleton.1 hy]; exact Nat.lt_of_lt_of_le hbt k.size
                              have hss := HNS.out.small
                              have hst := HNT.out.small
                              have hbst := HBSV.out.new hkt
                              have hbtt := HBTV.out.new hkt
                              have hlst := HLSV.out.new hkt
                              have hltt := HLTV.out.new hkt
                              by_cases hq : q < 3
                              · obtain ⟨u3, hcu3, hyu⟩ := lit_at (Rok.keeps HVS.out (hkt.nil _)) hq
                                have hyl := HVF.out _ (getD_mem (d := []) (show q < ([v, sv, s2.base] : List (List Int)).length from hq))
                                generalize ([v, sv, s2.base] : List (List Int)).getD q [] = yv at *
                                obtain ⟨Vy, cy, rfl, _⟩ := hyu.open
                                have hrawt := HRVV.out.new hkt
                                have htt : IsI wt [b] (.slice A6 n6 c6) t := Rok.keeps HTV.out (hkt.nil _)
                                have htl : t.length ≤ 1000000 := by rw [← HN6.out]; omega
                                have hrs1 : ∀ c ∈ s :: raw, c.Small := fun c hc => (List.mem_cons.1 hc).elim (fun e => by rw [e]; exact hss) (fun h => (HRN.out c h).small)
                                have hrs2 : ∀ c ∈ [s, s2], c.Small := fun c hc => (List.mem_cons.1 hc).elim (fun e => by rw [e]; exact hss) (fun h => by rw [List.mem_singleton.1 h]; exact hst)
                                have hrl : raw.length ≤ 1000 := by rw [← HNR.out]; omega
                                have hT1 := fun W (k : Keeps [] wt W) => (times_is (hbl W k) (hlst.new k) hss (hyu.new k) (by omega)).mono fun _ _ h => TimesPost.fix h
                                have hT2 := fun W (k : Keeps [] wt W) => (rTimes_is (hbl W k) (hlst.new k) hss (hyu.new k) (by omega)).mono fun _ _ h => TimesPost.fix h
                                have hP1 := fun W (k : Keeps [] wt W) => (provesS_is (hbl W k) (hlst.new k) hss (hyu.new k) (by omega) (htt.new k) htl).mono fun _ _ h => PrPost.fix h
                                have hP2 := fun W (k : Keeps [] wt W) => rproves_is (hlst.new k) hss (hyu.new k) (by omega) (htt.new k) htl
                                have hP3 := fun tv tl W (k : Keeps [] wt W) (hI : IsI W [b] tv tl) (h6 : tl.length ≤ 1000000) => (provesS_is (hbl W k) (hlst.new k) hss (hyu.new k) (by omega) hI h6).mono fun _ _ h => PrPost.fix h
                                have hP4 := fun tv tl W (k : Keeps [] wt W) (hI : IsI W [b] tv tl) (h6 : tl.length ≤ 1000000) => rproves_is (hlst.new k) hss (hyu.new k) (by omega) hI h6
                                have hH1 := fun W (k : Keeps [] wt W) lv (hl : IsLins W [b] lv (s :: raw)) => (has_is (n := z) (hbl W k) hl hrs1 (by simp; omega) (hyu.new k) (by omega)).mono fun _ _ h => HasPost.fix h
                                have hH2 := fun W (k : Keeps [] wt W) lv (hl : IsLins W [b] lv (s :: raw)) => rhas_is (n := z) (hbl W k) hl hrs1 (by simp; omega) (hyu.new k) (by omega)
                                have hH3 := fun W (k : Keeps [] wt W) lv (hl : IsLins W [b] lv [s, s2]) => (has_is (n := z) (hbl W k) hl hrs2 (by simp) (hyu.new k) (by omega)).mono fun _ _ h => HasPost.fix h
                                have hH4 := fun W (k : Keeps [] wt W) lv (hl : IsLins W [b] lv [s, s2]) => rhas_is (n := z) (hbl W k) hl hrs2 (by simp) (hyu.new k) (by omega)
                                have hS1 := fun W (k : Keeps [] wt W) => (shift_is (n := z) (hbl W k) (hlst.new k) hss (hyu.new k) (by omega)).mono fun _ _ h => SftPost.fix (hbl W k) h
                                have hS2 := fun W (k : Keeps [] wt W) => rshift_is (n := z) (hbl W k) (hlst.new k) hss (hyu.new k) (by omega)
                                have hshn := shf_nar (n := z) (v := yv) HNS.out
                                have hol := Nat.le_trans (timesF_len (s := s) (v := yv)) HNS.out.per
                                generalize shfF z s yv = sh at *
                                obtain ⟨zsh, lsh⟩ := sh
                                generalize hasF z (s :: raw) yv = b1 at *
                                generalize hasF z [s, s2] yv = b2 at *
                                generalize prvF s yv t = p1 at *
                                generalize timesF s yv = oo at *
                                generalize hny : yv.length = ny at *
                                unfold TimP at hT1 hT2
                                unfold LinP at hS1 hS2
                                have g0 := hbst.c0
                                have g1 := hbst.c1
                                have hqi : (q : Int) < 3 := by omega
                                have HBST := Lib.hid hbst
                                have HBTT := Lib.hid hbtt
                                have HLST := Lib.hid hlst
                                have HLTT := Lib.hid hltt
                                have HRAWT := Lib.hid hrawt
                                have HTT := Lib.hid htt
                                have HKT := Lib.hid hkt
                                have HYU := Lib.hid hyu
                                have HT1 := Lib.hid hT1
                                have HT2 := Lib.hid hT2
                                have HP1 := Lib.hid hP1
                                have HP2 := Lib.hid hP2
                                have HP3 := Lib.hid hP3
                                have HP4 := Lib.hid hP4
                                have HH1 := Lib.hid hH1
                                have HH2 := Lib.hid hH2
                                have HH3 := Lib.hid hH3
                                have HH4 := Lib.hid hH4
                                have HS1 := Lib.hid hS1
                                have HS2 := Lib.hid hS2
                                have HSHN := Lib.hid hshn
                                have HOL := Lib.hid hol
                                have HNY := Lib.hid hny
                                have HBL := Lib.hid hbl
                                have HSS := Lib.hid hss
                                have HST := Lib.hid hst
                                have HRS1 := Lib.hid hrs1
                                have HRS2 := Lib.hid hrs2
                                have HRL := Lib.hid hrl
                                have HTL := Lib.hid htl
                                clear hbst hbtt hlst hltt hrawt htt hkt hyu hT1 hT2 hP1 hP2 hP3 hP4 hH1 hH2 hH3 hH4 hS1 hS2 hshn hol hny hbl hss hst hrs1 hrs2 hrl htl
                                go_wp2_with fail
                                refine (HT1.out _ (kf [] wt _)).mono ?_
                                rintro e wy1 ⟨hk, A8, n8, c8, hn8, rfl, hI8⟩
                                haveI kq3 : KB [] wy1 wt := ⟨hk⟩
                                have g2 := (HBST.out.new (kf [] wt wy1)).c0
                                have g3 := (HBST.out.new (kf [] wt wy1)).c1
                                have HN8 := Lib.hid hn8
                                have HI8 := Lib.hid hI8
                                clear hn8 hI8
                                clear hk g0 g1 hcu3
                                go_wp2_with fail
                                refine (HT2.out _ (kf [] wt _)).mono ?_
                                rintro e wy2 ⟨hk, A9, n9, c9, hn9, rfl, hI9⟩
                                haveI kq4 : KB [] wy2 wy1 := ⟨hk⟩
                                have g0 := (HBST.out.new (kf [] wt wy2)).c0
                                have g1 := (HBST.out.new (kf [] wt wy2)).c1
                                have hI8b : IsI wy2 [b] (.slice A8 n8 c8) (oo.getD []) := Rok.keeps HI8.out ((kf [] wy1 wy2).nil _)
                                have hsa : ∀ W, Keeps [] wy2 W → Calls Try.prog 24 #[.slice A8 n8 c8, .slice A9 n9 c9] W (Quiet (.bool true) W) := fun W k => by
                                  have := same_is (hI8b.new k) (hI9.new k) (by have := HOL.out; omega) (by have := HOL.out; omega)
                                  rwa [decide_eq_true rfl] at this
                                have hq1 := fun W (k : Keeps [] wy2 W) => HP1.out W ((kf [] wt wy2).trans k)
                                have hq2 := fun W (k : Keeps [] wy2 W) => HP2.out W ((kf [] wt wy2).trans k)
                                have hq3 := fun W (k : Keeps [] wy2 W) => HP3.out _ _ W ((kf [] wt wy2).trans k) (hI9.new k) (by have := HOL.out; omega)
                                have hq4 := fun W (k : Keeps [] wy2 W) => HP4.out _ _ W ((kf [] wt wy2).trans k) (hI9.new k) (by have := HOL.out; omega)
                                generalize prvF s yv (oo.getD []) = p2 at *
                                generalize oo.isSome = os at *
                                unfold BoolP at hq1 hq2 hq3 hq4
                                have HN9 := Lib.hid hn9
                                have HI9 := Lib.hid hI9
                                have HI8B := Lib.hid hI8b
                                have HSA := Lib.hid hsa
                                have HQ1 := Lib.hid hq1
                                have HQ2 := Lib.hid hq2
                                have HQ3 := Lib.hid hq3
                                have HQ4 := Lib.hid hq4
                                clear hn9 hI9 hI8b hsa hq1 hq2 hq3 hq4
                                clear hk g2 g3
                                go_upto_region 26 with fail
                                refine wp_quietk (l0 := []) (by kernel_rfl) (by kernel_rfl) ?_
                                repeat ((with_reducible refine wpQuiet_step (fun K hK => ?_)); go_simp; first
                                  | ((with_reducible refine hK _ ?_); clear hK K)
                                  | (rw [if_neg (by intro h; cases h)]; (with_reducible refine hK _ ?_); clear hK K)
                                  | (apply Exists.intro; refine ⟨fun W hW => ?_, hK _ ?_⟩
                                     · first
                                         | with_reducible exact Eq.refl _
                                         | ((have hr1 := hW.read g0 (by simp); have hr2 := hW.read g1 (by simp)); (try go_simp); with_reducible first | done | exact Eq.refl _ | exact ⟨Eq.refl _, Eq.refl _⟩)
                                         | ((first | ((with_reducible refine (HSA.out W hW).mono ?_); rintro e w10 ⟨rfl, hk⟩; exact ⟨Eq.refl _, hW.trans (quiet_keeps hk)⟩) | ((with_reducible refine (HQ1.out W hW).mono ?_); rintro e w10 ⟨rfl, hk⟩; exact ⟨Eq.refl _, hW.trans hk⟩) | ((with_reducible refine (HQ2.out W hW).mono ?_); rintro e w10 ⟨rfl, hk⟩; exact ⟨Eq.refl _, hW.trans hk⟩) | ((with_reducible refine (HQ3.out W hW).mono ?_); rintro e w10 ⟨rfl, hk⟩; exact ⟨Eq.refl _, hW.trans hk⟩) | ((with_reducible refine (HQ4.out W hW).mono ?_); rintro e w10 ⟨rfl, hk⟩; exact ⟨Eq.refl _, hW.trans hk⟩)))
                                     clear hK K))
                                with_reducible refine wpQuiet_nil ?_
                                intro w9 hk9
                                haveI kq5 : KB [] w9 wy2 := ⟨hk9⟩
                                clear hk9 g0 g1
                                have hk9 := kf [] wt w9
                                have hbl9 := fun W (k : Keeps [] w9 W) => HBL.out W (hk9.trans k)
                                have hls9 := HLST.out.new hk9
                                have hlt9 := HLTT.out.new hk9
                                have hraw9b := HRAWT.out.new hk9
                                have hbs9 := HBST.out.new hk9
                                have hbt9 := HBTT.out.new hk9
                                have hg0 := hbs9.c0
                                have hg1 := hbs9.c1
                                have hg2 := hbt9.c0
                                have hg3 := hbt9.c1
                                have hh1 := fun W (k : Keeps [] w9 W) => HH1.out W (hk9.trans k)
                                have hh2 := fun W (k : Keeps [] w9 W) => HH2.out W (hk9.trans k)
                                have hh3 := fun W (k : Keeps [] w9 W) => HH3.out W (hk9.trans k)
                                have hh4 := fun W (k : Keeps [] w9 W) => HH4.out W (hk9.trans k)
                                clear HH1 HH2 HH3 HH4 HBL HRAW
                                have HRAW := Lib.hid hraw9b
                                have HBL := Lib.hid hbl9
                                have HLS := Lib.hid hls9
                                have HLT := Lib.hid hlt9
                                clear hraw9b hbl9 hls9 hlt9
                                have HG0 := Lib.hid hg0
                                have HG1 := Lib.hid hg1
                                have HG2 := Lib.hid hg2
                                have HG3 := Lib.hid hg3
                                have HH1 := Lib.hid hh1
                                have HH2 := Lib.hid hh2
                                have HH3 := Lib.hid hh3
                                have HH4 := Lib.hid hh4
                                clear hg0 hg1 hg2 hg3 hh1 hh2 hh3 hh4
                                clear hbs9 hbt9 hk9
                                go_upto_region 28 with fail
                                refine wp_region_rels (l0 := []) [eqR (.int .i64 z), eqR (.agg #[.slice SA sn sc, .slice SB sm sd]), (fun v W => ∃ g, v = .slice (some ⟨g, 0, none⟩) 1 1 ∧ IsLins W [b] (.slice (some ⟨g, 0, none⟩) 1 1) [s]), eqR (.slice AR i cr), (fun v W => IsLins W [b] v (s :: raw)), eqR (.slice Vy ny cy), eqR (.bool b1), eqR (.int .i64 z), eqR (.agg #[.slice SA sn sc, .slice SB sm sd]), (fun v W => ∃ g, v = .slice (some ⟨g, 0, none⟩) 1 1 ∧ IsLins W [b] (.slice (some ⟨g, 0, none⟩) 1 1) [s]), eqR (.slice AR i cr), (fun v W => IsLins W [b] v (s :: raw)), eqR (.slice Vy ny cy), eqR (.bool b1), eqR (.bool false), eqR (.bool false), eqR (.int .i64 z), eqR (.agg #[.slice SA sn sc, .slice SB sm sd]), eqR (.agg #[.slice TA tn tc, .slice TB tm td]), (fun v W => IsLins W [b] v [s, s2]), eqR (.slice Vy ny cy), eqR (.bool b2), eqR (.int .i64 z), eqR (.agg #[.slice SA sn sc, .slice SB sm sd]), eqR (.agg #[.slice TA tn tc, .slice TB tm td]), (fun v W => IsLins W [b] v [s, s2]), eqR (.slice Vy ny cy), eqR (.bool b2), eqR (.bool false), eqR (.bool false)] (by kernel_rfl) (by kernel_rfl) ⟨.eq, .eq, (fun v W W' h k => by obtain ⟨g, e, h⟩ := h; exact ⟨g, e, h.new k⟩), .eq, (fun v W W' h k => IsLins.new h k), .eq, .eq, .eq, .eq, (fun v W W' h k => by obtain ⟨g, e, h⟩ := h; exact ⟨g, e, h.new k⟩), .eq, (fun v W W' h k => IsLins.new h k), .eq, .eq, .eq, .eq, .eq, .eq, .eq, (fun v W W' h k => IsLins.new h k), .eq, .eq, .eq, .eq, .eq, (fun v W W' h k => IsLins.new h k), .eq, .eq, .eq, .eq, trivial⟩ ?_ ?_
                                · refine ⟨fun a w' hkw hdw how => ?_, ?_⟩
                                  · have e0 : a.tmps.getD 21 undef = .int .i64 z := how 21 rfl
                                    refine step_val (v := .int .i64 z) (by rfl) ?_ (by simp) rfl (Keeps.refl _ _) hkw
                                    simp [go_sem, Act.eval, e0]
                                  refine ⟨fun a w' hkw hdw how => ?_, ?_⟩
                                  · have e0 : a.tmps.getD 24 undef = .pointer (some ⟨ga, 0, none⟩) := how 24 rfl
                                    have h0 := hkw.read HG0.out (by simp)
                                    have h1 := hkw.read HG1.out (by simp)
                                    refine step_val (v := .agg #[.slice SA sn sc, .slice SB sm sd]) (by rfl) ?_ (by simp) rfl (Keeps.refl _ _) hkw
                                    simp [go_sem, Act.eval, e0, h0, h1]
                                  refine ⟨fun a w' hkw hdw how => ?_, ?_⟩
                                  · have d0 : a.tmps.getD 189 undef = .agg #[.slice SA sn sc, .slice SB sm sd] := DepsOf.get hdw 0 rfl rfl rfl
                                    refine step_val (v := .slice (some ⟨w'.heap.size, 0, none⟩) 1 1) (w' := w'.alloc (.cells #[.slice SA sn sc, .slice SB sm sd] 29)) (by rfl) ?_ (by simp) ⟨_, rfl, IsLins.one (HBL.out w' hkw) (HLS.out.new hkw)⟩ ((Keeps.refl _ _).alloc _) (hkw.alloc _)
                                    simp only [Array.getD_eq_getD_getElem?] at d0
                                    simp [go_sem, Act.eval, d0]
                                  refine ⟨fun a w' hkw hdw how => ?_, ?_⟩
                                  · have e0 : a.tmps.getD 2 undef = .slice AR i cr := how 2 rfl
                                    refine step_val (v := .slice AR i cr) (by rfl) ?_ (by simp) rfl (Keeps.refl _ _) hkw
                                    simp [go_sem, Act.eval, e0]
                                  refine ⟨fun a w' hkw hdw how => ?_, ?_⟩
                                  · have d0 : ∃ g, a.tmps.getD 190 undef = .slice (some ⟨g, 0, none⟩) 1 1 ∧ IsLins w' [b] (.slice (some ⟨g, 0, none⟩) 1 1) [s] := DepsOf.get hdw 0 rfl rfl rfl
                                    obtain ⟨g, d0, d1⟩ := d0
                                    have d2 : a.tmps.getD 191 undef = .slice AR i cr := DepsOf.get hdw 1 rfl rfl rfl
                                    obtain ⟨v', W', hrun, hl, hk⟩ := append_lins (ty := 39) (HBL.out w' hkw) d1 (HRAW.out.new hkw) HRL.out
                                    refine step_val (v := v') (w' := W') (by rfl) (run_app_op rfl d0 d2 hrun) (by simp) hl hk (hkw.trans hk)
                                  refine ⟨fun a w' hkw hdw how => ?_, ?_⟩
                                  · have e0 : a.tmps.getD 27 undef = .slice Vy ny cy := how 27 rfl
                                    refine step_val (v := .slice Vy ny cy) (by rfl) ?_ (by simp) rfl (Keeps.refl _ _) hkw
                                    simp [go_sem, Act.eval, e0]
                                  refine ⟨fun a w' hkw hdw how => ?_, ?_⟩
                                  · have d0 : a.tmps.getD 188 undef = .int .i64 z := DepsOf.get hdw 0 rfl rfl rfl
                                    have d1 : IsLins w' [b] (a.tmps.getD 192 undef) (s :: raw) := DepsOf.get hdw 1 rfl rfl rfl
                                    have d2 : a.tmps.getD 193 undef = .slice Vy ny cy := DepsOf.get hdw 2 rfl rfl rfl
                                    refine step_fun (f := 18) (args := #[.int .i64 z, a.tmps.getD 192 undef, .slice Vy ny cy]) (by rfl) ?_ (by simp) hkw ((HH1.out w' hkw _ d1).mono ?_)
                                    · simp [go_sem, Act.eval, d0, d2]
                                    · rintro e W' ⟨rfl, hk⟩
                                      exact ⟨_, rfl, rfl, hk⟩
                                  refine ⟨fun a w' hkw hdw how => ?_, ?_⟩
                                  · have e0 : a.tmps.getD 21 undef = .int .i64 z := how 21 rfl
                                    refine step_val (v := .int .i64 z) (by rfl) ?_ (by simp) rfl (Keeps.refl _ _) hkw
                                    simp [go_sem, Act.eval, e0]
                                  refine ⟨fun a w' hkw hdw how => ?_, ?_⟩
                                  · have e0 : a.tmps.getD 24 undef = .pointer (some ⟨ga, 0, none⟩) := how 24 rfl
                                    have h0 := hkw.read HG0.out (by simp)
                                    have h1 := hkw.read HG1.out (by simp)
                                    refine step_val (v := .agg #[.slice SA sn sc, .slice SB sm sd]) (by rfl) ?_ (by simp) rfl (Keeps.refl _ _) hkw
                                    simp [go_sem, Act.eval, e0, h0, h1]
                                  refine ⟨fun a w' hkw hdw how => ?_, ?_⟩
                                  · have d0 : a.tmps.getD 196 undef = .agg #[.slice SA sn sc, .slice SB sm sd] := DepsOf.get hdw 0 rfl rfl rfl
                                    refine step_val (v := .slice (some ⟨w'.heap.size, 0, none⟩) 1 1) (w' := w'.alloc (.cells #[.slice SA sn sc, .slice SB sm sd] 29)) (by rfl) ?_ (by simp) ⟨_, rfl, IsLins.one (HBL.out w' hkw) (HLS.out.new hkw)⟩ ((Keeps.refl _ _).alloc _) (hkw.alloc _)
                                    simp only [Array.getD_eq_getD_getElem?] at d0
                                    simp [go_sem, Act.eval, d0]
                                  refine ⟨fun a w' hkw hdw how => ?_, ?_⟩
                                  · have e0 : a.tmps.getD 2 undef = .slice AR i cr := how 2 rfl
                                    refine step_val (v := .slice AR i cr) (by rfl) ?_ (by simp) rfl (Keeps.refl _ _) hkw
                                    simp [go_sem, Act.eval, e0]
                                  refine ⟨fun a w' hkw hdw how => ?_, ?_⟩
                                  · have d0 : ∃ g, a.tmps.getD 197 undef = .slice (some ⟨g, 0, none⟩) 1 1 ∧ IsLins w' [b] (.slice (some ⟨g, 0, none⟩) 1 1) [s] := DepsOf.get hdw 0 rfl rfl rfl
                                    obtain ⟨g, d0, d1⟩ := d0
                                    have d2 : a.tmps.getD 198 undef = .slice AR i cr := DepsOf.get hdw 1 rfl rfl rfl
                                    obtain ⟨v', W', hrun, hl, hk⟩ := append_lins (ty := 39) (HBL.out w' hkw) d1 (HRAW.out.new hkw) HRL.out
                                    refine step_val (v := v') (w' := W') (by rfl) (run_app_op rfl d0 d2 hrun) (by simp) hl hk (hkw.trans hk)
                                  refine ⟨fun a w' hkw hdw how => ?_, ?_⟩
                                  · have e0 : a.tmps.getD 27 undef = .slice Vy ny cy := how 27 rfl
                                    refine step_val (v := .slice Vy ny cy) (by rfl) ?_ (by simp) rfl (Keeps.refl _ _) hkw
                                    simp [go_sem, Act.eval, e0]
                                  refine ⟨fun a w' hkw hdw how => ?_, ?_⟩
                                  · have d0 : a.tmps.getD 195 undef = .int .i64 z := DepsOf.get hdw 0 rfl rfl rfl
                                    have d1 : IsLins w' [b] (a.tmps.getD 199 undef) (s :: raw) := DepsOf.get hdw 1 rfl rfl rfl
                                    have d2 : a.tmps.getD 200 undef = .slice Vy ny cy := DepsOf.get hdw 2 rfl rfl rfl
                                    refine step_fun (f := 26) (args := #[.int .i64 z, a.tmps.getD 199 undef, .slice Vy ny cy]) (by rfl) ?_ (by simp) hkw ((HH2.out w' hkw _ d1).mono ?_)
                                    · simp [go_sem, Act.eval, d0, d2]
                                    · rintro e W' ⟨rfl, hk⟩
                                      exact ⟨_, rfl, rfl, hk⟩
                                  refine ⟨fun a w' hkw hdw how => ?_, ?_⟩
                                  · have d0 : a.tmps.getD 194 undef = .bool b1 := DepsOf.get hdw 0 rfl rfl rfl
                                    have d1 : a.tmps.getD 201 undef = .bool b1 := DepsOf.get hdw 1 rfl rfl rfl
                                    refine step_val (v := .bool false) (by rfl) ?_ (by simp) rfl (Keeps.refl _ _) hkw
                                    simp only [Array.getD_eq_getD_getElem?] at d0 d1
                                    simp [go_sem, Act.eval, d0, d1]
                                  refine ⟨fun a w' hkw hdw how => ?_, ?_⟩
                                  · have d0 : a.tmps.getD 202 undef = .bool false := DepsOf.get hdw 0 rfl rfl rfl
                                    refine step_val (v := .bool false) (by rfl) ?_ (by simp) rfl (Keeps.refl _ _) hkw
                                    simp only [Array.getD_eq_getD_getElem?] at d0
                                    simp [go_sem, Act.eval, d0]
                                  refine ⟨fun a w' hkw hdw how => ?_, ?_⟩
                                  · have e0 : a.tmps.getD 21 undef = .int .i64 z := how 21 rfl
                                    refine step_val (v := .int .i64 z) (wanted_of (j := 15) (x := false) rfl rfl rfl (DepsOf.get hdw 0 rfl rfl rfl)) ?_ (by simp) rfl (Keeps.refl _ _) hkw
                                    simp [go_sem, Act.eval, e0]
                                  refine ⟨fun a w' hkw hdw how => ?_, ?_⟩
                                  · have e0 : a.tmps.getD 24 undef = .pointer (some ⟨ga, 0, none⟩) := how 24 rfl
                                    have h0 := hkw.read HG0.out (by simp)
                                    have h1 := hkw.read HG1.out (by simp)
                                    refine step_val (v := .agg #[.slice SA sn sc, .slice SB sm sd]) (wanted_of (j := 15) (x := false) rfl rfl rfl (DepsOf.get hdw 0 rfl rfl rfl)) ?_ (by simp) rfl (Keeps.refl _ _) hkw
                                    simp [go_sem, Act.eval, e0, h0, h1]
                                  refine ⟨fun a w' hkw hdw how => ?_, ?_⟩
                                  · have e0 : a.tmps.getD 25 undef = .pointer (some ⟨gb, 0, none⟩) := how 25 rfl
                                    have h0 := hkw.read HG2.out (by simp)
                                    have h1 := hkw.read HG3.out (by simp)
                                    refine step_val (v := .agg #[.slice TA tn tc, .slice TB tm td]) (wanted_of (j := 15) (x := false) rfl rfl rfl (DepsOf.get hdw 0 rfl rfl rfl)) ?_ (by simp) rfl (Keeps.refl _ _) hkw
                                    simp [go_sem, Act.eval, e0, h0, h1]
                                  refine ⟨fun a w' hkw hdw how => ?_, ?_⟩
                                  · have d0 : a.tmps.getD 205 undef = .agg #[.slice SA sn sc, .slice SB sm sd] := DepsOf.get hdw 0 rfl rfl rfl
                                    have d1 : a.tmps.getD 206 undef = .agg #[.slice TA tn tc, .slice TB tm td] := DepsOf.get hdw 1 rfl rfl rfl
                                    refine step_val (v := .slice (some ⟨w'.heap.size, 0, none⟩) 2 2) (w' := w'.alloc (.cells #[.slice SA sn sc, .slice SB sm sd, .slice TA tn tc, .slice TB tm td] 29)) (wanted_of (j := 15) (x := false) rfl rfl rfl (DepsOf.get hdw 2 rfl rfl rfl)) ?_ (by simp) (IsLins.two (HBL.out w' hkw) (HLS.out.new hkw) (HLT.out.new hkw)) ((Keeps.refl _ _).alloc _) (hkw.alloc _)
                                    simp only [Array.getD_eq_getD_getElem?] at d0 d1
                                    simp [go_sem, Act.eval, d0, d1]
                                  refine ⟨fun a w' hkw hdw how => ?_, ?_⟩
                                  · have e0 : a.tmps.getD 27 undef = .slice Vy ny cy := how 27 rfl
                                    refine step_val (v := .slice Vy ny cy) (wanted_of (j := 15) (x := false) rfl rfl rfl (DepsOf.get hdw 0 rfl rfl rfl)) ?_ (by simp) rfl (Keeps.refl _ _) hkw
                                    simp [go_sem, Act.eval, e0]
                                  refine ⟨fun a w' hkw hdw how => ?_, ?_⟩
                                  · have d0 : a.tmps.getD 204 undef = .int .i64 z := DepsOf.get hdw 0 rfl rfl rfl
                                    have d1 : IsLins w' [b] (a.tmps.getD 207 undef) [s, s2] := DepsOf.get hdw 1 rfl rfl rfl
                                    have d2 : a.tmps.getD 208 undef = .slice Vy ny cy := DepsOf.get hdw 2 rfl rfl rfl
                                    refine step_fun (f := 18) (args := #[.int .i64 z, a.tmps.getD 207 undef, .slice Vy ny cy]) (wanted_of (j := 15) (x := false) rfl rfl rfl (DepsOf.get hdw 4 rfl rfl rfl)) ?_ (by simp) hkw ((HH3.out w' hkw _ d1).mono ?_)
                                    · simp [go_sem, Act.eval, d0, d2]
                                    · rintro e W' ⟨rfl, hk⟩
                                      exact ⟨_, rfl, rfl, hk⟩
                                  refine ⟨fun a w' hkw hdw how => ?_, ?_⟩
                                  · have e0 : a.tmps.getD 21 undef = .int .i64 z := how 21 rfl
                                    refine step_val (v := .int .i64 z) (wanted_of (j := 15) (x := false) rfl rfl rfl (DepsOf.get hdw 0 rfl rfl rfl)) ?_ (by simp) rfl (Keeps.refl _ _) hkw
                                    simp [go_sem, Act.eval, e0]
                                  refine ⟨fun a w' hkw hdw how => ?_, ?_⟩
                                  · have e0 : a.tmps.getD 24 undef = .pointer (some ⟨ga, 0, none⟩) := how 24 rfl
                                    have h0 := hkw.read HG0.out (by simp)
                                    have h1 := hkw.read HG1.out (by simp)
                                    refine step_val (v := .agg #[.slice SA sn sc, .slice SB sm sd]) (wanted_of (j := 15) (x := false) rfl rfl rfl (DepsOf.get hdw 0 rfl rfl rfl)) ?_ (by simp) rfl (Keeps.refl _ _) hkw
                                    simp [go_sem, Act.eval, e0, h0, h1]
                                  refine ⟨fun a w' hkw hdw how => ?_, ?_⟩
                                  · have e0 : a.tmps.getD 25 undef = .pointer (some ⟨gb, 0, none⟩) := how 25 rfl
                                    have h0 := hkw.read HG2.out (by simp)
                                    have h1 := hkw.read HG3.out (by simp)
                                    refine step_val (v := .agg #[.slice TA tn tc, .slice TB tm td]) (wanted_of (j := 15) (x := false) rfl rfl rfl (DepsOf.get hdw 0 rfl rfl rfl)) ?_ (by simp) rfl (Keeps.refl _ _) hkw
                                    simp [go_sem, Act.eval, e0, h0, h1]
                                  refine ⟨fun a w' hkw hdw how => ?_, ?_⟩
                                  · have d0 : a.tmps.getD 211 undef = .agg #[.slice SA sn sc, .slice SB sm sd] := DepsOf.get hdw 0 rfl rfl rfl
                                    have d1 : a.tmps.getD 212 undef = .agg #[.slice TA tn tc, .slice TB tm td] := DepsOf.get hdw 1 rfl rfl rfl
                                    refine step_val (v := .slice (some ⟨w'.heap.size, 0, none⟩) 2 2) (w' := w'.alloc (.cells #[.slice SA sn sc, .slice SB sm sd, .slice TA tn tc, .slice TB tm td] 29)) (wanted_of (j := 15) (x := false) rfl rfl rfl (DepsOf.get hdw 2 rfl rfl rfl)) ?_ (by simp) (IsLins.two (HBL.out w' hkw) (HLS.out.new hkw) (HLT.out.new hkw)) ((Keeps.refl _ _).alloc _) (hkw.alloc _)
                                    simp only [Array.getD_eq_getD_getElem?] at d0 d1
                                    simp [go_sem, Act.eval, d0, d1]
                                  refine ⟨fun a w' hkw hdw how => ?_, ?_⟩
                                  · have e0 : a.tmps.getD 27 undef = .slice Vy ny cy := how 27 rfl
                                    refine step_val (v := .slice Vy ny cy) (wanted_of (j := 15) (x := false) rfl rfl rfl (DepsOf.get hdw 0 rfl rfl rfl)) ?_ (by simp) rfl (Keeps.refl _ _) hkw
                                    simp [go_sem, Act.eval, e0]
                                  refine ⟨fun a w' hkw hdw how => ?_, ?_⟩
                                  · have d0 : a.tmps.getD 210 undef = .int .i64 z := DepsOf.get hdw 0 rfl rfl rfl
                                    have d1 : IsLins w' [b] (a.tmps.getD 213 undef) [s, s2] := DepsOf.get hdw 1 rfl rfl rfl
                                    have d2 : a.tmps.getD 214 undef = .slice Vy ny cy := DepsOf.get hdw 2 rfl rfl rfl
                                    refine step_fun (f := 26) (args := #[.int .i64 z, a.tmps.getD 213 undef, .slice Vy ny cy]) (wanted_of (j := 15) (x := false) rfl rfl rfl (DepsOf.get hdw 4 rfl rfl rfl)) ?_ (by simp) hkw ((HH4.out w' hkw _ d1).mono ?_)
                                    · simp [go_sem, Act.eval, d0, d2]
                                    · rintro e W' ⟨rfl, hk⟩
                                      exact ⟨_, rfl, rfl, hk⟩
                                  refine ⟨fun a w' hkw hdw how => ?_, ?_⟩
                                  · have d0 : a.tmps.getD 209 undef = .bool b2 := DepsOf.get hdw 0 rfl rfl rfl
                                    have d1 : a.tmps.getD 215 undef = .bool b2 := DepsOf.get hdw 1 rfl rfl rfl
                                    refine step_val (v := .bool false) (wanted_of (j := 15) (x := false) rfl rfl rfl (DepsOf.get hdw 2 rfl rfl rfl)) ?_ (by simp) rfl (Keeps.refl _ _) hkw
                                    simp only [Array.getD_eq_getD_getElem?] at d0 d1
                                    simp [go_sem, Act.eval, d0, d1]
                                  refine ⟨fun a w' hkw hdw how => ?_, ?_⟩
                                  · have d0 : a.tmps.getD 203 undef = .bool false := DepsOf.get hdw 0 rfl rfl rfl
                                    have d1 : a.tmps.getD 216 undef = .bool false := DepsOf.get hdw 1 rfl rfl rfl
                                    refine step_val (v := .bool false) (by rfl) ?_ (by simp) rfl (Keeps.refl _ _) hkw
                                    simp only [Array.getD_eq_getD_getElem?] at d0 d1
                                    simp [go_sem, Act.eval, d0, d1]
                                  trivial
                                · intro vs wk hvs hkw
                                  have v0 := hvs 28 (by simp)
                                  have v1 := hvs 29 (by simp)
                                  have v2 := hvs 15 (by simp)
                                  simp [relN, eqR] at v0 v1 v2
                                  simp only [putAll, Act.put, Nat.zero_add, Nat.reduceAdd, v0, v1, v2, List.setIfInBounds_toArray, List.set_cons_succ, List.set_cons_zero]
                                  clear hvs v0 v1 v2
                                  haveI kk28 : KB [] wk _ := ⟨hkw⟩
                                  clear hkw
                                  have g0 := (HBST.out.new (kf [] wt wk)).c0
                                  have g1 := (HBST.out.new (kf [] wt wk)).c1
                                  go_wp2_with fail
                                  refine (HS1.out _ (kf [] wt _)).mono ?_
                                  rintro e wu1 ⟨hk, A8, n8, c8, B8, m8, d8, hn8, hm8, rfl, hb8', hp8⟩
                                  haveI ku1 : KB [] wu1 _ := ⟨hk⟩
                                  have hl8 : IsLin wu1 [b] (.slice A8 n8 c8) (.slice B8 m8 d8) lsh := ⟨hb8', hp8⟩
                                  have hbs1 := HBST.out.new (kf [] wt (wu1.alloc (.cells #[.slice A8 n8 c8, .slice B8 m8 d8] 29)))
                                  have hbt1 := HBTT.out.new (kf [] wt (wu1.alloc (.cells #[.slice A8 n8 c8, .slice B8 m8 d8] 29)))
                                  have f1 := hbs1.c0
                                  have f2 := hbs1.c1
                                  have f3 := hbt1.c0
                                  have f4 := hbt1.c1
                                  have HN8 := Lib.hid hn8
                                  have HM8 := Lib.hid hm8
                                  have HL8 := Lib.hid hl8
                                  clear hn8 hm8 hl8
                                  clear hk hb8' hp8 hbs1 hbt1
                                  go_wp2_with fail
                                  clear f1 f2 f3 f4
                                  refine (HS2.out _ (kf [] wt _)).mono ?_
                                  rintro e wu2 ⟨hk, A9, n9, c9, B9, m9, d9, hn9, hm9, rfl, hb9', hp9⟩
                                  haveI ku2 : KB [] wu2 _ := ⟨hk⟩
                                  have hx1 : BoxAt (wu2.alloc (.cells #[.slice A9 n9 c9, .slice B9 m9 d9] 29)) wu1.heap.size (.slice A8 n8 c8) (.slice B8 m8 d8) := (BoxAt.start wu1 _ _ 29).new (kf [] (wu1.alloc (.cells #[.slice A8 n8 c8, .slice B8 m8 d8] 29)) (wu2.alloc (.cells #[.slice A9 n9 c9, .slice B9 m9 d9] 29)))
                                  have hx2 : BoxAt (wu2.alloc (.cells #[.slice A9 n9 c9, .slice B9 m9 d9] 29)) wu2.heap.size (.slice A9 n9 c9) (.slice B9 m9 d9) := BoxAt.start _ _ _ _
                                  have f1 := hx1.c0
                                  have f2 := hx1.c1
                                  have f3 := hx2.c0
                                  have f4 := hx2.c1
                                  have hl9 : IsLin wu2 [b] (.slice A9 n9 c9) (.slice B9 m9 d9) lsh := ⟨hb9', hp9⟩
                                  have hsm := fun W (k : Keeps [] (wu2.alloc (.cells #[.slice A9 n9 c9, .slice B9 m9 d9] 29)) W) => rsame_is (HL8.out.new ((kf [] wu1 (wu2.alloc (.cells #[.slice A9 n9 c9, .slice B9 m9 d9] 29))).trans k)) (hl9.new ((kf [] wu2 (wu2.alloc (.cells #[.slice A9 n9 c9, .slice B9 m9 d9] 29))).trans k)) (by have := HSHN.out.base; omega) (by have := HSHN.out.per; omega) (fun p hp => by have := HSHN.out.row p hp; omega)
                                  unfold BoolP at hsm
                                  have HN9 := Lib.hid hn9
                                  have HM9 := Lib.hid hm9
                                  have HSM := Lib.hid hsm
                                  clear hn9 hm9 hsm
                                  clear hk hb9' hp9 hx1 hx2 hl9
                                  go_wp2_with fail
                                  refine (HSM.out _ (Keeps.refl _ _)).mono ?_
                                  rintro e wu3 ⟨rfl, hk⟩
                                  haveI ku3 : KB [] wu3 _ := ⟨hk⟩
                                  clear hk f1 f2 f3 f4 g0 g1
                                  have hkend := HKT.out.trans (kf [] wt wu3)
                                  have HKEND := Lib.hid hkend
                                  clear hkend
                                  go_wp2_with fail
                                  go_roundg (3 - q)
                                  case measure => omega
                                  case rel => exact ⟨q + 1, by omega, by omega, by go_num, HKEND.out⟩
                              · obtain rfl : q = 3 := by omega
                                have hS1 := fun W (k : Keeps [] wt W) => (sum_is (n := z) (hbl W k) (hlst.new k) hss (hltt.new k) hst).mono fun _ _ h => SumPost.fix h
                                have hS2 := fun W (k : Keeps [] wt W) => rsum_is (n := z) (hbl W k) (hlst.new k) hss (hltt.new k) hst
                                have hW1 := fun W (k : Keeps [] wt W) => (within_is (n := z) (hbl W k) (hlst.new k) hss (hltt.new k) hst).mono fun _ _ h => WiPost.fix h
                                have hW2 := fun W (k : Keeps [] wt W) => rwithin_is (n := z) (hbl W k) (hlst.new k) hss (hltt.new k) hst
                                have hshn := sum_nar (n := z) HNS.out HNT.out
                                generalize sumF z s s2 = sh at *
                                obtain ⟨zsh, lsh⟩ := sh
                                generalize witF z s s2 = b3 at *
                                unfold LinP at hS1 hS2
                                unfold BoolP at hW1 hW2
                                have g0 := hbst.c0
                                have g1 := hbst.c1
                                have g2 := hbtt.c0
                                have g3 := hbtt.c1
                                have HBST := Lib.hid hbst
                                have HBTT := Lib.hid hbtt
                                have HLST := Lib.hid hlst
                                have HLTT := Lib.hid hltt
                                have HKT := Lib.hid hkt
                                have HS1 := Lib.hid hS1
                                have HS2 := Lib.hid hS2
                                have HW1 := Lib.hid hW1
                                have HW2 := Lib.hid hW2
                                have HSHN := Lib.hid hshn
                                have HBL := Lib.hid hbl
                                have HSS := Lib.hid hss
                                have HST := Lib.hid hst
                                clear hbst hbtt hlst hltt hkt hS1 hS2 hW1 hW2 hshn hbl hss hst
                                go_wp2_with fail
                                go_wp2_with fail
                                refine (HS1.out _ (kf [] wt _)).mono ?_
                                rintro e wu1 ⟨hk, A8, n8, c8, B8, m8, d8, hn8, hm8, rfl, hb8', hp8⟩
                                haveI ku1 : KB [] wu1 _ := ⟨hk⟩
                                have hl8 : IsLin wu1 [b] (.slice A8 n8 c8) (.slice B8 m8 d8) lsh := ⟨hb8', hp8⟩
                                have hbs1 := HBST.out.new (kf [] wt (wu1.alloc (.cells #[.slice A8 n8 c8, .slice B8 m8 d8] 29)))
                                have hbt1 := HBTT.out.new (kf [] wt (wu1.alloc (.cells #[.slice A8 n8 c8, .slice B8 m8 d8] 29)))
                                have f1 := hbs1.c0
                                have f2 := hbs1.c1
                                have f3 := hbt1.c0
                                have f4 := hbt1.c1
                                have HN8 := Lib.hid hn8
                                have HM8 := Lib.hid hm8
                                have HL8 := Lib.hid hl8
                                clear hn8 hm8 hl8
                                clear hk hb8' hp8 hbs1 hbt1
                                go_wp2_with fail
                                clear f1 f2 f3 f4
                                refine (HS2.out _ (kf [] wt _)).mono ?_
                                rintro e wu2 ⟨hk, A9, n9, c9, B9, m9, d9, hn9, hm9, rfl, hb9', hp9⟩
                                haveI ku2 : KB [] wu2 _ := ⟨hk⟩
                                have hx1 : BoxAt (wu2.alloc (.cells #[.slice A9 n9 c9, .slice B9 m9 d9] 29)) wu1.heap.size (.slice A8 n8 c8) (.slice B8 m8 d8) := (BoxAt.start wu1 _ _ 29).new (kf [] (wu1.alloc (.cells #[.slice A8 n8 c8, .slice B8 m8 d8] 29)) (wu2.alloc (.cells #[.slice A9 n9 c9, .slice B9 m9 d9] 29)))
                                have hx2 : BoxAt (wu2.alloc (.cells #[.slice A9 n9 c9, .slice B9 m9 d9] 29)) wu2.heap.size (.slice A9 n9 c9) (.slice B9 m9 d9) := BoxAt.start _ _ _ _
                                have f1 := hx1.c0
                                have f2 := hx1.c1
                                have f3 := hx2.c0
                                have f4 := hx2.c1
                                have hl9 : IsLin wu2 [b] (.slice A9 n9 c9) (.slice B9 m9 d9) lsh := ⟨hb9', hp9⟩
                                have hsm := fun W (k : Keeps [] (wu2.alloc (.cells #[.slice A9 n9 c9, .slice B9 m9 d9] 29)) W) => rsame_is (HL8.out.new ((kf [] wu1 (wu2.alloc (.cells #[.slice A9 n9 c9, .slice B9 m9 d9] 29))).trans k)) (hl9.new ((kf [] wu2 (wu2.alloc (.cells #[.slice A9 n9 c9, .slice B9 m9 d9] 29))).trans k)) (by have := HSHN.out.base; omega) (by have := HSHN.out.per; omega) (fun p hp => by have := HSHN.out.row p hp; omega)
                                unfold BoolP at hsm
                                have HN9 := Lib.hid hn9
                                have HM9 := Lib.hid hm9
                                have HSM := Lib.hid hsm
                                clear hn9 hm9 hsm
                                clear hk hb9' hp9 hx1 hx2 hl9
                                have p0 := (HBST.out.new (kf [] wt (wu2.alloc (.cells #[.slice A9 n9 c9, .slice B9 m9 d9] 29)))).c0
                                have p1 := (HBST.out.new (kf [] wt (wu2.alloc (.cells #[.slice A9 n9 c9, .slice B9 m9 d9] 29)))).c1
                                have p2 := (HBTT.out.new (kf [] wt (wu2.alloc (.cells #[.slice A9 n9 c9, .slice B9 m9 d9] 29)))).c0
                                have p3 := (HBTT.out.new (kf [] wt (wu2.alloc (.cells #[.slice A9 n9 c9, .slice B9 m9 d9] 29)))).c1
                                have hw1 := fun W (k : Keeps [] (wu2.alloc (.cells #[.slice A9 n9 c9, .slice B9 m9 d9] 29)) W) => HW1.out W ((kf [] wt (wu2.alloc (.cells #[.slice A9 n9 c9, .slice B9 m9 d9] 29))).trans k)
                                have hw2 := fun W (k : Keeps [] (wu2.alloc (.cells #[.slice A9 n9 c9, .slice B9 m9 d9] 29)) W) => HW2.out W ((kf [] wt (wu2.alloc (.cells #[.slice A9 n9 c9, .slice B9 m9 d9] 29))).trans k)
                                have hku := HKT.out.trans (kf [] wt (wu2.alloc (.cells #[.slice A9 n9 c9, .slice B9 m9 d9] 29)))
                                clear HW1 HW2
                                have HW1 := Lib.hid hw1
                                have HW2 := Lib.hid hw2
                                have HKU := Lib.hid hku
                                clear hku
                                clear hw1 hw2 g0 g1 g2 g3
                                go_upto_region 37 with fail
                                refine wp_quietk (l0 := []) (by kernel_rfl) (by kernel_rfl) ?_
                                repeat ((with_reducible refine wpQuiet_step (fun K hK => ?_)); go_simp; first
                                  | ((with_reducible refine hK _ ?_); clear hK K)
                                  | (rw [if_neg (by intro h; cases h)]; (with_reducible refine hK _ ?_); clear hK K)
                                  | (apply Exists.intro; refine ⟨fun W hW => ?_, hK _ ?_⟩
                                     · first
                                         | with_reducible exact Eq.refl _
                                         | ((have hr1 := hW.read f1 (by simp); have hr2 := hW.read f2 (by simp); have hr3 := hW.read f3 (by simp); have hr4 := hW.read f4 (by simp); have hr5 := hW.read p0 (by simp); have hr6 := hW.read p1 (by simp); have hr7 := hW.read p2 (by simp); have hr8 := hW.read p3 (by simp)); (try go_simp); with_reducible first | done | exact Eq.refl _ | exact ⟨Eq.refl _, Eq.refl _⟩)
                                         | ((first | ((with_reducible refine (HSM.out W hW).mono ?_); rintro e w10 ⟨rfl, hk⟩; exact ⟨Eq.refl _, hW.trans hk⟩) | ((with_reducible refine (HW1.out W hW).mono ?_); rintro e w10 ⟨rfl, hk⟩; exact ⟨Eq.refl _, hW.trans hk⟩) | ((with_reducible refine (HW2.out W hW).mono ?_); rintro e w10 ⟨rfl, hk⟩; exact ⟨Eq.refl _, hW.trans hk⟩)))
                                     clear hK K))
                                with_reducible refine wpQuiet_nil ?_
                                intro w9 hk9
                                clear f1 f2 f3 f4 p0 p1 p2 p3
                                have hkend := HKU.out.trans hk9
                                have HKEND := Lib.hid hkend
                                clear hkend
                                clear hk9
                                go_wp2_with fail
                                go_roundg (4 - p)
                                case measure => omega
                                case rel => exact ⟨p + 1, by omega, by omega, by go_num, HDV.out.keeps HKEND.out (by simp) (by simp), (HKQC.out.trans HK11.out).trans (HKEND.out.nil [b])⟩
                        · obtain rfl : p = 4 := by omega
                          have hkpq := HKP.out.trans hkq
                          have HDQ := Lib.hid hDq
                          have HKQ := Lib.hid hkq
                          have HKPQ := Lib.hid hkpq
                          clear hDq hkq hkpq
                          go_wp2_with fail
                          go_roundg (2 - j)
                          case measure => omega
                          case rel => exact ⟨j + 1, by omega, by omega, by go_num, HDQ.out, HKPQ.out⟩
                    · obtain rfl : j = 2 := by omega
                      have hkk2 := (HK5.out.nil [b]).trans (HK59.out.trans hkr)
                      have hkk3 := HK0.out.nil [b] |>.trans hkk2
                      have HDR := Lib.hid hDr
                      have HKR := Lib.hid hkr
                      have HKK3 := Lib.hid hkk3
                      clear hDr hkr hkk3
                      clear hkk2
                      go_wp2_with fail
                      go_ret
                      exact ⟨rfl, HKK3.out.below (by simp; omega) (Nat.le_refl _)⟩
            · have d6 : decide ((12 : Int) < (n6 : Int)) = true := decide_eq_true (by omega)
              have d6' : decide (12 < n6) = true := decide_eq_true (by omega)
              go_enter Try.func6, Try.ntmps6
              go_upto_region 1 with fail
              generalize (w.alloc (.cells #[.slice A3 q3 d3, .slice B3 r3 e3] 29)).alloc (.cells #[.slice A4 q4 d4, .slice B4 r4 e4] 29) = wb at *
              go_wp2_with fail
              refine (awake_any wb).mono ?_
              rintro e w1 ⟨rfl, hbw1⟩
              have hkw1 := hbw1.toK (l := [])
              have hbb1 := HBB.out.new hkw1
              have hba1 := HBA.out.new hkw1
              have hb0 := hbb1.c0
              have hb1 := hbb1.c1
              have ha0 := hba1.c0
              have ha1 := hba1.c1
              clear hbb1 hba1
              have HKW1 := Lib.hid hkw1
              clear hkw1
              clear hbw1
              go_wp2_with fail
              refine (few_any w1 A0 len cap).mono ?_
              rintro e w' ⟨rfl, rfl⟩
              rw [hd]
              go_wp2_with fail
              refine (HNA.out w1 HKW1.out).mono ?_
              rintro e w3 ⟨rfl, hk3⟩
              have hkw3 := HKW1.out.trans hk3
              clear hk3
              clear hb0 hb1 ha0 ha1
              have hbb1 := HBB.out.new hkw3
              have hba1 := HBA.out.new hkw3
              have hb0 := hbb1.c0
              have hb1 := hbb1.c1
              have ha0 := hba1.c0
              have ha1 := hba1.c1
              clear hbb1 hba1
              have HKW3 := Lib.hid hkw3
              clear hkw3
              go_wp2_with fail
              refine (HNB.out w3 HKW3.out).mono ?_
              rintro e w4 ⟨rfl, hk4⟩
              have hkw4 := HKW3.out.trans hk4
              clear hk4
              clear hb0 hb1 ha0 ha1
              have hbb1 := HBB.out.new hkw4
              have hba1 := HBA.out.new hkw4
              have hb0 := hbb1.c0
              have hb1 := hbb1.c1
              have ha0 := hba1.c0
              have ha1 := hba1.c1
              clear hbb1 hba1
              have HKW4 := Lib.hid hkw4
              clear hkw4
              clear hb0 hb1 ha0 ha1
              go_wp2_with fail
              refine (awake_any w4).mono ?_
              rintro e w9 ⟨rfl, hb9⟩
              have hk9 := (HK0.out.trans HKW4.out).trans (hb9.toK (l := []))
              have HK9 := Lib.hid hk9
              clear hk9
              clear hb9
              go_wp2_with fail
              go_ret
              exact ⟨rfl, HK9.out.to_below⟩
          · have d5 : decide ((12 : Int) < (n5 : Int)) = true := decide_eq_true (by omega)
            have d5' : decide (12 < n5) = true := decide_eq_true (by omega)
            go_enter Try.func6, Try.ntmps6
            go_upto_region 1 with fail
            generalize (w.alloc (.cells #[.slice A3 q3 d3, .slice B3 r3 e3] 29)).alloc (.cells #[.slice A4 q4 d4, .slice B4 r4 e4] 29) = wb at *
            go_wp2_with fail
            refine (awake_any wb).mono ?_
            rintro e w1 ⟨rfl, hbw1⟩
            have hkw1 := hbw1.toK (l := [])
            have hbb1 := HBB.out.new hkw1
            have hba1 := HBA.out.new hkw1
            have hb0 := hbb1.c0
            have hb1 := hbb1.c1
            have ha0 := hba1.c0
            have ha1 := hba1.c1
            clear hbb1 hba1
            have HKW1 := Lib.hid hkw1
            clear hkw1
            clear hbw1
            go_wp2_with fail
            refine (few_any w1 A0 len cap).mono ?_
            rintro e w' ⟨rfl, rfl⟩
            rw [hd]
            go_wp2_with fail
            refine (HNA.out w1 HKW1.out).mono ?_
            rintro e w3 ⟨rfl, hk3⟩
            have hkw3 := HKW1.out.trans hk3
            clear hk3
            clear hb0 hb1 ha0 ha1
            have hbb1 := HBB.out.new hkw3
            have hba1 := HBA.out.new hkw3
            have hb0 := hbb1.c0
            have hb1 := hbb1.c1
            have ha0 := hba1.c0
            have ha1 := hba1.c1
            clear hbb1 hba1
            have HKW3 := Lib.hid hkw3
            clear hkw3
            go_wp2_with fail
            refine (HNB.out w3 HKW3.out).mono ?_
            rintro e w4 ⟨rfl, hk4⟩
            have hkw4 := HKW3.out.trans hk4
            clear hk4
            clear hb0 hb1 ha0 ha1
            have hbb1 := HBB.out.new hkw4
            have hba1 := HBA.out.new hkw4
            have hb0 := hbb1.c0
            have hb1 := hbb1.c1
            have ha0 := hba1.c0
            have ha1 := hba1.c1
            clear hbb1 hba1
            have HKW4 := Lib.hid hkw4
            clear hkw4
            clear hb0 hb1 ha0 ha1
            go_wp2_with fail
            refine (awake_any w4).mono ?_
            rintro e w9 ⟨rfl, hb9⟩
            have hk9 := (HK0.out.trans HKW4.out).trans (hb9.toK (l := []))
            have HK9 := Lib.hid hk9
            clear hk9
            clear hb9
            go_wp2_with fail
            go_ret
            exact ⟨rfl, HK9.out.to_below⟩
    · have d1 : decide ((12 : Int) < (nr : Int)) = true := decide_eq_true (by omega)
      have d1' : decide (12 < nr) = true := decide_eq_true (by omega)
      go_enter Try.func6, Try.ntmps6
      go_upto_region 1 with fail
      generalize (w.alloc (.cells #[.slice A3 q3 d3, .slice B3 r3 e3] 29)).alloc (.cells #[.slice A4 q4 d4, .slice B4 r4 e4] 29) = wb at *
      go_wp2_with fail
      refine (awake_any wb).mono ?_
      rintro e w1 ⟨rfl, hbw1⟩
      have hkw1 := hbw1.toK (l := [])
      have hbb1 := HBB.out.new hkw1
      have hba1 := HBA.out.new hkw1
      have hb0 := hbb1.c0
      have hb1 := hbb1.c1
      have ha0 := hba1.c0
      have ha1 := hba1.c1
      clear hbb1 hba1
      have HKW1 := Lib.hid hkw1
      clear hkw1
      clear hbw1
      go_wp2_with fail
      refine (few_any w1 A0 len cap).mono ?_
      rintro e w' ⟨rfl, rfl⟩
      rw [hd]
      clear hb0 hb1 ha0 ha1
      go_wp2_with fail
      refine (awake_any w1).mono ?_
      rintro e w9 ⟨rfl, hb9⟩
      have hk9 := (HK0.out.trans HKW1.out).trans (hb9.toK (l := []))
      have HK9 := Lib.hid hk9
      clear hk9
      clear hb9
      go_wp2_with fail
      go_ret
      exact ⟨rfl, HK9.out.to_below⟩
  · have hd : decide ((len : Int) ≤ 400) = false := by simp; omega
    go_enter Try.func6, Try.ntmps6
    go_upto_region 1 with fail
    generalize (w.alloc (.cells #[.slice A3 q3 d3, .slice B3 r3 e3] 29)).alloc (.cells #[.slice A4 q4 d4, .slice B4 r4 e4] 29) = wb at *
    go_wp2_with fail
    refine (awake_any wb).mono ?_
    rintro e w1 ⟨rfl, hbw1⟩
    have hkw1 := hbw1.toK (l := [])
    have hbb1 := HBB.out.new hkw1
    have hba1 := HBA.out.new hkw1
    have hb0 := hbb1.c0
    have hb1 := hbb1.c1
    have ha0 := hba1.c0
    have ha1 := hba1.c1
    clear hbb1 hba1
    have HKW1 := Lib.hid hkw1
    clear hkw1
    clear hbw1
    go_wp2_with fail
    refine (few_any w1 A0 len cap).mono ?_
    rintro e w' ⟨rfl, rfl⟩
    rw [hd]
    clear hb0 hb1 ha0 ha1
    go_wp2_with fail
    refine (awake_any w1).mono ?_
    rintro e w9 ⟨rfl, hb9⟩
    have hk9 := (HK0.out.trans HKW1.out).trans (hb9.toK (l := []))
    have HK9 := Lib.hid hk9
    clear hk9
    clear hb9
    go_wp2_with fail
    go_ret
    exact ⟨rfl, HK9.out.to_below⟩
end Go.Proofs.Ytdhadnnakcdfiaa
