/- The walk of coverabilitylaw05.PriorityFalls. -/
import Derived.Test.YtmjnicikikgncaaLJoins

namespace Go.Proofs.Ytmjnicikikgncaa
set_option linter.unusedVariables false
open Go.RowKit

/-- What holds of each word of falling ranks. -/
structure FallOk (r x : List Int) : Prop where
  ne : x ≠ []
  len : x.length ≤ 3
  no : ∀ y, ¬ IsPDrop r x y
theorem fall_ok {r x : List Int} (hr : ∀ z ∈ r, 0 ≤ z ∧ z ≤ 2) (h : FallW r (min 2 6 + 1) x) : FallOk r x := by
  have h0 : ∀ z ∈ r, 0 ≤ z := fun z hz => (hr z hz).1
  refine ⟨h.1, ?_, fun y hy => falls_iff.1 h.2.2.1 y hy.2⟩
  exact fallL_words h0 3 _ x ((fallL_mem h0 3 _ (by decide) x).2 h)
theorem fall_last {r x : List Int} (hr : ∀ z ∈ r, 0 ≤ z ∧ z ≤ 2) (hx : PValid r x) (h : ∀ y, ¬ IsPDrop r x y) (hne : x ≠ []) : FallW r (min 2 6 + 1) x := by
  refine ⟨hne, hx.2.2, falls_iff.2 fun y hy => h y ⟨hx, hy⟩, fun z hz => ?_⟩
  have h1 := hx.2.2 z hz
  have h2 := hr (rkF r z) (by
    unfold rkF
    exact getD_mem (by omega))
  omega
theorem fall_count {r : List Int} {ys : List (List Int)} (h6 : r.length ≤ 6) (hr : ∀ z ∈ r, 0 ≤ z ∧ z ≤ 2) (ha : Asc ys) (hys : ∀ x, x ∈ ys ↔ FallW r (min 2 6 + 1) x) : ys.length ≤ 258 := by
  have h0 : ∀ z ∈ r, 0 ≤ z := fun z hz => (hr z hz).1
  have h1 := asc_len ha (L := fallL r 3 (min 2 6 + 1)) fun z hz => (fallL_mem h0 3 _ (by decide) z).2 ((hys z).1 hz)
  have h2 := fallL_len h6 3 (min 2 6 + 1)
  have h3 : fallN 3 = 258 := rfl
  omega
theorem drop_valid {r x y : List Int} (h : IsPDrop r x y) : PValid r y ∧ y.length < x.length := by
  have h1 := h.2.len
  refine ⟨⟨h.1.1, by have := h.1.2.1; omega, fun z hz => h.1.2.2 z (h.2.ple.sub.subset hz)⟩, by omega⟩

set_option maxRecDepth 100000 in
set_option maxHeartbeats 8000000 in
theorem falls_law_any (w : World) (len cap : Nat) (A0 : Option Addr) (l : Nat → Int) (hR : Rd w w.heap.size A0 len (fun i => .int .i64 (l i))) :
    Calls Try.prog 6 #[.slice A0 len cap] w fun e w' => e = .returned (.bool true) ∧ Below w.heap.size w w' := by
  have HR := Lib.hid hR
  clear hR
  by_cases hlen : len ≤ 400
  · have hd : decide ((len : Int) ≤ 400) = true := by simp; omega
    go_enter Try.func6, Try.ntmps6
    go_wp2_with fail
    refine (awake_any w).mono ?_
    rintro e w1 ⟨rfl, hb1⟩
    have hz1 := hb1.size
    go_wp2_with fail
    refine (few_any w1 A0 len cap).mono ?_
    rintro e w' ⟨rfl, rfl⟩
    rw [hd]
    go_wp2_with fail
    refine (new_any w1 w.heap.size A0 len cap l (HR.out.below hb1) hlen hz1).mono ?_
    rintro e w2 ⟨rfl, hD2, hb2⟩
    have hz2 := hb2.size
    have hbl2 := hD2.lt
    have hB2 := hb1.trans (hb2.mono hz1)
    have HD2 := Lib.hid hD2
    have HB2 := Lib.hid hB2
    clear hD2 hB2
    clear hb1 hb2
    generalize w1.heap.size = b at *
    go_wp2_with fail
    refine (ranks_any w2 b w.heap.size 3 HD2.out (by omega)).mono ?_
    rintro e w3 ⟨Ar, cr, r, rfl, hnr, hrr, hAr, hDr, hK⟩
    have hzr := hK.size
    haveI kbr : KB [b] w3 w2 := ⟨hK⟩
    have HAR := Lib.hid hAr
    have HDR := Lib.hid hDr
    have HNR := Lib.hid hnr
    have HRR := Lib.hid hrr
    clear hAr hDr hnr hrr
    clear hK
    go_wp2_with fail
    refine (word_any w3 b w.heap.size 3 10 HDR.out (by omega) (by omega)).mono ?_
    rintro e w4 ⟨A1, n1, c1, x0, rfl, hn1, hle1, har, hA1, hD1, hK⟩
    have hz1 := hK.size
    have hv1 : PValid r x0 := pvalid_deck (n := 3) HNR.out.symm (by omega) (by omega) HRR.out (by omega) har
    haveI kb1 : KB [b] w4 w3 := ⟨hK⟩
    have HA1 := Lib.hid hA1
    have HD1 := Lib.hid hD1
    have HN1 := Lib.hid hn1
    have HV1 := Lib.hid hv1
    clear hA1 hD1 hn1 hv1
    clear hK har
    go_wp2_with fail
    refine (falling_all (l := [b]) (most := 2) (by simp; omega) (IsI.now HAR.out (c := w4)) (by rw [← HNR.out]; omega) (by omega)).mono ?_
    rintro e w5 ⟨hk5, ⟨hno, rfl⟩ | ⟨Y, k, cy, ys, hpr, hk, rfl, hasc, hys, hO⟩⟩
    · exact absurd HV1.out.1 hno
    haveI kb5 : KB [b] w5 w4 := ⟨hk5.nil _⟩
    have hz5 := hk5.size
    have hL := hO.isL (by simp; omega)
    obtain ⟨Y1, cy1, U, hey, _, _, hyc, hyr⟩ := hL
    injection hey with e1 e2 e3
    subst e1; subst e3
    rw [← hk] at hyc hyr
    have hkb : k ≤ 258 := by rw [hk]; exact fall_count (by rw [← HNR.out]; omega) HRR.out hasc hys
    have hok : ∀ x ∈ ys, FallOk r x := fun x hx => fall_ok HRR.out ((hys x).1 hx)
    have hlast : ∀ x, PValid r x → (∀ y, ¬ IsPDrop r x y) → x ≠ [] → x ∈ ys := fun x h1 h2 h3 => (hys x).2 (fall_last HRR.out h1 h2 h3)
    have hD5 := HD1.out.kept hk5
    have hb5 : b < w5.heap.size := by omega
    have hcmp : ∀ i, i < k → 0 < i → cmpL (ys.getD (i - 1) []) (ys.getD i []) < 0 := fun i h1 h2 => by
      have := List.pairwise_iff_getElem.1 hasc (i - 1) i (by omega) (by omega) (by omega)
      simpa [List.getD_eq_getElem?_getD, show i - 1 < ys.length by omega, show i < ys.length by omega] using this
    have HK := Lib.hid hk
    have HYC := Lib.hid hyc
    have HYR := Lib.hid hyr
    have HOK := Lib.hid hok
    have HLAST := Lib.hid hlast
    have HD5 := Lib.hid hD5
    have HCMP := Lib.hid hcmp
    clear hk hyc hyr hok hlast hD5 hcmp
    clear hasc hys hO hk5 e2 hpr
    go_wp2_with fail
    go_loopg [5] (n1 + 1) (fun gh wv wr => ∃ (nx cx : Nat) (Ax : Option Addr) (x : List Int), wv = .slice Ax nx cx ∧ nx = x.length ∧ nx + 1 ≤ gh ∧ PValid r x ∧ IsI wr [b] (.slice Ax nx cx) x ∧ Deck wr b w.heap.size ∧ Keeps [b] w5 wr)
    case atStart => exact ⟨n1, c1, A1, x0, rfl, HN1.out, by omega, HV1.out, IsI.now HA1.out, HD5.out, Keeps.refl _ _⟩
    case round =>
      obtain ⟨nx, cx, Ax, x, rfl, hnx, hgh, hvx, hix, hdr, hkr⟩ := hrel
      haveI kbr : KB [b] wr w5 := ⟨hkr⟩
      have hzr := hkr.size
      have hnx12 : nx ≤ 12 := by rw [hnx]; exact hvx.2.1
      have hcd := pdrops_is (l := [b]) (by simp; omega) (IsI.now HAR.out (c := wr)) hix (by rw [← HNR.out]; omega) (by omega)
      have hnxl := hnx
      have HNXL := Lib.hid hnxl
      have HVX := Lib.hid hvx
      have HIX := Lib.hid hix
      have HDR := Lib.hid hdr
      have HCD := Lib.hid hcd
      clear hnxl hvx hix hdr hcd
      clear hnx
      clear hkr
      go_wp2_with fail
      refine HCD.out.mono ?_
      rintro e w6 ⟨A6, k6, c6, zs, hk6, rfl, hasc6, hzs, hO6, hkk6⟩
      haveI kb6 : KB [b] w6 wr := ⟨hkk6.nil _⟩
      have hz6 := hkk6.size
      by_cases h0 : k6 = 0
      · have hno : ∀ y, ¬ IsPDrop r x y := fun y hy => by
          have := (hzs y).2 hy
          have h1 := List.length_pos_of_mem this
          omega
        have hmem := HLAST.out x HVX.out hno
        have HNO := Lib.hid hno
        have HMEM := Lib.hid hmem
        clear hno hmem
        subst h0
        clear hk6 hasc6 hzs hO6 hkk6
        go_wp2_with fail
        go_loopg [9, 51] (k + 1) (fun gh sv iv wr => ∃ (i : Nat) (s : Bool), k + 1 ≤ i + gh ∧ i ≤ k ∧ iv = .int .i64 (i : Int) ∧ sv = .bool s ∧ (s = true ↔ x = [] ∨ ∃ j, j < i ∧ ys.getD j [] = x) ∧ Keeps [b] w6 wr)
        case atStart => exact ⟨0, ((nx : Int) == 0), by omega, by omega, rfl, rfl, by
          rw [beq_iff_eq]
          exact ⟨fun h => .inl (List.eq_nil_of_length_eq_zero (by rw [← HNXL.out]; omega)), fun h => h.elim (fun e => by rw [HNXL.out, e]; rfl) (fun ⟨j, hj, _⟩ => absurd hj (Nat.not_lt_zero j))⟩, Keeps.refl _ _⟩
        case round =>
          obtain ⟨i, s, hgh2, hi, rfl, rfl, hs, hkr2⟩ := hrel
          haveI kbr2 : KB [b] wr w6 := ⟨hkr2⟩
          have hzr2 := hkr2.size
          have HS := Lib.hid hs
          clear hs
          clear hkr2
          by_cases hlt : i < k
          · obtain ⟨p, rfl, hp⟩ := (RdL.now HYC.out (c := wr)).at_ hlt
            have hrow : IsI w5 [b] (U i) (ys.getD i []) := HYR.out i hlt
            have hmem2 : ys.getD i [] ∈ ys := getD_mem (by rw [← HK.out]; exact hlt)
            have hfo := HOK.out _ hmem2
            obtain ⟨Ax2, cx2, hUi, _⟩ := hrow.open
            have hs1 : ∀ s', (s' = true ↔ s = true ∨ ys.getD i [] = x) → (s' = true ↔ x = [] ∨ ∃ j, j < i + 1 ∧ ys.getD j [] = x) := fun s' h0 => by
              rw [h0, HS.out]
              constructor
              · rintro ((h | ⟨j, hj, h⟩) | h)
                · exact .inl h
                · exact .inr ⟨j, by omega, h⟩
                · exact .inr ⟨i, by omega, h⟩
              · rintro (h | ⟨j, hj, h⟩)
                · exact .inl (.inl h)
                · by_cases e : j = i
                  · subst e; exact .inr h
                  · exact .inl (.inr ⟨j, by omega, h⟩)
            have hcmp := HCMP.out i hlt
            have hprev := fun (h0 : 0 < i) => HYR.out (i - 1) (by omega)
            have hpl := fun (h0 : 0 < i) => (HOK.out _ (getD_mem (d := []) (xs := ys) (i := i - 1) (by rw [← HK.out]; omega))).len
            have hcd := pdrops_is (w := wr) (l := [b]) (by simp; omega) (IsI.now HAR.out) (IsI.now hrow) (by rw [← HNR.out]; omega) (by have := hfo.len; omega)
            have hnn : (ys.getD i []).length ≠ 0 := fun e => hfo.ne (List.eq_nil_of_length_eq_zero e)
            rw [hUi] at hp hrow hcd
            generalize hxe : ys.getD i [] = xi at *
            have hxl := hfo.len
            generalize hxn : xi.length = xn at *
            have hx0 : ((xn : Int) == 0) = false := by rw [beq_eq_false_iff_ne]; omega
            have HS1 := Lib.hid hs1
            have HCD := Lib.hid hcd
            have HFO := Lib.hid hfo
            have HROW := Lib.hid hrow
            have HCMP := Lib.hid hcmp
            have HPREV := Lib.hid hprev
            have HPL := Lib.hid hpl
            have HXE := Lib.hid hxe
            have HXN := Lib.hid hxn
            clear hs1 hcd hfo hrow hcmp hprev hpl hxe hxn
            clear hUi hmem2
            go_wp2_with fail
            refine HCD.out.mono ?_
            rintro e w7 ⟨A7, k7, c7, zs, hk7, rfl, hasc7, hzs, hO7, hkk7⟩
            haveI kb7 : KB [b] w7 wr := ⟨hkk7.nil _⟩
            have hz7 := hkk7.size
            have hk70 : k7 = 0 := by
              by_cases e : k7 = 0
              · exact e
              · have h1 := (hzs _).1 (getD_mem (d := []) (xs := zs) (i := 0) (by omega))
                exact absurd h1 (HFO.out.no _)
            subst hk70
            clear hk7 hasc7 hzs hO7 hkk7
            by_cases hi0 : i = 0
            · have d4 : decide ((0 : Int) < (i : Int)) = false := decide_eq_false (by omega)
              have d4' : decide (0 < i) = false := decide_eq_false (by omega)
              have d4'' : ¬ 0 < i := by omega
              have HI0 := Lib.hid hi0
              clear hi0
              have hcs := same_is (w := w7) (l := [b]) (IsI.now HROW.out) (IsI.now HIX.out) (by rw [HXN.out]; omega) (by rw [← HNXL.out]; omega)
              have hse : decide (xi = x) = true ↔ xi = x := decide_eq_true_iff
              generalize decide (xi = x) = q at *
              have HCS := Lib.hid hcs
              have HSE := Lib.hid hse
              clear hcs hse
              cases s with
              | true =>
                go_wp2_with fail
                go_roundg (k - i)
                case measure => omega
                case rel => exact ⟨i + 1, true, by omega, by omega, by go_num, rfl, HS1.out true (by simp), kf [b] w6 w7⟩
              | false =>
                go_wp2_with fail
                refine HCS.out.mono ?_
                rintro e w9 ⟨rfl, hq9⟩
                haveI kb9 : KB [b] w9 w7 := ⟨(quiet_keeps hq9).nil _⟩
                clear hq9
                go_wp2_with fail
                go_roundg (k - i)
                case measure => omega
                case rel => exact ⟨i + 1, q, by omega, by omega, by go_num, rfl, HS1.out q (by rw [HSE.out]; simp), kf [b] w6 w9⟩
            · have d4 : decide ((0 : Int) < (i : Int)) = true := decide_eq_true (by omega)
              have d4' : decide (0 < i) = true := decide_eq_true (by omega)
              have hcm := HCMP.out (by omega)
              obtain ⟨p2, ep2, hp2⟩ := (RdL.now HYC.out (c := w7)).at_ (show i - 1 < k by omega)
              injection ep2 with ep2
              subst ep2
              have hpr := HPREV.out (by omega)
              obtain ⟨Ap, cp, hUp, _⟩ := (show IsI w5 [b] (U (i - 1)) (ys.getD (i - 1) []) from hpr).open
              rw [hUp] at hp2
              have hpll := HPL.out (by omega)
              have hcc := cmp_is (w := w7) (l := [b]) (a := ys.getD (i - 1) []) (b := xi) (av := U (i - 1)) (IsI.now hpr) (IsI.now HROW.out) (by omega) (by rw [HXN.out]; omega)
              rw [hUp] at hcc
              generalize cmpL (ys.getD (i - 1) []) xi = cv at *
              generalize (ys.getD (i - 1) []).length = pn at *
              have d5 : decide ((0 : Int) ≤ cv) = false := decide_eq_false (by omega)
              have hw1 : IntKind.i64.wrap ((i : Int) - 1) = (i : Int) - 1 := IntWalk.i64_in _ (by omega)
              have hw2 : ((i : Int) - 1).toNat = i - 1 := by omega
              have hw3 : (0 : Int) ≤ (i : Int) - 1 := by omega
              have hw4 : (i : Int) - 1 < (k : Int) := by omega
              have HPR := Lib.hid hpr
              have HCC := Lib.hid hcc
              clear hpr hcc
              clear hUp
              go_wp2_with fail
              refine HCC.out.mono ?_
              rintro e w8 ⟨rfl, hq8⟩
              haveI kb8 : KB [b] w8 w7 := ⟨(quiet_keeps hq8).nil _⟩
              have hz8 := (quiet_keeps hq8).size
              clear hq8
              have hcs := same_is (w := w8) (l := [b]) (IsI.now HROW.out) (IsI.now HIX.out) (by rw [HXN.out]; omega) (by rw [← HNXL.out]; omega)
              have hse : decide (xi = x) = true ↔ xi = x := decide_eq_true_iff
              generalize decide (xi = x) = q at *
              have HCS := Lib.hid hcs
              have HSE := Lib.hid hse
              clear hcs hse
              cases s with
              | true =>
                go_wp2_with fail
                go_roundg (k - i)
                case measure => omega
                case rel => exact ⟨i + 1, true, by omega, by omega, by go_num, rfl, HS1.out true (by simp), kf [b] w6 w8⟩
              | false =>
                go_wp2_with fail
                refine HCS.out.mono ?_
                rintro e w9 ⟨rfl, hq9⟩
                haveI kb9 : KB [b] w9 w8 := ⟨(quiet_keeps hq9).nil _⟩
                clear hq9
                go_wp2_with fail
                go_roundg (k - i)
                case measure => omega
                case rel => exact ⟨i + 1, q, by omega, by omega, by go_num, rfl, HS1.out q (by rw [HSE.out]; simp), kf [b] w6 w9⟩
          · obtain rfl : i = k := by omega
            have hfin : s = true := HS.out.2 (by
              by_cases e : x = []
              · exact .inl e
              · obtain ⟨j, hj, e2⟩ := mem_getD (d := []) (HMEM.out e)
                exact .inr ⟨j, by rw [HK.out]; exact hj, e2⟩)
            have hkf := HB2.out.trans ((kf [b] w2 wr).below (by simp; omega) (by omega))
            have HKF := Lib.hid hkf
            clear hkf
            subst hfin
            go_wp2_with fail
            go_ret
            exact ⟨rfl, HKF.out⟩
      · have hD6 := HDR.out.kept hkk6
        have hL6 := hO6.isL (by simp; omega)
        obtain ⟨Y2, cy2, U2, hey2, _, _, hyc2, hyr2⟩ := hL6
        injection hey2 with e1 e2 e3
        subst e1; subst e3
        rw [← hk6] at hyc2 hyr2
        have hdv : ∀ y ∈ zs, PValid r y ∧ y.length < x.length := fun y hy => drop_valid ((hzs y).1 hy)
        have hk64 : k6 ≤ 100 := by
          have := asc_len hasc6 (L := pdropsL r x (x.length - 1)) fun z hz => (pdropsL_mem HVX.out).2 ((hzs z).1 hz)
          have := pdropsL_len r x (x.length - 1)
          have := HNXL.out
          omega
        have hk60 : ((k6 : Int) == 0) = false := by rw [beq_eq_false_iff_ne]; omega
        have hnx := next_any w6 b w.heap.size (k6 : Int) hD6 (by omega)
        have HK6 := Lib.hid hk6
        have HYC2 := Lib.hid hyc2
        have HYR2 := Lib.hid hyr2
        have HDV := Lib.hid hdv
        have HNX := Lib.hid hnx
        clear hk6 hyc2 hyr2 hdv hnx
        clear hasc6 hzs hO6 hkk6 hD6 e2
        go_wp2_with fail
        refine HNX.out.mono ?_
        rintro e w7 ⟨j, rfl, hj0, hj, hD7, hk7⟩
        have hjk : j < k6 := by have := hj (by omega); omega
        haveI kb7 : KB [b] w7 w6 := ⟨hk7⟩
        obtain ⟨p, rfl, hp⟩ := (RdL.now HYC2.out (c := w7)).at_ hjk
        have hrow : IsI w6 [b] (U2 j) (zs.getD j []) := HYR2.out j hjk
        have hdv2 := HDV.out _ (getD_mem (d := []) (show j < zs.length by rw [← HK6.out]; exact hjk))
        obtain ⟨Ax2, cx2, hUj, _⟩ := hrow.open
        rw [hUj] at hp hrow
        rw [← HNXL.out] at hdv2
        generalize zs.getD j [] = x2 at *
        have hrow7 : IsI w7 [b] (.slice Ax2 x2.length cx2) x2 := IsI.now hrow
        generalize hx2n : x2.length = nx2 at *
        have hjk' : (j : Int) < (k6 : Int) := by omega
        obtain ⟨hdv3, hdv4⟩ := hdv2
        have HROW7 := Lib.hid hrow7
        have HDV3 := Lib.hid hdv3
        have HX2N := Lib.hid hx2n
        have HD7 := Lib.hid hD7
        clear hrow7 hdv3 hx2n hD7
        clear hUj hrow hk7 hj hj0
        go_wp2_with fail
        go_roundg (nx2 + 1)
        case measure => omega
        case rel => exact ⟨nx2, cx2, Ax2, x2, rfl, HX2N.out.symm, Nat.le_refl _, HDV3.out, HROW7.out, HD7.out, kf [b] w5 w7⟩
  · have hd : decide ((len : Int) ≤ 400) = false := by simp; omega
    go_enter Try.func6, Try.ntmps6
    go_wp2_with fail
    refine (awake_any w).mono ?_
    rintro e w1 ⟨rfl, hb1⟩
    go_wp2_with fail
    refine (few_any w1 A0 len cap).mono ?_
    rintro e w' ⟨rfl, rfl⟩
    rw [hd]
    go_wp2_with fail
    refine (awake_any w1).mono ?_
    rintro e w2 ⟨rfl, hb2⟩
    go_wp2_with fail
    go_ret
    exact ⟨rfl, hb1.trans (hb2.mono hb1.size)⟩
end Go.Proofs.Ytmjnicikikgncaa
