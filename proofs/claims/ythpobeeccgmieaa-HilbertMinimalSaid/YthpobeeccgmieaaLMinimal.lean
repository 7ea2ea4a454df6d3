/- The walk of coverabilitylaw12.HilbertMinimal. -/
import Derived.Test.YthpobeeccgmieaaHLaw

namespace Go.Proofs.Ythpobeeccgmieaa
set_option linter.unusedVariables false
open Go.RowKit

set_option maxRecDepth 100000 in
set_option maxHeartbeats 8000000 in
theorem minimal_law (w : World) (len cap : Nat) (A0 : Option Addr) (l : Nat → Int) (hR : Rd w w.heap.size A0 len (fun i => .int .i64 (l i))) :
    Calls Try.prog 4 #[.slice A0 len cap] w fun e w' => e = .returned (.bool true) ∧ Below w.heap.size w w' := by
  have HR := Lib.hid hR
  clear hR
  by_cases hlen : len ≤ 400
  · have hd : decide ((len : Int) ≤ 400) = true := by simp; omega
    go_enter Try.func4, Try.ntmps4
    go_wp2_with fail
    refine (awake_any w).mono ?_
    rintro e w1 ⟨rfl, hb1⟩
    have hz1 := hb1.size
    go_wp2_with fail
    refine (few_any w1 A0 len cap).mono ?_
    rintro e w' ⟨rfl, rfl⟩
    rw [hd]
    go_wp2_with fail
    refine (new_any w1 w.heap.size A0 len cap l (HR.out.below hb1) hlen hz1).mono ?_
    rintro e w2 ⟨rfl, hD2, hb2⟩
    have hz2 := hb2.size
    have hbl2 := hD2.lt
    have hB2 := hb1.trans (hb2.mono hz1)
    have HD2 := Lib.hid hD2
    have HB2 := Lib.hid hB2
    clear hD2 hB2
    clear hb1 hb2
    generalize w1.heap.size = b at *
    go_wp2_with fail
    refine (next_any w2 b w.heap.size 4 HD2.out (by omega)).mono ?_
    rintro e w3 ⟨c0, rfl, _, hc0, hD3, hK3⟩
    have hc0 := hc0 (by omega)
    have hz3 := hK3.size
    haveI kb3 : KB [b] w3 w2 := ⟨hK3⟩
    have HD3 := Lib.hid hD3
    clear hD3
    clear hK3
    go_wp2_with fail
    obtain ⟨c, hc⟩ : ∃ c : Nat, c = c0 + 1 := ⟨_, rfl⟩
    rw [show (1 : Int) + (c0 : Int) = (c : Int) by omega]
    have hc1 : 1 ≤ c := by omega
    have hc4 : c ≤ 4 := by omega
    clear hc
    refine (next_any w3 b w.heap.size 2 HD3.out (by omega)).mono ?_
    rintro e w4 ⟨r0, rfl, _, hr0, hD4, hK4⟩
    have hr0 := hr0 (by omega)
    have hz4 := hK4.size
    haveI kb4 : KB [b] w4 w3 := ⟨hK4⟩
    have HD4 := Lib.hid hD4
    clear hD4
    clear hK4
    go_wp2_with fail
    obtain ⟨r, hr⟩ : ∃ r : Nat, r = r0 + 1 := ⟨_, rfl⟩
    rw [show (1 : Int) + (r0 : Int) = (r : Int) by omega]
    have hr1 : 1 ≤ r := by omega
    have hr2 : r ≤ 2 := by omega
    clear hr
    refine (matrix_any w4 b w.heap.size r c HD4.out (by omega) (by omega)).mono ?_
    rintro e w5 ⟨V, cV, A, rfl, hAl, hAp, hAI, hD5, hK5⟩
    have hM : Mat A r c := ⟨hAl, by omega, by omega, .inl (by omega), fun x hx => (hAp x hx).1, fun x hx => (hAp x hx).2⟩
    have hS : Sys A r c := ⟨hM, by omega, by omega⟩
    have hz5 := hK5.size
    haveI kb5 : KB [b] w5 w4 := ⟨hK5⟩
    have HD5 := Lib.hid hD5
    have HM := Lib.hid hM
    have HS := Lib.hid hS
    have HAI := Lib.hid hAI
    have HAL := Lib.hid hAl
    have HAP := Lib.hid hAp
    clear hD5 hM hS hAI hAl hAp
    clear hK5
    go_wp2_with fail
    refine (next_any w5 b w.heap.size 4 HD5.out (by omega)).mono ?_
    rintro e w6 ⟨x0, rfl, _, hx0, hD6, hK6⟩
    have hx0 := hx0 (by omega)
    have hz6 := hK6.size
    haveI kb6 : KB [b] w6 w5 := ⟨hK6⟩
    have HD6 := Lib.hid hD6
    clear hD6
    clear hK6
    go_wp2_with fail
    refine (next_any w6 b w.heap.size 4 HD6.out (by omega)).mono ?_
    rintro e w7 ⟨y0, rfl, _, hy0, hD7, hK7⟩
    have hy0 := hy0 (by omega)
    have hz7 := hK7.size
    haveI kb7 : KB [b] w7 w6 := ⟨hK7⟩
    have hI7 : IsI (w7.alloc (.cells #[.int .i64 (x0 : Int), .int .i64 (y0 : Int)] 3)) [b] (.slice (some ⟨w7.heap.size, 0, none⟩) 2 2) [(x0 : Int), (y0 : Int)] :=
      isL_new (xs := [(x0 : Int), (y0 : Int)]) (fun y hy => by rw [List.mem_singleton.1 hy]; omega) rfl fun i hi => by
        have : i = 0 ∨ i = 1 := by simp at hi; omega
        rcases this with rfl | rfl <;> rfl
    have hA7 : IsII (w7.alloc (.cells #[.int .i64 (x0 : Int), .int .i64 (y0 : Int)] 3)) [b] (.slice V r cV) A := HAI.out.now
    have hK8 : Keeps [b] w2 (w7.alloc (.cells #[.int .i64 (x0 : Int), .int .i64 (y0 : Int)] 3)) := kf [b] _ _
    have hD8 : Deck (w7.alloc (.cells #[.int .i64 (x0 : Int), .int .i64 (y0 : Int)] 3)) b w.heap.size := hD7.keeps ((Keeps.refl [] _).alloc _) (by simp) (by simp)
    obtain ⟨B1, hs1, hbI⟩ := slice_to sl_int hI7 r (by omega)
    have hrng := rng2 (x := x0) (y := y0) (r := r) (by omega) (by omega)
    have hbl : ([(x0 : Int), (y0 : Int)].take r).length = r := by rw [List.length_take]; simp; omega
    have hbI : IsI (w7.alloc (.cells #[.int .i64 (x0 : Int), .int .i64 (y0 : Int)] 3)) [b] (.slice B1 r 2) ([(x0 : Int), (y0 : Int)].take r) := hbI
    generalize [(x0 : Int), (y0 : Int)].take r = bb at *
    have hz8 : w7.heap.size ≤ (w7.alloc (.cells #[.int .i64 (x0 : Int), .int .i64 (y0 : Int)] 3)).heap.size := by simp
    have hb8 : ∀ y ∈ [b], y < (w7.alloc (.cells #[.int .i64 (x0 : Int), .int .i64 (y0 : Int)] 3)).heap.size := fun y hy => by rw [List.mem_singleton.1 hy]; omega
    have hmin := Minimal_ok (hi := 5) hA7 hbI HS.out hbl hrng (by omega) hb8
    rw [show ((5 : Nat) : Int) = 5 from rfl] at hmin
    have HMIN := Lib.hid hmin
    have HA7 := Lib.hid hA7
    have HBI := Lib.hid hbI
    have HBL := Lib.hid hbl
    have HRNG := Lib.hid hrng
    have HK8 := Lib.hid hK8
    have HD8 := Lib.hid hD8
    have HD7 := Lib.hid hD7
    have HB8 := Lib.hid hb8
    clear hmin hA7 hbI hbl hrng hK8 hD8 hD7 hb8
    clear hK7 hI7
    go_wp2_with fail
    refine HMIN.out.mono ?_
    rintro e w9 ⟨V9, m9, c9, ys, hm9, rfl, hq9, hO9, hk9⟩
    have hbw : b < w9.heap.size := Nat.lt_of_lt_of_le (HB8.out b (by simp)) hk9.size
    have hm9b : m9 ≤ 2000000 := by rw [hm9]; exact hq9.len (by omega) (by omega) (by omega)
    have hI9 : IsII w9 [b] (.slice V9 m9 c9) ys := hO9.isL HB8.out
    have hA9 : IsII w9 [b] (.slice V r cV) A := HA7.out.new hk9
    have hb9 : IsI w9 [b] (.slice B1 r 2) bb := HBI.out.new hk9
    have hK9 : Keeps [b] w2 w9 := HK8.out.trans (hk9.nil _)
    have hD9 : Deck w9 b w.heap.size := HD8.out.keeps hk9 (by simp) (by simp)
    have hym : ∀ k, k < m9 → MinS (solB A bb) (c - 1) 0 5 (ys.getD k []) := fun k hk => (hq9.2 _).1 (getD_mem (by omega))
    have hyl : ∀ k, k < m9 → (ys.getD k []).length = c ∧ VFin (ys.getD k []) ∧ solvesB A bb (ys.getD k []) = true := fun k hk => by
      have h := (hym k hk).1
      have h1 : (ys.getD k []).length = c := by have := h.len; omega
      have h2 := h.fin (by omega) (by omega)
      exact ⟨h1, h2, (solvesB_of HS.out HBL.out HRNG.out).2 ⟨h1, h2, h.sol⟩⟩
    have hne : ∀ k j, k < m9 → j < m9 → j ≠ k → vleB (ys.getD j []) (ys.getD k []) = false := fun k j hk hj hjk => by
      rw [← Bool.not_eq_true, vleB_true]
      rintro ⟨_, _, hle⟩
      exact asc_ne hq9.1 (by omega) (by omega) hjk ((hym k hk).2 _ (hym j hj).1 hle)
    have hex : ∀ x, x.length = c → VFin x → isum x ≤ 5 → solvesB A bb x = true → ∃ j, j < m9 ∧ vleB (ys.getD j []) x = true := fun x h1 h2 h3 h4 => by
      have h5 := ((solvesB_of HS.out HBL.out HRNG.out).1 h4).2.2
      have h6 : Solv (solB A bb) (c - 1) 0 5 x := ⟨by omega, fun y hy => (h2.el y hy).1, by
        have := (isum_ge fun y hy => (h2.el y hy).1).1
        simpa using this, h3, h5⟩
      obtain ⟨y, hy, hle⟩ := exists_min 5 x h6 h3
      obtain ⟨j, hj, rfl⟩ := mem_getD (d := []) ((hq9.2 y).2 hy)
      exact ⟨j, by omega, vleB_true.2 ⟨(hy.1.fin (by omega) (by omega)).val, h2.val, hle⟩⟩
    have hsv : ∀ W xv x, Keeps [b] w9 W → IsI W [b] xv x → x.length ≤ 1000000 → Calls Try.prog 17 #[.slice V r cV, .slice B1 r 2, xv] W (RetB (solvesB A bb x) W) := fun W xv x k hx hxl =>
      Solves_is (Rok.keeps hA9 k) (Rok.keeps hb9 k) hx (by rw [HM.out.rows]; omega) (fun x hx => by rw [HM.out.len x hx]; omega) (by rw [HBL.out]; omega) hxl
    obtain ⟨V9', c9', e9, hr9⟩ := hI9.mrow
    rw [← hm9] at e9 hr9
    obtain ⟨rfl, rfl⟩ : V9 = V9' ∧ c9 = c9' := by injection e9 with e1 _ e2; exact ⟨e1, e2⟩
    have HI9 := Lib.hid hI9
    have HA9 := Lib.hid hA9
    have HB9 := Lib.hid hb9
    have HK9 := Lib.hid hK9
    have HD9 := Lib.hid hD9
    have HYM := Lib.hid hym
    have HYL := Lib.hid hyl
    have HNE := Lib.hid hne
    have HEX := Lib.hid hex
    have HSV := Lib.hid hsv
    have HR9 := Lib.hid hr9
    have HM9 := Lib.hid hm9
    have HQ9 := Lib.hid hq9
    clear hI9 hA9 hb9 hK9 hD9 hym hyl hne hex hsv hr9 hm9 hq9
    clear hO9 hk9 e9
    go_wp2_with fail
    go_loopg [56] (m9 + 1) (fun gh kv wr => ∃ k : Nat, m9 + 1 ≤ k + gh ∧ k ≤ m9 ∧ kv = .int .i64 (k : Int) ∧ Keeps [] w9 wr)
    case atStart => exact ⟨0, by omega, by omega, rfl, Keeps.refl _ _⟩
    case round =>
      obtain ⟨k, hgh, hk, rfl, hkr⟩ := hrel
      by_cases hlt : k < m9
      · obtain ⟨pa, Bk, ck, rfl, hpa, hIk⟩ := (HR9.out.new hkr) k hlt
        obtain ⟨hl1, hl2, hl3⟩ := HYL.out k hlt
        have hslv := HSV.out wr _ _ (hkr.nil _) hIk (by omega)
        rw [hl3] at hslv
        rw [hl1] at hpa hIk hslv
        have HKR := Lib.hid hkr
        have HIK := Lib.hid hIk
        have HL1 := Lib.hid hl1
        have HL2 := Lib.hid hl2
        have HL3 := Lib.hid hl3
        have HSLV := Lib.hid hslv
        clear hkr hIk hl1 hl2 hl3 hslv
        go_wp2_with fail
        refine HSLV.out.mono ?_
        rintro e w10 ⟨rfl, hk10⟩
        have hk11 := HKR.out.trans hk10
        have hIk2 := HIK.out.new hk10
        have HK11 := Lib.hid hk11
        have HIK2 := Lib.hid hIk2
        clear hk11 hIk2
        clear hk10
        go_wp2_with fail
        go_loopg [68] (m9 + 1) (fun gh2 jv wr => ∃ j : Nat, m9 + 1 ≤ j + gh2 ∧ j ≤ m9 ∧ jv = .int .i64 (j : Int) ∧ Keeps [] w10 wr)
        case atStart => exact ⟨0, by omega, by omega, rfl, Keeps.refl _ _⟩
        case round =>
          obtain ⟨j, hgh2, hj, rfl, hkr2⟩ := hrel
          by_cases hlt2 : j < m9
          · have hk12 := HK11.out.trans hkr2
            obtain ⟨pa2, Bj, cj, e2, hpa2, hIj⟩ := (HR9.out.new hk12) j hlt2
            obtain rfl : pa2 = pa := by injection e2 with e; exact e.symm
            obtain ⟨hj1, hj2, hj3⟩ := HYL.out j hlt2
            by_cases hjk : j = k
            · subst hjk
              have hd : ((j : Int) != (j : Int)) = false := by simp
              rw [hj1] at hpa2 hIj
              have HKR2 := Lib.hid hkr2
              have HK12 := Lib.hid hk12
              have HIJ := Lib.hid hIj
              have HJ1 := Lib.hid hj1
              have HJ2 := Lib.hid hj2
              have HJ3 := Lib.hid hj3
              clear hkr2 hk12 hIj hj1 hj2 hj3
              go_wp2_with fail
              go_roundg (m9 - j)
              case measure => omega
              case rel => exact ⟨j + 1, by omega, by omega, by go_num, HKR2.out⟩
            · have hd : ((k : Int) != (j : Int)) = true := by
                have : (k : Int) ≠ (j : Int) := by omega
                simpa using this
              have hle := rleq_is hIj (HIK2.out.new hkr2) (by omega) (by rw [HL1.out]; omega)
              rw [HNE.out k j hlt hlt2 hjk] at hle
              rw [hj1] at hpa2 hIj hle
              have HKR2 := Lib.hid hkr2
              have HK12 := Lib.hid hk12
              have HIJ := Lib.hid hIj
              have HJ1 := Lib.hid hj1
              have HJ2 := Lib.hid hj2
              have HJ3 := Lib.hid hj3
              have HLE := Lib.hid hle
              clear hkr2 hk12 hIj hj1 hj2 hj3 hle
              go_wp2_with fail
              refine HLE.out.mono ?_
              rintro e w12 ⟨rfl, hk13⟩
              go_wp2_with fail
              go_roundg (m9 - j)
              case measure => omega
              case rel => exact ⟨j + 1, by omega, by omega, by go_num, HKR2.out.trans hk13⟩
          · obtain rfl : j = m9 := by omega
            have hk12 := HK11.out.trans hkr2
            have HK12 := Lib.hid hk12
            have HKR2 := Lib.hid hkr2
            clear hk12 hkr2
            go_wp2_with fail
            go_roundg (j - k)
            case measure => omega
            case rel => exact ⟨k + 1, by omega, by omega, by go_num, HK12.out⟩
      · obtain rfl : k = m9 := by omega
        have hD10 : Deck wr b w.heap.size := HD9.out.keeps hkr (by simp) (by simp)
        have hz10 := hkr.size
        have HKR := Lib.hid hkr
        have HD10 := Lib.hid hD10
        clear hkr hD10
        go_wp2_with fail
        go_loopg [13] (12 + 1) (fun gh3 tv wr => ∃ t : Nat, 12 + 1 ≤ t + gh3 ∧ t ≤ 12 ∧ tv = .int .i64 (t : Int) ∧ Deck wr b w.heap.size ∧ Keeps [b] w9 wr)
        case atStart => exact ⟨0, by omega, by omega, rfl, HD10.out, HKR.out.nil _⟩
        case round =>
          obtain ⟨t, hgh3, ht, rfl, hDr, hkr3⟩ := hrel
          have hz11 := hkr3.size
          have HDR := Lib.hid hDr
          have HKR3 := Lib.hid hkr3
          clear hDr hkr3
          by_cases hlt : t < 12
          · have hlt12 : decide ((t : Int) < 12) = true := decide_eq_true (by omega)
            go_wp2_with fail
            refine (small_any wr b w.heap.size c 1 HDR.out (by omega) (by omega)).mono ?_
            rintro e w12 ⟨X, cX, x, rfl, hxl, hxr, hown, hD12, hK12⟩
            have hxI : IsI w12 [b] (.slice X c cX) x := (isN_own (l := [b]) rfl (by rw [hxl]; exact hown)).isL (fun y hy => by rw [List.mem_singleton.1 hy]; omega)
            have hk12 := HKR3.out.trans hK12
            have hxf : VFin x := ⟨by omega, fun y hy => by have := hxr y hy; omega⟩
            have hxs : isum x ≤ 5 := by
              have : ∀ (zs : List Int), (∀ z ∈ zs, z ≤ 1) → isum zs ≤ zs.length := fun zs => by
                induction zs with
                | nil => intro _; simp [isum]
                | cons a t ih =>
                  intro h
                  have h1 := h a (by simp)
                  have h2 := ih fun z hz => h z (by simp [hz])
                  rw [isum_cons, List.length_cons]
                  omega
              have := this x fun z hz => by have := hxr z hz; omega
              omega
            have hslv := HSV.out w12 _ _ hk12 hxI (by omega)
            have hz12 := hK12.size
            have HXI := Lib.hid hxI
            have HK12 := Lib.hid hk12
            have HD12 := Lib.hid hD12
            have HXF := Lib.hid hxf
            have HXS := Lib.hid hxs
            have HXL := Lib.hid hxl
            have HXR := Lib.hid hxr
            clear hxI hk12 hD12 hxf hxs hxl hxr
            clear hown hK12
            cases hsb : solvesB A bb x with
            | false =>
              rw [hsb] at hslv
              have HSLV := Lib.hid hslv
              clear hslv
              go_wp2_with fail
              refine HSLV.out.mono ?_
              rintro e w13 ⟨rfl, hk13⟩
              go_wp2_with fail
              go_roundg (12 - t)
              case measure => omega
              case rel => exact ⟨t + 1, by omega, by omega, by go_num, HD12.out.keeps hk13 (by simp) (by simp), HK12.out.trans (hk13.nil _)⟩
            | true =>
              obtain ⟨j0, hj0, hj0e⟩ := HEX.out x HXL.out HXF.out HXS.out hsb
              rw [hsb] at hslv
              have HSLV := Lib.hid hslv
              have HJ0E := Lib.hid hj0e
              clear hslv hj0e
              go_wp2_with fail
              refine HSLV.out.mono ?_
              rintro e w13 ⟨rfl, hk13⟩
              have hk14 := HK12.out.trans (hk13.nil _)
              have hD13 := HD12.out.keeps hk13 (by simp) (by simp)
              have hxI2 := HXI.out.new hk13
              have HK14 := Lib.hid hk14
              have HD13 := Lib.hid hD13
              have HXI2 := Lib.hid hxI2
              clear hk14 hD13 hxI2
              clear hk13
              go_wp2_with fail
              go_loopg [15, 97] (k + 1) (fun gh4 fv jv wr => ∃ (j : Nat) (f : Bool), k + 1 ≤ j + gh4 ∧ j ≤ k ∧ jv = .int .i64 (j : Int) ∧ fv = .bool f ∧ (j0 < j → f = true) ∧ Keeps [] w13 wr)
              case atStart => exact ⟨0, false, by omega, by omega, rfl, rfl, by omega, Keeps.refl _ _⟩
              case round =>
                obtain ⟨j, f, hgh4, hj, rfl, rfl, hf, hkr4⟩ := hrel
                by_cases hlt4 : j < k
                · have hk15 := HK14.out.trans (hkr4.nil _)
                  obtain ⟨pa, Bj, cj, rfl, hpa, hIj⟩ := (show MRow wr [b] V9 k ys from fun i hi => by
                    obtain ⟨a, B, c, e, h1, h2⟩ := HR9.out i hi
                    obtain ⟨pq, eq, _⟩ : ∃ q, V9 = some q ∧ True := ⟨a, e, trivial⟩
                    have hI := HI9.out
                    have hI2 : IsII wr [b] (.slice V9 k c9) ys := Rok.keeps hI hk15
                    obtain ⟨V', c', e', hr'⟩ := hI2.mrow
                    injection e' with e1 e2 e3
                    subst e1
                    exact hr' i (by rw [← HM9.out]; exact hi)) j hlt4
                  obtain ⟨hj1, hj2, hj3⟩ := HYL.out j hlt4
                  have hle := rleq_is hIj (HXI2.out.new hkr4) (by omega) (by rw [HXL.out]; omega)
                  rw [hj1] at hpa hle hIj
                  have hf2 : ∀ v : Bool, v = vleB (ys.getD j []) x → j0 < j + 1 → (f || v) = true := fun v hv h => by
                    by_cases e : j0 = j
                    · subst e; rw [hv, HJ0E.out]; simp
                    · rw [hf (by omega)]; rfl
                  cases f with
                  | true =>
                    have HKR4 := Lib.hid hkr4
                    have HK15 := Lib.hid hk15
                    have HIJ := Lib.hid hIj
                    have HJ1 := Lib.hid hj1
                    have HJ2 := Lib.hid hj2
                    have HJ3 := Lib.hid hj3
                    have HLE := Lib.hid hle
                    have HF2 := Lib.hid hf2
                    have HF := Lib.hid hf
                    clear hkr4 hk15 hIj hj1 hj2 hj3 hle hf2 hf
                    go_wp2_with fail
                    go_roundg (k - j)
                    case measure => omega
                    case rel => exact ⟨j + 1, true, by omega, by omega, by go_num, rfl, fun _ => rfl, HKR4.out⟩
                  | false =>
                    generalize hv : vleB (ys.getD j []) x = v at *
                    have hf3 := hf2 v rfl
                    have HKR4 := Lib.hid hkr4
                    have HK15 := Lib.hid hk15
                    have HIJ := Lib.hid hIj
                    have HJ1 := Lib.hid hj1
                    have HJ2 := Lib.hid hj2
                    have HJ3 := Lib.hid hj3
                    have HLE := Lib.hid hle
                    have HF2 := Lib.hid hf2
                    have HF := Lib.hid hf
                    have HF3 := Lib.hid hf3
                    have HV := Lib.hid hv
                    clear hkr4 hk15 hIj hj1 hj2 hj3 hle hf2 hf hf3 hv
                    go_wp2_with fail
                    refine HLE.out.mono ?_
                    rintro e w15 ⟨rfl, hk16⟩
                    go_wp2_with fail
                    go_roundg (k - j)
                    case measure => omega
                    case rel => exact ⟨j + 1, v, by omega, by omega, by go_num, rfl, fun h => by have := HF3.out h; simpa using this, HKR4.out.trans hk16⟩
                · obtain rfl : j = k := by omega
                  obtain rfl := hf hj0
                  have hD14 := HD13.out.keeps hkr4 (by simp) (by simp)
                  have hk15 := HK14.out.trans (hkr4.nil _)
                  have HKR4 := Lib.hid hkr4
                  have HD14 := Lib.hid hD14
                  have HK15 := Lib.hid hk15
                  clear hkr4 hD14 hk15
                  go_wp2_with fail
                  go_roundg (12 - t)
                  case measure => omega
                  case rel => exact ⟨t + 1, by omega, by omega, by go_num, HD14.out, HK15.out⟩
          · obtain rfl : t = 12 := by omega
            have hfin := HB2.out.trans ((HK9.out.trans HKR3.out).below (by simp; omega) (by omega))
            have HFIN := Lib.hid hfin
            clear hfin
            go_wp2_with fail
            go_ret
            exact ⟨rfl, HFIN.out⟩
  · have hd : decide ((len : Int) ≤ 400) = false := by simp; omega
    go_enter Try.func4, Try.ntmps4
    go_wp2_with fail
    refine (awake_any w).mono ?_
    rintro e w1 ⟨rfl, hb1⟩
    go_wp2_with fail
    refine (few_any w1 A0 len cap).mono ?_
    rintro e w' ⟨rfl, rfl⟩
    rw [hd]
    go_wp2_with fail
    refine (awake_any w1).mono ?_
    rintro e w2 ⟨rfl, hb2⟩
    go_wp2_with fail
    go_ret
    exact ⟨rfl, hb1.trans (hb2.mono hb1.size)⟩
end Go.Proofs.Ythpobeeccgmieaa
