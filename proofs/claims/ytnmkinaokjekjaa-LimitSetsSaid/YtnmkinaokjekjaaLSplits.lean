/- The walk of coverabilitylaw08.LimitSplits. -/
import Derived.Test.YtnmkinaokjekjaaAwake
import Derived.Test.YtnmkinaokjekjaaRVec
import Derived.Test.YtnmkinaokjekjaaNow

namespace Go.Proofs.Ytnmkinaokjekjaa
set_option linter.unusedVariables false
open Go.RowKit

/-- Corners of small numbers. -/
structure SmC (n : Nat) (C : List (List Int)) : Prop where
  few : C.length ≤ 12
  el : ∀ x ∈ C, x.length = n ∧ ∀ z ∈ x, 0 ≤ z ∧ z ≤ 3
theorem SmC.fin {n : Nat} {C : List (List Int)} (h : SmC n C) (hn : n ≤ 6) : ∀ x ∈ C, VFin x := fun x hx => ⟨by rw [(h.el x hx).1]; exact hn, fun z hz => by have := (h.el x hx).2 z hz; omega⟩
theorem SmC.corn {n : Nat} {C : List (List Int)} (h : SmC n C) (h1 : 1 ≤ n) (h4 : n ≤ 4) : cornE (n : Int) vfB C = 0 :=
  cornE_zero.2 ⟨⟨by omega, by omega⟩, h.few, fun x hx => ⟨by have := (h.el x hx).1; omega, vfB_true.2 (h.fin (by omega) x hx)⟩⟩
/-- What Below returns of small corners. -/
structure LowOk (n : Nat) (C low : List (List Int)) : Prop where
  sm : ∀ x ∈ low, SmV n 2 x
  asc : Asc low
  anti : ∀ x ∈ low, ∀ y ∈ low, covG y x = true → y = x
  few : low.length ≤ 256
  inD : ∀ z, ZV n z → (InD low z ↔ ∀ c ∈ C, ¬ VLe c z)
def LowRet (n : Nat) (C : List (List Int)) (b : Nat) (w : World) (e : Ending) (w' : World) : Prop :=
  ∃ A q c low, q = (low : List (List Int)).length ∧ e = .returned (.tuple #[.slice A q c, .int .i64 0]) ∧ LowOk n C low ∧ IsII w' [b] (.slice A q c) low ∧ Keeps [] w w'
theorem low_ret {n b : Nat} {C : List (List Int)} {w w' : World} {e : Ending} (h1 : 1 ≤ n) (h4 : n ≤ 4) (hC : SmC n C) (h : BlwPost (n : Int) C [b] w e w') : LowRet n C b w e w' := by
  obtain ⟨hk, ⟨h0, _⟩ | ⟨_, out, hb, ho⟩⟩ := h
  · exact absurd (hC.corn h1 h4) h0
  · have hb : Bey covG turnB (List.replicate n OM) C out := by simpa using hb
    have hc3 : ∀ c ∈ C, c.length = n ∧ ∀ x ∈ c, (0 : Int) ≤ x ∧ x ≤ 2 + 1 := by
      intro c hc
      refine ⟨(hC.el c hc).1, fun x hx => ?_⟩
      have := (hC.el c hc).2 x hx
      omega
    have hbp := beyB (n := n) (K := 2) (C := C) (by omega) (by omega) (by omega) hc3
    have hsm := bey_P hb hbp
    have hlo : LowOk n C out := ⟨hsm, bey_asc hb, bey_anti hb, asc_smV h4 (bey_asc hb) hsm, below_inv (by omega) (by omega) (by omega) hb hc3⟩
    rcases ho with ⟨h0, _⟩ | ⟨_, A, m, c, hm, he, hI⟩
    · have := hlo.few; omega
    · exact ⟨A, m, c, out, hm, he, hlo, hI, hk⟩
theorem LowOk.lim {n : Nat} {C low : List (List Int)} (h : LowOk n C low) (h1 : 1 ≤ n) (h4 : n ≤ 6) : chkL (n : Int) low = 0 :=
  chkL_zero.2 ⟨by omega, by rw [Int.toNat_natCast]; exact ⟨h1, h4, h.few, fun x hx => ⟨(h.sm x hx).len, (h.sm x hx).val h4 (by omega)⟩, h.asc, h.anti⟩⟩
theorem splits_has {n : Nat} {C low : List (List Int)} {v : List Int} (h1 : 1 ≤ n) (h4 : n ≤ 4) (hC : SmC n C) (h : LowOk n C low) (hl : v.length = n) (hv : ∀ z ∈ v, 0 ≤ z ∧ z ≤ 5) : hasB (n : Int) low v = !(C.any fun c => vleB c v) := by
  have hf : VFin v := ⟨by rw [hl]; omega, fun z hz => by have := hv z hz; omega⟩
  have hz : ZV n v := ⟨hl, fun z hz => by have := hv z hz; unfold OM; omega⟩
  unfold hasB
  rw [decide_eq_true (h.lim h1 (by omega)), decide_eq_true (by omega : (v.length : Int) = (n : Int)), vfB_true.2 hf, Bool.true_and, Bool.true_and, Bool.true_and, Bool.eq_iff_iff]
  unfold undB
  rw [List.any_eq_true, Bool.not_eq_true', List.any_eq_false]
  constructor
  · rintro ⟨x, hx, e⟩ c hc e2
    exact (h.inD v hz).1 ⟨x, hx, (vleB_true.1 e).2.2⟩ c hc (vleB_true.1 e2).2.2
  · intro hall
    obtain ⟨x, hx, hle⟩ := (h.inD v hz).2 fun c hc hle => hall c hc (vleB_true.2 ⟨(hC.fin (by omega) c hc).val, hf.val, hle⟩)
    exact ⟨x, hx, vleB_true.2 ⟨hf.val, (h.sm x hx).val (by omega) (by omega), hle⟩⟩
theorem any_take {C : List (List Int)} {f : List Int → Bool} {j : Nat} (hj : j < C.length) : (C.take (j + 1)).any f = ((C.take j).any f || f (C.getD j [])) := by
  have e : C.take (j + 1) = C.take j ++ [C.getD j []] := by
    rw [List.take_succ_eq_append_getElem hj]
    simp [List.getD_eq_getElem?_getD, hj]
  rw [e, List.any_append]; simp

set_option maxRecDepth 100000 in
set_option maxHeartbeats 8000000 in
theorem splits_law (w : World) (len cap : Nat) (A0 : Option Addr) (l : Nat → Int) (hR : Rd w w.heap.size A0 len (fun i => .int .i64 (l i))) :
    Calls Try.prog 3 #[.slice A0 len cap] w fun e w' => e = .returned (.bool true) ∧ Below w.heap.size w w' := by
  have HR := Lib.hid hR
  clear hR
  by_cases hlen : len ≤ 400
  · have hd : decide ((len : Int) ≤ 400) = true := by simp; omega
    go_enter Try.func3, Try.ntmps3
    go_wp2_with fail
    refine (awake_any w).mono ?_
    rintro e w1 ⟨rfl, hb1⟩
    have hz1 := hb1.size
    go_wp2_with fail
    refine (few_any w1 A0 len cap).mono ?_
    rintro e w' ⟨rfl, rfl⟩
    rw [hd]
    go_wp2_with fail
    refine (new_any w1 w.heap.size A0 len cap l (HR.out.below hb1) hlen hz1).mono ?_
    rintro e w2 ⟨rfl, hD2, hb2⟩
    have hz2 := hb2.size
    have hbl2 := hD2.lt
    have hB2 := hb1.trans (hb2.mono hz1)
    have HD2 := Lib.hid hD2
    have HB2 := Lib.hid hB2
    clear hD2 hB2
    clear hb1 hb2
    generalize w1.heap.size = b at *
    go_wp2_with fail
    refine (next_any w2 b w.heap.size 4 HD2.out (by omega)).mono ?_
    rintro e w3 ⟨n0, rfl, _, hn0, hD3, hK3⟩
    have hn0 := hn0 (by omega)
    have hz3 := hK3.size
    haveI kb3 : KB [b] w3 w2 := ⟨hK3⟩
    have HD3 := Lib.hid hD3
    clear hD3
    clear hK3
    go_wp2_with fail
    obtain ⟨n, hn⟩ : ∃ n : Nat, n = n0 + 1 := ⟨_, rfl⟩
    rw [show (1 : Int) + (n0 : Int) = (n : Int) by omega]
    have hn1 : 1 ≤ n := by omega
    have hn4 : n ≤ 4 := by omega
    clear hn
    refine (cornersD_is w3 b w.heap.size n 5 HD3.out (by omega) (by omega)).mono ?_
    rintro e w4 ⟨A, m, c, C, hmC, rfl, hm5, hCe, hI, hD4, hK4⟩
    have hz4 := hK4.size
    haveI kb4 : KB [b] w4 w3 := ⟨hK4⟩
    have hC : SmC n C := ⟨by omega, hCe⟩
    have hb4 : ∀ W, Keeps [] w4 W → ∀ y ∈ [b], y < W.heap.size := fun W k y hy => by rw [List.mem_singleton.1 hy]; exact Nat.lt_of_lt_of_le (by omega) k.size
    have hCl : ∀ x ∈ C, x.length ≤ 1000000 := fun x hx => by rw [(hCe x hx).1]; omega
    have hblw := (below_walk (n := (n : Int)) (hb4 w4 (Keeps.refl _ _)) hI (by omega) hCl).mono fun e w' h => low_ret hn1 hn4 hC h
    have HCS := Lib.hid hC
    have HMC := Lib.hid hmC
    have HI := Lib.hid hI
    have HD4 := Lib.hid hD4
    have HBLW := Lib.hid hblw
    have HB4 := Lib.hid hb4
    have HCL := Lib.hid hCl
    clear hmC hI hD4 hblw hb4 hCl
    clear hCe hK4 hC
    go_wp2_with fail
    refine HBLW.out.mono ?_
    rintro e w5 ⟨A5, q, c5, low, hq, rfl, hlow, hI5, hk5⟩
    have hz5 := hk5.size
    haveI kb5 : KB [b] w5 w4 := ⟨hk5.nil _⟩
    have hb5 : ∀ W, Keeps [b] w5 W → ∀ y ∈ [b], y < W.heap.size := fun W k y hy => by rw [List.mem_singleton.1 hy]; exact Nat.lt_of_lt_of_le (by omega) k.size
    have hll : ∀ x ∈ low, x.length ≤ 1000000 := fun x hx => by rw [(hlow.sm x hx).len]; omega
    have hchk := check_is (n := (n : Int)) (hb5 w5 (Keeps.refl _ _)) hI5 (by have := hlow.few; omega) hll
    rw [hlow.lim hn1 (by omega)] at hchk
    have hC5 : IsII w5 [b] (.slice A m c) C := IsII.new HI.out hk5
    have hD5 : Deck w5 b w.heap.size := HD4.out.keeps hk5 (by simp) (by simp)
    have HLW := Lib.hid hlow
    have HQ := Lib.hid hq
    have HI5 := Lib.hid hI5
    have HB5 := Lib.hid hb5
    have HLL := Lib.hid hll
    have HCHK := Lib.hid hchk
    have HC5 := Lib.hid hC5
    have HD5 := Lib.hid hD5
    clear hq hI5 hb5 hll hchk hC5 hD5
    clear hk5 hlow
    go_wp2_with fail
    refine HCHK.out.mono ?_
    rintro e w6 ⟨rfl, hk6⟩
    have hz6 := hk6.size
    haveI kb6 : KB [b] w6 w5 := ⟨hk6.nil _⟩
    have hD6 := HD5.out.keeps hk6 (by simp) (by simp)
    have hK6 : Keeps [b] w2 w6 := kf [b] w2 w6
    have hlo6 : IsII w6 [b] (.slice A5 q c5) low := IsII.new HI5.out hk6
    have hco6 : IsII w6 [b] (.slice A m c) C := IsII.new HC5.out hk6
    have HD6 := Lib.hid hD6
    have HK6 := Lib.hid hK6
    have HLO6 := Lib.hid hlo6
    have HCO6 := Lib.hid hco6
    clear hD6 hK6 hlo6 hco6
    clear hk6
    go_wp2_with fail
    go_loopg [8] 11 (fun gh kv wr => ∃ k : Nat, 11 ≤ k + gh ∧ k ≤ 10 ∧ kv = .int .i64 (k : Int) ∧ Deck wr b w.heap.size ∧ Keeps [b] w6 wr)
    case atStart => exact ⟨0, by omega, by omega, rfl, HD6.out, Keeps.refl _ _⟩
    case round =>
      obtain ⟨k, hgh, hk, rfl, hDr, hkr⟩ := hrel
      have hzr := hkr.size
      haveI kbr : KB [b] wr w6 := ⟨hkr⟩
      have HDR := Lib.hid hDr
      have HKR := Lib.hid hkr
      clear hDr hkr
      by_cases hlt : k < 10
      · have hd10 : decide ((k : Int) < 10) = true := decide_eq_true (by omega)
        go_wp2_with fail
        refine (small_any wr b w.heap.size n 5 HDR.out (by omega) (by omega)).mono ?_
        rintro e w7 ⟨Z, cz, zs, rfl, hzl, hzr2, hown, hD7, hK7⟩
        have hz7 := hK7.size
        haveI kb7 : KB [b] w7 wr := ⟨hK7⟩
        have hown := isN_own (l := [b]) (xs := zs) (v := .slice Z n cz) rfl (by rw [hzl]; exact hown)
        have hv : IsI w7 [b] (.slice Z n cz) zs := hown.isL (by simp; omega)
        have hvr : ∀ z ∈ zs, 0 ≤ z ∧ z ≤ 5 := fun z hz => by have := hzr2 z hz; omega
        have hlaw := splits_has hn1 hn4 HCS.out HLW.out hzl hvr
        have hC7 : IsII w7 [b] (.slice A m c) C := IsII.now HCO6.out
        have hl7 : IsII w7 [b] (.slice A5 q c5) low := IsII.now HLO6.out
        have hhas := fun W (kp : Keeps [] w7 W) => has_is (n := (n : Int)) (fun y hy => by rw [List.mem_singleton.1 hy]; exact Nat.lt_of_lt_of_le (show b < w7.heap.size by omega) kp.size) (IsII.new hl7 kp) (by have := HLW.out.few; rw [← HQ.out]; have := HQ.out; omega) HLL.out (IsI.new hv kp) (by rw [hzl]; omega)
        rw [hlaw] at hhas
        have hK7' := HKR.out.trans hK7
        have HV := Lib.hid hv
        have HC7 := Lib.hid hC7
        have HL7 := Lib.hid hl7
        have HHAS := Lib.hid hhas
        have HLAW := Lib.hid hlaw
        have HD7 := Lib.hid hD7
        have HZL := Lib.hid hzl
        have HVR := Lib.hid hvr
        have HK7' := Lib.hid hK7'
        clear hv hC7 hl7 hhas hlaw hD7 hzl hvr hK7'
        clear hown hzr2 hK7
        go_wp2_with fail
        obtain ⟨A9, c9, V9, hv9, _, _, hc9, hr9⟩ := HC7.out
        injection hv9 with e1 e2 e3
        subst e1; subst e3
        rw [← HMC.out] at hc9 hr9
        have HC9 := Lib.hid hc9
        have HR9 := Lib.hid hr9
        clear hc9 hr9
        clear e2
        go_loopg [10, 52] (m + 1) (fun gh av jv wr => ∃ j : Nat, m + 1 ≤ j + gh ∧ j ≤ m ∧ jv = .int .i64 (j : Int) ∧ av = .bool ((C.take j).any fun c => vleB c zs) ∧ Keeps [] w7 wr)
        case atStart => exact ⟨0, by omega, by omega, rfl, rfl, Keeps.refl _ _⟩
        case round =>
          obtain ⟨j, hgh2, hj, rfl, rfl, hk8⟩ := hrel
          by_cases hltj : j < m
          · have hat := any_take (C := C) (f := fun c => vleB c zs) (j := j) (by rw [← HMC.out]; exact hltj)
            have hx := (HR9.out j hltj).keeps (hk8.nil [b])
            obtain ⟨pa, rfl, hpa⟩ := (HC9.out.keeps (hk8.nil [b])).at_ hltj
            have hxl := HCL.out _ (getD_mem (d := []) (show j < C.length by rw [← HMC.out]; exact hltj))
            have hlq := rleq_is hx (IsI.new HV.out hk8) hxl (by rw [HZL.out]; omega)
            obtain ⟨Bx, dx, ex, _⟩ := hx.open
            rw [ex] at hpa hlq
            generalize hg1 : (C.take j).any (fun c => vleB c zs) = r1 at *
            generalize vleB (C.getD j []) zs = r2 at *
            have HAT := Lib.hid hat
            have HK8 := Lib.hid hk8
            have HLQ := Lib.hid hlq
            clear hlq
            clear hat hk8 hg1 hx ex
            cases r1 with
            | true =>
              go_wp2_with fail
              go_roundg (m - j)
              case measure => omega
              case rel => exact ⟨j + 1, by omega, by omega, by go_num, by rw [HAT.out]; rfl, HK8.out⟩
            | false =>
              go_wp2_with fail
              refine HLQ.out.mono ?_
              rintro e w9 ⟨rfl, hk9⟩
              have hk10 := HK8.out.trans hk9
              have HK10 := Lib.hid hk10
              clear hk10
              clear hk9
              go_wp2_with fail
              go_roundg (m - j)
              case measure => omega
              case rel => exact ⟨j + 1, by omega, by omega, by go_num, by rw [HAT.out]; rfl, HK10.out⟩
          · obtain rfl : j = m := by omega
            have htk : C.take j = C := List.take_of_length_le (by rw [← HMC.out]; exact Nat.le_refl _)
            rw [htk]
            have hcall := HHAS.out wr hk8
            generalize (C.any fun c => vleB c zs) = r1 at *
            have HK8 := Lib.hid hk8
            have HCALL := Lib.hid hcall
            clear hcall
            clear hk8 htk
            cases r1 with
            | true =>
              go_wp2_with fail
              refine HCALL.out.mono ?_
              rintro e w9 ⟨rfl, hk9⟩
              have hk10 := HK8.out.trans hk9
              have hD9 := HD7.out.keeps hk10 (by simp) (by simp)
              have hk11 := HK7'.out.trans (hk10.nil [b])
              have HD9 := Lib.hid hD9
              have HK11 := Lib.hid hk11
              clear hD9 hk11
              clear hk9 hk10
              go_wp2_with fail
              go_roundg (10 - k)
              case measure => omega
              case rel => exact ⟨k + 1, by omega, by omega, by go_num, HD9.out, HK11.out⟩
            | false =>
              go_wp2_with fail
              refine HCALL.out.mono ?_
              rintro e w9 ⟨rfl, hk9⟩
              have hk10 := HK8.out.trans hk9
              have hD9 := HD7.out.keeps hk10 (by simp) (by simp)
              have hk11 := HK7'.out.trans (hk10.nil [b])
              have HD9 := Lib.hid hD9
              have HK11 := Lib.hid hk11
              clear hD9 hk11
              clear hk9 hk10
              go_wp2_with fail
              go_roundg (10 - k)
              case measure => omega
              case rel => exact ⟨k + 1, by omega, by omega, by go_num, HD9.out, HK11.out⟩
      · have hd10 : decide ((k : Int) < 10) = false := decide_eq_false (by omega)
        have hfin := HB2.out.trans ((HK6.out.trans HKR.out).below (by simp; omega) (by omega))
        have HFIN := Lib.hid hfin
        clear hfin
        go_wp2_with fail
        go_ret
        exact ⟨rfl, HFIN.out⟩
  · have hd : decide ((len : Int) ≤ 400) = false := by simp; omega
    go_enter Try.func3, Try.ntmps3
    go_wp2_with fail
    refine (awake_any w).mono ?_
    rintro e w1 ⟨rfl, hb1⟩
    go_wp2_with fail
    refine (few_any w1 A0 len cap).mono ?_
    rintro e w' ⟨rfl, rfl⟩
    rw [hd]
    go_wp2_with fail
    refine (awake_any w1).mono ?_
    rintro e w2 ⟨rfl, hb2⟩
    go_wp2_with fail
    go_ret
    exact ⟨rfl, hb1.trans (hb2.mono hb1.size)⟩
end Go.Proofs.Ytnmkinaokjekjaa
