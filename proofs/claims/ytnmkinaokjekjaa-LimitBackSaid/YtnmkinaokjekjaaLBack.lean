/- The walk of coverabilitylaw08.LimitBack. -/
import Derived.Test.YtnmkinaokjekjaaLSplits
import Derived.Test.YtnmkinaokjekjaaRSameAll

namespace Go.Proofs.Ytnmkinaokjekjaa
set_option linter.unusedVariables false
open Go.RowKit

/-- What Above returns of small limits. -/
structure UpOk (n : Nat) (low up : List (List Int)) : Prop where
  sm : ∀ x ∈ up, UpV n 3 x
  few : up.length ≤ 256
  inU : ∀ z, ZV n z → (InU up z ↔ ∀ c ∈ low, ¬ VLe z c)
def UpRet (n : Nat) (low : List (List Int)) (b : Nat) (w : World) (e : Ending) (w' : World) : Prop :=
  ∃ A q c up, q = (up : List (List Int)).length ∧ e = .returned (.tuple #[.slice A q c, .int .i64 0]) ∧ UpOk n low up ∧ IsII w' [b] (.slice A q c) up ∧ Keeps [] w w'
theorem up_ret {n b : Nat} {low : List (List Int)} {w w' : World} {e : Ending} (h1 : 1 ≤ n) (h4 : n ≤ 4) (hs : ∀ x ∈ low, SmV n 2 x) (hl : low.length ≤ 12) (h : AbvPost (n : Int) low [b] w e w') : UpRet n low b w e w' := by
  obtain ⟨hk, ⟨h0, _⟩ | ⟨_, out, hb, ho⟩⟩ := h
  · exact absurd (cornE_zero.2 ⟨⟨by omega, by omega⟩, hl, fun x hx => ⟨by have := (hs x hx).len; omega, vvB_true.2 ((hs x hx).val (by omega) (by omega))⟩⟩) h0
  · have hb : Bey vltB turnA (List.replicate n 0) low out := by simpa using hb
    have hbp := beyA (n := n) (K := 2) (C := low) (by omega) hs
    have hsm := bey_P hb hbp
    have hsm : ∀ x ∈ out, UpV n 3 x := hsm
    have huo : UpOk n low out := ⟨hsm, asc_upV h4 (bey_asc hb) hsm, above_inv (by omega) (by omega) hb hs⟩
    have hz : eachL (n : Int) vfB out = 0 := eachL_zero.2 fun x hx => ⟨by have := (hsm x hx).len; omega, vfB_true.2 ⟨by have := (hsm x hx).len; omega, fun z hz => by have := (hsm x hx).el z hz; omega⟩⟩
    rcases ho with ⟨h0, _⟩ | ⟨_, ho⟩
    · exact absurd hz h0
    · rcases ho with ⟨h0, _⟩ | ⟨_, A, m, c, hm, he, hI⟩
      · have := huo.few; omega
      · exact ⟨A, m, c, out, hm, he, huo, hI, hk⟩
theorem back_all {n : Nat} {C low up again : List (List Int)} (h4 : n ≤ 4) (h : LowOk n C low) (hu : UpOk n low up) (ha : LowOk n up again) : again = low := by
  refine back_eq h.asc ha.asc h.sm ha.sm h.anti ha.anti (by omega) fun z hz => ?_
  rw [ha.inD z hz]
  constructor
  · rintro ⟨x, hx, hzx⟩ c hc hcz
    exact (hu.inU z hz).1 ⟨c, hc, hcz⟩ x hx hzx
  · intro hall
    refine Classical.byContradiction fun hn => ?_
    obtain ⟨c, hc, hcz⟩ := (hu.inU z hz).2 fun c hc hzc => hn ⟨c, hc, hzc⟩
    exact hall c hc hcz
theorem UpOk.smC {n : Nat} {low up : List (List Int)} (h : UpOk n low up) (hl : up.length ≤ 12) : SmC n up := ⟨hl, fun x hx => ⟨(h.sm x hx).len, (h.sm x hx).el⟩⟩

set_option maxRecDepth 100000 in
set_option maxHeartbeats 8000000 in
theorem back_law (w : World) (len cap : Nat) (A0 : Option Addr) (l : Nat → Int) (hR : Rd w w.heap.size A0 len (fun i => .int .i64 (l i))) :
    Calls Try.prog 4 #[.slice A0 len cap] w fun e w' => e = .returned (.bool true) ∧ Below w.heap.size w w' := by
  have HR := Lib.hid hR
  clear hR
  by_cases hlen : len ≤ 400
  · have hd : decide ((len : Int) ≤ 400) = true := by simp; omega
    go_enter Try.func4, Try.ntmps4
    go_wp2_with fail
    refine (awake_any w).mono ?_
    rintro e w1 ⟨rfl, hb1⟩
    have hz1 := hb1.size
    go_wp2_with fail
    refine (few_any w1 A0 len cap).mono ?_
    rintro e w' ⟨rfl, rfl⟩
    rw [hd]
    go_wp2_with fail
    refine (new_any w1 w.heap.size A0 len cap l (HR.out.below hb1) hlen hz1).mono ?_
    rintro e w2 ⟨rfl, hD2, hb2⟩
    have hz2 := hb2.size
    have hbl2 := hD2.lt
    have hB2 := hb1.trans (hb2.mono hz1)
    have HD2 := Lib.hid hD2
    have HB2 := Lib.hid hB2
    clear hD2 hB2
    clear hb1 hb2
    generalize w1.heap.size = b at *
    go_wp2_with fail
    refine (next_any w2 b w.heap.size 3 HD2.out (by omega)).mono ?_
    rintro e w3 ⟨n0, rfl, _, hn0, hD3, hK3⟩
    have hn0 := hn0 (by omega)
    have hz3 := hK3.size
    haveI kb3 : KB [b] w3 w2 := ⟨hK3⟩
    have HD3 := Lib.hid hD3
    clear hD3
    clear hK3
    go_wp2_with fail
    obtain ⟨n, hn⟩ : ∃ n : Nat, n = n0 + 1 := ⟨_, rfl⟩
    rw [show (1 : Int) + (n0 : Int) = (n : Int) by omega]
    have hn1 : 1 ≤ n := by omega
    have hn4 : n ≤ 3 := by omega
    clear hn
    refine (cornersD_is w3 b w.heap.size n 3 HD3.out (by omega) (by omega)).mono ?_
    rintro e w4 ⟨A, m, c, C, hmC, rfl, hm5, hCe, hI, hD4, hK4⟩
    have hz4 := hK4.size
    haveI kb4 : KB [b] w4 w3 := ⟨hK4⟩
    have hC : SmC n C := ⟨by omega, hCe⟩
    have hb4 : ∀ W, Keeps [] w4 W → ∀ y ∈ [b], y < W.heap.size := fun W k y hy => by rw [List.mem_singleton.1 hy]; exact Nat.lt_of_lt_of_le (by omega) k.size
    have hCl : ∀ x ∈ C, x.length ≤ 1000000 := fun x hx => by rw [(hCe x hx).1]; omega
    have hblw := (below_walk (n := (n : Int)) (hb4 w4 (Keeps.refl _ _)) hI (by omega) hCl).mono fun e w' h => low_ret hn1 (by omega) hC h
    have HMC := Lib.hid hmC
    have HI := Lib.hid hI
    have HD4 := Lib.hid hD4
    have HBLW := Lib.hid hblw
    have HB4 := Lib.hid hb4
    have HCL := Lib.hid hCl
    clear hmC hI hD4 hblw hb4 hCl
    clear hCe hK4 hC
    go_wp2_with fail
    refine HBLW.out.mono ?_
    rintro e w5 ⟨A5, q, c5, low, hq, rfl, hlow, hI5, hk5⟩
    have hz5 := hk5.size
    haveI kb5 : KB [b] w5 w4 := ⟨hk5.nil _⟩
    have hb5 : ∀ W, Keeps [b] w5 W → ∀ y ∈ [b], y < W.heap.size := fun W k y hy => by rw [List.mem_singleton.1 hy]; exact Nat.lt_of_lt_of_le (by omega) k.size
    have hll : ∀ x ∈ low, x.length ≤ 1000000 := fun x hx => by rw [(hlow.sm x hx).len]; omega
    have hK5 : Keeps [b] w2 w5 := kf [b] w2 w5
    have hfin := HB2.out.trans (hK5.below (by simp; omega) (by omega))
    by_cases h12 : q ≤ 12
    · have hab := (above_walk (n := (n : Int)) (hb5 w5 (Keeps.refl _ _)) hI5 (by omega) hll).mono fun e w' h => up_ret hn1 (by omega) hlow.sm (by omega) h
      have hd : decide ((q : Int) > 12) = false := decide_eq_false (by omega)
      have hd' : decide (12 < (q : Int)) = false := decide_eq_false (by omega)
      have HLW := Lib.hid hlow
      have HQ := Lib.hid hq
      have HI5 := Lib.hid hI5
      have HB5 := Lib.hid hb5
      have HLL := Lib.hid hll
      have HAB := Lib.hid hab
      have HK5 := Lib.hid hK5
      have HFIN := Lib.hid hfin
      clear hq hI5 hb5 hll hab hK5 hfin
      clear hk5 hlow h12
      go_wp2_with fail
      refine HAB.out.mono ?_
      rintro e w6 ⟨A6, q6, c6, up, hq6, rfl, hup, hI6, hk6⟩
      have hz6 := hk6.size
      have hK6 := HK5.out.trans (hk6.nil [b])
      have hfin6 := HB2.out.trans (hK6.below (by simp; omega) (by omega))
      by_cases h12 : q6 ≤ 12
      · have hC := hup.smC (by omega)
        have hb6 : ∀ y ∈ [b], y < w6.heap.size := fun y hy => by rw [List.mem_singleton.1 hy]; omega
        have hul : ∀ x ∈ up, x.length ≤ 1000000 := fun x hx => by rw [(hup.sm x hx).len]; omega
        have hblw := (below_walk (n := (n : Int)) hb6 hI6 (by omega) hul).mono fun e w' h => low_ret hn1 (by omega) hC h
        have hd : decide ((q6 : Int) > 12) = false := decide_eq_false (by omega)
        have hd' : decide (12 < (q6 : Int)) = false := decide_eq_false (by omega)
        have HUP := Lib.hid hup
        have hlow6 : IsII w6 [b] (.slice A5 q c5) low := IsII.new HI5.out hk6
        have HBLW := Lib.hid hblw
        have HQ6 := Lib.hid hq6
        have HLOW6 := Lib.hid hlow6
        have HK6 := Lib.hid hK6
        clear hblw hq6 hlow6 hK6
        clear hup hC hk6 hI6 hul h12
        go_wp2_with fail
        refine HBLW.out.mono ?_
        rintro e w7 ⟨A7, q7, c7, again, hq7, rfl, hag, hI7, hk7⟩
        have hz7 := hk7.size
        have heq := back_all (by omega) HLW.out HUP.out hag
        have hlow7 : IsII w7 [b] (.slice A5 q c5) low := IsII.new HLOW6.out hk7
        rw [heq] at hI7
        have hll' := HLL.out
        have hsa := sameall_is hI7 hlow7 (by have := HLW.out.few; omega) (by have := HLW.out.few; omega) hll' hll'
        rw [decide_eq_true rfl] at hsa
        have hK7 := HK6.out.trans (hk7.nil [b])
        have hs7 := hz7
        have HSA := Lib.hid hsa
        have HK7 := Lib.hid hK7
        clear hsa hK7
        clear hk7 hag hI7 hlow7 hll'
        clear hq7
        go_wp2_with fail
        refine HSA.out.mono ?_
        rintro e w8 ⟨rfl, hk8⟩
        have hz8 := hk8.size
        have hK8 := HK7.out.trans (hk8.nil [b])
        have hfin8 := HB2.out.trans (hK8.below (by simp; omega) (by omega))
        have HFIN8 := Lib.hid hfin8
        clear hfin8
        clear hk8 hK8
        go_wp2_with fail
        go_ret
        exact ⟨rfl, HFIN8.out⟩
      · have hd : decide ((q6 : Int) > 12) = true := decide_eq_true (by omega)
        have hd' : decide (12 < (q6 : Int)) = true := decide_eq_true (by omega)
        have HFIN6 := Lib.hid hfin6
        clear hfin6
        clear hk6 hI6 hq6 hup h12
        go_wp2_with fail
        go_ret
        exact ⟨rfl, HFIN6.out⟩
    · have hd : decide ((q : Int) > 12) = true := decide_eq_true (by omega)
      have hd' : decide (12 < (q : Int)) = true := decide_eq_true (by omega)
      have HFIN := Lib.hid hfin
      clear hfin
      clear hk5 hI5 hq hlow h12 hll hb5
      go_wp2_with fail
      go_ret
      exact ⟨rfl, HFIN.out⟩
  · have hd : decide ((len : Int) ≤ 400) = false := by simp; omega
    go_enter Try.func4, Try.ntmps4
    go_wp2_with fail
    refine (awake_any w).mono ?_
    rintro e w1 ⟨rfl, hb1⟩
    go_wp2_with fail
    refine (few_any w1 A0 len cap).mono ?_
    rintro e w' ⟨rfl, rfl⟩
    rw [hd]
    go_wp2_with fail
    refine (awake_any w1).mono ?_
    rintro e w2 ⟨rfl, hb2⟩
    go_wp2_with fail
    go_ret
    exact ⟨rfl, hb1.trans (hb2.mono hb1.size)⟩
end Go.Proofs.Ytnmkinaokjekjaa
