/- The walk of coverabilitylaw08.LimitSets. -/
import Derived.Test.YtnmkinaokjekjaaLMaximal
import Derived.Test.YtnmkinaokjekjaaInter

namespace Go.Proofs.Ytnmkinaokjekjaa
set_option linter.unusedVariables false
open Go.RowKit

theorem MaxOk.le {n : Nat} {S b : List (List Int)} (h : MaxOk n S b) : b.length ≤ S.length := asc_len h.asc fun z hz => h.src hz
theorem set_ret {n bk : Nat} {a b L : List (List Int)} {w w' : World} {e : Ending} (h0 : ckE (n : Int) a b = 0) (hS : ∀ x ∈ L, x.length = n ∧ VVal x) (hl : L.length ≤ 256) (h : SetPost (n : Int) a b L [bk] w e w') : MaxRet n L bk w e w' := by
  obtain ⟨hk, ⟨h1, _⟩ | ⟨_, out, ha, hm, ho⟩⟩ := h
  · exact absurd h0 h1
  · have hle := asc_len ha (L := L) fun z hz => ((hm z).1 hz).1
    rcases ho with ⟨h0, _⟩ | ⟨hf, A, m, c, hq, he, hI⟩
    · omega
    · exact ⟨A, m, c, out, hq, he, ⟨hS, ha, hm, hf⟩, hI, hk⟩
theorem has_lim {n : Nat} {b : List (List Int)} {v : List Int} (h : chkL (n : Int) b = 0) (hn : n ≤ 6) (hl : v.length = n) (hv : ∀ z ∈ v, 0 ≤ z ∧ z ≤ 5) : hasB (n : Int) b v = undB b v := by
  have hf : VFin v := ⟨by rw [hl]; exact hn, fun z hz => by have := hv z hz; omega⟩
  unfold hasB
  rw [decide_eq_true h, decide_eq_true (by omega : (v.length : Int) = (n : Int)), vfB_true.2 hf, Bool.true_and, Bool.true_and, Bool.true_and]
theorem und_max {n : Nat} {S b : List (List Int)} (h : MaxOk n S b) (v : List Int) : undB b v = undB S v := by
  unfold undB
  rw [Bool.eq_iff_iff, List.any_eq_true, List.any_eq_true]
  constructor
  · rintro ⟨x, hx, e⟩; exact ⟨x, h.src hx, e⟩
  · rintro ⟨x, hx, e⟩
    obtain ⟨y, hy, e2⟩ := max_cover (ordG fun x hx => ⟨(h.el x hx).2, (h.el x hx).1⟩) hx
    have g1 := vleB_true.1 e
    have g2 := vleB_true.1 (show vleB x y = true from e2)
    exact ⟨y, (h.mem y).2 hy, vleB_true.2 ⟨g1.1, g2.2.1, g1.2.2.trans g2.2.2⟩⟩
theorem und_app (a b : List (List Int)) (v : List Int) : undB (a ++ b) v = (undB a v || undB b v) := by unfold undB; rw [List.any_append]
theorem und_prod {n : Nat} {a b : List (List Int)} {v : List Int} (ha : ∀ x ∈ a, x.length = n ∧ VVal x) (hb : ∀ x ∈ b, x.length = n ∧ VVal x) : undB (prodL n a b) v = (undB a v && undB b v) := by
  unfold undB
  rw [Bool.eq_iff_iff, List.any_eq_true, Bool.and_eq_true, List.any_eq_true, List.any_eq_true]
  constructor
  · rintro ⟨z, hz, e⟩
    obtain ⟨x, hx, y, hy, rfl⟩ := mem_prodL.1 hz
    obtain ⟨g1, _, g3⟩ := vleB_true.1 e
    have gl := g3.len
    rw [minV_len] at gl
    refine ⟨⟨x, hx, vleB_true.2 ⟨g1, (ha x hx).2, by rw [gl, (ha x hx).1], fun i hi => ?_⟩⟩, ⟨y, hy, vleB_true.2 ⟨g1, (hb y hy).2, by rw [gl, (hb y hy).1], fun i hi => ?_⟩⟩⟩
    · have := g3.le i hi; rw [minV_at (by omega)] at this; omega
    · have := g3.le i hi; rw [minV_at (by omega)] at this; omega
  · rintro ⟨⟨x, hx, e⟩, ⟨y, hy, e2⟩⟩
    obtain ⟨g1, _, g3⟩ := vleB_true.1 e
    obtain ⟨_, _, h3⟩ := vleB_true.1 e2
    refine ⟨_, mem_prodL.2 ⟨x, hx, y, hy, rfl⟩, vleB_true.2 ⟨g1, minV_val (ha x hx).2 (hb y hy).2 (ha x hx).1 (hb y hy).1, by rw [minV_len, g3.len, (ha x hx).1], fun i hi => ?_⟩⟩
    have k1 := g3.le i hi
    have k2 := h3.le i hi
    have := g3.len
    rw [minV_at (by rw [← (ha x hx).1, ← this]; exact hi)]; omega
theorem sub_und {n : Int} {a b : List (List Int)} {v : List Int} (h : subB n a b = true) (hv : undB a v = true) : undB b v = true := by
  unfold subB at h
  rw [Bool.and_eq_true, List.all_eq_true] at h
  unfold undB at hv ⊢
  rw [List.any_eq_true] at hv ⊢
  obtain ⟨x, hx, e⟩ := hv
  have h2 := h.2 x hx
  unfold undB at h2
  rw [List.any_eq_true] at h2
  obtain ⟨y, hy, e2⟩ := h2
  have g1 := vleB_true.1 e
  have g2 := vleB_true.1 e2
  exact ⟨y, hy, vleB_true.2 ⟨g1.1, g2.2.1, g1.2.2.trans g2.2.2⟩⟩
theorem sub_of {n : Int} {a b : List (List Int)} (h0 : ckE n a b = 0) (h : ∀ x ∈ a, undB b x = true) : subB n a b = true := by
  unfold subB
  rw [decide_eq_true h0, Bool.true_and, List.all_eq_true]; exact h
theorem und_self {b : List (List Int)} {x : List Int} (hx : x ∈ b) (hv : VVal x) : undB b x = true := by
  unfold undB; rw [List.any_eq_true]; exact ⟨x, hx, vleB_true.2 ⟨hv, hv, VLe.refl x⟩⟩
theorem both_sub {n : Nat} {a b both : List (List Int)} (ha : ∀ x ∈ a, x.length = n ∧ VVal x) (hb : ∀ x ∈ b, x.length = n ∧ VVal x) (h : MaxOk n (prodL n a b) both) (h0 : ckE (n : Int) both a = 0) : subB (n : Int) both a = true :=
  sub_of h0 fun z hz => by
    have h1 : undB both z = true := und_self hz (h.el z (h.src hz)).2
    rw [und_max h, und_prod ha hb, Bool.and_eq_true] at h1
    exact h1.1
theorem sub_all {n : Nat} {a b all : List (List Int)} (ha : ∀ x ∈ a, x.length = n ∧ VVal x) (h : MaxOk n (a ++ b) all) (h0 : ckE (n : Int) a all = 0) : subB (n : Int) a all = true :=
  sub_of h0 fun x hx => by
    rw [und_max h]
    exact und_self (by simp [hx]) (ha x hx).2

set_option maxRecDepth 100000 in
set_option maxHeartbeats 8000000 in
theorem sets_law (w : World) (len cap : Nat) (A0 : Option Addr) (l : Nat → Int) (hR : Rd w w.heap.size A0 len (fun i => .int .i64 (l i))) :
    Calls Try.prog 6 #[.slice A0 len cap] w fun e w' => e = .returned (.bool true) ∧ Below w.heap.size w w' := by
  have HR := Lib.hid hR
  clear hR
  by_cases hlen : len ≤ 400
  · have hd : decide ((len : Int) ≤ 400) = true := by simp; omega
    go_enter Try.func6, Try.ntmps6
    go_wp2_with fail
    refine (awake_any w).mono ?_
    rintro e w1 ⟨rfl, hb1⟩
    have hz1 := hb1.size
    go_wp2_with fail
    refine (few_any w1 A0 len cap).mono ?_
    rintro e w' ⟨rfl, rfl⟩
    rw [hd]
    go_wp2_with fail
    refine (new_any w1 w.heap.size A0 len cap l (HR.out.below hb1) hlen hz1).mono ?_
    rintro e w2 ⟨rfl, hD2, hb2⟩
    have hz2 := hb2.size
    have hbl2 := hD2.lt
    have hB2 := hb1.trans (hb2.mono hz1)
    have HD2 := Lib.hid hD2
    have HB2 := Lib.hid hB2
    clear hD2 hB2
    clear hb1 hb2
    generalize w1.heap.size = b at *
    go_wp2_with fail
    refine (next_any w2 b w.heap.size 5 HD2.out (by omega)).mono ?_
    rintro e w3 ⟨n0, rfl, _, hn0, hD3, hK3⟩
    have hn0 := hn0 (by omega)
    have hz3 := hK3.size
    haveI kb3 : KB [b] w3 w2 := ⟨hK3⟩
    have HD3 := Lib.hid hD3
    clear hD3
    clear hK3
    go_wp2_with fail
    obtain ⟨n, hn⟩ : ∃ n : Nat, n = n0 + 1 := ⟨_, rfl⟩
    rw [show (1 : Int) + (n0 : Int) = (n : Int) by omega]
    have hn1 : 1 ≤ n := by omega
    have hn4 : n ≤ 6 := by omega
    clear hn
    refine (vectors_any w3 b w.heap.size n true 4 HD3.out (by omega) (by omega)).mono ?_
    rintro e w4 ⟨A, m, c, S, hmS, rfl, hm5, hSe, hI, hD4, hK4⟩
    have hz4 := hK4.size
    haveI kb4 : KB [b] w4 w3 := ⟨hK4⟩
    have hSv : ∀ x ∈ S, x.length = n ∧ VVal x := fun x hx => vcok_val hn4 (hSe x hx)
    have hb4 : ∀ y ∈ [b], y < w4.heap.size := fun y hy => by rw [List.mem_singleton.1 hy]; omega
    have hSl : S.length ≤ 4 := by omega
    have hmx := (maximise_is (n := (n : Int)) hb4 hI (by omega) (fun x hx => by rw [(hSe x hx).1]; omega)).mono fun e w' h => max_ret hn1 hn4 hSv (by omega) h
    have HSL := Lib.hid hSl
    have HI := Lib.hid hI
    have HMX := Lib.hid hmx
    have HD4 := Lib.hid hD4
    clear hI hmx hD4
    clear hSe hK4 hSv hmS hm5 hSl hb4
    go_wp2_with fail
    refine HMX.out.mono ?_
    rintro e w5 ⟨A1, q1, c1, a, hq1, rfl, hok1, hI1, hk5⟩
    have hz5 := hk5.size
    haveI kb5 : KB [b] w5 w4 := ⟨hk5.nil _⟩
    have hl1 : a.length ≤ 4 := Nat.le_trans hok1.le HSL.out
    have hD5 := HD4.out.keeps hk5 (by simp) (by simp)
    have HOK1 := Lib.hid hok1
    have HL1 := Lib.hid hl1
    have HI1 := Lib.hid hI1
    have HD5 := Lib.hid hD5
    have HQ1 := Lib.hid hq1
    clear hI1 hD5 hq1
    clear hk5 hok1 hl1 HSL
    go_wp2_with fail
    refine (vectors_any w5 b w.heap.size n true 4 HD5.out (by omega) (by omega)).mono ?_
    rintro e w6 ⟨A', m', c', S', hmS, rfl, hm5, hSe, hI, hD6, hK6⟩
    have hz6 := hK6.size
    haveI kb6 : KB [b] w6 w5 := ⟨hK6⟩
    have hSv : ∀ x ∈ S', x.length = n ∧ VVal x := fun x hx => vcok_val hn4 (hSe x hx)
    have hb6 : ∀ y ∈ [b], y < w6.heap.size := fun y hy => by rw [List.mem_singleton.1 hy]; omega
    have hSl : S'.length ≤ 4 := by omega
    have hmx := (maximise_is (n := (n : Int)) hb6 hI (by omega) (fun x hx => by rw [(hSe x hx).1]; omega)).mono fun e w' h => max_ret hn1 hn4 hSv (by omega) h
    have HSL := Lib.hid hSl
    have HI := Lib.hid hI
    have HMX := Lib.hid hmx
    have HD6 := Lib.hid hD6
    clear hI hmx hD6
    clear hSe hK6 hSv hmS hm5 hSl hb6
    go_wp2_with fail
    refine HMX.out.mono ?_
    rintro e w7 ⟨A2, q2, c2, bb, hq2, rfl, hok2, hI2, hk7⟩
    have hz7 := hk7.size
    haveI kb7 : KB [b] w7 w6 := ⟨hk7.nil _⟩
    have hl2 : bb.length ≤ 4 := Nat.le_trans hok2.le HSL.out
    have hD7 := HD6.out.keeps hk7 (by simp) (by simp)
    have ha7 : IsII w7 [b] (.slice A1 q1 c1) a := IsII.now HI1.out
    have hael : ∀ x ∈ a, x.length = n ∧ VVal x := fun x hx => HOK1.out.el x (HOK1.out.src hx)
    have hbel : ∀ x ∈ bb, x.length = n ∧ VVal x := fun x hx => hok2.el x (hok2.src hx)
    have hck : ckE (n : Int) a bb = 0 := ckE_zero.2 ⟨HOK1.out.lim hn1 hn4, hok2.lim hn1 hn4⟩
    have hb7 : ∀ y ∈ [b], y < w7.heap.size := fun y hy => by rw [List.mem_singleton.1 hy]; omega
    have hal : ∀ x ∈ a, x.length ≤ 1000000 := fun x hx => by rw [(hael x hx).1]; omega
    have hbl : ∀ x ∈ bb, x.length ≤ 1000000 := fun x hx => by rw [(hbel x hx).1]; omega
    have hl1 := HL1.out
    have hun := (union_is (n := (n : Int)) hb7 ha7 (by omega) hal hI2 (by omega) hbl).mono fun e w' h => set_ret hck (fun x hx => (List.mem_append.1 hx).elim (hael x) (hbel x)) (by rw [List.length_append]; omega) h
    have hin := fun W (k : Keeps [] w7 W) => (intersect_is (n := (n : Int)) (fun y hy => Nat.lt_of_lt_of_le (hb7 y hy) k.size) (IsII.new ha7 k) (by omega) hal (IsII.new hI2 k) (by omega) hbl).mono fun e w' h => set_ret (L := prodL n a bb) hck (fun x hx => by
      obtain ⟨u, hu, v, hv, rfl⟩ := mem_prodL.1 hx
      exact ⟨minV_len, minV_val (hael u hu).2 (hbel v hv).2 (hael u hu).1 (hbel v hv).1⟩) (by rw [len_prodL]; have := Nat.mul_le_mul hl1 hl2; omega) (by simpa using h)
    have HQ2 := Lib.hid hq2
    have HI2 := Lib.hid hI2
    have HA7 := Lib.hid ha7
    have HUN := Lib.hid hun
    have HIN := Lib.hid hin
    have HD7 := Lib.hid hD7
    have HAEL := Lib.hid hael
    have HBEL := Lib.hid hbel
    have HCK := Lib.hid hck
    have HAL := Lib.hid hal
    have HBL := Lib.hid hbl
    have HB7 := Lib.hid hb7
    clear hq2 hI2 ha7 hun hin hD7 hael hbel hck hal hbl hb7
    have HOK2 := Lib.hid hok2
    have HL2 := Lib.hid hl2
    clear hk7 hok2 hl1 hl2 HSL
    go_wp2_with fail
    refine HUN.out.mono ?_
    rintro e w8 ⟨A3, q3, c3, all, hq3, rfl, hok3, hI3, hk8⟩
    have hcall := HIN.out w8 hk8
    have HOK3 := Lib.hid hok3
    have HQ3 := Lib.hid hq3
    have HI3 := Lib.hid hI3
    have HK8 := Lib.hid hk8
    have HCALL := Lib.hid hcall
    clear hq3 hI3 hk8 hcall
    clear hok3
    go_wp2_with fail
    refine HCALL.out.mono ?_
    rintro e w9 ⟨A4, q4, c4, both, hq4, rfl, hok4, hI4, hk9⟩
    have hk79 := HK8.out.trans hk9
    have hz9 := hk79.size
    have hK9 : Keeps [b] w2 w9 := (kf [b] w2 w7).trans (hk79.nil [b])
    have hD9 := HD7.out.keeps hk79 (by simp) (by simp)
    have ha9 : IsII w9 [b] (.slice A1 q1 c1) a := IsII.new HA7.out hk79
    have hb9 : IsII w9 [b] (.slice A2 q2 c2) bb := IsII.new HI2.out hk79
    have hc9 : IsII w9 [b] (.slice A3 q3 c3) all := IsII.new HI3.out hk9
    have HOK4 := Lib.hid hok4
    have HQ4 := Lib.hid hq4
    have HI4 := Lib.hid hI4
    have HK9 := Lib.hid hK9
    have HD9 := Lib.hid hD9
    have HA9 := Lib.hid ha9
    have HB9 := Lib.hid hb9
    have HC9 := Lib.hid hc9
    clear hq4 hI4 hK9 hD9 ha9 hb9 hc9
    clear hok4 hk9 hk79
    go_wp2_with fail
    have hcl : ∀ x ∈ all, x.length ≤ 1000000 := fun x hx => by rw [(HOK3.out.el x (HOK3.out.src hx)).1]; omega
    have hdl : ∀ x ∈ both, x.length ≤ 1000000 := fun x hx => by rw [(HOK4.out.el x (HOK4.out.src hx)).1]; omega
    have HCL := Lib.hid hcl
    have HDL := Lib.hid hdl
    clear hcl hdl
    go_loopg [13] 11 (fun gh kv wr => ∃ k : Nat, 11 ≤ k + gh ∧ k ≤ 10 ∧ kv = .int .i64 (k : Int) ∧ Deck wr b w.heap.size ∧ Keeps [b] w9 wr)
    case atStart => exact ⟨0, by omega, by omega, rfl, HD9.out, Keeps.refl _ _⟩
    case round =>
      obtain ⟨k, hgh, hk, rfl, hDr, hkr⟩ := hrel
      have hzr := hkr.size
      haveI kbr : KB [b] wr w9 := ⟨hkr⟩
      have HDR := Lib.hid hDr
      have HKR := Lib.hid hkr
      clear hDr hkr
      by_cases hlt : k < 10
      · have hd10 : decide ((k : Int) < 10) = true := decide_eq_true (by omega)
        go_wp2_with fail
        refine (small_any wr b w.heap.size n 5 HDR.out (by omega) (by omega)).mono ?_
        rintro e w10 ⟨Z, cz, zs, rfl, hzl, hzr2, hown, hD10, hK10⟩
        have hz10 := hK10.size
        haveI kb10 : KB [b] w10 wr := ⟨hK10⟩
        have hown := isN_own (l := [b]) (xs := zs) (v := .slice Z n cz) rfl (by rw [hzl]; exact hown)
        have hv : IsI w10 [b] (.slice Z n cz) zs := hown.isL (by simp; omega)
        have hvr : ∀ z ∈ zs, 0 ≤ z ∧ z ≤ 5 := fun z hz => by have := hzr2 z hz; omega
        have ha10 : IsII w10 [b] (.slice A1 q1 c1) a := IsII.now HA9.out
        have hb10 : IsII w10 [b] (.slice A2 q2 c2) bb := IsII.now HB9.out
        have hc10 : IsII w10 [b] (.slice A3 q3 c3) all := IsII.now HC9.out
        have he10 : IsII w10 [b] (.slice A4 q4 c4) both := IsII.now HI4.out
        have hbW : ∀ W, Keeps [] w10 W → ∀ y ∈ [b], y < W.heap.size := fun W kp y hy => by rw [List.mem_singleton.1 hy]; exact Nat.lt_of_lt_of_le (show b < w10.heap.size by omega) kp.size
        have hha := fun W (kp : Keeps [] w10 W) => has_is (n := (n : Int)) (hbW W kp) (IsII.new ha10 kp) (by have := HL1.out; omega) HAL.out (IsI.new hv kp) (by rw [hzl]; omega)
        have hhb := fun W (kp : Keeps [] w10 W) => has_is (n := (n : Int)) (hbW W kp) (IsII.new hb10 kp) (by have := HL2.out; omega) HBL.out (IsI.new hv kp) (by rw [hzl]; omega)
        have hhc := fun W (kp : Keeps [] w10 W) => has_is (n := (n : Int)) (hbW W kp) (IsII.new hc10 kp) (by have := HOK3.out.few; omega) HCL.out (IsI.new hv kp) (by rw [hzl]; omega)
        have hhd := fun W (kp : Keeps [] w10 W) => has_is (n := (n : Int)) (hbW W kp) (IsII.new he10 kp) (by have := HOK4.out.few; omega) HDL.out (IsI.new hv kp) (by rw [hzl]; omega)
        have hsb := fun W (kp : Keeps [] w10 W) => subset_is (n := (n : Int)) (hbW W kp) (IsII.new ha10 kp) (by have := HL1.out; omega) HAL.out (IsII.new hb10 kp) (by have := HL2.out; omega) HBL.out
        rw [has_lim (HOK1.out.lim hn1 hn4) hn4 hzl hvr] at hha
        rw [has_lim (HOK2.out.lim hn1 hn4) hn4 hzl hvr] at hhb
        rw [has_lim (HOK3.out.lim hn1 hn4) hn4 hzl hvr] at hhc
        rw [has_lim (HOK4.out.lim hn1 hn4) hn4 hzl hvr] at hhd
        have h3 : undB all zs = (undB a zs || undB bb zs) := by rw [und_max HOK3.out, und_app]
        have h4 : undB both zs = (undB a zs && undB bb zs) := by rw [und_max HOK4.out, und_prod HAEL.out HBEL.out]
        have hS : subB (n : Int) a bb = true → undB a zs = true → undB bb zs = true := fun h1 h2 => sub_und h1 h2
        have hKr2 := HKR.out.trans hK10
        generalize undB a zs = r1 at *
        generalize undB bb zs = r2 at *
        generalize undB all zs = r3 at *
        generalize undB both zs = r4 at *
        generalize subB (n : Int) a bb = s at *
        have HV := Lib.hid hv
        have HA10 := Lib.hid ha10
        have HB10 := Lib.hid hb10
        have HC10 := Lib.hid hc10
        have HE10 := Lib.hid he10
        have HHA := Lib.hid hha
        have HHB := Lib.hid hhb
        have HHC := Lib.hid hhc
        have HHD := Lib.hid hhd
        have HSB := Lib.hid hsb
        have HD10 := Lib.hid hD10
        have HZL := Lib.hid hzl
        have HVR := Lib.hid hvr
        have HKR2 := Lib.hid hKr2
        have HBW := Lib.hid hbW
        clear hv ha10 hb10 hc10 he10 hha hhb hhc hhd hsb hD10 hzl hvr hKr2 hbW
        clear hown hzr2 hK10
        cases r1 <;> cases r2 <;> cases s <;> simp at h3 h4 hS
        all_goals
          subst h3
          subst h4
          go_wp2_with fail
          refine (HHA.out w10 (Keeps.refl _ _)).mono ?_
          rintro e x1 ⟨rfl, hy1⟩
          have HY1 := Lib.hid hy1
          clear hy1
          go_wp2_with fail
          refine (HHB.out x1 HY1.out).mono ?_
          rintro e x2 ⟨rfl, hy⟩
          have hy2 := HY1.out.trans hy
          have HY2 := Lib.hid hy2
          clear hy2
          clear hy
          go_wp2_with fail
          refine (HHC.out x2 HY2.out).mono ?_
          rintro e x3 ⟨rfl, hy⟩
          have hy3 := HY2.out.trans hy
          have HY3 := Lib.hid hy3
          clear hy3
          clear hy
          go_wp2_with fail
          refine (HHD.out x3 HY3.out).mono ?_
          rintro e x4 ⟨rfl, hy⟩
          have hy4 := HY3.out.trans hy
          have HY4 := Lib.hid hy4
          clear hy4
          clear hy
          go_wp2_with fail
          refine (HSB.out x4 HY4.out).mono ?_
          rintro e x5 ⟨rfl, hy⟩
          have hy5 := HY4.out.trans hy
          have hDx := HD10.out.keeps hy5 (by simp) (by simp)
          have hKx := HKR2.out.trans (hy5.nil [b])
          have HDX := Lib.hid hDx
          have HKX := Lib.hid hKx
          clear hDx hKx
          clear hy hy5
          go_wp2_with fail
          go_roundg (10 - k)
          case measure => omega
          case rel => exact ⟨k + 1, by omega, by omega, by go_num, HDX.out, HKX.out⟩
      · have hd10 : decide ((k : Int) < 10) = false := decide_eq_false (by omega)
        have har : IsII wr [b] (.slice A1 q1 c1) a := IsII.now HA9.out
        have hcr : IsII wr [b] (.slice A3 q3 c3) all := IsII.now HC9.out
        have hdr : IsII wr [b] (.slice A4 q4 c4) both := IsII.now HI4.out
        have hbW : ∀ W, Keeps [] wr W → ∀ y ∈ [b], y < W.heap.size := fun W kp y hy => by rw [List.mem_singleton.1 hy]; exact Nat.lt_of_lt_of_le (show b < wr.heap.size by omega) kp.size
        have hs1 := subset_is (n := (n : Int)) (hbW wr (Keeps.refl _ _)) hdr (by have := HOK4.out.few; omega) HDL.out har (by have := HL1.out; omega) HAL.out
        have hs2 := fun W (kp : Keeps [] wr W) => subset_is (n := (n : Int)) (hbW W kp) (IsII.new har kp) (by have := HL1.out; omega) HAL.out (IsII.new hcr kp) (by have := HOK3.out.few; omega) HCL.out
        rw [both_sub HAEL.out HBEL.out HOK4.out (ckE_zero.2 ⟨HOK4.out.lim hn1 hn4, HOK1.out.lim hn1 hn4⟩)] at hs1
        rw [sub_all HAEL.out HOK3.out (ckE_zero.2 ⟨HOK1.out.lim hn1 hn4, HOK3.out.lim hn1 hn4⟩)] at hs2
        have hfin := fun W (kp : Keeps [] wr W) => HB2.out.trans (((HK9.out.trans HKR.out).trans (kp.nil [b])).below (by simp; omega) (by omega))
        have HS1 := Lib.hid hs1
        have HS2 := Lib.hid hs2
        have HFIN := Lib.hid hfin
        clear hs1 hs2 hfin
        clear har hcr hdr hbW
        go_wp2_with fail
        refine HS1.out.mono ?_
        rintro e x1 ⟨rfl, hy1⟩
        have hc2 := HS2.out x1 hy1
        have HY1 := Lib.hid hy1
        have HC2 := Lib.hid hc2
        clear hy1 hc2
        go_wp2_with fail
        refine HC2.out.mono ?_
        rintro e x2 ⟨rfl, hy2⟩
        have hff := HFIN.out x2 (HY1.out.trans hy2)
        have HFF := Lib.hid hff
        clear hff
        clear hy2
        go_wp2_with fail
        go_ret
        exact ⟨rfl, HFF.out⟩
  · have hd : decide ((len : Int) ≤ 400) = false := by simp; omega
    go_enter Try.func6, Try.ntmps6
    go_wp2_with fail
    refine (awake_any w).mono ?_
    rintro e w1 ⟨rfl, hb1⟩
    go_wp2_with fail
    refine (few_any w1 A0 len cap).mono ?_
    rintro e w' ⟨rfl, rfl⟩
    rw [hd]
    go_wp2_with fail
    refine (awake_any w1).mono ?_
    rintro e w2 ⟨rfl, hb2⟩
    go_wp2_with fail
    go_ret
    exact ⟨rfl, hb1.trans (hb2.mono hb1.size)⟩
end Go.Proofs.Ytnmkinaokjekjaa
