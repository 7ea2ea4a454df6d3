/- The walk of coverabilitylaw13.SemilinearMakes. -/
import Derived.Test.YtdhadnnakcdfiaaAwake
import Derived.Test.YtdhadnnakcdfiaaLinear
import Derived.Test.YtdhadnnakcdfiaaMade

namespace Go.Proofs.Ytdhadnnakcdfiaa
set_option linter.unusedVariables false
open Go.RowKit

theorem isL_len {α : Type} {R : Rp α} {d : α} {w : World} {l : List Nat} {A : Option Addr} {n c : Nat} {xs : List α} (h : IsL R d w l (.slice A n c) xs) : n = xs.length := by
  obtain ⟨_, _, _, e, _⟩ := h
  injection e

theorem comb_le {n : Nat} {m c : Int} (hc : 0 ≤ c) (hm : 0 ≤ m) : ∀ {P : List (List Int)} {t : List Int}, (∀ p ∈ P, ∀ x ∈ p, 0 ≤ x ∧ x ≤ c) → (∀ x ∈ t, 0 ≤ x ∧ x ≤ m) → ∀ i, comb P t i ≤ m * c * P.length
  | [], _, _, _, _ => by simp [comb]
  | p :: P, [], _, _, _ => by
    simp only [comb, List.length_cons]
    exact Int.mul_nonneg (Int.mul_nonneg hm hc) (by omega)
  | p :: P, x :: t, hP, ht, i => by
    unfold comb
    have h1 : 0 ≤ p.getD i 0 ∧ p.getD i 0 ≤ c := by
      by_cases hi : i < p.length
      · exact getD_rng (hP p (List.mem_cons_self ..)) hi
      · rw [List.getD_eq_getElem?_getD, List.getElem?_eq_none (by omega)]; simp; exact hc
    have h2 := comb_le (n := n) hc hm (P := P) (t := t) (fun q hq => hP q (List.mem_cons_of_mem _ hq)) (fun y hy => ht y (List.mem_cons_of_mem _ hy)) i
    have h3 := ht x (List.mem_cons_self ..)
    have h4 : x * p.getD i 0 ≤ m * c := Int.mul_le_mul h3.2 h1.2 h1.1 hm
    rw [List.length_cons, Int.natCast_add, Int.mul_add]
    simp only [Int.natCast_one, Int.mul_one]
    omega

theorem makes_le {n : Nat} : ∀ {P : List (List Int)} {v t : List Int}, (∀ p ∈ P, PerOk n p) → v.length = n → (∀ i, i < n → v.getD i 0 ≤ 64) → Makes P v t → ∀ x ∈ t, x ≤ 64
  | [], v, t, _, _, _, h, x, hx => by
    obtain ⟨rfl, _⟩ := makes_nil.1 h
    cases hx
  | p :: P, v, t, hp, hl, hv, h, x, hx => by
    obtain ⟨y, t', rfl⟩ := makes_form h
    obtain ⟨h0, h1⟩ := makes_cons.1 h
    have hpk := hp p (List.mem_cons_self ..)
    have hpn : ∀ i, 0 ≤ p.getD i 0 := getD_nn fun x hx => (hpk.rng x hx).1
    have hy : ∀ i, 0 ≤ y * p.getD i 0 := fun i => Int.mul_nonneg h0 (hpn i)
    rcases List.mem_cons.1 hx with e | e
    · subst e
      obtain ⟨i, hi, hz⟩ := hpk.nz
      have h2 := h1.eq i (by rw [subm_len]; omega)
      rw [subm_get _ _ _ (by omega)] at h2
      have h3 := comb_nn (fun q hq x hx => ((hp q (List.mem_cons_of_mem _ hq)).rng x hx).1) h1.nn i
      have h4 := hv i hi
      have h5 := hpn i
      have h6 : x * 1 ≤ x * p.getD i 0 := Int.mul_le_mul_of_nonneg_left (by omega) h0
      omega
    · exact makes_le (fun q hq => hp q (List.mem_cons_of_mem _ hq)) (by rw [subm_len, hl]) (fun i hi => by
        rw [subm_get _ _ _ (by omega)]
        have := hv i hi
        have := hy i
        omega) h1 x e

/-- What small multiples of the periods of a small set make. -/
structure MadeOk (n : Nat) (s : Lin) (t v : List Int) : Prop where
  vec : VecOk n 64 v
  has : In s v t
theorem made_ok {n : Nat} {s : Lin} {t : List Int} (hs : Small4 n s) (htl : t.length = s.per.length) (ht : ∀ x ∈ t, 0 ≤ x ∧ x ≤ 4) : MadeOk n s t (madeL s t) := by
  have hbl := hs.good.base.len
  have hml : (madeL s t).length = n := by simp [madeL, hbl]
  have hget : ∀ i, i < n → (madeL s t).getD i 0 = s.base.getD i 0 + comb s.per t i := fun i hi => by
    have h1 : (madeL s t).getD i 0 = accV s.base s.per t t.length i := by simp [madeL, List.getD_eq_getElem?_getD, hbl, hi]
    rw [h1, htl]
    exact accV_comb _ _ _ _ htl
  have hc : ∀ i, 0 ≤ comb s.per t i ∧ comb s.per t i ≤ 48 := fun i => by
    have h1 := comb_nn (fun p hp x hx => (hs.p4 p hp x hx).1) (fun x hx => (ht x hx).1) i
    have h2 := comb_le (n := n) (by omega) (by omega) hs.p4 ht i
    have h3 := hs.good.few
    omega
  refine ⟨⟨hml, fun x hx => ?_⟩, htl, fun x hx => (ht x hx).1, fun i hi => ?_⟩
  · obtain ⟨i, hi, e⟩ := mem_getD (d := 0) hx
    rw [hml] at hi
    rw [hget i hi] at e
    have h1 := getD_rng hs.b4 (i := i) (by rw [hbl]; exact hi)
    have := hc i
    omega
  · rw [subm_len, hml] at hi
    rw [subm_get _ _ _ (by rw [hml]; exact hi), hget i hi]; omega

theorem provesS_of {n : Nat} {s : Lin} {t v : List Int} (hs : Small4 n s) (hg : GoodN s) (hv : VecOk n 64 v) (h : In s v t) : ProvesS s v t := by
  have hbl := hs.good.base.len
  refine ⟨hg, by rw [hv.len, hbl], h.len, fun x hx => ⟨h.nn x hx, ?_⟩, fun i hi => ?_⟩
  · have := makes_le hs.good.per (by rw [subm_len, hv.len]) (fun i hi => by
      rw [subm_get _ _ _ (by rw [hv.len]; exact hi)]
      have h1 := getD_rng hv.rng (i := i) (by rw [hv.len]; exact hi)
      have h2 := getD_rng hs.b4 (i := i) (by rw [hbl]; exact hi)
      omega) h x hx
    omega
  · have := h.eq i (by rw [subm_len, hv.len, ← hbl]; exact hi)
    rw [subm_get _ _ _ (by rw [hv.len, ← hbl]; exact hi)] at this
    omega
theorem least_cmp {P : List (List Int)} {v k t : List Int} (hk : Least P v k) (ht : Makes P v t) : cmpL k t ≤ 0 := by
  rw [cmpL_swap]
  have hl : t.length = k.length := by rw [ht.len, hk.1.len]
  have : ¬ cmpL t k < 0 := fun h => hk.2 t ht (by
    unfold cmpL at h
    rw [if_pos hl] at h
    exact lexc_vlt hl h)
  omega
theorem Small4.n {n : Nat} {s : Lin} (h : Small4 n s) (h1 : 1 ≤ n) (h4 : n ≤ 4) : GoodN s := by
  have := h.good.base.len
  refine ⟨by omega, by omega, by simp, fun x hx => ?_⟩
  rw [List.mem_singleton.1 hx, this]; simpa using h.good
theorem Small4.all {n : Nat} {s : Lin} (h : Small4 n s) (h1 : 1 ≤ n) (h4 : n ≤ 4) : GoodAll (n : Int) [s] := ⟨by omega, by omega, by simp, fun x hx => by rw [List.mem_singleton.1 hx]; simpa using h.good⟩
theorem Small4.small {n : Nat} {s : Lin} (h : Small4 n s) (h4 : n ≤ 4) : s.Small := ⟨by have := h.good.base.len; omega, by have := h.good.few; omega, fun i hi => by have := (h.good.per _ (getD_mem (d := []) hi)).len; omega⟩

set_option maxRecDepth 100000 in
set_option maxHeartbeats 4000000 in
theorem makes_law (w : World) (len cap : Nat) (A0 : Option Addr) (l : Nat → Int) (hR : Rd w w.heap.size A0 len (fun i => .int .i64 (l i))) :
    Calls Try.prog 3 #[.slice A0 len cap] w fun e w' => e = .returned (.bool true) ∧ Below w.heap.size w w' := by
  have HR := Lib.hid hR
  clear hR
  by_cases hlen : len ≤ 400
  · have hd : decide ((len : Int) ≤ 400) = true := by simp; omega
    go_enter Try.func3, Try.ntmps3
    go_wp2_with fail
    refine (awake_any w).mono ?_
    rintro e w1 ⟨rfl, hb1⟩
    have hz1 := hb1.size
    go_wp2_with fail
    refine (few_any w1 A0 len cap).mono ?_
    rintro e w' ⟨rfl, rfl⟩
    rw [hd]
    go_wp2_with fail
    refine (new_any w1 w.heap.size A0 len cap l (HR.out.below hb1) hlen hz1).mono ?_
    rintro e w2 ⟨rfl, hD2, hb2⟩
    have hz2 := hb2.size
    have hbl2 := hD2.lt
    have hB2 := hb1.trans (hb2.mono hz1)
    have HD2 := Lib.hid hD2
    have HB2 := Lib.hid hB2
    clear hD2 hB2
    clear hb1 hb2
    generalize w1.heap.size = b at *
    go_wp2_with fail
    refine (next_any w2 b w.heap.size 4 HD2.out (by omega)).mono ?_
    rintro e w3 ⟨n0, rfl, _, hn0, hD3, hK3⟩
    have hn0 := hn0 (by omega)
    have hz3 := hK3.size
    have HD3 := Lib.hid hD3
    have HK3 := Lib.hid hK3
    clear hD3 hK3
    go_wp2_with fail
    obtain ⟨n, hn⟩ : ∃ n : Nat, n = n0 + 1 := ⟨_, rfl⟩
    rw [show (1 : Int) + (n0 : Int) = (n : Int) by omega]
    have hn1 : 1 ≤ n := by omega
    have hn4 : n ≤ 4 := by omega
    clear hn
    refine (linear_is w3 b w.heap.size n HD3.out hn1 hn4).mono ?_
    rintro e w4 ⟨A, c, A', m, c', s, rfl, hlin, hs4, hD4, hK4⟩
    have hms := isL_len hlin.2
    have hsl := hs4.good.base.len
    have hz4 := hK4.size
    have hal : Keeps [] w4 (w4.alloc (.cells #[.slice A n c, .slice A' m c'] 29)) := (Keeps.refl _ _).alloc _
    have hbx := BoxAt.start w4 (.slice A n c) (.slice A' m c') 29
    have hc0 := hbx.c0
    have hc1 := hbx.c1
    have hD5 := hD4.keeps hal (by simp) (by simp)
    have hK5 := (HK3.out.trans hK4).trans (hal.nil [b])
    have hlin5 := hlin.new hal
    have hm3 : m ≤ 3 := by rw [hms]; exact hs4.good.few
    have HLIN5 := Lib.hid hlin5
    have HS4 := Lib.hid hs4
    have HD5 := Lib.hid hD5
    have HK5 := Lib.hid hK5
    have HBX := Lib.hid hbx
    have HMS := Lib.hid hms
    have HSL := Lib.hid hsl
    clear hlin5 hs4 hD5 hK5 hbx hms hsl
    clear hlin hD4 hK4 hal
    go_wp2_with fail
    refine (small_any _ b w.heap.size m 4 HD5.out (by omega) (by omega)).mono ?_
    rintro e w5 ⟨Z, cz, zs, rfl, hzl, hzr, hown, hD6, hK6⟩
    have hz6 := hK6.size
    simp only [World.size_alloc] at hz6
    have hown := isN_own (l := [b]) (xs := zs) (v := .slice Z m cz) rfl (by rw [hzl]; exact hown)
    have ht : IsI w5 [b] (.slice Z m cz) zs := hown.isL (by simp; omega)
    have hlin6 := HLIN5.out.keeps hK6
    have hbx6 := HBX.out.keeps hK6 (by simp; omega)
    have hc0 := hbx6.c0
    have hc1 := hbx6.c1
    have hzr4 : ∀ x ∈ zs, 0 ≤ x ∧ x ≤ 4 := fun x hx => by have := hzr x hx; omega
    have hmo := made_ok HS4.out (by rw [hzl]; exact HMS.out) hzr4
    have hK7 := HK5.out.trans hK6
    have HT := Lib.hid ht
    have HLIN6 := Lib.hid hlin6
    have HBX6 := Lib.hid hbx6
    have HZL := Lib.hid hzl
    have HZR4 := Lib.hid hzr4
    have HK7 := Lib.hid hK7
    clear ht hlin6 hbx6 hzl hzr4 hK7
    have HMO := Lib.hid hmo
    clear hown hD6 hK6 hzr hmo
    go_wp2_with fail
    refine (made_is (l := [b]) HLIN6.out (by rw [HSL.out]; exact HS4.out.good.base) (by rw [HSL.out]; exact HS4.out.good.per) (by rw [HSL.out]; omega) (by rw [← HMS.out]; omega) HT.out (by rw [HZL.out]; exact Nat.le_of_eq HMS.out) (fun x hx => by have := HZR4.out x hx; omega) (by rw [HSL.out]; exact hn1)).mono ?_
    rintro e w6 ⟨g, cg, he, hcg, hg1, hg2, hO, hk6⟩
    rw [HSL.out] at he hcg hO
    subst he
    have hv : IsI w6 [b] (.slice (some ⟨g, 0, none⟩) n cg) (madeL s zs) := hO.isI (by simp; omega) hcg (by simp [madeL, HSL.out]) (fun i hi => by simp [madeL, List.getD_eq_getElem?_getD, HSL.out, hi])
    have ht6 := HT.out.new hk6
    have hlin7 := HLIN6.out.new hk6
    have hbx7 := HBX6.out.new hk6
    have hc0 := hbx7.c0
    have hc1 := hbx7.c1
    have hK8 := HK7.out.trans (hk6.nil [b])
    have hz7 := hk6.size
    have hvl : (madeL s zs).length = n := HMO.out.vec.len
    generalize madeL s zs = v at *
    have HV := Lib.hid hv
    have HT6 := Lib.hid ht6
    have HLIN7 := Lib.hid hlin7
    have HBX7 := Lib.hid hbx7
    have HK8 := Lib.hid hK8
    have HVL := Lib.hid hvl
    clear hv ht6 hlin7 hbx7 hK8 hvl
    clear hO hk6
    go_wp2_with fail
    have hsm := HS4.out.small hn4
    refine (times_is (l := [b]) (by simp; omega) HLIN7.out hsm HV.out (by rw [HVL.out]; omega)).mono ?_
    rintro e w7 ⟨hk7, hh⟩
    have hgn := HS4.out.n hn1 hn4
    have hpre : TPre s v := ⟨hgn, by rw [HSL.out]; exact HMO.out.vec⟩
    rcases hh with ⟨rfl, hno⟩ | ⟨Ak, nk, ck, k, rfl, _, hki, hle⟩
    · exact absurd HMO.out.has (hno hpre zs)
    · have hcmp := least_cmp hle HMO.out.has
      have hpk := provesS_of HS4.out hgn HMO.out.vec hle.1
      have hpt := provesS_of HS4.out hgn HMO.out.vec HMO.out.has
      have hv7 := HV.out.new hk7
      have ht7 := HT6.out.new hk7
      have hlin8 := HLIN7.out.new hk7
      have hbx8 := HBX7.out.new hk7
      have hc0 := hbx8.c0
      have hc1 := hbx8.c1
      have hz8 := hk7.size
      have hkl : k.length = m := by rw [hle.1.len]; exact HMS.out.symm
      have hK9 := HK8.out.trans (hk7.nil [b])
      have HSM := Lib.hid hsm
      have HV7 := Lib.hid hv7
      have HT7 := Lib.hid ht7
      have HLIN8 := Lib.hid hlin8
      have HBX8 := Lib.hid hbx8
      have HK9 := Lib.hid hK9
      have HKI := Lib.hid hki
      have HKL := Lib.hid hkl
      have HPK := Lib.hid hpk
      have HPT := Lib.hid hpt
      have HCMP := Lib.hid hcmp
      have HPRE := Lib.hid hpre
      have HGN := Lib.hid hgn
      clear hv7 ht7 hlin8 hbx8 hK9 hki hkl hpk hpt hcmp hpre hgn
      clear hk7 hsm hle
      have ev2 := isL_len HKI.out
      rw [HKL.out] at ev2
      have ev2 := ev2.symm
      subst ev2
      go_wp2_with fail
      refine (provesS_is (l := [b]) (by simp; omega) HLIN8.out HSM.out HV7.out (by rw [HVL.out]; omega) HKI.out (by rw [HKL.out]; omega)).mono ?_
      rintro e w8 ⟨r, rfl, hr, hk8⟩
      obtain rfl : r = true := hr.2 HPK.out
      have hlin9 := HLIN8.out.new hk8
      have hbx9 := HBX8.out.new hk8
      have hc0 := hbx9.c0
      have hc1 := hbx9.c1
      have hz9 := hk8.size
      have hv8 := HV7.out.new hk8
      have ht8 := HT7.out.new hk8
      have hki8 := HKI.out.new hk8
      have hK10 := HK9.out.trans (hk8.nil [b])
      have HV8 := Lib.hid hv8
      have HT8 := Lib.hid ht8
      have HLIN9 := Lib.hid hlin9
      have HBX9 := Lib.hid hbx9
      have HK10 := Lib.hid hK10
      have HKI8 := Lib.hid hki8
      clear hv8 ht8 hlin9 hbx9 hK10 hki8
      clear hr hk8
      go_wp2_with fail
      refine (provesS_is (l := [b]) (by simp; omega) HLIN9.out HSM.out HV8.out (by rw [HVL.out]; omega) HT8.out (by rw [HZL.out]; omega)).mono ?_
      rintro e w9 ⟨r, rfl, hr, hk9⟩
      obtain rfl : r = true := hr.2 HPT.out
      have hlin10 := HLIN9.out.new hk9
      have hbx10 := HBX9.out.new hk9
      have hc0 := hbx10.c0
      have hc1 := hbx10.c1
      have hz10 := hk9.size
      have hv9 := HV8.out.new hk9
      have ht9 := HT8.out.new hk9
      have hki9 := HKI8.out.new hk9
      have hK11 := HK10.out.trans (hk9.nil [b])
      have hcall := cmp_is hki9 ht9 (by rw [HKL.out]; omega) (by rw [HZL.out]; omega)
      have hdec : decide (cmpL k zs ≤ 0) = true := decide_eq_true HCMP.out
      generalize cmpL k zs = z at *
      have HV9 := Lib.hid hv9
      have HLIN10 := Lib.hid hlin10
      have HBX10 := Lib.hid hbx10
      have HK11 := Lib.hid hK11
      have HCALL := Lib.hid hcall
      clear hv9 hlin10 hbx10 hK11 hcall
      clear hr hk9 ht9 hki9
      go_wp2_with fail
      refine HCALL.out.mono ?_
      rintro e w10 ⟨rfl, hq⟩
      have hk10 := quiet_keeps hq
      have hlin11 := HLIN10.out.new hk10
      have hbx11 := HBX10.out.new hk10
      have hc0 := hbx11.c0
      have hc1 := hbx11.c1
      have hz11 := hk10.size
      have hv10 := HV9.out.new hk10
      have hK12 := HK11.out.trans (hk10.nil [b])
      have hone := IsLins.one (t := 29) (l := [b]) (by simp; omega) hlin11
      have hal : Keeps [] w10 (w10.alloc (.cells #[.slice A n c, .slice A' m c'] 29)) := (Keeps.refl _ _).alloc _
      have hv11 := hv10.new hal
      have hK13 := hK12.trans (hal.nil [b])
      have hga : GoodAll (n : Int) [s] := HS4.out.all hn1 hn4
      have HONE := Lib.hid hone
      have HV11 := Lib.hid hv11
      have HK13 := Lib.hid hK13
      have HGA := Lib.hid hga
      clear hone hv11 hK13 hga
      clear hq hk10 hlin11 hbx11 hv10 hK12 hal
      go_wp2_with fail
      refine (has_is (l := [b]) (n := (n : Int)) (ss := [s]) (by simp; omega) HONE.out (by simpa using HSM.out) (by simp) HV11.out (by rw [HVL.out]; omega)).mono ?_
      rintro e w11 ⟨r, rfl, hr, hk11⟩
      obtain rfl : r = true := hr.2 ⟨HGA.out, s, by simp, HPRE.out, zs, HMO.out.has⟩
      have hK14 := HK13.out.trans (hk11.nil [b])
      have HK14 := Lib.hid hK14
      clear hK14
      clear hr hk11
      go_wp2_with fail
      go_ret
      exact ⟨rfl, HB2.out.trans (HK14.out.below (by simp; omega) (by omega))⟩
  · have hd : decide ((len : Int) ≤ 400) = false := by simp; omega
    go_enter Try.func3, Try.ntmps3
    go_wp2_with fail
    refine (awake_any w).mono ?_
    rintro e w1 ⟨rfl, hb1⟩
    go_wp2_with fail
    refine (few_any w1 A0 len cap).mono ?_
    rintro e w' ⟨rfl, rfl⟩
    rw [hd]
    go_wp2_with fail
    refine (awake_any w1).mono ?_
    rintro e w2 ⟨rfl, hb2⟩
    go_wp2_with fail
    go_ret
    exact ⟨rfl, hb1.trans (hb2.mono hb1.size)⟩
end Go.Proofs.Ytdhadnnakcdfiaa
