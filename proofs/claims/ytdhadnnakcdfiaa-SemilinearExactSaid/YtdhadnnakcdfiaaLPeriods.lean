/- The walk of coverabilitylaw13.SemilinearPeriods. -/
import Derived.Test.YtdhadnnakcdfiaaLMakes
import Derived.Deep.DeepCutAuto

namespace Go.Proofs.Ytdhadnnakcdfiaa
set_option linter.unusedVariables false
open Go.RowKit

theorem has_val {w : World} {l : List Nat} {n : Int} {x vv : Value} {ss : List Lin} {v : List Int} {r : Bool} (hl : ∀ y ∈ l, y < w.heap.size) (h : IsLins w l x ss) (hs : ∀ s ∈ ss, s.Small) (hn : ss.length ≤ 1000000) (hv : IsI w l vv v) (hvn : v.length ≤ 1000000) (hr : r = true ↔ GoodAll n ss ∧ ∃ s ∈ ss, HasIn s v) :
    Calls Try.prog 18 #[.int .i64 n, x, vv] w fun e w' => e = .returned (.bool r) ∧ Keeps [] w w' :=
  (has_is hl h hs hn hv hvn).mono fun e w' ⟨q, h1, h2, h3⟩ => by
    have : q = r := by rw [Bool.eq_iff_iff, h2, hr]
    subst this; exact ⟨h1, h3⟩

theorem comb_bump : ∀ {P : List (List Int)} {t : List Int} {k i : Nat}, t.length = P.length → k < t.length → comb P (t.set k (t.getD k 0 + 1)) i = comb P t i + (P.getD k []).getD i 0
  | [], t, k, i, h, hk => by rw [h] at hk; simp at hk
  | p :: P, [], k, i, h, hk => by simp at hk
  | p :: P, x :: t, 0, i, h, hk => by
    simp only [List.getD_cons_zero, List.set_cons_zero, comb]
    rw [Int.add_mul]; omega
  | p :: P, x :: t, k + 1, i, h, hk => by
    simp only [List.getD_cons_succ, List.set_cons_succ, comb]
    rw [comb_bump (by simpa using h) (by simpa using hk)]; omega

theorem IsLins.weak {w : World} {l l' : List Nat} {v : Value} {ss : List Lin} (h : IsLins w l v ss) (hl : ∀ y ∈ l', y ∈ l ∨ w.heap.size ≤ y) : IsLins w l' v ss := by
  obtain ⟨A, c, h1, h2, h3, h4⟩ := h
  refine ⟨A, c, h1, h2, h3, fun hn => ?_⟩
  obtain ⟨a, e, hb, hc⟩ := h4 hn
  refine ⟨a, e, fun hm => ?_, fun i hi => ?_⟩
  · obtain ⟨u, v, g1, _⟩ := hc 0 hn
    have := lt_of_cell g1
    rw [block_of_add] at this
    rcases hl _ hm with h | h
    · exact hb h
    · omega
  · obtain ⟨u, v, g1, g2, g3⟩ := hc i hi
    exact ⟨u, v, g1, g2, g3.weak hl⟩
theorem two_first {w : World} {l : List Nat} {g : Nat} {s r : Lin} (h : IsLins w l (.slice (some ⟨g, 0, none⟩) 2 2) [s, r]) : IsLins w l (.slice (some ⟨g, 0, none⟩) 1 2) [s] := by
  obtain ⟨A, c, e, _, _, h4⟩ := h
  injection e with e1 e2 e3
  subst e1
  obtain ⟨a, ea, hb, hc⟩ := h4 (by simp)
  injection ea with ea
  subst ea
  refine ⟨_, 2, rfl, by simp, (fun h => by cases h), fun _ => ⟨_, rfl, hb, fun i hi => ?_⟩⟩
  have e : i = 0 := by simpa using hi
  subst e
  exact hc 0 (by simp)
theorem two_second {w : World} {l : List Nat} {g : Nat} {s r : Lin} (h : IsLins w l (.slice (some ⟨g, 0, none⟩) 2 2) [s, r]) : IsLins w l (.slice (some ⟨g, 2, none⟩) 1 1) [r] := by
  obtain ⟨A, c, e, _, _, h4⟩ := h
  injection e with e1 e2 e3
  subst e1
  obtain ⟨a, ea, hb, hc⟩ := h4 (by simp)
  injection ea with ea
  subst ea
  refine ⟨_, 1, rfl, by simp, (fun h => by cases h), fun _ => ⟨_, rfl, hb, fun i hi => ?_⟩⟩
  have e : i = 0 := by simpa using hi
  subst e
  exact hc 1 (by simp)

theorem madeL_get {n : Nat} {s : Lin} {t : List Int} (hl : t.length = s.per.length) (hb : s.base.length = n) {i : Nat} (hi : i < n) : (madeL s t).getD i 0 = s.base.getD i 0 + comb s.per t i := by
  have h1 : (madeL s t).getD i 0 = accV s.base s.per t t.length i := by simp [madeL, List.getD_eq_getElem?_getD, hb, hi]
  rw [h1, hl]; exact accV_comb _ _ _ _ hl
theorem base_in {n : Nat} {s : Lin} (hs : Small4 n s) (hg : GoodN s) (h0 : s.per = []) : HasIn s s.base := by
  refine ⟨⟨hg, rfl, fun x hx => by have := hs.b4 x hx; omega⟩, [], by rw [h0]; rfl, by simp, fun i hi => ?_⟩
  rw [subm_len] at hi
  rw [subm_get _ _ _ hi, h0]; simp [comb]
theorem bump_in {n k : Nat} {s : Lin} {t v : List Int} (hs : Small4 n s) (hg : GoodN s) (hl : t.length = s.per.length) (ht : ∀ x ∈ t, 0 ≤ x ∧ x ≤ 1) (hk : k < s.per.length) (hv : v.length = n) (he : ∀ i, i < n → v.getD i 0 = accV s.base s.per t t.length i + (s.per.getD k []).getD i 0) : HasIn s v := by
  have hbl := hs.good.base.len
  have htk := getD_rng ht (i := k) (by rw [hl]; exact hk)
  have hl' : (t.set k (t.getD k 0 + 1)).length = s.per.length := by rw [List.length_set, hl]
  have hmo := made_ok hs hl' (fun x hx => by
    rcases List.mem_or_eq_of_mem_set hx with h | h
    · have := ht x h; omega
    · omega)
  have : v = madeL s (t.set k (t.getD k 0 + 1)) := eq_of_getD (by rw [hv]; simp [madeL, hbl]) fun i hi => by
    rw [hv] at hi
    rw [madeL_get hl' hbl hi, comb_bump hl (by rw [hl]; exact hk), he i hi, hl, accV_comb _ _ _ _ hl]; omega
  rw [this]
  exact ⟨⟨hg, by rw [hbl]; exact hmo.vec⟩, _, hmo.has⟩

set_option maxRecDepth 100000 in
set_option maxHeartbeats 8000000 in
theorem periods_law (w : World) (len cap : Nat) (A0 : Option Addr) (l : Nat → Int) (hR : Rd w w.heap.size A0 len (fun i => .int .i64 (l i))) :
    Calls Try.prog 5 #[.slice A0 len cap] w fun e w' => e = .returned (.bool true) ∧ Below w.heap.size w w' := by
  have HR := Lib.hid hR
  clear hR
  by_cases hlen : len ≤ 400
  · have hd : decide ((len : Int) ≤ 400) = true := by simp; omega
    go_enter Try.func5, Try.ntmps5
    go_wp2_with fail
    refine (awake_any w).mono ?_
    rintro e w1 ⟨rfl, hb1⟩
    have hz1 := hb1.size
    go_wp2_with fail
    refine (few_any w1 A0 len cap).mono ?_
    rintro e w' ⟨rfl, rfl⟩
    rw [hd]
    go_wp2_with fail
    refine (new_any w1 w.heap.size A0 len cap l (HR.out.below hb1) hlen hz1).mono ?_
    rintro e w2 ⟨rfl, hD2, hb2⟩
    have hz2 := hb2.size
    have hbl2 := hD2.lt
    have hB2 := hb1.trans (hb2.mono hz1)
    have HD2 := Lib.hid hD2
    have HB2 := Lib.hid hB2
    clear hD2 hB2
    clear hb1 hb2
    generalize w1.heap.size = b at *
    go_wp2_with fail
    refine (next_any w2 b w.heap.size 4 HD2.out (by omega)).mono ?_
    rintro e w3 ⟨n0, rfl, _, hn0, hD3, hK3⟩
    have hn0 := hn0 (by omega)
    have hz3 := hK3.size
    have HD3 := Lib.hid hD3
    have HK3 := Lib.hid hK3
    clear hD3 hK3
    go_wp2_with fail
    obtain ⟨n, hn⟩ : ∃ n : Nat, n = n0 + 1 := ⟨_, rfl⟩
    rw [show (1 : Int) + (n0 : Int) = (n : Int) by omega]
    have hn1 : 1 ≤ n := by omega
    have hn4 : n ≤ 4 := by omega
    clear hn
    refine (linear_is w3 b w.heap.size n HD3.out hn1 hn4).mono ?_
    rintro e w4 ⟨A, c, A', m, c', s, rfl, hlin, hs4, hD4, hK4⟩
    have hz4 := hK4.size
    have HK4 := Lib.hid (HK3.out.trans hK4)
    have HLIN := Lib.hid hlin
    have HS4 := Lib.hid hs4
    have HD4 := Lib.hid hD4
    clear hlin hs4 hD4
    clear hK4
    go_wp2_with fail
    refine (linear_is w4 b w.heap.size n HD4.out hn1 hn4).mono ?_
    rintro e w5 ⟨B, d, B', m2, d', r, rfl, hlinr, hr4, hD5, hK5⟩
    have hz5 := hK5.size
    have hal : Keeps [] w5 ((w5.alloc (.cells #[.slice A n c, .slice A' m c'] 29)).alloc (.cells #[.slice B n d, .slice B' m2 d'] 29)) := ((Keeps.refl _ _).alloc _).alloc _
    have hbs := (BoxAt.start w5 (.slice A n c) (.slice A' m c') 29).new ((Keeps.refl _ _).alloc (.cells #[.slice B n d, .slice B' m2 d'] 29))
    have hbr : BoxAt ((w5.alloc (.cells #[.slice A n c, .slice A' m c'] 29)).alloc (.cells #[.slice B n d, .slice B' m2 d'] 29)) (w5.heap.size + 1) (.slice B n d) (.slice B' m2 d') := by
      have := BoxAt.start (w5.alloc (.cells #[.slice A n c, .slice A' m c'] 29)) (.slice B n d) (.slice B' m2 d') 29
      simpa using this
    have hlins := (HLIN.out.keeps hK5).new hal
    have hlinr := hlinr.new hal
    have hD5 := hD5.keeps hal (by simp) (by simp)
    have HK5 := Lib.hid ((HK4.out.trans hK5).trans (hal.nil [b]))
    have HLINS := Lib.hid hlins
    have HLINR := Lib.hid hlinr
    have HR4 := Lib.hid hr4
    have HD5 := Lib.hid hD5
    have HBS := Lib.hid hbs
    have HBR := Lib.hid hbr
    clear hlins hlinr hr4 hD5 hbs hbr
    clear hK5 hal
    go_wp2_with fail
    refine (small_any _ b w.heap.size n 9 HD5.out (by omega) (by omega)).mono ?_
    rintro e w6 ⟨Z, cz, zs, rfl, hzl, hzr, hown, hD6, hK6⟩
    have hz6 := hK6.size
    simp only [World.size_alloc] at hz6
    have hown := isN_own (l := [b]) (xs := zs) (v := .slice Z n cz) rfl (by rw [hzl]; exact hown)
    have hv : IsI w6 [b] (.slice Z n cz) zs := hown.isL (by simp; omega)
    have hvo : VecOk n 64 zs := ⟨hzl, fun x hx => by have := hzr x hx; omega⟩
    have hls6 := HLINS.out.keeps hK6
    have hlr6 := HLINR.out.keeps hK6
    have hbs6 := HBS.out.keeps hK6 (by simp; omega)
    have hbr6 := HBR.out.keeps hK6 (by simp; omega)
    have hc0 := hbs6.c0
    have hc1 := hbs6.c1
    have hd0 := hbr6.c0
    have hd1 := hbr6.c1
    have hal : Keeps [] w6 (w6.alloc (.cells #[.slice A n c, .slice A' m c', .slice B n d, .slice B' m2 d'] 29)) := (Keeps.refl _ _).alloc _
    have htwo := IsLins.two (l := [b]) (t := 29) (by simp; omega) hls6 hlr6
    have hv7 := hv.new hal
    have hls7 := hls6.new hal
    have hbs7 := hbs6.new hal
    have hD7 := hD6.keeps hal (by simp) (by simp)
    have HK7 := Lib.hid ((HK5.out.trans hK6).trans (hal.nil [b]))
    have HTWO := Lib.hid htwo
    have HV7 := Lib.hid hv7
    have HLS7 := Lib.hid hls7
    have HBS7 := Lib.hid hbs7
    have HD7 := Lib.hid hD7
    have HVO := Lib.hid hvo
    have HZL := Lib.hid hzl
    clear htwo hv7 hls7 hbs7 hD7 hvo hzl
    clear hK6 hal hown hv hls6 hlr6 hbs6 hbr6 hD6 hzr
    go_upto_region 8 with fail
    generalize hw7 : w6.alloc (.cells #[.slice A n c, .slice A' m c', .slice B n d, .slice B' m2 d'] 29) = w7 at *
    have hz7 : w6.heap.size + 1 = w7.heap.size := by rw [← hw7]; simp
    clear hw7
    generalize w6.heap.size = g8 at *
    have hsS := HS4.out.small hn4
    have hsR := HR4.out.small hn4
    have hgS := HS4.out.all hn1 hn4
    have hgR := HR4.out.all hn1 hn4
    have hg2 : GoodAll (n : Int) [s, r] := ⟨hgS.lo, hgS.hi, by simp, fun x hx => by
      simp at hx
      rcases hx with e | e <;> rw [e]
      · exact hgS.all s (by simp)
      · exact hgR.all r (by simp)⟩
    have hss2 : ∀ x ∈ [s, r], x.Small := fun x hx => by
      simp at hx
      rcases hx with e | e <;> rw [e] <;> assumption
    have eg := enters_of Try.func18 (by kernel_rfl) rfl
    have hbl : ∀ y ∈ [b], y < w7.heap.size := by simp; omega
    have htwo8 : IsLins w7.drew [b] (.slice (some ⟨g8, 0, none⟩) 2 2) [s, r] := HTWO.out.new (Keeps.refl _ _).drew
    have hv8 : IsI w7.drew [b] (.slice Z n cz) zs := HV7.out.new (Keeps.refl _ _).drew
    have hzn : zs.length ≤ 1000000 := by rw [HZL.out]; omega
    have hfst := two_first htwo8
    have hsnd := two_second htwo8
    have HSS := Lib.hid hsS
    have HSR := Lib.hid hsR
    have HGS := Lib.hid hgS
    have HGR := Lib.hid hgR
    have HG2 := Lib.hid hg2
    have HSS2 := Lib.hid hss2
    have HBL := Lib.hid hbl
    have HTWO8 := Lib.hid htwo8
    have HV8 := Lib.hid hv8
    have HFST := Lib.hid hfst
    have HSND := Lib.hid hsnd
    have HZN := Lib.hid hzn
    clear hsS hsR hgS hgR hg2 hss2 hbl htwo8 hv8 hfst hsnd hzn
    go_cut [53] (fun s53 wx => s53 = .bool false ∧ Keeps [] w7 wx)
    case first =>
      cases hbs : hasB s zs with
      | true =>
        have hin := hasB_true.1 hbs
        have h1 : true = true ↔ GoodAll (n : Int) [s, r] ∧ ∃ x ∈ [s, r], HasIn x zs := ⟨fun _ => ⟨HG2.out, s, by simp, hin⟩, fun _ => rfl⟩
        have h2 : true = true ↔ GoodAll (n : Int) [s] ∧ ∃ x ∈ [s], HasIn x zs := ⟨fun _ => ⟨HGS.out, s, by simp, hin⟩, fun _ => rfl⟩
        have H1 := Lib.hid h1
        have H2 := Lib.hid h2
        clear h1 h2
        clear hbs hin
        first | go_region_law (first
          | (have _t := hkA; refine step_callw 18 #[.tmp 41, .tmp 43, .tmp 44] #[3, 39, 22] rfl eg (has_val (l := [b]) (fun y hy => Nat.lt_of_lt_of_le (HBL.out y hy) hkA.size) (HFST.out.new hkA) (fun x hx => HSS2.out x (by simp at hx; simp [hx])) (by simp) (HV8.out.new hkA) HZN.out H2.out) (by first | rfl | (simp [Region.wanted, yielded]; done) | simp [Region.wanted, yielded, Act.put]) (by first | (simp [Act.eval]; done) | (simp only [Act.eval, Act.put]; simp; done) | simp [Act.eval, Act.put]) ?_; rintro e wB ⟨rfl, hkB0⟩; refine ⟨_, rfl, ?_⟩; have hkB := hkA.trans hkB0; clear hkA)
          | (refine step_callw 18 #[.tmp 37, .tmp 38, .tmp 39] #[3, 39, 22] rfl eg (has_val (l := [b]) HBL.out HTWO8.out HSS2.out (by simp) HV8.out HZN.out H1.out) (by first | rfl | (simp [Region.wanted, yielded]; done) | simp [Region.wanted, yielded, Act.put]) (by first | (simp [Act.eval]; done) | (simp only [Act.eval, Act.put]; simp; done) | simp [Act.eval, Act.put]) ?_; rintro e wA ⟨rfl, hkA⟩; refine ⟨_, rfl, ?_⟩)) | fail
        all_goals (go_wp2_with fail; go_meet; exact ⟨rfl, (Keeps.refl [] w7).drew.trans hkB⟩)
      | false =>
        have hno : ¬ HasIn s zs := fun h => by rw [hasB_true.2 h] at hbs; cases hbs
        have h1 : hasB r zs = true ↔ GoodAll (n : Int) [s, r] ∧ ∃ x ∈ [s, r], HasIn x zs := by
          rw [hasB_true]
          refine ⟨fun h => ⟨HG2.out, r, by simp, h⟩, ?_⟩
          rintro ⟨_, x, hx, h⟩
          simp at hx
          rcases hx with e | e
          · rw [e] at h; exact absurd h hno
          · rw [e] at h; exact h
        have h2 : false = true ↔ GoodAll (n : Int) [s] ∧ ∃ x ∈ [s], HasIn x zs := by
          refine ⟨(fun h => by cases h), ?_⟩
          rintro ⟨_, x, hx, h⟩
          rw [List.mem_singleton.1 hx] at h
          exact absurd h hno
        have h3 : hasB r zs = true ↔ GoodAll (n : Int) [r] ∧ ∃ x ∈ [r], HasIn x zs := by
          rw [hasB_true]
          refine ⟨fun h => ⟨HGR.out, r, by simp, h⟩, ?_⟩
          rintro ⟨_, x, hx, h⟩
          rw [List.mem_singleton.1 hx] at h; exact h
        generalize hasB r zs = q at *
        have H1 := Lib.hid h1
        have H2 := Lib.hid h2
        have H3 := Lib.hid h3
        clear h1 h2 h3
        clear hbs hno
        first | go_region_law (first
          | (have _t := hkB; refine step_callw 18 #[.tmp 47, .tmp 49, .tmp 50] #[3, 39, 22] rfl eg (has_val (l := [b]) (fun y hy => Nat.lt_of_lt_of_le (HBL.out y hy) hkB.size) (HSND.out.new hkB) (fun x hx => HSS2.out x (by simp at hx; simp [hx])) (by simp) (HV8.out.new hkB) HZN.out H3.out) (by first | rfl | (simp [Region.wanted, yielded]; done) | simp [Region.wanted, yielded, Act.put]) (by first | (simp [Act.eval]; done) | (simp only [Act.eval, Act.put]; simp; done) | simp [Act.eval, Act.put]) ?_; rintro e wC ⟨rfl, hkC0⟩; refine ⟨_, rfl, ?_⟩; have hkC := hkB.trans hkC0; clear hkB)
          | (have _t := hkA; refine step_callw 18 #[.tmp 41, .tmp 43, .tmp 44] #[3, 39, 22] rfl eg (has_val (l := [b]) (fun y hy => Nat.lt_of_lt_of_le (HBL.out y hy) hkA.size) (HFST.out.new hkA) (fun x hx => HSS2.out x (by simp at hx; simp [hx])) (by simp) (HV8.out.new hkA) HZN.out H2.out) (by first | rfl | (simp [Region.wanted, yielded]; done) | simp [Region.wanted, yielded, Act.put]) (by first | (simp [Act.eval]; done) | (simp only [Act.eval, Act.put]; simp; done) | simp [Act.eval, Act.put]) ?_; rintro e wB ⟨rfl, hkB0⟩; refine ⟨_, rfl, ?_⟩; have hkB := hkA.trans hkB0; clear hkA)
          | (refine step_callw 18 #[.tmp 37, .tmp 38, .tmp 39] #[3, 39, 22] rfl eg (has_val (l := [b]) HBL.out HTWO8.out HSS2.out (by simp) HV8.out HZN.out H1.out) (by first | rfl | (simp [Region.wanted, yielded]; done) | simp [Region.wanted, yielded, Act.put]) (by first | (simp [Act.eval]; done) | (simp only [Act.eval, Act.put]; simp; done) | simp [Act.eval, Act.put]) ?_; rintro e wA ⟨rfl, hkA⟩; refine ⟨_, rfl, ?_⟩)) | fail
        all_goals (go_wp2_with fail; go_meet; exact ⟨by simp, (Keeps.refl [] w7).drew.trans hkC⟩)
    case rest =>
      obtain ⟨rfl, hkc⟩ := hcut
      obtain ⟨wa, hwa⟩ : ∃ wa : World, wa = wc := ⟨_, rfl⟩
      subst hwa
      have hls8 := HLS7.out.new hkc
      have hbs8 := HBS7.out.new hkc
      have htwo9 := HTWO.out.new hkc
      have hD8 := HD7.out.keeps hkc (by simp) (by simp)
      have hK8 := HK7.out.trans (hkc.nil [b])
      have hzc := hkc.size
      have hms := isL_len HLS7.out.2
      have hc0 := hbs8.c0
      have hc1 := hbs8.c1
      have hm3 : m ≤ 3 := by rw [hms]; exact HS4.out.good.few
      have hsl := HS4.out.good.base.len
      have HLS8 := Lib.hid hls8
      have HBS8 := Lib.hid hbs8
      have HTWO9 := Lib.hid htwo9
      have HD8 := Lib.hid hD8
      have HK8 := Lib.hid hK8
      have HMS := Lib.hid hms
      have HSL := Lib.hid hsl
      clear hls8 hbs8 htwo9 hD8 hK8 hms hsl
      clear hkc
      by_cases hm0 : m = 0
      · have ht0 : ((m : Int) == 0) = true := by rw [hm0]; rfl
        have hper : s.per = [] := List.eq_nil_of_length_eq_zero (by rw [← HMS.out]; exact hm0)
        have hin := base_in HS4.out (HS4.out.n hn1 hn4) hper
        have hcall := has_val (l := [b]) (n := (n : Int)) (v := s.base) (r := true) (by simp; omega) HTWO9.out HSS2.out (by simp) HLS8.out.1 (by rw [HSL.out]; omega) ⟨fun _ => ⟨HG2.out, s, by simp, hin⟩, fun _ => rfl⟩
        have HM0 := Lib.hid hm0
        have HCALL := Lib.hid hcall
        clear hcall
        clear hm0 hper hin
        go_wp2_with fail
        refine HCALL.out.mono ?_
        rintro e w9 ⟨rfl, hk9⟩
        have HK9 := Lib.hid (HK8.out.trans (hk9.nil [b]))
        clear hk9
        go_wp2_with fail
        go_ret
        exact ⟨rfl, HB2.out.trans (HK9.out.below (by simp; omega) (by omega))⟩
      · have ht0 : ((m : Int) == 0) = false := by simp; omega
        have hper := HLS8.out.2
        obtain ⟨Ap, cp, V, ep, g2, g3, g4, g5⟩ := hper
        injection ep with ep1 ep2 ep3
        subst ep1; subst ep3
        rw [← HMS.out] at g4 g5
        obtain ⟨a, ea, hab, hcells⟩ := g4 (by omega)
        subst ea
        have egs := enters_of Try.func13 (by kernel_rfl) rfl
        have egm := enters_of Try.func14 (by kernel_rfl) rfl
        have egn := enters_of Try.func12 (by kernel_rfl) rfl
        have hD9 : Deck wa.drew b w.heap.size := HD8.out.keeps (Keeps.refl [] _).drew (by simp) (by simp)
        have HCELLS := Lib.hid hcells
        have G5 := Lib.hid g5
        have HD9 := Lib.hid hD9
        have HAB := Lib.hid hab
        clear hcells g5 hD9 hab
        clear g3 g4 ep2
        go_upto_region 12 with fail
        go_cut [9] (fun s9 wx => ∃ (g cg : Nat) (t : List Int), s9 = .slice (some ⟨g, 0, none⟩) n cg ∧ n ≤ cg ∧ wa.heap.size ≤ g ∧ Own wx g n (fun i => .int .i64 (accV s.base s.per t t.length i)) ∧ t.length = m ∧ (∀ x ∈ t, 0 ≤ x ∧ x ≤ 1) ∧ Deck wx b w.heap.size ∧ Keeps [b] wa wx)
        case first =>
          first | go_region_law (first
            | (have _t := hkS; refine step_callw 14 #[.tmp 63, .tmp 68] #[29, 22] rfl egm (made_is (l := [b]) hlsS (by rw [HSL.out]; exact HS4.out.good.base) (by rw [HSL.out]; exact HS4.out.good.per) (by rw [HSL.out]; omega) (by rw [← HMS.out]; omega) htS (by rw [hlS]; exact Nat.le_of_eq HMS.out) (fun x hx => by have := hrS x hx; omega) (by rw [HSL.out]; exact hn1)) (by first | rfl | (simp [Region.wanted, yielded]; done) | simp [Region.wanted, yielded, Act.put]) (by first | (simp [Act.eval]; done) | (simp only [Act.eval, Act.put]; simp; done) | simp [Act.eval, Act.put]) ?_; rintro e wM ⟨gM, cM, he, hM1, hM2, hM3, hM4, hM5⟩; refine ⟨_, he, ?_⟩)
            | (refine step_callw 13 #[.tmp 64, .tmp 67, .const (.int .i64 1)] #[25, 3, 3] rfl egs (small_any wa.drew b w.heap.size m 1 HD9.out (by omega) (by omega)) (by first | rfl | (simp [Region.wanted, yielded]; done) | simp [Region.wanted, yielded, Act.put]) (by first | (simp [Act.eval]; done) | (simp only [Act.eval, Act.put]; simp; done) | simp [Act.eval, Act.put]) ?_; rintro e wS ⟨ZS, cS, tS, rfl, hlS, hrS, hownS, hDS, hkS⟩; refine ⟨_, rfl, ?_⟩; have hzS : wa.heap.size ≤ wS.heap.size := hkS.size; have htS : IsI wS [b] (.slice ZS m cS) tS := (isN_own (l := [b]) (xs := tS) (v := .slice ZS m cS) rfl (by rw [hlS]; exact hownS)).isL (by simp; omega); have hlsS := (HLS8.out.new (Keeps.refl [] wa).drew).keeps hkS; have hbsS := (HBS8.out.new (Keeps.refl [] wa).drew).keeps hkS (by simp; omega); have hcS0 := hbsS.c0; have hcS1 := hbsS.c1)) | fail
          all_goals (go_wp2_with fail; go_meet; exact ⟨gM, cM, tS, by rw [HSL.out], by rw [← HSL.out]; exact hM1, by have := hM2; omega, by rw [HSL.out] at hM4; exact hM4, hlS, fun x hx => by have := hrS x hx; omega, hDS.keeps hM5 (by simp) (by simp), ((Keeps.refl [b] wa).drew.trans hkS).trans (hM5.nil [b])⟩)
        case rest =>
          obtain ⟨g, cg, t, rfl, hcg, hg, hO, htl, htr, hD10, hk10⟩ := hcut
          have hls10 := HLS8.out.keeps hk10
          have hbs10 := HBS8.out.keeps hk10 (by simp; omega)
          have htwo10 := (HTWO9.out.weak (l' := [g, b]) (by simp; omega)).keeps (hk10.more (by simp))
          have hg5 : ∀ i, i < m → IsI wa [g, b] (V i) (s.per.getD i []) := fun i hi => (G5.out i hi).weak (by simp; omega)
          have hc0 := hbs10.c0
          have hc1 := hbs10.c1
          have hz10 := hk10.size
          have hK10 := HK8.out.trans hk10
          have hD11 : Deck wc.drew b w.heap.size := hD10.keeps (Keeps.refl [] wc).drew (by simp) (by simp)
          obtain ⟨wd, hwd⟩ : ∃ wd : World, wd = wc := ⟨_, rfl⟩
          subst hwd
          have HK101 := Lib.hid hk10
          have HLS10 := Lib.hid hls10
          have HBS10 := Lib.hid hbs10
          have HTWO10 := Lib.hid htwo10
          have HK10 := Lib.hid hK10
          have HO := Lib.hid hO
          have HD11 := Lib.hid hD11
          have HTL := Lib.hid htl
          have HTR := Lib.hid htr
          have HG5 := Lib.hid hg5
          clear hls10 hbs10 htwo10 hK10 hO hD11 htl htr hg5
          clear hD10 hk10
          go_upto_region 13 with fail
          go_cut [10] (fun s10 wx => ∃ (k : Nat) (A1 : Option Addr) (c1 : Nat), s10 = .slice A1 n c1 ∧ k < m ∧ IsI wx [g, b] (.slice A1 n c1) (s.per.getD k []) ∧ Keeps [b] wd wx)
          case first =>
            first | go_region_law (first
              | (refine step_callw 12 #[.tmp 72, .tmp 75] #[25, 3] rfl egn (next_any wd.drew b w.heap.size (m : Int) HD11.out (by omega)) (by first | rfl | (simp [Region.wanted, yielded]; done) | simp [Region.wanted, yielded, Act.put]) (by first | (simp [Act.eval]; done) | (simp only [Act.eval, Act.put]; simp; done) | simp [Act.eval, Act.put]) ?_; rintro e wN ⟨x, rfl, hx0, hx1, hDN, hkN⟩; refine ⟨_, rfl, ?_⟩; have hxm : x < m := (by have := hx1 (by omega); omega); have hbsN := (HBS10.out.new (Keeps.refl [] wd).drew).keeps hkN (by simp; omega); have hcN0 := hbsN.c0; have hcN1 := hbsN.c1; have hKN := (HK101.out.trans (Keeps.refl [b] wd).drew).trans hkN; have hcx := hKN.read (HCELLS.out x hxm) (by rw [block_of_add]; exact HAB.out); have hIx := (HG5.out x hxm).keeps (hKN.more (by simp)))) | fail
            all_goals
              have hpl := (HS4.out.good.per _ (getD_mem (d := []) (show x < s.per.length by rw [← HMS.out]; exact hxm))).len
              obtain ⟨A1, c1, hVx, _⟩ := hIx.open
              rw [hpl] at hVx
              rw [hVx] at hIx hcx
              go_wp2_with fail
              go_meet
              exact ⟨x, A1, c1, hVx, hxm, hIx, (Keeps.refl [b] wd).drew.trans hkN⟩
          case rest =>
            obtain ⟨k, A1, c1, rfl, hkm, hI1, hk11⟩ := hcut
            obtain ⟨we, hwe⟩ : ∃ we : World, we = wc := ⟨_, rfl⟩
            subst hwe
            have hO1 := HO.out.keep hk11 (by simp; omega)
            have htwo1 := HTWO10.out.keeps (hk11.more (by simp))
            have hK12 := HK10.out.trans hk11
            have hz11 := hk11.size
            have hgn := HS4.out.n hn1 hn4
            have hper := HS4.out.good.per _ (getD_mem (d := []) (show k < s.per.length by rw [← HMS.out]; exact hkm))
            obtain ⟨_, _, er, _, _, hrp⟩ := hI1.open
            injection er with er1 er2 er3
            subst er1; subst er3
            rw [hper.len] at hrp
            have hacc : ∀ i, i < n → 0 ≤ accV s.base s.per t t.length i ∧ accV s.base s.per t t.length i ≤ 1000000000 := fun i hi => by
              have := accV_rng HS4.out.good.base HS4.out.good.per (fun x hx => by have := HTR.out x hx; omega) hi t.length (by rw [HTL.out, HMS.out]; exact Nat.le_refl _) (Nat.le_refl _)
              rw [HTL.out] at this ⊢
              omega
            have HO1 := Lib.hid hO1
            have HTWO1 := Lib.hid htwo1
            have HK12 := Lib.hid hK12
            have HGN := Lib.hid hgn
            have HPER := Lib.hid hper
            have HRP := Lib.hid hrp
            have HACC := Lib.hid hacc
            clear hO1 htwo1 hK12 hgn hper hrp hacc
            clear hI1 hk11 er2
            go_wp2_with fail
            go_loopg [81] (n + 1) (fun gh iv wr => ∃ i : Nat, n + 1 ≤ i + gh ∧ i ≤ n ∧ iv = .int .i64 (i : Int) ∧ Own wr g n (fun q => .int .i64 (if q < i then accV s.base s.per t t.length q + (s.per.getD k []).getD q 0 else accV s.base s.per t t.length q)) ∧ Keeps [g] we wr)
            case atStart => exact ⟨0, by omega, by omega, rfl, HO1.out.congr fun q hq => by simp, Keeps.refl _ _⟩
            case round =>
              obtain ⟨i, hgh, hi, rfl, hOi, hki⟩ := hrel
              have HOI := Lib.hid hOi
              have HKI := Lib.hid hki
              clear hOi hki
              by_cases hlt : i < n
              · obtain ⟨aa, rfl, haa⟩ := (HRP.out.keeps (HKI.out.more (l' := [g, b]) (by simp))).at_ hlt
                have ho1 : wr.cell? ⟨g, i, none⟩ = some (.int .i64 (accV s.base s.per t t.length i)) := by have := (HOI.out i hlt).1; simpa using this
                have ho2 : wr.frozen? ⟨g, i, none⟩ = false := (HOI.out i hlt).2
                have hr1 := HACC.out i hlt
                have hr2 := getD_rng HPER.out.rng (i := i) (by rw [HPER.out.len]; exact hlt)
                generalize hxe : accV s.base s.per t t.length i = x at *
                generalize hye : (s.per.getD k []).getD i 0 = y at *
                have hw2 : IntKind.i64.wrap (x + y) = x + y := IntWalk.i64_in _ (by omega)
                have HXE := Lib.hid hxe
                have HYE := Lib.hid hye
                clear hxe hye
                go_wp2_with fail
                go_still_tail 10, (by kernel_rfl)
                change wpList _ _ _ _ _ wr.drew
                go_wp2_with fail
                go_roundg (n - i)
                case measure => omega
                case rel =>
                  refine ⟨i + 1, by omega, by omega, by go_num, ?_, HKI.out.drew.setCell (by simp) _⟩
                  refine ((HOI.out.drew).updInt hlt (x + y)).congr fun q hq => ?_
                  show Value.int .i64 _ = Value.int .i64 _
                  congr 1
                  by_cases e : q = i
                  · subst e; rw [upd_same, if_pos (by omega), HXE.out, HYE.out]
                  · rw [upd_ne _ _ e]
                    by_cases e2 : q < i
                    · rw [if_pos e2, if_pos (by omega)]
                    · rw [if_neg e2, if_neg (by omega)]
              · obtain rfl : i = n := by omega
                have hv : IsI wr [b] (.slice (some ⟨g, 0, none⟩) i cg) ((List.range i).map fun q => accV s.base s.per t t.length q + (s.per.getD k []).getD q 0) := HOI.out.isI (by simp; omega) hcg (by simp) (fun q hq => by rw [if_pos hq]; simp [List.getD_eq_getElem?_getD, hq])
                have hin : HasIn s ((List.range i).map fun q => accV s.base s.per t t.length q + (s.per.getD k []).getD q 0) := bump_in HS4.out HGN.out (by rw [HTL.out, HMS.out]) HTR.out (by rw [← HMS.out]; exact hkm) (by simp) (fun q hq => by simp [List.getD_eq_getElem?_getD, hq])
                have hlw : ((List.range i).map fun q => accV s.base s.per t t.length q + (s.per.getD k []).getD q 0).length ≤ 1000000 := by simp; omega
                have hfst := (two_first (HTWO1.out.keeps (HKI.out.more (by simp)))).weak (l' := [b]) (fun y hy => .inl (by simp at hy; simp [hy]))
                have hzi := HKI.out.size
                have hcall := has_val (l := [b]) (n := (i : Int)) (r := true) (by simp; omega) hfst (fun x hx => HSS2.out x (by simp at hx; simp [hx])) (by simp) hv hlw ⟨fun _ => ⟨HGS.out, s, by simp, hin⟩, fun _ => rfl⟩
                have hK13 := HK12.out.step HKI.out (by simp; omega)
                have HCALL := Lib.hid hcall
                have HK13 := Lib.hid hK13
                clear hcall hK13
                clear hv hin hlw hfst
                go_wp2_with fail
                refine HCALL.out.mono ?_
                rintro e w9 ⟨rfl, hk9⟩
                have HK14 := Lib.hid (HK13.out.trans (hk9.nil [b]))
                clear hk9
                go_wp2_with fail
                go_ret
                exact ⟨rfl, HB2.out.trans (HK14.out.below (by simp; omega) (by omega))⟩
  · have hd : decide ((len : Int) ≤ 400) = false := by simp; omega
    go_enter Try.func5, Try.ntmps5
    go_wp2_with fail
    refine (awake_any w).mono ?_
    rintro e w1 ⟨rfl, hb1⟩
    go_wp2_with fail
    refine (few_any w1 A0 len cap).mono ?_
    rintro e w' ⟨rfl, rfl⟩
    rw [hd]
    go_wp2_with fail
    refine (awake_any w1).mono ?_
    rintro e w2 ⟨rfl, hb2⟩
    go_wp2_with fail
    go_ret
    exact ⟨rfl, hb1.trans (hb2.mono hb1.size)⟩
end Go.Proofs.Ytdhadnnakcdfiaa
