/- The walk of coverabilitylaw02.WordExact. (Under way.) -/
import Derived.Test.YtfhommegkogahaaAwake
import Derived.Test.YtfhommegkogahaaRMerged
import Derived.Test.YtfhommegkogahaaRProvesW
import Derived.Test.YtfhommegkogahaaRSameAll
import Derived.Test.YtfhommegkogahaaEmbedP
import Derived.Test.YtfhommegkogahaaPairs
import Derived.Deep.QuietTactic

namespace Go.Proofs.Ytfhommegkogahaa
set_option linter.unusedVariables false
open Go.RowKit
theorem emb_read {a b : List Int} {l : List Nat} {w w' : World} {e : Ending} (hl : ∀ y ∈ l, y < w.heap.size) (h : EmbPost (embW a b) l w e w') : ∃ (A : Option Addr) (n c : Nat) (q : List Int), n = q.length ∧ e = .returned (.tuple #[.slice A n c, .bool (embW a b).isSome]) ∧ IsI w' l (.slice A n c) q ∧ q = (embW a b).getD [] ∧ Keeps [] w w' := by
  obtain ⟨hk, ⟨ho, rfl⟩ | ⟨A, c, q, ho, rfl, hO⟩⟩ := h
  · exact ⟨none, 0, 0, [], rfl, by rw [ho]; rfl, IsI.nil, by rw [ho]; rfl, hk⟩
  · exact ⟨A, q.length, c, q, rfl, by rw [ho]; rfl, hO.isL hl, by rw [ho]; rfl, hk⟩
theorem emb_short {a b : List Int} : ((embW a b).getD []).length ≤ a.length := by
  cases ho : embW a b with
  | none => simp
  | some q =>
    by_cases hv : WValid a ∧ WValid b
    · rw [embW_yes hv.1 hv.2] at ho
      have := embF_len ho
      show q.length ≤ a.length
      omega
    · rw [embW_no hv] at ho; cases ho
def MgIn (a b x : List Int) : Prop := WValid a ∧ WValid b ∧ a.length + b.length ≤ 8 ∧ IsMerge a b x
open Classical in
noncomputable def mgE (a b : List Int) : Int := if WValid a ∧ WValid b then (if a.length + b.length ≤ 8 then 0 else 1) else 8
def MgRead (l : List Nat) (a b : List Int) (w : World) (e : Ending) (w' : World) : Prop := ∃ (A : Option Addr) (n c : Nat) (ys : List (List Int)), n = ys.length ∧ e = .returned (.tuple #[.slice A n c, .int .i64 (mgE a b)]) ∧ Asc ys ∧ (∀ x, x ∈ ys ↔ MgIn a b x) ∧ IsII w' l (.slice A n c) ys ∧ Keeps [] w w'
theorem mg_none {a b : List Int} (h : ¬ (WValid a ∧ WValid b ∧ a.length + b.length ≤ 8)) (x : List Int) : x ∈ ([] : List (List Int)) ↔ MgIn a b x := ⟨fun h => (by cases h), fun h2 => absurd ⟨h2.1, h2.2.1, h2.2.2.1⟩ h⟩
theorem mg_read {a b : List Int} {l : List Nat} {w w' : World} {e : Ending} (hl : ∀ y ∈ l, y < w.heap.size) (h : MergePost l a b w e w') : MgRead l a b w e w' := by
  obtain ⟨hk, ⟨hno, rfl⟩ | ⟨h1, h2, hno, rfl⟩ | ⟨A, n, c, ys, h1, h2, h3, hn, rfl, hasc, hm, hO⟩⟩ := h
  · exact ⟨none, 0, 0, [], rfl, by unfold mgE; rw [if_neg hno], List.Pairwise.nil, mg_none fun h => hno ⟨h.1, h.2.1⟩, IsII.nil, hk⟩
  · exact ⟨none, 0, 0, [], rfl, by unfold mgE; rw [if_pos ⟨h1, h2⟩, if_neg hno], List.Pairwise.nil, mg_none fun h => hno h.2.2, IsII.nil, hk⟩
  · exact ⟨A, n, c, ys, hn, by unfold mgE; rw [if_pos ⟨h1, h2⟩, if_pos h3], hasc, fun x => (hm x).trans ⟨fun h => ⟨h1, h2, h3, h⟩, fun h => h.2.2.2⟩, hO.isL hl, hk⟩
theorem rmg_read {a b : List Int} {l : List Nat} {w w' : World} {e : Ending} (h : RMergePost l a b w e w') : MgRead l a b w e w' := by
  obtain ⟨hk, ⟨hno, rfl⟩ | ⟨h1, h2, hno, rfl⟩ | ⟨A, n, c, ys, h1, h2, h3, hn, rfl, hasc, hm, hI⟩⟩ := h
  · exact ⟨none, 0, 0, [], rfl, by unfold mgE; rw [if_neg hno], List.Pairwise.nil, mg_none fun h => hno ⟨h.1, h.2.1⟩, IsII.nil, hk⟩
  · exact ⟨none, 0, 0, [], rfl, by unfold mgE; rw [if_pos ⟨h1, h2⟩, if_neg hno], List.Pairwise.nil, mg_none fun h => hno h.2.2, IsII.nil, hk⟩
  · exact ⟨A, n, c, ys, hn, by unfold mgE; rw [if_pos ⟨h1, h2⟩, if_pos h3], hasc, fun x => (hm x).trans ⟨fun h => ⟨h1, h2, h3, h⟩, fun h => h.2.2.2⟩, hI, hk⟩
theorem mg_small {a b : List Int} {ys : List (List Int)} (ha : Asc ys) (hm : ∀ x, x ∈ ys ↔ MgIn a b x) : ys.length ≤ 1000000 ∧ ∀ x ∈ ys, x.length ≤ 1000000 := by
  by_cases h : ys = []
  · rw [h]; simp
  · obtain ⟨x, hx⟩ := List.exists_mem_of_ne_nil _ h
    have h8 := ((hm x).1 hx).2.2.1
    have h1 := asc_len ha (L := mrgL a b) fun z hz => ((hm z).1 hz).2.2.2.1
    have h2 := mrgL_256 h8
    exact ⟨by omega, fun z hz => by have := mrgL_mem _ a b (Nat.le_refl _) z ((hm z).1 hz).2.2.2.1; omega⟩
theorem drop_small {a : List Int} {ys : List (List Int)} (hn : a.length ≤ 1000) (ha : Asc ys) (hm : ∀ x, x ∈ ys ↔ IsDrop a x) : ys.length ≤ 1000000 ∧ ∀ x ∈ ys, x.length ≤ 1000000 := by
  have h1 := asc_len ha (L := dropsL a a.length) fun z hz => by
    obtain ⟨_, i, hi, rfl⟩ := (hm z).1 hz
    exact List.mem_map.2 ⟨i, List.mem_range.2 hi, rfl⟩
  rw [dropsL_len] at h1
  refine ⟨by omega, fun z hz => ?_⟩
  obtain ⟨_, i, hi, rfl⟩ := (hm z).1 hz
  rw [dropL_len hi]; omega
set_option maxRecDepth 100000 in
set_option maxHeartbeats 8000000 in
theorem wexact_law (w : World) (len cap n1 c1 n2 c2 n3 c3 : Nat) (A0 A1 A2 A3 : Option Addr) (l : Nat → Int) (a v p : List Int) (hR : Rd w w.heap.size A0 len (fun i => .int .i64 (l i)))
    (ha : IsI w [] (.slice A1 n1 c1) a) (hv : IsI w [] (.slice A2 n2 c2) v) (hp : IsI w [] (.slice A3 n3 c3) p) (hn1 : n1 = a.length) (hn2 : n2 = v.length) (hn3 : n3 = p.length) :
    Calls Try.prog 5 #[.slice A0 len cap, .slice A1 n1 c1, .slice A2 n2 c2, .slice A3 n3 c3] w fun e w' => e = .returned (.bool true) ∧ Below w.heap.size w w' := by
  have HA := Lib.hid ha
  have HV := Lib.hid hv
  have HP := Lib.hid hp
  have HN1 := Lib.hid hn1
  have HN2 := Lib.hid hn2
  have HN3 := Lib.hid hn3
  clear ha hv hp hn1 hn2 hn3
  have HR := Lib.hid hR
  clear hR
  by_cases hlen : len ≤ 400
  · have hd : decide ((len : Int) ≤ 400) = true := by simp; omega
    by_cases h1 : n1 ≤ 40
    · have d1 : decide ((40 : Int) < (n1 : Int)) = false := decide_eq_false (by omega)
      have e1 : decide (40 < n1) = false := decide_eq_false (by omega)
      by_cases h2 : n2 ≤ 40
      · have d2 : decide ((40 : Int) < (n2 : Int)) = false := decide_eq_false (by omega)
        have e2 : decide (40 < n2) = false := decide_eq_false (by omega)
        by_cases h3 : n3 ≤ 40
        · have d3 : decide ((40 : Int) < (n3 : Int)) = false := decide_eq_false (by omega)
          have e3 : decide (40 < n3) = false := decide_eq_false (by omega)
          go_enter Try.func5, Try.ntmps5
          go_wp2_with fail
          refine (awake_any w).mono ?_
          rintro e w1 ⟨rfl, hb1⟩
          have hz1 := hb1.size
          go_wp2_with fail
          refine (few_any w1 A0 len cap).mono ?_
          rintro e w' ⟨rfl, rfl⟩
          rw [hd]
          go_wp2_with fail
          refine (new_any w1 w.heap.size A0 len cap l (HR.out.below hb1) hlen hz1).mono ?_
          rintro e w2 ⟨rfl, hD2, hb2⟩
          have hz2 := hb2.size
          have hbl2 := hD2.lt
          have hB2 := hb1.trans (hb2.mono hz1)
          have HD2 := Lib.hid hD2
          have HB2 := Lib.hid hB2
          clear hD2 hB2
          clear hb1 hb2
          generalize w1.heap.size = b at *
          have hw : ∀ y ∈ [b], y ∈ ([] : List Nat) ∨ w.heap.size ≤ y := fun y hy => by rw [List.mem_singleton.1 hy]; exact .inr (by omega)
          have ha2 : IsI w2 [b] (.slice A1 n1 c1) a := Rok.keeps (Rok.weak HA.out hw) HB2.out.toK
          have hv2 : IsI w2 [b] (.slice A2 n2 c2) v := Rok.keeps (Rok.weak HV.out hw) HB2.out.toK
          have hp2 : IsI w2 [b] (.slice A3 n3 c3) p := Rok.keeps (Rok.weak HP.out hw) HB2.out.toK
          have HA2 := Lib.hid ha2
          have HV2 := Lib.hid hv2
          have HP2 := Lib.hid hp2
          clear ha2 hv2 hp2
          clear hw
          go_wp2_with fail
          refine (word_any w2 b w.heap.size 3 5 HD2.out (by omega) (by omega)).mono ?_
          rintro e w3 ⟨X1, m1, d1, x1, rfl, hm1, hle1, har, hX1, hD1, hK⟩
          have hz1 := hK.size
          haveI kb1 : KB [b] w3 w2 := ⟨hK⟩
          have HX1 := Lib.hid hX1
          have HD1 := Lib.hid hD1
          have HM1 := Lib.hid hm1
          clear hX1 hD1 hm1
          clear hK har
          go_wp2_with fail
          refine (word_any w3 b w.heap.size 3 10 HD1.out (by omega) (by omega)).mono ?_
          rintro e w4 ⟨X2, m2, d2, x2, rfl, hm2, hle2, har, hX2, hD2, hK⟩
          have hz2 := hK.size
          haveI kb2 : KB [b] w4 w3 := ⟨hK⟩
          have HX2 := Lib.hid hX2
          have HD2 := Lib.hid hD2
          have HM2 := Lib.hid hm2
          clear hX2 hD2 hm2
          clear hK har
          go_wp2_with fail
          refine (word_any w4 b w.heap.size 2 4 HD2.out (by omega) (by omega)).mono ?_
          rintro e w5 ⟨X3, m3, d3, x3, rfl, hm3, hle3, har, hX3, hD3, hK⟩
          have hz3 := hK.size
          haveI kb3 : KB [b] w5 w4 := ⟨hK⟩
          have HX3 := Lib.hid hX3
          have HD3 := Lib.hid hD3
          have HM3 := Lib.hid hm3
          clear hX3 hD3 hm3
          clear hK har
          go_wp2_with fail
          refine (word_any w5 b w.heap.size 2 5 HD3.out (by omega) (by omega)).mono ?_
          rintro e w6 ⟨X4, m4, d4, x4, rfl, hm4, hle4, har, hX4, hD4, hK⟩
          have hz4 := hK.size
          haveI kb4 : KB [b] w6 w5 := ⟨hK⟩
          have HX4 := Lib.hid hX4
          have HD4 := Lib.hid hD4
          have HM4 := Lib.hid hm4
          clear hX4 hD4 hm4
          clear hK har
          go_wp2_with fail
          refine (word_any w6 b w.heap.size 2 6 HD4.out (by omega) (by omega)).mono ?_
          rintro e w7 ⟨X5, m5, d5, x5, rfl, hm5, hle5, har, hX5, hD5, hK⟩
          have hz5 := hK.size
          haveI kb5 : KB [b] w7 w6 := ⟨hK⟩
          have HX5 := Lib.hid hX5
          have HD5 := Lib.hid hD5
          have HM5 := Lib.hid hm5
          clear hX5 hD5 hm5
          clear hK har
          go_wp2_with fail
          refine (word_any w7 b w.heap.size 2 6 HD5.out (by omega) (by omega)).mono ?_
          rintro e w8 ⟨X6, m6, d6, x6, rfl, hm6, hle6, har, hX6, hD6, hK⟩
          have hz6 := hK.size
          haveI kb6 : KB [b] w8 w7 := ⟨hK⟩
          have HX6 := Lib.hid hX6
          have HD6 := Lib.hid hD6
          have HM6 := Lib.hid hm6
          clear hX6 hD6 hm6
          clear hK har
          go_wp2_with fail
          have hb8 : b < w8.heap.size := by omega
          have ha8 : IsI w8 [b] (.slice A1 n1 c1) a := IsI.now HA2.out
          have hv8 : IsI w8 [b] (.slice A2 n2 c2) v := IsI.now HV2.out
          have hps : IsPairs (w8.alloc (.cells #[.slice A1 n1 c1, .slice A2 n2 c2, .slice X1 m1 d1, .slice X2 m2 d2, .slice X3 m3 d3, .slice X4 m4 d4, .slice A1 n1 c1, .slice A1 n1 c1, .slice X5 m5 d5, .slice X6 m6 d6] 34)) [b] (.slice (some ⟨w8.heap.size, 0, none⟩) 5 5) [(a, v), (x1, x2), (x3, x4), (a, a), (x5, x6)] := IsPairs.lit (by simp; omega) rfl rfl fun i hi => by
            have hc : i = 0 ∨ i = 1 ∨ i = 2 ∨ i = 3 ∨ i = 4 := by omega
            rcases hc with rfl | rfl | rfl | rfl | rfl
            · exact ⟨ha8, hv8⟩
            · exact ⟨IsI.now HX1.out, IsI.now HX2.out⟩
            · exact ⟨IsI.now HX3.out, IsI.now HX4.out⟩
            · exact ⟨ha8, ha8⟩
            · exact ⟨IsI.now HX5.out, IsI.now HX6.out⟩
          have hp40 : ∀ i, i < 5 → (([(a, v), (x1, x2), (x3, x4), (a, a), (x5, x6)] : List (List Int × List Int)).getD i ([], [])).1.length ≤ 40 ∧ (([(a, v), (x1, x2), (x3, x4), (a, a), (x5, x6)] : List (List Int × List Int)).getD i ([], [])).2.length ≤ 40 := fun i hi => by
            have hc : i = 0 ∨ i = 1 ∨ i = 2 ∨ i = 3 ∨ i = 4 := by omega
            have g1 := HN1.out
            have g2 := HN2.out
            have q1 := HM1.out
            have q2 := HM2.out
            have q3 := HM3.out
            have q4 := HM4.out
            have q5 := HM5.out
            have q6 := HM6.out
            rcases hc with rfl | rfl | rfl | rfl | rfl
            · show a.length ≤ 40 ∧ v.length ≤ 40; omega
            · show x1.length ≤ 40 ∧ x2.length ≤ 40; omega
            · show x3.length ≤ 40 ∧ x4.length ≤ 40; omega
            · show a.length ≤ 40 ∧ a.length ≤ 40; omega
            · show x5.length ≤ 40 ∧ x6.length ≤ 40; omega
          generalize ([(a, v), (x1, x2), (x3, x4), (a, a), (x5, x6)] : List (List Int × List Int)) = ps at *
          have hp8 : IsI w8 [b] (.slice A3 n3 c3) p := IsI.now HP2.out
          have hk8 : Keeps [b] w2 w8 := kf [b] w2 w8
          have hal : Keeps [b] w8 (w8.alloc (.cells #[.slice A1 n1 c1, .slice A2 n2 c2, .slice X1 m1 d1, .slice X2 m2 d2, .slice X3 m3 d3, .slice X4 m4 d4, .slice A1 n1 c1, .slice A1 n1 c1, .slice X5 m5 d5, .slice X6 m6 d6] 34)) := (Keeps.refl _ _).alloc _
          have hpz : IsI (w8.alloc (.cells #[.slice A1 n1 c1, .slice A2 n2 c2, .slice X1 m1 d1, .slice X2 m2 d2, .slice X3 m3 d3, .slice X4 m4 d4, .slice A1 n1 c1, .slice A1 n1 c1, .slice X5 m5 d5, .slice X6 m6 d6] 34)) [b] (.slice A3 n3 c3) p := Rok.keeps hp8 hal
          have hkz := hk8.trans hal
          have hbz := Nat.lt_of_lt_of_le hb8 hal.size
          generalize w8.alloc (.cells #[.slice A1 n1 c1, .slice A2 n2 c2, .slice X1 m1 d1, .slice X2 m2 d2, .slice X3 m3 d3, .slice X4 m4 d4, .slice A1 n1 c1, .slice A1 n1 c1, .slice X5 m5 d5, .slice X6 m6 d6] 34) = w9 at *
          generalize w8.heap.size = g8 at *
          have HPS := Lib.hid hps
          have HP40 := Lib.hid hp40
          have HPZ := Lib.hid hpz
          have HKZ := Lib.hid hkz
          clear hps hp40 hpz hkz
          clear ha8 hv8 hp8 hk8 hal
          go_loopg [70] 6 (fun gh iv wr => ∃ j : Nat, 6 ≤ j + gh ∧ j ≤ 5 ∧ iv = .int .i64 (j : Int) ∧ Keeps [b] w9 wr)
          case atStart => exact ⟨0, by omega, by omega, rfl, Keeps.refl _ _⟩
          case round =>
            obtain ⟨j, hgh, hj5, rfl, hkr⟩ := hrel
            have hzr := hkr.size
            haveI kbr : KB [b] wr w9 := ⟨hkr⟩
            by_cases hj : j < 5
            · obtain ⟨a0, u1, u2, ea0, hab, hc1, hc2, hi1, hi2⟩ := (HPS.out.keeps hkr).at_ hj
              injection ea0 with ea0
              subst ea0
              rw [addz] at hc1 hc2
              replace hc2 : wr.cell? ⟨g8, j * 2 + 1, none⟩ = some u2 := hc2
              obtain ⟨hl1, hl2⟩ := HP40.out j hj
              generalize (ps.getD j ([], [])).1 = x at *
              generalize (ps.getD j ([], [])).2 = y at *
              obtain ⟨U1, k1, eu1, _⟩ := hi1.open
              obtain ⟨U2, k2, eu2, _⟩ := hi2.open
              subst eu1; subst eu2
              generalize hxn : x.length = nx at *
              generalize hyn : y.length = ny at *
              have hjj : (j : Int) < 5 := by omega
              have HI1 := Lib.hid hi1
              have HI2 := Lib.hid hi2
              have HXN := Lib.hid hxn
              have HYN := Lib.hid hyn
              have HKR := Lib.hid hkr
              clear hi1 hi2 hxn hyn hkr
              clear hab
              go_wp2_with fail
              have hp0 := World.cell?_alloc_new wr #[.slice U1 nx k1, .slice U2 ny k2] 34 0
              have hp1 := World.cell?_alloc_new wr #[.slice U1 nx k1, .slice U2 ny k2] 34 1
              go_quiet (fail)
              have hkq : Keeps [b] w9 ((wr.alloc (.cells #[.slice U1 nx k1, .slice U2 ny k2] 34)).drewN nq) := (HKR.out.alloc _).drewN _
              have hkq1 : Keeps [b] wr ((wr.alloc (.cells #[.slice U1 nx k1, .slice U2 ny k2] 34)).drewN nq) := ((Keeps.refl _ _).alloc _).drewN _
              generalize (wr.alloc (.cells #[.slice U1 nx k1, .slice U2 ny k2] 34)).drewN nq = wq at *
              have hx : IsI wq [b] (.slice U1 nx k1) x := Rok.keeps HI1.out hkq1
              have hy : IsI wq [b] (.slice U2 ny k2) y := Rok.keeps HI2.out hkq1
              have hpq : IsI wq [b] (.slice A3 n3 c3) p := Rok.keeps HPZ.out hkq
              have hbq : ∀ W, Keeps [b] wq W → ∀ q ∈ [b], q < W.heap.size := fun W k q hq => by rw [List.mem_singleton.1 hq]; exact Nat.lt_of_lt_of_le hbz (hkq.trans k).size
              have lx : x.length ≤ 40 := by rw [HXN.out]; exact hl1
              have ly : y.length ≤ 40 := by rw [HYN.out]; exact hl2
              have lp : p.length ≤ 40 := by rw [← HN3.out]; exact h3
              have hv1 := fun W (k : Keeps [b] wq W) => valid_is (Rok.keeps hx k) (by omega)
              have hv2 := fun W (k : Keeps [b] wq W) => rvalid_is (Rok.keeps hx k) (by omega)
              have hc1 := fun W (k : Keeps [b] wq W) => compare_word (Rok.keeps hx k) (Rok.keeps hy k) (by omega) (by omega)
              have hc2 := fun W (k : Keeps [b] wq W) => rcompare_is (Rok.keeps hx k) (Rok.keeps hy k) (by omega) (by omega)
              have hl1 := fun W (k : Keeps [b] wq W) => leq_is (Rok.keeps hx k) (Rok.keeps hy k) (by omega) (by omega)
              have hl2 := fun W (k : Keeps [b] wq W) => rleq_is (Rok.keeps hx k) (Rok.keeps hy k) (by omega) (by omega)
              have he1 := fun W (k : Keeps [b] wq W) => (embed_is (Rok.keeps hx k) (Rok.keeps hy k) (by omega) (by omega)).mono (fun e w' h => emb_read (hbq W k) h)
              have he2 := fun W (k : Keeps [b] wq W) => (rembed_is (Rok.keeps hx k) (Rok.keeps hy k) (by omega) (by omega)).mono (fun e w' h => emb_read (hbq W k) h)
              have hp1' := fun W (k : Keeps [b] wq W) => proves_is (Rok.keeps hx k) (Rok.keeps hy k) (Rok.keeps hpq k) (by omega) (by omega) (by omega)
              have hp2' := fun W (k : Keeps [b] wq W) => rproves_is (Rok.keeps hx k) (Rok.keeps hy k) (Rok.keeps hpq k) (by omega) (by omega) (by omega)
              have hq1' := fun W (k : Keeps [b] wq W) pv (q : List Int) (hq : IsI W [b] pv q) (hlq : q.length ≤ 40) => proves_is (Rok.keeps hx k) (Rok.keeps hy k) hq (by omega) (by omega) (by omega)
              have hq2' := fun W (k : Keeps [b] wq W) pv (q : List Int) (hq : IsI W [b] pv q) (hlq : q.length ≤ 40) => rproves_is (Rok.keeps hx k) (Rok.keeps hy k) hq (by omega) (by omega) (by omega)
              have hm1' := fun W (k : Keeps [b] wq W) => (merge_is (hbq W k) (Rok.keeps hx k) (Rok.keeps hy k) (by omega) (by omega)).mono (fun e w' h => mg_read (hbq W k) h)
              have hm2' := fun W (k : Keeps [b] wq W) => (rmerge_is (hbq W k) (Rok.keeps hx k) (Rok.keeps hy k) (by omega) (by omega)).mono (fun e w' h => rmg_read h)
              have hd1' := fun W (k : Keeps [b] wq W) => drops_is (hbq W k) (Rok.keeps hy k) (by omega)
              have hd2' := fun W (k : Keeps [b] wq W) => rdrops_is (hbq W k) (Rok.keeps hy k) (by omega)
              have hes : ((embW x y).getD []).length ≤ 40 := Nat.le_trans emb_short lx
              generalize wvB x = r1 at *
              generalize cmpL x y = r2 at *
              generalize wleqB x y = r3 at *
              generalize (embW x y).isSome = r4 at *
              generalize hoq : (embW x y).getD [] = oq at *
              generalize hmge : mgE x y = r5 at *
              generalize wprB x y p = r6 at *
              have HX := Lib.hid hx
              have HY := Lib.hid hy
              have HPQ := Lib.hid hpq
              have HBQ := Lib.hid hbq
              have HV1 := Lib.hid hv1
              have HV2 := Lib.hid hv2
              have HC1 := Lib.hid hc1
              have HC2 := Lib.hid hc2
              have HL1 := Lib.hid hl1
              have HL2 := Lib.hid hl2
              have HE1 := Lib.hid he1
              have HE2 := Lib.hid he2
              have HP1' := Lib.hid hp1'
              have HP2' := Lib.hid hp2'
              have HQ1' := Lib.hid hq1'
              have HQ2' := Lib.hid hq2'
              have HM1' := Lib.hid hm1'
              have HM2' := Lib.hid hm2'
              have HD1' := Lib.hid hd1'
              have HD2' := Lib.hid hd2'
              have HOQ := Lib.hid hoq
              have HMGE := Lib.hid hmge
              have HKQ := Lib.hid hkq
              clear hx hy hpq hbq hv1 hv2 hc1 hc2 hl1 hl2 he1 he2 hp1' hp2' hq1' hq2' hm1' hm2' hd1' hd2' hoq hmge hkq
              clear hkq1 hp0 hp1 lx ly lp
              go_wp2_with (first
                | ((with_reducible refine (HV1.out _ (kf [b] wq _)).mono ?_); rintro e wz ⟨rfl, hk⟩; haveI kq : KB [b] wz _ := ⟨hk.nil _⟩; clear hk)
                | ((with_reducible refine (HV2.out _ (kf [b] wq _)).mono ?_); rintro e wz ⟨rfl, hk⟩; haveI kq : KB [b] wz _ := ⟨hk.nil _⟩; clear hk)
                | ((with_reducible refine (HC1.out _ (kf [b] wq _)).mono ?_); rintro e wz ⟨rfl, hk⟩; haveI kq : KB [b] wz _ := ⟨(Grew.keeps hk).nil _⟩; clear hk)
                | ((with_reducible refine (HC2.out _ (kf [b] wq _)).mono ?_); rintro e wz ⟨rfl, hk⟩; haveI kq : KB [b] wz _ := ⟨(quiet_keeps hk).nil _⟩; clear hk)
                | ((with_reducible refine (HL1.out _ (kf [b] wq _)).mono ?_); rintro e wz ⟨rfl, hk⟩; haveI kq : KB [b] wz _ := ⟨hk.nil _⟩; clear hk)
                | ((with_reducible refine (HL2.out _ (kf [b] wq _)).mono ?_); rintro e wz ⟨rfl, hk⟩; haveI kq : KB [b] wz _ := ⟨hk.nil _⟩; clear hk))
              refine (HE1.out _ (kf [b] wq _)).mono ?_
              rintro e wa ⟨EA, en, ec, eq, hen, rfl, hei, rfl, hk⟩
              haveI kqa : KB [b] wa _ := ⟨hk.nil _⟩
              have HEN := Lib.hid hen
              have HEI := Lib.hid hei
              clear hen hei
              clear hk
              go_wp2_with fail
              refine (HE2.out _ (kf [b] wq _)).mono ?_
              rintro e wb ⟨FA, fn, fc, fq, hfn, rfl, hfi, rfl, hk⟩
              haveI kqb : KB [b] wb _ := ⟨hk.nil _⟩
              have hei2 : IsI wb [b] (.slice EA en ec) fq := IsI.now HEI.out
              have hsm := fun W (k : Keeps [b] wb W) => same_is (Rok.keeps hei2 k) (Rok.keeps hfi k) (by omega) (by omega)
              rw [decide_eq_true (rfl : fq = fq)] at hsm
              have hw1 := fun W (k : Keeps [b] wb W) => HQ1'.out W ((kf [b] wq wb).trans k) _ fq (Rok.keeps hfi k) hes
              have hw2 := fun W (k : Keeps [b] wb W) => HQ2'.out W ((kf [b] wq wb).trans k) _ fq (Rok.keeps hfi k) hes
              generalize wprB x y fq = r7 at *
              have HFN := Lib.hid hfn
              have HFI := Lib.hid hfi
              have HEI2 := Lib.hid hei2
              have HSM := Lib.hid hsm
              have HW1 := Lib.hid hw1
              have HW2 := Lib.hid hw2
              clear hfn hfi hei2 hsm hw1 hw2
              clear hk hes
              go_wp2_with (first
                | ((with_reducible refine (HSM.out _ (kf [b] wb _)).mono ?_); rintro e wz ⟨rfl, hk⟩; haveI kq : KB [b] wz _ := ⟨(quiet_keeps hk).nil _⟩; clear hk)
                | ((with_reducible refine (HP1'.out _ (kf [b] wq _)).mono ?_); rintro e wz ⟨rfl, hk⟩; haveI kq : KB [b] wz _ := ⟨hk.nil _⟩; clear hk)
                | ((with_reducible refine (HP2'.out _ (kf [b] wq _)).mono ?_); rintro e wz ⟨rfl, hk⟩; haveI kq : KB [b] wz _ := ⟨hk.nil _⟩; clear hk)
                | ((with_reducible refine (HW1.out _ (kf [b] wb _)).mono ?_); rintro e wz ⟨rfl, hk⟩; haveI kq : KB [b] wz _ := ⟨hk.nil _⟩; clear hk)
                | ((with_reducible refine (HW2.out _ (kf [b] wb _)).mono ?_); rintro e wz ⟨rfl, hk⟩; haveI kq : KB [b] wz _ := ⟨hk.nil _⟩; clear hk))
              refine (HM1'.out _ (kf [b] wq _)).mono ?_
              rintro e wc ⟨MA, mn, mc, ys, hmn, rfl, hasc, hmem, hmi, hk⟩
              haveI kqc : KB [b] wc _ := ⟨hk.nil _⟩
              obtain ⟨hs1, hs2⟩ := mg_small hasc hmem
              have HMN := Lib.hid hmn
              have HASC := Lib.hid hasc
              have HMEM := Lib.hid hmem
              have HMI := Lib.hid hmi
              have HS1 := Lib.hid hs1
              have HS2 := Lib.hid hs2
              clear hmn hasc hmem hmi hs1 hs2
              clear hk
              go_wp2_with fail
              refine (HM2'.out _ (kf [b] wq _)).mono ?_
              rintro e wd ⟨NA, nn, nc, zs, hnn, rfl, hasd, hmed, hni, hk⟩
              haveI kqd : KB [b] wd _ := ⟨hk.nil _⟩
              have ezy : zs = ys := asc_ext hasd HASC.out (fun z => (hmed z).trans (HMEM.out z).symm)
              rw [ezy] at hni hnn
              have hmi2 : IsII wd [b] (.slice MA mn mc) ys := IsII.now HMI.out
              have hsa := sameall_is hmi2 hni HS1.out HS1.out HS2.out HS2.out
              rw [decide_eq_true (rfl : ys = ys)] at hsa
              have HSA := Lib.hid hsa
              have HNN := Lib.hid hnn
              clear hsa hnn
              clear hk hasd hmed hni hmi2 ezy
              go_wp2_with fail
              refine HSA.out.mono ?_
              rintro e we ⟨rfl, hk⟩
              haveI kqe : KB [b] we _ := ⟨hk.nil _⟩
              clear hk
              go_wp2_with fail
              refine (HD1'.out _ (kf [b] wq _)).mono ?_
              rintro e wf ⟨DA, dn, dc, ds, hdn, rfl, hdasc, hdm, hdO, hk⟩
              haveI kqf : KB [b] wf _ := ⟨hk.nil _⟩
              have hdi : IsII wf [b] (.slice DA dn dc) ds := hdO.isL (HBQ.out _ (kf [b] wq we))
              obtain ⟨ht1, ht2⟩ := drop_small (by rw [HYN.out]; omega) hdasc hdm
              have HDN := Lib.hid hdn
              have HDASC := Lib.hid hdasc
              have HDM := Lib.hid hdm
              have HDI := Lib.hid hdi
              have HT1 := Lib.hid ht1
              have HT2 := Lib.hid ht2
              clear hdn hdasc hdm hdi ht1 ht2
              clear hk hdO
              go_wp2_with fail
              refine (HD2'.out _ (kf [b] wq _)).mono ?_
              rintro e wg ⟨GA, gn, gc, gs, hgn, rfl, hgasc, hgm, hgi, hk⟩
              haveI kqg : KB [b] wg _ := ⟨hk.nil _⟩
              have egd : gs = ds := asc_ext hgasc HDASC.out (fun z => (hgm z).trans (HDM.out z).symm)
              rw [egd] at hgi hgn
              have hdi2 : IsII wg [b] (.slice DA dn dc) ds := IsII.now HDI.out
              have hsb := sameall_is hdi2 hgi HT1.out HT1.out HT2.out HT2.out
              rw [decide_eq_true (rfl : ds = ds)] at hsb
              have HSB := Lib.hid hsb
              have HGN := Lib.hid hgn
              clear hsb hgn
              clear hk hgasc hgm hgi hdi2 egd
              go_wp2_with fail
              refine HSB.out.mono ?_
              rintro e wh ⟨rfl, hk⟩
              haveI kqh : KB [b] wh _ := ⟨hk.nil _⟩
              have hkfin := HKQ.out.trans (kf [b] wq wh)
              have HKFIN := Lib.hid hkfin
              clear hkfin
              clear hk
              go_wp2_with fail
              go_roundg (5 - j)
              case measure => omega
              case rel => exact ⟨j + 1, by omega, by omega, by go_num, HKFIN.out⟩
            · obtain rfl : j = 5 := by omega
              go_wp2_with fail
              go_ret
              exact ⟨rfl, HB2.out.trans ((HKZ.out.trans hkr).below (by simp; omega) (by omega))⟩
        · have d3 : decide ((40 : Int) < (n3 : Int)) = true := decide_eq_true (by omega)
          have e3 : decide (40 < n3) = true := decide_eq_true (by omega)
          go_enter Try.func5, Try.ntmps5
          go_wp2_with fail
          refine (awake_any w).mono ?_
          rintro e w1 ⟨rfl, hb1⟩
          go_wp2_with fail
          refine (few_any w1 A0 len cap).mono ?_
          rintro e w' ⟨rfl, rfl⟩
          rw [hd]
          go_wp2_with fail
          refine (awake_any w1).mono ?_
          rintro e w2 ⟨rfl, hb2⟩
          go_wp2_with fail
          go_ret
          exact ⟨rfl, hb1.trans (hb2.mono hb1.size)⟩
      · have d2 : decide ((40 : Int) < (n2 : Int)) = true := decide_eq_true (by omega)
        have e2 : decide (40 < n2) = true := decide_eq_true (by omega)
        go_enter Try.func5, Try.ntmps5
        go_wp2_with fail
        refine (awake_any w).mono ?_
        rintro e w1 ⟨rfl, hb1⟩
        go_wp2_with fail
        refine (few_any w1 A0 len cap).mono ?_
        rintro e w' ⟨rfl, rfl⟩
        rw [hd]
        go_wp2_with fail
        refine (awake_any w1).mono ?_
        rintro e w2 ⟨rfl, hb2⟩
        go_wp2_with fail
        go_ret
        exact ⟨rfl, hb1.trans (hb2.mono hb1.size)⟩
    · have d1 : decide ((40 : Int) < (n1 : Int)) = true := decide_eq_true (by omega)
      have e1 : decide (40 < n1) = true := decide_eq_true (by omega)
      go_enter Try.func5, Try.ntmps5
      go_wp2_with fail
      refine (awake_any w).mono ?_
      rintro e w1 ⟨rfl, hb1⟩
      go_wp2_with fail
      refine (few_any w1 A0 len cap).mono ?_
      rintro e w' ⟨rfl, rfl⟩
      rw [hd]
      go_wp2_with fail
      refine (awake_any w1).mono ?_
      rintro e w2 ⟨rfl, hb2⟩
      go_wp2_with fail
      go_ret
      exact ⟨rfl, hb1.trans (hb2.mono hb1.size)⟩
  · have hd : decide ((len : Int) ≤ 400) = false := by simp; omega
    go_enter Try.func5, Try.ntmps5
    go_wp2_with fail
    refine (awake_any w).mono ?_
    rintro e w1 ⟨rfl, hb1⟩
    go_wp2_with fail
    refine (few_any w1 A0 len cap).mono ?_
    rintro e w' ⟨rfl, rfl⟩
    rw [hd]
    go_wp2_with fail
    refine (awake_any w1).mono ?_
    rintro e w2 ⟨rfl, hb2⟩
    go_wp2_with fail
    go_ret
    exact ⟨rfl, hb1.trans (hb2.mono hb1.size)⟩
end Go.Proofs.Ytfhommegkogahaa
