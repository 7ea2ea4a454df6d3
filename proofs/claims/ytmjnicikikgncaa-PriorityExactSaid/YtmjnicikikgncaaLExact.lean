/- The walk of coverabilitylaw05.PriorityExact. (Under way.) -/
import Derived.Test.YtmjnicikikgncaaLJoins
import Derived.Test.YtmjnicikikgncaaPRefD
import Derived.Test.YtmjnicikikgncaaPRefP
import Derived.Test.YtmjnicikikgncaaPRefF
import Derived.Test.YtmjnicikikgncaaPRefG
import Derived.Test.YtmjnicikikgncaaRSameAll
import Derived.Test.YtmjnicikikgncaaPairs
import Derived.Deep.QuietTactic

namespace Go.Proofs.Ytmjnicikikgncaa
set_option linter.unusedVariables false
open Go.RowKit

theorem srp_read {r a b : List Int} {l : List Nat} {w w' : World} {e : Ending} (h : SrPost (embP r a b) l w e w') : ∃ (A : Option Addr) (n c : Nat) (q : List Int), n = q.length ∧ e = .returned (.tuple #[.slice A n c, .bool (embP r a b).isSome]) ∧ IsI w' l (.slice A n c) q ∧ q = (embP r a b).getD [] ∧ Keeps [] w w' := by
  obtain ⟨hk, ⟨ho, rfl⟩ | ⟨A, n, c, q, hn, ho, rfl, hO⟩⟩ := h
  · exact ⟨none, 0, 0, [], rfl, by rw [ho]; rfl, IsI.nil, by rw [ho]; rfl, hk⟩
  · exact ⟨A, n, c, q, hn, by rw [ho]; rfl, hO, by rw [ho]; rfl, hk⟩
theorem embP_short {r a b : List Int} : ((embP r a b).getD []).length ≤ a.length := by
  cases ho : embP r a b with
  | none => simp
  | some q =>
    by_cases hv : PValid r a ∧ PValid r b
    · rw [embP_yes hv.1 hv.2] at ho
      have := srch_len ho
      show q.length ≤ a.length
      omega
    · rw [embP_no hv] at ho; cases ho
def FgIn (r : List Int) (m : Int) (x : List Int) : Prop := PRanks r ∧ FallW r (min m 6 + 1) x
open Classical in
noncomputable def fgE (r : List Int) : Int := if PRanks r then 0 else 2
def FgRead (l : List Nat) (r : List Int) (m : Int) (w : World) (e : Ending) (w' : World) : Prop := ∃ (A : Option Addr) (n c : Nat) (ys : List (List Int)), n = ys.length ∧ e = .returned (.tuple #[.slice A n c, .int .i64 (fgE r)]) ∧ Asc ys ∧ (∀ x, x ∈ ys ↔ FgIn r m x) ∧ IsII w' l (.slice A n c) ys ∧ Keeps [] w w'
theorem fg_read {r : List Int} {m : Int} {l : List Nat} {w w' : World} {e : Ending} (hl : ∀ y ∈ l, y < w.heap.size) (h : FlgPost r m l w e w') : FgRead l r m w e w' := by
  obtain ⟨hk, ⟨hno, rfl⟩ | ⟨A, n, c, ys, hr, hn, rfl, hasc, hm, hO⟩⟩ := h
  · exact ⟨none, 0, 0, [], rfl, by unfold fgE; rw [if_neg hno], List.Pairwise.nil, fun x => ⟨fun h => (by cases h), fun h => absurd h.1 hno⟩, IsII.nil, hk⟩
  · exact ⟨A, n, c, ys, hn, by unfold fgE; rw [if_pos hr], hasc, fun x => (hm x).trans ⟨fun h => ⟨hr, h⟩, fun h => h.2⟩, hO.isL hl, hk⟩
theorem rfg_read {r : List Int} {m : Int} {l : List Nat} {w w' : World} {e : Ending} (h : RFlgPost r m l w e w') : FgRead l r m w e w' := by
  obtain ⟨hk, ⟨hno, rfl⟩ | ⟨A, n, c, ys, hr, hn, rfl, hasc, hm, hI⟩⟩ := h
  · exact ⟨none, 0, 0, [], rfl, by unfold fgE; rw [if_neg hno], List.Pairwise.nil, fun x => ⟨fun h => (by cases h), fun h => absurd h.1 hno⟩, IsII.nil, hk⟩
  · exact ⟨A, n, c, ys, hn, by unfold fgE; rw [if_pos hr], hasc, fun x => (hm x).trans ⟨fun h => ⟨hr, h⟩, fun h => h.2⟩, hI, hk⟩
theorem fg_small {r : List Int} {m : Int} {ys : List (List Int)} (ha : Asc ys) (hm : ∀ x, x ∈ ys ↔ FgIn r m x) : ys.length ≤ 1000000 ∧ ∀ x ∈ ys, x.length ≤ 1000000 := by
  by_cases h : ys = []
  · rw [h]; simp
  · obtain ⟨x, hx⟩ := List.exists_mem_of_ne_nil _ h
    have hr := ((hm x).1 hx).1
    have hr0 : ∀ z ∈ r, 0 ≤ z := fun z hz => (hr.2 z hz).1
    have hmem := fallL_mem hr0 7 (min m 6 + 1) (by omega)
    have h1 := asc_len ha (L := fallL r 7 (min m 6 + 1)) fun z hz => (hmem z).2 ((hm z).1 hz).2
    have h2 := fallL_len hr.1.2 7 (min m 6 + 1)
    have h3 : fallN 7 ≤ 335922 := fallN_le (Nat.le_refl _)
    exact ⟨by omega, fun z hz => by have := fallL_words hr0 7 _ z ((hmem z).2 ((hm z).1 hz).2); omega⟩
theorem pdrop_small {r a : List Int} {ys : List (List Int)} (hn : a.length ≤ 1000) (ha : Asc ys) (hm : ∀ x, x ∈ ys ↔ IsPDrop r a x) : ys.length ≤ 1000000 ∧ ∀ x ∈ ys, x.length ≤ 1000000 := by
  by_cases h : ys = []
  · rw [h]; simp
  · obtain ⟨x, hx⟩ := List.exists_mem_of_ne_nil _ h
    have hv := ((hm x).1 hx).1
    have h1 := asc_len ha (L := pdropsL r a (a.length - 1)) fun z hz => (pdropsL_mem hv).2 ((hm z).1 hz)
    have h2 := pdropsL_len r a (a.length - 1)
    exact ⟨by omega, fun z hz => by have := ((hm z).1 hz).2.len; omega⟩

set_option maxRecDepth 100000 in
set_option maxHeartbeats 8000000 in
theorem pexact_law (w : World) (len cap n0 c0 n1 c1 n2 c2 n3 c3 : Nat) (A0 Ar A1 A2 A3 : Option Addr) (most : Int) (l : Nat → Int) (rs a v p : List Int) (hR : Rd w w.heap.size A0 len (fun i => .int .i64 (l i)))
    (hrs : IsI w [] (.slice Ar n0 c0) rs) (ha : IsI w [] (.slice A1 n1 c1) a) (hv : IsI w [] (.slice A2 n2 c2) v) (hp : IsI w [] (.slice A3 n3 c3) p) (hn0 : n0 = rs.length) (hn1 : n1 = a.length) (hn2 : n2 = v.length) (hn3 : n3 = p.length) (hmo1 : -9223372036854775808 ≤ most) (hmo2 : most ≤ 9223372036854775807) :
    Calls Try.prog 3 #[.slice A0 len cap, .slice Ar n0 c0, .slice A1 n1 c1, .slice A2 n2 c2, .slice A3 n3 c3, .int .i64 most] w fun e w' => e = .returned (.bool true) ∧ Below w.heap.size w w' := by
  have HRS := Lib.hid hrs
  have HA := Lib.hid ha
  have HV := Lib.hid hv
  have HP := Lib.hid hp
  have HN0 := Lib.hid hn0
  have HN1 := Lib.hid hn1
  have HN2 := Lib.hid hn2
  have HN3 := Lib.hid hn3
  clear hrs ha hv hp hn0 hn1 hn2 hn3
  have HR := Lib.hid hR
  clear hR
  by_cases hlen : len ≤ 400
  · have hd : decide ((len : Int) ≤ 400) = true := by simp; omega
    by_cases h0 : n0 ≤ 12
    · have d0 : decide ((12 : Int) < (n0 : Int)) = false := decide_eq_false (by omega)
      have e0 : decide (12 < n0) = false := decide_eq_false (by omega)
      by_cases h1 : n1 ≤ 30
      · have d1 : decide ((30 : Int) < (n1 : Int)) = false := decide_eq_false (by omega)
        have e1 : decide (30 < n1) = false := decide_eq_false (by omega)
        by_cases h2 : n2 ≤ 30
        · have d2 : decide ((30 : Int) < (n2 : Int)) = false := decide_eq_false (by omega)
          have e2 : decide (30 < n2) = false := decide_eq_false (by omega)
          by_cases h3 : n3 ≤ 30
          · have d3 : decide ((30 : Int) < (n3 : Int)) = false := decide_eq_false (by omega)
            have e3 : decide (30 < n3) = false := decide_eq_false (by omega)
            go_enter Try.func3, Try.ntmps3
            go_wp2_with fail
            refine (awake_any w).mono ?_
            rintro e w1 ⟨rfl, hb1⟩
            have hz1 := hb1.size
            go_wp2_with fail
            refine (few_any w1 A0 len cap).mono ?_
            rintro e w' ⟨rfl, rfl⟩
            rw [hd]
            go_wp2_with fail
            refine (new_any w1 w.heap.size A0 len cap l (HR.out.below hb1) hlen hz1).mono ?_
            rintro e w2 ⟨rfl, hD2, hb2⟩
            have hz2 := hb2.size
            have hbl2 := hD2.lt
            have hB2 := hb1.trans (hb2.mono hz1)
            have HD2 := Lib.hid hD2
            have HB2 := Lib.hid hB2
            clear hD2 hB2
            clear hb1 hb2
            generalize w1.heap.size = b at *
            have hw : ∀ y ∈ [b], y ∈ ([] : List Nat) ∨ w.heap.size ≤ y := fun y hy => by rw [List.mem_singleton.1 hy]; exact .inr (by omega)
            have hr2 : IsI w2 [b] (.slice Ar n0 c0) rs := Rok.keeps (Rok.weak HRS.out hw) HB2.out.toK
            have ha2 : IsI w2 [b] (.slice A1 n1 c1) a := Rok.keeps (Rok.weak HA.out hw) HB2.out.toK
            have hv2 : IsI w2 [b] (.slice A2 n2 c2) v := Rok.keeps (Rok.weak HV.out hw) HB2.out.toK
            have hp2 : IsI w2 [b] (.slice A3 n3 c3) p := Rok.keeps (Rok.weak HP.out hw) HB2.out.toK
            have HR2 := Lib.hid hr2
            have HA2 := Lib.hid ha2
            have HV2 := Lib.hid hv2
            have HP2 := Lib.hid hp2
            clear hr2 ha2 hv2 hp2
            clear hw
            go_wp2_with fail
            refine (ranks_any w2 b w.heap.size 2 HD2.out (by omega)).mono ?_
            rintro e w3 ⟨R6, k6, r2, rfl, hn6, har, hR6, hD6, hK⟩
            have hz6 := hK.size
            haveI kb6 : KB [b] w3 w2 := ⟨hK⟩
            have HR6 := Lib.hid hR6
            have HD6 := Lib.hid hD6
            have HN6 := Lib.hid hn6
            clear hR6 hD6 hn6
            clear hK har
            go_wp2_with fail
            refine (ranks_any w3 b w.heap.size 3 HD6.out (by omega)).mono ?_
            rintro e w4 ⟨R7, k7, r3, rfl, hn7, har, hR7, hD7, hK⟩
            have hz7 := hK.size
            haveI kb7 : KB [b] w4 w3 := ⟨hK⟩
            have HR7 := Lib.hid hR7
            have HD7 := Lib.hid hD7
            have HN7 := Lib.hid hn7
            clear hR7 hD7 hn7
            clear hK har
            go_wp2_with fail
            have hb4 : b < w4.heap.size := by omega
            have hrows : IsII (w4.alloc (.cells #[.slice Ar n0 c0, .slice R6 2 k6, .slice R7 3 k7] 22)) [b] (.slice (some ⟨w4.heap.size, 0, none⟩) 3 3) [rs, r2, r3] := isL_new (xs := [rs, r2, r3]) (by simp; omega) rfl fun i hi => by
              have hc : i = 0 ∨ i = 1 ∨ i = 2 := by simp at hi; omega
              rcases hc with rfl | rfl | rfl
              · exact IsI.now HR2.out
              · exact IsI.now HR6.out
              · exact IsI.now HR7.out
            have hr12 : ∀ x ∈ [rs, r2, r3], x.length ≤ 12 := fun x hx => by
              have g0 := HN0.out
              have g6 := HN6.out
              have g7 := HN7.out
              simp at hx
              rcases hx with rfl | rfl | rfl <;> omega
            have hal : Keeps [b] w4 (w4.alloc (.cells #[.slice Ar n0 c0, .slice R6 2 k6, .slice R7 3 k7] 22)) := (Keeps.refl _ _).alloc _
            have hk5 : Keeps [b] w2 (w4.alloc (.cells #[.slice Ar n0 c0, .slice R6 2 k6, .slice R7 3 k7] 22)) := (kf [b] w2 w4).trans hal
            have hD5 : Deck (w4.alloc (.cells #[.slice Ar n0 c0, .slice R6 2 k6, .slice R7 3 k7] 22)) b w.heap.size := HD7.out.kept ((Keeps.refl _ _).alloc _)
            have hb5 := Nat.lt_of_lt_of_le hb4 hal.size
            generalize w4.alloc (.cells #[.slice Ar n0 c0, .slice R6 2 k6, .slice R7 3 k7] 22) = w5 at *
            generalize w4.heap.size = g5 at *
            generalize ([rs, r2, r3] : List (List Int)) = rr at *
            have HROWS := Lib.hid hrows
            have HR12 := Lib.hid hr12
            have HK5 := Lib.hid hk5
            have HD5 := Lib.hid hD5
            clear hrows hr12 hk5 hD5
            clear hal
            go_loopg [67] 4 (fun gh iv wr => ∃ j : Nat, 4 ≤ j + gh ∧ j ≤ 3 ∧ iv = .int .i64 (j : Int) ∧ Deck wr b w.heap.size ∧ Keeps [b] w5 wr)
            case atStart => exact ⟨0, by omega, by omega, rfl, HD5.out, Keeps.refl _ _⟩
            case round =>
              obtain ⟨j, hgh, hj3, rfl, hDr, hkr⟩ := hrel
              have hzr := hkr.size
              haveI kbr : KB [b] wr w5 := ⟨hkr⟩
              by_cases hj : j < 3
              · have hrw : IsII wr [b] (.slice (some ⟨g5, 0, none⟩) 3 3) rr := IsII.now HROWS.out
                obtain ⟨A', c', U, ev, _, _, hyc, hyr⟩ := hrw
                injection ev with q1 q2 q3
                obtain ⟨pr, ep, hpc⟩ := hyc.at_ (i := j) (by omega)
                rw [← q1] at ep
                injection ep with ep
                subst ep
                rw [addz] at hpc
                have hri : IsI wr [b] (U j) (rr.getD j []) := hyr j (by omega)
                have hrl := HR12.out _ (getD_mem (d := []) (show j < rr.length by omega))
                obtain ⟨Rr, rc, hUj, _⟩ := hri.open
                rw [hUj] at hpc hri
                generalize rr.getD j [] = r at *
                generalize hrn : r.length = rn at *
                have hjj : (j : Int) < 3 := by omega
                have HDR := Lib.hid hDr
                have HKR := Lib.hid hkr
                have HRI := Lib.hid hri
                have HRN := Lib.hid hrn
                clear hri hrn
                clear hUj hyc hyr q1 q2 q3 hDr hkr
                go_wp2_with fail
                refine (word_any wr b w.heap.size 2 3 HDR.out (by omega) (by omega)).mono ?_
                rintro e w6 ⟨X1, m1, d1, y1, rfl, hm1, hle1, har, hX1, hD1, hK⟩
                have hz1 := hK.size
                haveI kb1 : KB [b] w6 wr := ⟨hK⟩
                have HX1 := Lib.hid hX1
                have HD1 := Lib.hid hD1
                have HM1 := Lib.hid hm1
                clear hX1 hD1 hm1
                clear hK har
                go_wp2_with fail
                refine (word_any w6 b w.heap.size 2 8 HD1.out (by omega) (by omega)).mono ?_
                rintro e w7 ⟨X2, m2, d2, y2, rfl, hm2, hle2, har, hX2, hD2, hK⟩
                have hz2 := hK.size
                haveI kb2 : KB [b] w7 w6 := ⟨hK⟩
                have HX2 := Lib.hid hX2
                have HD2 := Lib.hid hD2
                have HM2 := Lib.hid hm2
                clear hX2 hD2 hm2
                clear hK har
                go_wp2_with fail
                refine (word_any w7 b w.heap.size 3 4 HD2.out (by omega) (by omega)).mono ?_
                rintro e w8 ⟨X3, m3, d3, y3, rfl, hm3, hle3, har, hX3, hD3, hK⟩
                have hz3 := hK.size
                haveI kb3 : KB [b] w8 w7 := ⟨hK⟩
                have HX3 := Lib.hid hX3
                have HD3 := Lib.hid hD3
                have HM3 := Lib.hid hm3
                clear hX3 hD3 hm3
                clear hK har
                go_wp2_with fail
                refine (word_any w8 b w.heap.size 3 12 HD3.out (by omega) (by omega)).mono ?_
                rintro e w9 ⟨X4, m4, d4, y4, rfl, hm4, hle4, har, hX4, hD4, hK⟩
                have hz4 := hK.size
                haveI kb4 : KB [b] w9 w8 := ⟨hK⟩
                have HX4 := Lib.hid hX4
                have HD4 := Lib.hid hD4
                have HM4 := Lib.hid hm4
                clear hX4 hD4 hm4
                clear hK har
                go_wp2_with fail
                have hb9 : b < w9.heap.size := by omega
                have ha9 : IsI w9 [b] (.slice A1 n1 c1) a := Rok.keeps HA2.out (HK5.out.trans (kf [b] w5 w9))
                have hv9 : IsI w9 [b] (.slice A2 n2 c2) v := Rok.keeps HV2.out (HK5.out.trans (kf [b] w5 w9))
                have hp9 : IsI w9 [b] (.slice A3 n3 c3) p := Rok.keeps HP2.out (HK5.out.trans (kf [b] w5 w9))
                have hr9 : IsI w9 [b] (.slice Rr rn rc) r := IsI.now HRI.out
                have hps : IsPairs (w9.alloc (.cells #[.slice A1 n1 c1, .slice A2 n2 c2, .slice X1 m1 d1, .slice X2 m2 d2, .slice X3 m3 d3, .slice X4 m4 d4, .slice A2 n2 c2, .slice A2 n2 c2] 29)) [b] (.slice (some ⟨w9.heap.size, 0, none⟩) 4 4) [(a, v), (y1, y2), (y3, y4), (v, v)] := IsPairs.lit (by simp; omega) rfl rfl fun i hi => by
                  have hc : i = 0 ∨ i = 1 ∨ i = 2 ∨ i = 3 := by omega
                  rcases hc with rfl | rfl | rfl | rfl
                  · exact ⟨ha9, hv9⟩
                  · exact ⟨IsI.now HX1.out, IsI.now HX2.out⟩
                  · exact ⟨IsI.now HX3.out, IsI.now HX4.out⟩
                  · exact ⟨hv9, hv9⟩
                have hp30 : ∀ i, i < 4 → (([(a, v), (y1, y2), (y3, y4), (v, v)] : List (List Int × List Int)).getD i ([], [])).1.length ≤ 30 ∧ (([(a, v), (y1, y2), (y3, y4), (v, v)] : List (List Int × List Int)).getD i ([], [])).2.length ≤ 30 := fun i hi => by
                  have hc : i = 0 ∨ i = 1 ∨ i = 2 ∨ i = 3 := by omega
                  have g1 := HN1.out
                  have g2 := HN2.out
                  have q1 := HM1.out
                  have q2 := HM2.out
                  have q3 := HM3.out
                  have q4 := HM4.out
                  rcases hc with rfl | rfl | rfl | rfl
                  · show a.length ≤ 30 ∧ v.length ≤ 30; omega
                  · show y1.length ≤ 30 ∧ y2.length ≤ 30; omega
                  · show y3.length ≤ 30 ∧ y4.length ≤ 30; omega
                  · show v.length ≤ 30 ∧ v.length ≤ 30; omega
                have hal0 : Keeps [] w9 (w9.alloc (.cells #[.slice A1 n1 c1, .slice A2 n2 c2, .slice X1 m1 d1, .slice X2 m2 d2, .slice X3 m3 d3, .slice X4 m4 d4, .slice A2 n2 c2, .slice A2 n2 c2] 29)) := (Keeps.refl _ _).alloc _
                have hpz : IsI (w9.alloc (.cells #[.slice A1 n1 c1, .slice A2 n2 c2, .slice X1 m1 d1, .slice X2 m2 d2, .slice X3 m3 d3, .slice X4 m4 d4, .slice A2 n2 c2, .slice A2 n2 c2] 29)) [b] (.slice A3 n3 c3) p := IsI.new hp9 hal0
                have hrz : IsI (w9.alloc (.cells #[.slice A1 n1 c1, .slice A2 n2 c2, .slice X1 m1 d1, .slice X2 m2 d2, .slice X3 m3 d3, .slice X4 m4 d4, .slice A2 n2 c2, .slice A2 n2 c2] 29)) [b] (.slice Rr rn rc) r := IsI.new hr9 hal0
                have hDz : Deck (w9.alloc (.cells #[.slice A1 n1 c1, .slice A2 n2 c2, .slice X1 m1 d1, .slice X2 m2 d2, .slice X3 m3 d3, .slice X4 m4 d4, .slice A2 n2 c2, .slice A2 n2 c2] 29)) b w.heap.size := HD4.out.kept hal0
                have hkz : Keeps [b] w5 (w9.alloc (.cells #[.slice A1 n1 c1, .slice A2 n2 c2, .slice X1 m1 d1, .slice X2 m2 d2, .slice X3 m3 d3, .slice X4 m4 d4, .slice A2 n2 c2, .slice A2 n2 c2] 29)) := (kf [b] w5 w9).trans (hal0.nil [b])
                have hbz := Nat.lt_of_lt_of_le hb9 hal0.size
                generalize ([(a, v), (y1, y2), (y3, y4), (v, v)] : List (List Int × List Int)) = ps at *
                generalize w9.alloc (.cells #[.slice A1 n1 c1, .slice A2 n2 c2, .slice X1 m1 d1, .slice X2 m2 d2, .slice X3 m3 d3, .slice X4 m4 d4, .slice A2 n2 c2, .slice A2 n2 c2] 29) = wA at *
                generalize w9.heap.size = g9 at *
                have HPS := Lib.hid hps
                have HP30 := Lib.hid hp30
                have HPZ := Lib.hid hpz
                have HRZ := Lib.hid hrz
                have HDZ := Lib.hid hDz
                have HKZ := Lib.hid hkz
                clear hps hp30 hpz hrz hDz hkz
                clear ha9 hv9 hp9 hr9 hal0
                go_loopg [89] 5 (fun gh iv wr => ∃ i : Nat, 5 ≤ i + gh ∧ i ≤ 4 ∧ iv = .int .i64 (i : Int) ∧ Keeps [] wA wr)
                case atStart => exact ⟨0, by omega, by omega, rfl, Keeps.refl _ _⟩
                case round =>
                  obtain ⟨i, hgh2, hi4, rfl, hkr2⟩ := hrel
                  have hzr2 := hkr2.size
                  by_cases hi : i < 4
                  · obtain ⟨a0, u1, u2, ea0, hab, hc1, hc2, hi1, hi2⟩ := (HPS.out.keeps (hkr2.nil [b])).at_ hi
                    injection ea0 with ea0
                    subst ea0
                    rw [addz] at hc1 hc2
                    replace hc2 : wr.cell? ⟨g9, i * 2 + 1, none⟩ = some u2 := hc2
                    obtain ⟨hl1, hl2⟩ := HP30.out i hi
                    generalize (ps.getD i ([], [])).1 = x at *
                    generalize (ps.getD i ([], [])).2 = y at *
                    obtain ⟨U1, k1, eu1, _⟩ := hi1.open
                    obtain ⟨U2, k2, eu2, _⟩ := hi2.open
                    subst eu1; subst eu2
                    generalize hxn : x.length = nx at *
                    generalize hyn : y.length = ny at *
                    have hjj2 : (i : Int) < 4 := by omega
                    have HKS := Lib.hid hkr2
                    have HI1 := Lib.hid hi1
                    have HI2 := Lib.hid hi2
                    have HXN := Lib.hid hxn
                    have HYN := Lib.hid hyn
                    clear hi1 hi2 hxn hyn
                    clear hab hkr2
                    go_wp2_with fail
                    have hp0 := World.cell?_alloc_new wr #[.slice U1 nx k1, .slice U2 ny k2] 29 0
                    have hp1 := World.cell?_alloc_new wr #[.slice U1 nx k1, .slice U2 ny k2] 29 1
                    go_quiet (fail)
                    have hkq : Keeps [] wA ((wr.alloc (.cells #[.slice U1 nx k1, .slice U2 ny k2] 29)).drewN nq) := (HKS.out.alloc _).drewN _
                    have hkq1 : Keeps [] wr ((wr.alloc (.cells #[.slice U1 nx k1, .slice U2 ny k2] 29)).drewN nq) := ((Keeps.refl _ _).alloc _).drewN _
                    generalize (wr.alloc (.cells #[.slice U1 nx k1, .slice U2 ny k2] 29)).drewN nq = wq at *
                    have hx : IsI wq [b] (.slice U1 nx k1) x := IsI.new HI1.out hkq1
                    have hy : IsI wq [b] (.slice U2 ny k2) y := IsI.new HI2.out hkq1
                    have hpq : IsI wq [b] (.slice A3 n3 c3) p := IsI.new HPZ.out hkq
                    have hrq : IsI wq [b] (.slice Rr rn rc) r := IsI.new HRZ.out hkq
                    have hbq : ∀ W, Keeps [] wq W → ∀ q ∈ [b], q < W.heap.size := fun W k q hq => by rw [List.mem_singleton.1 hq]; exact Nat.lt_of_lt_of_le hbz (hkq.trans k).size
                    have lx : x.length ≤ 30 := by rw [HXN.out]; exact hl1
                    have ly : y.length ≤ 30 := by rw [HYN.out]; exact hl2
                    have lp : p.length ≤ 30 := by rw [← HN3.out]; exact h3
                    have lr : r.length ≤ 12 := by rw [HRN.out]; exact hrl
                    have hv1 := fun W (k : Keeps [] wq W) => pvalid_is (IsI.new hrq k) (IsI.new hx k) (by omega) (by omega)
                    have hv2 := fun W (k : Keeps [] wq W) => rpvalid_is (IsI.new hrq k) (IsI.new hx k) (by omega) (by omega)
                    have hl1 := fun W (k : Keeps [] wq W) => pleq_is (hbq W k) (IsI.new hrq k) (IsI.new hx k) (IsI.new hy k) (by omega) (by omega) (by omega)
                    have hl2 := fun W (k : Keeps [] wq W) => rpleq_is (hbq W k) (IsI.new hrq k) (IsI.new hx k) (IsI.new hy k) (by omega) (by omega) (by omega)
                    have he1 := fun W (k : Keeps [] wq W) => (pembed_is (hbq W k) (IsI.new hrq k) (IsI.new hx k) (IsI.new hy k) (by omega) (by omega) (by omega)).mono (fun e w' h => srp_read h)
                    have he2 := fun W (k : Keeps [] wq W) => (rpembed_is (hbq W k) (IsI.new hrq k) (IsI.new hx k) (IsI.new hy k) (by omega) (by omega) (by omega)).mono (fun e w' h => srp_read h)
                    have hp1' := fun W (k : Keeps [] wq W) => pproves_is (IsI.new hrq k) (IsI.new hx k) (IsI.new hy k) (IsI.new hpq k) (by omega) (by omega) (by omega) (by omega)
                    have hp2' := fun W (k : Keeps [] wq W) => rpproves_is (IsI.new hrq k) (IsI.new hx k) (IsI.new hy k) (IsI.new hpq k) (by omega) (by omega) (by omega) (by omega)
                    have hq1' := fun W (k : Keeps [] wq W) pv (q : List Int) (hq : IsI W [b] pv q) (hlq : q.length ≤ 30) => pproves_is (IsI.new hrq k) (IsI.new hx k) (IsI.new hy k) hq (by omega) (by omega) (by omega) (by omega)
                    have hq2' := fun W (k : Keeps [] wq W) pv (q : List Int) (hq : IsI W [b] pv q) (hlq : q.length ≤ 30) => rpproves_is (IsI.new hrq k) (IsI.new hx k) (IsI.new hy k) hq (by omega) (by omega) (by omega) (by omega)
                    have hd1' := fun W (k : Keeps [] wq W) => pdrops_is (hbq W k) (IsI.new hrq k) (IsI.new hy k) (by omega) (by omega)
                    have hd2' := fun W (k : Keeps [] wq W) => rpdrops_is (hbq W k) (IsI.new hrq k) (IsI.new hy k) (by omega) (by omega)
                    have hes : ((embP r x y).getD []).length ≤ 30 := Nat.le_trans embP_short lx
                    generalize pvB r x = t1 at *
                    generalize pleB r x y = t3 at *
                    generalize (embP r x y).isSome = t4 at *
                    generalize (embP r x y).getD [] = oq at *
                    generalize pprB r x y p = t6 at *
                    have HX := Lib.hid hx
                    have HY := Lib.hid hy
                    have HPQ := Lib.hid hpq
                    have HRQ := Lib.hid hrq
                    have HBQ := Lib.hid hbq
                    have HV1 := Lib.hid hv1
                    have HV2 := Lib.hid hv2
                    have HL1 := Lib.hid hl1
                    have HL2 := Lib.hid hl2
                    have HE1 := Lib.hid he1
                    have HE2 := Lib.hid he2
                    have HP1' := Lib.hid hp1'
                    have HP2' := Lib.hid hp2'
                    have HQ1' := Lib.hid hq1'
                    have HQ2' := Lib.hid hq2'
                    have HD1' := Lib.hid hd1'
                    have HD2' := Lib.hid hd2'
                    have HKQ := Lib.hid hkq
                    clear hx hy hpq hrq hbq hv1 hv2 hl1 hl2 he1 he2 hp1' hp2' hq1' hq2' hd1' hd2' hkq
                    clear hkq1 hp0 hp1 lx lp lr
                    go_wp2_with fail
                    refine (HE1.out _ (kf [] wq _)).mono ?_
                    rintro e wa ⟨EA, en, ec, eq, hen, rfl, hei, rfl, hk⟩
                    haveI kqa : KB [] wa _ := ⟨hk⟩
                    have HEN := Lib.hid hen
                    have HEI := Lib.hid hei
                    clear hen hei
                    clear hk
                    go_wp2_with fail
                    refine (HE2.out _ (kf [] wq _)).mono ?_
                    rintro e wb ⟨FA, fn, fc, fq, hfn, rfl, hfi, rfl, hk⟩
                    haveI kqb : KB [] wb _ := ⟨hk⟩
                    have hei2 : IsI wb [b] (.slice EA en ec) fq := IsI.new HEI.out (kf [] wa wb)
                    have hsm := fun W (k : Keeps [] wb W) => same_is (IsI.new hei2 k) (IsI.new hfi k) (by omega) (by omega)
                    rw [decide_eq_true (rfl : fq = fq)] at hsm
                    have hw1 := fun W (k : Keeps [] wb W) => HQ1'.out W ((kf [] wq wb).trans k) _ fq (IsI.new hfi k) hes
                    have hw2 := fun W (k : Keeps [] wb W) => HQ2'.out W ((kf [] wq wb).trans k) _ fq (IsI.new hfi k) hes
                    generalize pprB r x y fq = t7 at *
                    have HFN := Lib.hid hfn
                    have HFI := Lib.hid hfi
                    have HEI2 := Lib.hid hei2
                    have HSM := Lib.hid hsm
                    have HW1 := Lib.hid hw1
                    have HW2 := Lib.hid hw2
                    clear hfn hfi hei2 hsm hw1 hw2
                    clear hk hes
                    go_wp2_with (first
                      | ((with_reducible refine (HSM.out _ (kf [] wb _)).mono ?_); rintro e wz ⟨rfl, hk⟩; haveI kq : KB [] wz _ := ⟨quiet_keeps hk⟩; clear hk)
                      | ((with_reducible refine (HV1.out _ (kf [] wq _)).mono ?_); rintro e wz ⟨rfl, hk⟩; haveI kq : KB [] wz _ := ⟨hk⟩; clear hk)
                      | ((with_reducible refine (HV2.out _ (kf [] wq _)).mono ?_); rintro e wz ⟨rfl, hk⟩; haveI kq : KB [] wz _ := ⟨hk⟩; clear hk)
                      | ((with_reducible refine (HL1.out _ (kf [] wq _)).mono ?_); rintro e wz ⟨rfl, hk⟩; haveI kq : KB [] wz _ := ⟨hk⟩; clear hk)
                      | ((with_reducible refine (HL2.out _ (kf [] wq _)).mono ?_); rintro e wz ⟨rfl, hk⟩; haveI kq : KB [] wz _ := ⟨hk⟩; clear hk))
                    refine (HD1'.out _ (kf [] wq _)).mono ?_
                    rintro e wf ⟨DA, dn, dc, ds, hdn, rfl, hdasc, hdm, hdO, hk⟩
                    haveI kqf : KB [] wf _ := ⟨hk⟩
                    have hdi : IsII wf [b] (.slice DA dn dc) ds := hdO.isL (HBQ.out _ (kf [] wq _))
                    obtain ⟨ht1, ht2⟩ := pdrop_small (by omega) hdasc hdm
                    have HDN := Lib.hid hdn
                    have HDASC := Lib.hid hdasc
                    have HDM := Lib.hid hdm
                    have HDI := Lib.hid hdi
                    have HT1 := Lib.hid ht1
                    have HT2 := Lib.hid ht2
                    clear hdn hdasc hdm hdi ht1 ht2
                    clear hk hdO
                    go_wp2_with fail
                    refine (HD2'.out _ (kf [] wq _)).mono ?_
                    rintro e wg ⟨GA, gn, gc, gs, hgn, rfl, hgasc, hgm, hgi, hk⟩
                    haveI kqg : KB [] wg _ := ⟨hk⟩
                    have egd : gs = ds := asc_ext hgasc HDASC.out (fun z => (hgm z).trans (HDM.out z).symm)
                    rw [egd] at hgi hgn
                    have hdi2 : IsII wg [b] (.slice DA dn dc) ds := IsII.new HDI.out (kf [] wf wg)
                    have hsb := sameall_is hdi2 hgi HT1.out HT1.out HT2.out HT2.out
                    rw [decide_eq_true (rfl : ds = ds)] at hsb
                    have HSB := Lib.hid hsb
                    have HGN := Lib.hid hgn
                    clear hsb hgn
                    clear hk hgasc hgm hgi hdi2 egd
                    go_wp2_with fail
                    refine HSB.out.mono ?_
                    rintro e wh ⟨rfl, hk⟩
                    haveI kqh : KB [] wh _ := ⟨hk⟩
                    clear hk
                    go_wp2_with (first
                      | ((with_reducible refine (HP1'.out _ (kf [] wq _)).mono ?_); rintro e wz ⟨rfl, hk⟩; haveI kq : KB [] wz _ := ⟨hk⟩; clear hk)
                      | ((with_reducible refine (HP2'.out _ (kf [] wq _)).mono ?_); rintro e wz ⟨rfl, hk⟩; haveI kq : KB [] wz _ := ⟨hk⟩; clear hk)
                      | ((with_reducible refine (HW1.out _ (kf [] wb _)).mono ?_); rintro e wz ⟨rfl, hk⟩; haveI kq : KB [] wz _ := ⟨hk⟩; clear hk)
                      | ((with_reducible refine (HW2.out _ (kf [] wb _)).mono ?_); rintro e wz ⟨rfl, hk⟩; haveI kq : KB [] wz _ := ⟨hk⟩; clear hk))
                    go_roundg (4 - i)
                    case measure => omega
                    case rel => exact ⟨i + 1, by omega, by omega, by go_num, HKQ.out.trans (kf [] wq _)⟩
                  · obtain rfl : i = 4 := by omega
                    have hDq : Deck wr b w.heap.size := HDZ.out.kept hkr2
                    have hkq5 : Keeps [b] w5 wr := HKZ.out.trans (hkr2.nil [b])
                    have hrq : IsI wr [b] (.slice Rr rn rc) r := IsI.new HRZ.out hkr2
                    have hbq := Nat.lt_of_lt_of_le hbz hkr2.size
                    have HDQ := Lib.hid hDq
                    have HKQ5 := Lib.hid hkq5
                    have HRQ := Lib.hid hrq
                    clear hDq hkq5 hrq
                    clear hkr2
                    go_wp2_with fail
                    refine (next_any wr b w.heap.size 4 HDQ.out (by omega)).mono ?_
                    rintro e wB ⟨x4, rfl, _, hx4, hDB, hkB⟩
                    have hx4 := hx4 (by omega)
                    have hbB := Nat.lt_of_lt_of_le hbq hkB.size
                    have hrB : IsI wB [b] (.slice Rr rn rc) r := IsI.keeps HRQ.out hkB
                    have hk5B := HKQ5.out.trans hkB
                    have HRB := Lib.hid hrB
                    have HK5B := Lib.hid hk5B
                    have HDB := Lib.hid hDB
                    clear hrB hk5B hDB
                    clear hkB
                    go_wp2_with fail
                    have halB : Keeps [] wB (wB.alloc (.cells #[.int .i64 most, .int .i64 (x4 : Int), .int .i64 (-1)] 3)) := (Keeps.refl _ _).alloc _
                    have hcl : ∀ i, i < 3 → (wB.alloc (.cells #[.int .i64 most, .int .i64 (x4 : Int), .int .i64 (-1)] 3)).cell? ⟨wB.heap.size, i, none⟩ = some (.int .i64 (([most, (x4 : Int), -1] : List Int).getD i 0)) := fun i hi => by
                      have hc : i = 0 ∨ i = 1 ∨ i = 2 := by omega
                      rcases hc with rfl | rfl | rfl <;> exact World.cell?_alloc_new _ _ _ _
                    have hkr0 : ∀ i, i < 3 → -9223372036854775808 ≤ ([most, (x4 : Int), -1] : List Int).getD i 0 ∧ ([most, (x4 : Int), -1] : List Int).getD i 0 ≤ 9223372036854775807 := fun i hi => by
                      have hc : i = 0 ∨ i = 1 ∨ i = 2 := by omega
                      rcases hc with rfl | rfl | rfl
                      · exact ⟨hmo1, hmo2⟩
                      · show -9223372036854775808 ≤ (x4 : Int) ∧ (x4 : Int) ≤ 9223372036854775807; omega
                      · show (-9223372036854775808 : Int) ≤ -1 ∧ (-1 : Int) ≤ 9223372036854775807; omega
                    have hrC := IsI.new HRB.out halB
                    have hDC := HDB.out.kept halB
                    have hk5C := HK5B.out.trans (halB.nil [b])
                    have hbC := Nat.lt_of_lt_of_le hbB halB.size
                    generalize ([most, (x4 : Int), -1] : List Int) = kk at *
                    generalize wB.alloc (.cells #[.int .i64 most, .int .i64 (x4 : Int), .int .i64 (-1)] 3) = wC at *
                    generalize wB.heap.size = gB at *
                    have HKR0 := Lib.hid hkr0
                    have HCL := Lib.hid hcl
                    have HRC := Lib.hid hrC
                    have HDC := Lib.hid hDC
                    have HK5C := Lib.hid hk5C
                    clear hcl hrC hDC hk5C
                    clear halB hkr0
                    go_loopg [180] 4 (fun gh iv wr => ∃ i : Nat, 4 ≤ i + gh ∧ i ≤ 3 ∧ iv = .int .i64 (i : Int) ∧ Keeps [] wC wr)
                    case atStart => exact ⟨0, by omega, by omega, rfl, Keeps.refl _ _⟩
                    case round =>
                      obtain ⟨i, hgh3, hi3, rfl, hkr3⟩ := hrel
                      by_cases hi : i < 3
                      · have hck := hkr3.read (HCL.out i hi) (by simp)
                        have hrk := HKR0.out i hi
                        generalize kk.getD i 0 = k at *
                        have hrw := IsI.new HRC.out hkr3
                        have hbw := Nat.lt_of_lt_of_le hbC hkr3.size
                        have lr : r.length ≤ 12 := by rw [HRN.out]; exact hrl
                        have hbl : ∀ W, Keeps [] wr W → ∀ q ∈ [b], q < W.heap.size := fun W k q hq => by rw [List.mem_singleton.1 hq]; exact Nat.lt_of_lt_of_le hbw k.size
                        have hf1 := fun W (kp : Keeps [] wr W) => (falling_all (l := [b]) (r := r) (most := k) (hbl W kp) (IsI.new hrw kp) (by omega) hrk).mono (fun e w' h => fg_read (hbl W kp) h)
                        have hf2 := fun W (kp : Keeps [] wr W) => (rfalling_all (l := [b]) (r := r) (most := k) (hbl W kp) (IsI.new hrw kp) (by omega) hrk).mono (fun e w' h => rfg_read h)
                        have hii : (i : Int) < 3 := by omega
                        generalize fgE r = z at *
                        have HKS3 := Lib.hid hkr3
                        have HF1 := Lib.hid hf1
                        have HF2 := Lib.hid hf2
                        clear hf1 hf2
                        clear hrk hrw hbl hkr3 lr
                        go_wp2_with fail
                        refine (HF1.out _ (Keeps.refl _ _)).mono ?_
                        rintro e wa ⟨EA, en, ec, ys, hen, rfl, hasc, hmem, hei, hk⟩
                        haveI kqa : KB [] wa _ := ⟨hk⟩
                        obtain ⟨hs1, hs2⟩ := fg_small hasc hmem
                        have HEN := Lib.hid hen
                        have HASC := Lib.hid hasc
                        have HMEM := Lib.hid hmem
                        have HEI := Lib.hid hei
                        have HS1 := Lib.hid hs1
                        have HS2 := Lib.hid hs2
                        clear hen hasc hmem hei hs1 hs2
                        clear hk
                        go_wp2_with fail
                        refine (HF2.out _ (kf [] wr wa)).mono ?_
                        rintro e wb ⟨FA, fn, fc, zs, hfn, rfl, hasd, hmed, hfi, hk⟩
                        haveI kqb : KB [] wb _ := ⟨hk⟩
                        have ezy : zs = ys := asc_ext hasd HASC.out (fun q => (hmed q).trans (HMEM.out q).symm)
                        rw [ezy] at hfi hfn
                        have hei2 : IsII wb [b] (.slice EA en ec) ys := IsII.new HEI.out (kf [] wa wb)
                        have hsa := sameall_is hei2 hfi HS1.out HS1.out HS2.out HS2.out
                        rw [decide_eq_true (rfl : ys = ys)] at hsa
                        have HSA := Lib.hid hsa
                        have HFN := Lib.hid hfn
                        clear hsa hfn
                        clear hk hasd hmed hfi hei2 ezy
                        go_wp2_with fail
                        refine HSA.out.mono ?_
                        rintro e wc ⟨rfl, hk⟩
                        haveI kqc : KB [] wc _ := ⟨hk⟩
                        clear hk
                        go_wp2_with fail
                        go_roundg (3 - i)
                        case measure => omega
                        case rel => exact ⟨i + 1, by omega, by omega, by go_num, HKS3.out.trans (kf [] wr wc)⟩
                      · obtain rfl : i = 3 := by omega
                        have HKS3 := Lib.hid hkr3
                        clear hkr3
                        go_wp2_with fail
                        go_roundg (3 - j)
                        case measure => omega
                        case rel => exact ⟨j + 1, by omega, by omega, by go_num, HDC.out.kept HKS3.out, HK5C.out.trans (HKS3.out.nil [b])⟩
              · obtain rfl : j = 3 := by omega
                go_wp2_with fail
                go_ret
                exact ⟨rfl, HB2.out.trans ((HK5.out.trans hkr).below (by simp; omega) (by omega))⟩
          · have d3 : decide ((30 : Int) < (n3 : Int)) = true := decide_eq_true (by omega)
            have e3 : decide (30 < n3) = true := decide_eq_true (by omega)
            go_enter Try.func3, Try.ntmps3
            go_wp2_with fail
            refine (awake_any w).mono ?_
            rintro e w1 ⟨rfl, hb1⟩
            go_wp2_with fail
            refine (few_any w1 A0 len cap).mono ?_
            rintro e w' ⟨rfl, rfl⟩
            rw [hd]
            go_wp2_with fail
            refine (awake_any w1).mono ?_
            rintro e w2 ⟨rfl, hb2⟩
            go_wp2_with fail
            go_ret
            exact ⟨rfl, hb1.trans (hb2.mono hb1.size)⟩
        · have d2 : decide ((30 : Int) < (n2 : Int)) = true := decide_eq_true (by omega)
          have e2 : decide (30 < n2) = true := decide_eq_true (by omega)
          go_enter Try.func3, Try.ntmps3
          go_wp2_with fail
          refine (awake_any w).mono ?_
          rintro e w1 ⟨rfl, hb1⟩
          go_wp2_with fail
          refine (few_any w1 A0 len cap).mono ?_
          rintro e w' ⟨rfl, rfl⟩
          rw [hd]
          go_wp2_with fail
          refine (awake_any w1).mono ?_
          rintro e w2 ⟨rfl, hb2⟩
          go_wp2_with fail
          go_ret
          exact ⟨rfl, hb1.trans (hb2.mono hb1.size)⟩
      · have d1 : decide ((30 : Int) < (n1 : Int)) = true := decide_eq_true (by omega)
        have e1 : decide (30 < n1) = true := decide_eq_true (by omega)
        go_enter Try.func3, Try.ntmps3
        go_wp2_with fail
        refine (awake_any w).mono ?_
        rintro e w1 ⟨rfl, hb1⟩
        go_wp2_with fail
        refine (few_any w1 A0 len cap).mono ?_
        rintro e w' ⟨rfl, rfl⟩
        rw [hd]
        go_wp2_with fail
        refine (awake_any w1).mono ?_
        rintro e w2 ⟨rfl, hb2⟩
        go_wp2_with fail
        go_ret
        exact ⟨rfl, hb1.trans (hb2.mono hb1.size)⟩
    · have d0 : decide ((12 : Int) < (n0 : Int)) = true := decide_eq_true (by omega)
      have e0 : decide (12 < n0) = true := decide_eq_true (by omega)
      go_enter Try.func3, Try.ntmps3
      go_wp2_with fail
      refine (awake_any w).mono ?_
      rintro e w1 ⟨rfl, hb1⟩
      go_wp2_with fail
      refine (few_any w1 A0 len cap).mono ?_
      rintro e w' ⟨rfl, rfl⟩
      rw [hd]
      go_wp2_with fail
      refine (awake_any w1).mono ?_
      rintro e w2 ⟨rfl, hb2⟩
      go_wp2_with fail
      go_ret
      exact ⟨rfl, hb1.trans (hb2.mono hb1.size)⟩
  · have hd : decide ((len : Int) ≤ 400) = false := by simp; omega
    go_enter Try.func3, Try.ntmps3
    go_wp2_with fail
    refine (awake_any w).mono ?_
    rintro e w1 ⟨rfl, hb1⟩
    go_wp2_with fail
    refine (few_any w1 A0 len cap).mono ?_
    rintro e w' ⟨rfl, rfl⟩
    rw [hd]
    go_wp2_with fail
    refine (awake_any w1).mono ?_
    rintro e w2 ⟨rfl, hb2⟩
    go_wp2_with fail
    go_ret
    exact ⟨rfl, hb1.trans (hb2.mono hb1.size)⟩
end Go.Proofs.Ytmjnicikikgncaa
