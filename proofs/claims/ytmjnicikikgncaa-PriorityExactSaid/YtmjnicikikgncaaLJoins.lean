/- The walk of coverabilitylaw05.PriorityJoins. -/
import Derived.Test.YtmjnicikikgncaaAwake

namespace Go.Proofs.Ytmjnicikikgncaa
set_option linter.unusedVariables false
open Go.RowKit

def RanksPost (n : Nat) (b B : Nat) (w : World) (e : Ending) (w' : World) : Prop :=
  ∃ (A : Option Addr) (c : Nat) (zs : List Int), e = .returned (.slice A n c) ∧ n = zs.length ∧ (∀ z ∈ zs, 0 ≤ z ∧ z ≤ 2) ∧ IsI w' [b] (.slice A n c) zs ∧ Deck w' b B ∧ Keeps [b] w w'
set_option maxHeartbeats 1000000 in
theorem ranks_any (w : World) (b B n : Nat) (hD : Deck w b B) (hn : n ≤ 100) :
    Calls Try.prog 11 #[.pointer (some ⟨b, 0, none⟩), .int .i64 (n : Int)] w (RanksPost n b B w) := by
  have hbl := hD.lt
  have HD := Lib.hid hD
  clear hD
  go_enter Try.func11, Try.ntmps11
  go_wp2_with fail
  refine (small_any w b B n 2 HD.out (by omega) (by omega)).mono ?_
  rintro e w2 ⟨A, c, zs, rfl, hzl, hzr, hown, hD2, hK2⟩
  have hown := isN_own (l := [b]) (xs := zs) (v := .slice A n c) rfl (by rw [hzl]; exact hown)
  have hz : IsI w2 [b] (.slice A n c) zs := hown.isL (by simp; omega)
  have HZL := Lib.hid hzl
  have HZR := Lib.hid hzr
  have HZ := Lib.hid hz
  have HD2 := Lib.hid hD2
  have HK2 := Lib.hid hK2
  clear hzl hzr hz hD2 hK2
  clear hown
  go_wp2_with fail
  go_ret
  exact ⟨A, c, zs, rfl, HZL.out.symm, fun z hz => by have := HZR.out z hz; omega, HZ.out, HD2.out, HK2.out⟩

theorem pvalid_deck {r a : List Int} {n : Nat} (hr : r.length = n) (h1 : 1 ≤ n) (h6 : n ≤ 6) (hz : ∀ z ∈ r, 0 ≤ z ∧ z ≤ 2) (ha : a.length ≤ 12) (hw : ∀ z ∈ a, 0 ≤ z ∧ z ≤ max ((n : Int) - 1) 0) : PValid r a :=
  ⟨⟨by omega, fun x hx => by have := hz x hx; omega⟩, ha, fun x hx => by have := hw x hx; omega⟩

set_option maxRecDepth 100000 in
set_option maxHeartbeats 8000000 in
theorem joins_law_any (w : World) (len cap : Nat) (A0 : Option Addr) (l : Nat → Int) (hR : Rd w w.heap.size A0 len (fun i => .int .i64 (l i))) :
    Calls Try.prog 7 #[.slice A0 len cap] w fun e w' => e = .returned (.bool true) ∧ Below w.heap.size w w' := by
  have HR := Lib.hid hR
  clear hR
  by_cases hlen : len ≤ 400
  · have hd : decide ((len : Int) ≤ 400) = true := by simp; omega
    go_enter Try.func7, Try.ntmps7
    go_wp2_with fail
    refine (awake_any w).mono ?_
    rintro e w1 ⟨rfl, hb1⟩
    have hz1 := hb1.size
    go_wp2_with fail
    refine (few_any w1 A0 len cap).mono ?_
    rintro e w' ⟨rfl, rfl⟩
    rw [hd]
    go_wp2_with fail
    refine (new_any w1 w.heap.size A0 len cap l (HR.out.below hb1) hlen hz1).mono ?_
    rintro e w2 ⟨rfl, hD2, hb2⟩
    have hz2 := hb2.size
    have hbl2 := hD2.lt
    have hB2 := hb1.trans (hb2.mono hz1)
    have HD2 := Lib.hid hD2
    have HB2 := Lib.hid hB2
    clear hD2 hB2
    clear hb1 hb2
    generalize w1.heap.size = b at *
    go_wp2_with fail
    refine (ranks_any w2 b w.heap.size 2 HD2.out (by omega)).mono ?_
    rintro e w3 ⟨Ar, cr, r, rfl, hnr, hrr, hAr, hDr, hK⟩
    have hzr := hK.size
    haveI kbr : KB [b] w3 w2 := ⟨hK⟩
    have HAR := Lib.hid hAr
    have HDR := Lib.hid hDr
    have HNR := Lib.hid hnr
    have HRR := Lib.hid hrr
    clear hAr hDr hnr hrr
    clear hK
    go_wp2_with fail
    refine (word_any w3 b w.heap.size 2 3 HDR.out (by omega) (by omega)).mono ?_
    rintro e w4 ⟨A1, n1, c1, a, rfl, hn1, hle1, har, hA1, hD1, hK⟩
    have hz1 := hK.size
    have hv1 : PValid r a := pvalid_deck (n := 2) HNR.out.symm (by omega) (by omega) HRR.out (by omega) har
    haveI kb1 : KB [b] w4 w3 := ⟨hK⟩
    have HA1 := Lib.hid hA1
    have HD1 := Lib.hid hD1
    have HN1 := Lib.hid hn1
    have HV1 := Lib.hid hv1
    clear hA1 hD1 hn1 hv1
    clear hK har
    go_wp2_with fail
    refine (word_any w4 b w.heap.size 2 5 HD1.out (by omega) (by omega)).mono ?_
    rintro e w5 ⟨A2, n2, c2, v, rfl, hn2, hle2, har, hA2, hD2, hK⟩
    have hz2 := hK.size
    have hv2 : PValid r v := pvalid_deck (n := 2) HNR.out.symm (by omega) (by omega) HRR.out (by omega) har
    haveI kb2 : KB [b] w5 w4 := ⟨hK⟩
    have HA2 := Lib.hid hA2
    have HD2 := Lib.hid hD2
    have HN2 := Lib.hid hn2
    have HV2 := Lib.hid hv2
    clear hA2 hD2 hn2 hv2
    clear hK har
    go_wp2_with fail
    refine (word_any w5 b w.heap.size 2 3 HD2.out (by omega) (by omega)).mono ?_
    rintro e w6 ⟨A3, n3, c3, x, rfl, hn3, hle3, har, hA3, hD3, hK⟩
    have hz3 := hK.size
    have hv3 : PValid r x := pvalid_deck (n := 2) HNR.out.symm (by omega) (by omega) HRR.out (by omega) har
    haveI kb3 : KB [b] w6 w5 := ⟨hK⟩
    have HA3 := Lib.hid hA3
    have HD3 := Lib.hid hD3
    have HN3 := Lib.hid hn3
    have HV3 := Lib.hid hv3
    clear hA3 hD3 hn3 hv3
    clear hK har
    go_wp2_with fail
    refine (word_any w6 b w.heap.size 2 5 HD3.out (by omega) (by omega)).mono ?_
    rintro e w7 ⟨A4, n4, c4, y, rfl, hn4, hle4, har, hA4, hD4, hK⟩
    have hz4 := hK.size
    have hv4 : PValid r y := pvalid_deck (n := 2) HNR.out.symm (by omega) (by omega) HRR.out (by omega) har
    haveI kb4 : KB [b] w7 w6 := ⟨hK⟩
    have HA4 := Lib.hid hA4
    have HD4 := Lib.hid hD4
    have HN4 := Lib.hid hn4
    have HV4 := Lib.hid hv4
    clear hA4 hD4 hn4 hv4
    clear hK har
    have hb7 : b < w7.heap.size := by omega
    have hr7 : IsI w7 [b] (.slice Ar 2 cr) r := IsI.now HAR.out
    have hlb : ∀ W, Keeps [b] w7 W → ∀ q ∈ [b], q < W.heap.size := fun W k q hq => by rw [List.mem_singleton.1 hq]; exact Nat.lt_of_lt_of_le hb7 k.size
    have hL1 := fun W (k : Keeps [b] w7 W) => pleq_is (l := [b]) (hlb W k) (Rok.keeps hr7 k) (Rok.keeps (IsI.now HA1.out (c := w7)) k) (Rok.keeps (IsI.now HA2.out (c := w7)) k) (by rw [← HNR.out]; omega) (by rw [← HN1.out]; omega) (by rw [← HN2.out]; omega)
    have hL2 := fun W (k : Keeps [b] w7 W) => pleq_is (l := [b]) (hlb W k) (Rok.keeps hr7 k) (Rok.keeps (IsI.now HA3.out (c := w7)) k) (Rok.keeps (IsI.now HA4.out (c := w7)) k) (by rw [← HNR.out]; omega) (by rw [← HN3.out]; omega) (by rw [← HN4.out]; omega)
    have hq1 : pleB r a v = true ↔ PLeq r a v := pleB_true
    have hq2 : pleB r x y = true ↔ PLeq r x y := pleB_true
    have hj : PLeq r a v → PLeq r x y → pleB r (a ++ x) (v ++ y) = true := fun h1 h2 => pleB_true.2
      ⟨⟨h1.1.1, by rw [List.length_append, ← HN1.out, ← HN3.out]; omega, fun z hz => (List.mem_append.1 hz).elim (h1.1.2.2 z) (h2.1.2.2 z)⟩,
       ⟨h1.1.1, by rw [List.length_append, ← HN2.out, ← HN4.out]; omega, fun z hz => (List.mem_append.1 hz).elim (h1.2.1.2.2 z) (h2.2.1.2.2 z)⟩, PLe.append h1.2.2 h2.2.2⟩
    generalize pleB r a v = q1 at *
    generalize pleB r x y = q2 at *
    have hkf := fun W (k : Keeps [b] w7 W) => HB2.out.trans (((kf [b] w2 w7).trans k).below (by simp; omega) (by omega))
    have HR7 := Lib.hid hr7
    have HLB := Lib.hid hlb
    have HL1 := Lib.hid hL1
    have HL2 := Lib.hid hL2
    have HJ := Lib.hid hj
    have HKF := Lib.hid hkf
    have HQ1 := Lib.hid hq1
    have HQ2 := Lib.hid hq2
    clear hr7 hlb hL1 hL2 hj hkf hq1 hq2
    by_cases h0 : n1 = 0
    · subst h0
      go_wp2_with fail
      go_ret
      exact ⟨rfl, HKF.out w7 (Keeps.refl _ _)⟩
    · have hd0 : ((n1 : Int) == 0) = false := by rw [beq_eq_false_iff_ne]; omega
      have hc := HL1.out w7 (Keeps.refl _ _)
      have HC := Lib.hid hc
      clear hc
      cases q1 with
      | false =>
        go_wp2_with fail
        refine HC.out.mono ?_
        rintro e w8 ⟨rfl, hk⟩
        have hfin := HKF.out w8 (hk.nil _)
        have HFIN := Lib.hid hfin
        clear hfin
        clear hk
        go_wp2_with fail
        go_ret
        exact ⟨rfl, HFIN.out⟩
      | true =>
        go_wp2_with fail
        refine HC.out.mono ?_
        rintro e w8 ⟨rfl, hk⟩
        have hk8 : Keeps [b] w7 w8 := hk.nil _
        have hc := HL2.out w8 hk8
        have hle1 := HQ1.out.1 (by simp)
        have HC := Lib.hid hc
        have HK8 := Lib.hid hk8
        have HLE1 := Lib.hid hle1
        clear hc hk8 hle1
        clear hk
        cases q2 with
        | false =>
          go_wp2_with fail
          refine HC.out.mono ?_
          rintro e w9 ⟨rfl, hk⟩
          have hfin := HKF.out w9 (HK8.out.trans (hk.nil _))
          have HFIN := Lib.hid hfin
          clear hfin
          clear hk
          go_wp2_with fail
          go_ret
          exact ⟨rfl, HFIN.out⟩
        | true =>
          go_wp2_with fail
          refine HC.out.mono ?_
          rintro e w9 ⟨rfl, hk⟩
          have hk9 : Keeps [b] w7 w9 := HK8.out.trans (hk.nil _)
          have hans := HJ.out HLE1.out (HQ2.out.1 (by simp))
          have ha9 : IsI w9 [b] (.slice A1 n1 c1) a := Rok.keeps (IsI.now HA1.out (c := w7)) hk9
          have hv9 : IsI w9 [b] (.slice A2 n2 c2) v := Rok.keeps (IsI.now HA2.out (c := w7)) hk9
          have hx9 : IsI w9 [b] (.slice A3 n3 c3) x := Rok.keeps (IsI.now HA3.out (c := w7)) hk9
          have hy9 : IsI w9 [b] (.slice A4 n4 c4) y := Rok.keeps (IsI.now HA4.out (c := w7)) hk9
          have hnil : OwL IsN 0 3 w9.heap.size w9 [b] (.slice none 0 0) [] := OwL.nil
          have hl9 : ∀ q ∈ [b], q < w9.heap.size := HLB.out w9 hk9
          have HK9 := Lib.hid hk9
          have HANS := Lib.hid hans
          have HA9 := Lib.hid ha9
          have HV9 := Lib.hid hv9
          have HX9 := Lib.hid hx9
          have HY9 := Lib.hid hy9
          have HNIL := Lib.hid hnil
          have HL9 := Lib.hid hl9
          clear hk9 hans ha9 hv9 hx9 hy9 hnil hl9
          clear hk
          go_wp2_with (first
            | (have _t := hown3; at_builtin; (refine wpList_join (R := IsN) (d := 0) (v := .slice V3 n2 k3) (u := .slice A4 n4 c4) (l := [b]) sl_int rfl _ _ rfl (by rfl) (by rfl) hown3 (hown3.putw HY9.out hk3 hz93) (m := n2 + n4) (by rw [List.nil_append, ← HN2.out, ← HN4.out]) (by omega) hz3 (w0 := w9) (l0 := []) hz93 hk3 ?_; intro V4 k4 wD hown4 hg4 hk4; have hI2D := Rok.keeps hI2C (hg4.more (by intro q hq; exact List.mem_append.2 (.inl hq)))))
            | (have _t := hown2; at_builtin; (refine wpList_join (R := IsN) (d := 0) (v := .slice none 0 0) (u := .slice A2 n2 c2) (l := [b]) sl_int rfl _ _ rfl (by rfl) (by rfl) (OwL.nil (w := wB) (base := wB.heap.size) (l := [b])) (Rok.keeps (R := IsL IsN 0) (l := [b]) HV9.out (hk2.nil _)) (m := n2) (by rw [← HN2.out]; simp) (by omega) (Nat.le_refl _) (w0 := w9) (l0 := []) hk2.size hk2 ?_; intro V3 k3 wC hown3 hg3 hk3; have hz93 := hk2.size; have hz3 := hg3.size; have hI2C : IsI wC ((Value.slice V3 n2 k3).ownBlock.toList ++ [b]) (.slice V2 (n1 + n3) k2) (a ++ x) := Rok.keeps (R := IsI) (Rok.weak (R := IsI) (hown2.isL (l := [b]) HL9.out) (fun q hq => by rcases List.mem_append.1 hq with h | h; exact .inr (hown3.blocks q h).1; exact .inl h)) ((show Keeps [] wB wC from hg3).nil _)))
            | (have _t := hown1; at_builtin; (refine wpList_join (R := IsN) (d := 0) (v := .slice V1 n1 k1) (u := .slice A3 n3 c3) (l := [b]) sl_int rfl _ _ rfl (by rfl) (by rfl) hown1 (hown1.putw HX9.out hk1 (Nat.le_refl _)) (m := n1 + n3) (by rw [List.nil_append, ← HN1.out, ← HN3.out]) (by omega) hk1.size (w0 := w9) (l0 := []) (Nat.le_refl _) hk1 ?_; intro V2 k2 wB hown2 hg2 hk2; have hown2 : OwL IsN 0 3 w9.heap.size wB [b] (.slice V2 (n1 + n3) k2) (a ++ x) := hown2; clear hown1))
            | (at_builtin; refine wpList_join sl_int rfl _ _ rfl rfl rfl HNIL.out (show IsL IsN 0 w9 ([] ++ [b]) _ a from HA9.out) (m := n1) (by rw [← HN1.out]; simp) (by omega) (Nat.le_refl _) (w0 := w9) (l0 := []) (Nat.le_refl _) (Keeps.refl _ _) ?_; intro V1 k1 wA hown1 hg1 hk1))
          have hkD : Keeps [b] w7 wD := HK9.out.trans (hk4.nil _)
          have hcD := pleq_is (l := [b]) (HLB.out wD hkD) (Rok.keeps (R := IsI) HR7.out hkD) (Rok.weak (R := IsI) hI2D (fun q hq => .inl (List.mem_append.2 (.inr hq))))
            (show IsI wD [b] (.slice V4 (n2 + n4) k4) (v ++ y) from hown4.isL (l := [b]) (fun q hq => Nat.lt_of_lt_of_le (HL9.out q hq) hz93))
            (by rw [← HNR.out]; omega) (by rw [List.length_append, ← HN1.out, ← HN3.out]; omega) (by rw [List.length_append, ← HN2.out, ← HN4.out]; omega)
          rw [HANS.out] at hcD
          refine hcD.mono ?_
          rintro e w10 ⟨rfl, hk⟩
          have hfin := HKF.out w10 (hkD.trans (hk.nil _))
          have HFIN := Lib.hid hfin
          clear hfin
          clear hk hcD hkD hI2D hown4 hown3 hown2 hg4 hg3 hg2 hg1 hk4 hk3 hk2 hk1
          go_wp2_with fail
          go_ret
          exact ⟨rfl, HFIN.out⟩
  · have hd : decide ((len : Int) ≤ 400) = false := by simp; omega
    go_enter Try.func7, Try.ntmps7
    go_wp2_with fail
    refine (awake_any w).mono ?_
    rintro e w1 ⟨rfl, hb1⟩
    go_wp2_with fail
    refine (few_any w1 A0 len cap).mono ?_
    rintro e w' ⟨rfl, rfl⟩
    rw [hd]
    go_wp2_with fail
    refine (awake_any w1).mono ?_
    rintro e w2 ⟨rfl, hb2⟩
    go_wp2_with fail
    go_ret
    exact ⟨rfl, hb1.trans (hb2.mono hb1.size)⟩
end Go.Proofs.Ytmjnicikikgncaa
