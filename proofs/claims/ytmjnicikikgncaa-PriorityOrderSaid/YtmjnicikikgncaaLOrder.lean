/- The walk of coverabilitylaw05.PriorityOrder. (Under way.) -/
import Derived.Test.YtmjnicikikgncaaLJoins
import Derived.Test.YtmjnicikikgncaaREmbedW
import Derived.Test.YtmjnicikikgncaaQuietK
import Derived.Deep.DeepCutAuto


namespace Go.Proofs.Ytmjnicikikgncaa
set_option linter.unusedVariables false
open Go.RowKit

theorem plast {r a b : List Int} (h : PLeq r a b) : (a = [] ↔ b = []) ∧ (a ≠ [] → a.getD (a.length - 1) 0 = b.getD (b.length - 1) 0) := by
  refine ⟨⟨fun e => ?_, fun e => ?_⟩, fun ha => ((h.2.2.last ha).2).symm⟩
  · have := h.2.2
    rw [e] at this
    exact this
  · have := h.2.2
    rw [e] at this
    exact this.nil_right
set_option maxRecDepth 100000 in
set_option maxHeartbeats 8000000 in
theorem order_law_any (w : World) (len cap : Nat) (A0 : Option Addr) (l : Nat → Int) (hR : Rd w w.heap.size A0 len (fun i => .int .i64 (l i))) :
    Calls Try.prog 5 #[.slice A0 len cap] w fun e w' => e = .returned (.bool true) ∧ Below w.heap.size w w' := by
  have HR := Lib.hid hR
  clear hR
  by_cases hlen : len ≤ 400
  · have hd : decide ((len : Int) ≤ 400) = true := by simp; omega
    go_enter Try.func5, Try.ntmps5
    go_wp2_with fail
    refine (awake_any w).mono ?_
    rintro e w1 ⟨rfl, hb1⟩
    have hz1 := hb1.size
    go_wp2_with fail
    refine (few_any w1 A0 len cap).mono ?_
    rintro e w' ⟨rfl, rfl⟩
    rw [hd]
    go_wp2_with fail
    refine (new_any w1 w.heap.size A0 len cap l (HR.out.below hb1) hlen hz1).mono ?_
    rintro e w2 ⟨rfl, hD2, hb2⟩
    have hz2 := hb2.size
    have hbl2 := hD2.lt
    have hB2 := hb1.trans (hb2.mono hz1)
    have HD2 := Lib.hid hD2
    have HB2 := Lib.hid hB2
    clear hD2 hB2
    clear hb1 hb2
    generalize w1.heap.size = b at *
    go_wp2_with fail
    refine (ranks_any w2 b w.heap.size 2 HD2.out (by omega)).mono ?_
    rintro e w3 ⟨Ar, cr, r, rfl, hnr, hrr, hAr, hDr, hK⟩
    have hzr := hK.size
    haveI kbr : KB [b] w3 w2 := ⟨hK⟩
    have HAR := Lib.hid hAr
    have HDR := Lib.hid hDr
    have HNR := Lib.hid hnr
    have HRR := Lib.hid hrr
    clear hAr hDr hnr hrr
    clear hK
    go_wp2_with fail
    refine (word_any w3 b w.heap.size 2 3 HDR.out (by omega) (by omega)).mono ?_
    rintro e w4 ⟨A1, n1, c1, a, rfl, hn1, hle1, har, hA1, hD1, hK⟩
    have hz1 := hK.size
    have hv1 : PValid r a := pvalid_deck (n := 2) HNR.out.symm (by omega) (by omega) HRR.out (by omega) har
    haveI kb1 : KB [b] w4 w3 := ⟨hK⟩
    have HA1 := Lib.hid hA1
    have HD1 := Lib.hid hD1
    have HN1 := Lib.hid hn1
    have HV1 := Lib.hid hv1
    clear hA1 hD1 hn1 hv1
    clear hK har
    go_wp2_with fail
    refine (word_any w4 b w.heap.size 2 5 HD1.out (by omega) (by omega)).mono ?_
    rintro e w5 ⟨A2, n2, c2, v, rfl, hn2, hle2, har, hA2, hD2, hK⟩
    have hz2 := hK.size
    have hv2 : PValid r v := pvalid_deck (n := 2) HNR.out.symm (by omega) (by omega) HRR.out (by omega) har
    haveI kb2 : KB [b] w5 w4 := ⟨hK⟩
    have HA2 := Lib.hid hA2
    have HD2 := Lib.hid hD2
    have HN2 := Lib.hid hn2
    have HV2 := Lib.hid hv2
    clear hA2 hD2 hn2 hv2
    clear hK har
    go_wp2_with fail
    refine (word_any w5 b w.heap.size 2 8 HD2.out (by omega) (by omega)).mono ?_
    rintro e w6 ⟨A3, n3, c3, u, rfl, hn3, hle3, har, hA3, hD3, hK⟩
    have hz3 := hK.size
    have hv3 : PValid r u := pvalid_deck (n := 2) HNR.out.symm (by omega) (by omega) HRR.out (by omega) har
    haveI kb3 : KB [b] w6 w5 := ⟨hK⟩
    have HA3 := Lib.hid hA3
    have HD3 := Lib.hid hD3
    have HN3 := Lib.hid hn3
    have HV3 := Lib.hid hv3
    clear hA3 hD3 hn3 hv3
    clear hK har
    have hb6 : b < w6.heap.size := by omega
    have hr6 : IsI w6 [b] (.slice Ar 2 cr) r := IsI.now HAR.out
    have ha6 : IsI w6 [b] (.slice A1 n1 c1) a := IsI.now HA1.out
    have hv6 : IsI w6 [b] (.slice A2 n2 c2) v := IsI.now HA2.out
    have hu6 : IsI w6 [b] (.slice A3 n3 c3) u := IsI.now HA3.out
    have hlb : ∀ W, Keeps [b] w6 W → ∀ q ∈ [b], q < W.heap.size := fun W k q hq => by rw [List.mem_singleton.1 hq]; exact Nat.lt_of_lt_of_le hb6 k.size
    have hL1 := fun W (k : Keeps [b] w6 W) => pleq_is (l := [b]) (hlb W k) (Rok.keeps hr6 k) (Rok.keeps hv6 k) (Rok.keeps hv6 k) (by rw [← HNR.out]; omega) (by rw [← HN2.out]; omega) (by rw [← HN2.out]; omega)
    have hL2 := fun W (k : Keeps [b] w6 W) => pleq_is (l := [b]) (hlb W k) (Rok.keeps hr6 k) (Rok.keeps ha6 k) (Rok.keeps hv6 k) (by rw [← HNR.out]; omega) (by rw [← HN1.out]; omega) (by rw [← HN2.out]; omega)
    have hL3 := fun W (k : Keeps [b] w6 W) => pleq_is (l := [b]) (hlb W k) (Rok.keeps hr6 k) (Rok.keeps hv6 k) (Rok.keeps hu6 k) (by rw [← HNR.out]; omega) (by rw [← HN2.out]; omega) (by rw [← HN3.out]; omega)
    have hL4 := fun W (k : Keeps [b] w6 W) => pleq_is (l := [b]) (hlb W k) (Rok.keeps hr6 k) (Rok.keeps ha6 k) (Rok.keeps hu6 k) (by rw [← HNR.out]; omega) (by rw [← HN1.out]; omega) (by rw [← HN3.out]; omega)
    have hL5 := fun W (k : Keeps [b] w6 W) => pleq_is (l := [b]) (hlb W k) (Rok.keeps hr6 k) (Rok.keeps hu6 k) (Rok.keeps hv6 k) (by rw [← HNR.out]; omega) (by rw [← HN3.out]; omega) (by rw [← HN2.out]; omega)
    have hS := fun W (k : Keeps [b] w6 W) => same_is (Rok.keeps hv6 k) (Rok.keeps hu6 k) (by rw [← HN2.out]; omega) (by rw [← HN3.out]; omega)
    have hW := fun W (k : Keeps [b] w6 W) => rleq_is (Rok.keeps hv6 k) (Rok.keeps hu6 k) (by rw [← HN2.out]; omega) (by rw [← HN3.out]; omega)
    have hr1 : pleB r a v = true → pleB r v u = true → pleB r a u = true := fun h1 h2 => pleB_true.2 ⟨HV1.out, HV3.out, (pleB_true.1 h1).2.2.trans (pleB_true.1 h2).2.2⟩
    have hr2 : pleB r v u = true → pleB r u v = true → decide (v = u) = true := fun h1 h2 => decide_eq_true ((pleB_true.1 h1).2.2.anti (pleB_true.1 h2).2.2)
    rw [pleB_true.2 (⟨HV2.out, HV2.out, PLe.refl _⟩ : PLeq r v v)] at hL1
    have hwv : ∀ (n : Nat) (x : List Int), n = x.length → (n : Int) ≤ 8 → PValid r x → WValid x := fun n x e h8 hx => ⟨by omega, fun z hz => by have h1 := hx.2.2 z hz; have h2 := HNR.out; omega⟩
    have hww : pleB r v u = true → wleqB v u = true := fun h => wleqB_true.2 ⟨hwv n2 v HN2.out (by omega) HV2.out, hwv n3 u HN3.out (by omega) HV3.out, (pleB_true.1 h).2.2.sub⟩
    have hlast : pleB r v u = true → (v = [] ↔ u = []) ∧ (v ≠ [] → v.getD (v.length - 1) 0 = u.getD (u.length - 1) 0) := fun h => plast (pleB_true.1 h)
    generalize pleB r a v = r1 at *
    generalize pleB r v u = r2 at *
    generalize pleB r a u = r3 at *
    generalize pleB r u v = r4 at *
    generalize decide (v = u) = r5 at *
    generalize wleqB v u = r6 at *
    have HB6 := Lib.hid hb6
    have HR6 := Lib.hid hr6
    have HA6 := Lib.hid ha6
    have HV6 := Lib.hid hv6
    have HU6 := Lib.hid hu6
    have HLB := Lib.hid hlb
    have HL1 := Lib.hid hL1
    have HL2 := Lib.hid hL2
    have HL3 := Lib.hid hL3
    have HL4 := Lib.hid hL4
    have HL5 := Lib.hid hL5
    have HS := Lib.hid hS
    have HW := Lib.hid hW
    have HLAST := Lib.hid hlast
    have HWV := Lib.hid hwv
    clear hb6 hr6 ha6 hv6 hu6 hlb hL1 hL2 hL3 hL4 hL5 hS hW hlast hwv
    have egl := enters_of Try.func28 (by kernel_rfl) rfl
    go_upto_region 5 with fail
    go_cut [67] (fun s67 wx => s67 = .bool false ∧ Keeps [b] w6 wx)
    case first =>
      cases r1 <;> cases r2 <;> cases r3 <;> cases r4 <;> cases r5 <;> cases r6 <;> first
        | (cases hr1 rfl rfl; done)
        | (cases hr2 rfl rfl; done)
        | (cases hww rfl; done)
        | skip
      all_goals
        clear hr1 hr2 hww
        go_wp2_with (first
          | ((with_reducible refine (HL1.out _ (kf [b] w6 _)).mono ?_); rintro e w9 ⟨rfl, hk⟩; haveI kq : KB [b] w9 _ := ⟨hk.nil _⟩; clear hk)
          | ((with_reducible refine (HL2.out _ (kf [b] w6 _)).mono ?_); rintro e w9 ⟨rfl, hk⟩; haveI kq : KB [b] w9 _ := ⟨hk.nil _⟩; clear hk)
          | ((with_reducible refine (HL3.out _ (kf [b] w6 _)).mono ?_); rintro e w9 ⟨rfl, hk⟩; haveI kq : KB [b] w9 _ := ⟨hk.nil _⟩; clear hk)
          | ((with_reducible refine (HL4.out _ (kf [b] w6 _)).mono ?_); rintro e w9 ⟨rfl, hk⟩; haveI kq : KB [b] w9 _ := ⟨hk.nil _⟩; clear hk)
          | ((with_reducible refine (HL5.out _ (kf [b] w6 _)).mono ?_); rintro e w9 ⟨rfl, hk⟩; haveI kq : KB [b] w9 _ := ⟨hk.nil _⟩; clear hk)
          | ((with_reducible refine (HS.out _ (kf [b] w6 _)).mono ?_); rintro e w9 ⟨rfl, hk⟩; haveI kq : KB [b] w9 _ := ⟨(quiet_keeps hk).nil _⟩; clear hk))
        go_meet
        exact ⟨rfl, kf [b] w6 _⟩
    case rest =>
      obtain ⟨rfl, hkc⟩ := hcut
      obtain ⟨wa, hwa⟩ : ∃ wa : World, wa = wc := ⟨_, rfl⟩
      subst hwa
      haveI kbc : KB [b] wa w6 := ⟨hkc⟩
      have hc3 := HL3.out wa hkc
      have HC3 := Lib.hid hc3
      clear hc3
      clear hr1 hr2 hkc
      cases r2 with
      | false =>
        go_wp2_with fail
        refine HC3.out.mono ?_
        rintro e w9 ⟨rfl, hk⟩
        haveI kq : KB [b] w9 wa := ⟨hk.nil _⟩
        clear hk
        have hkf := HB2.out.trans ((kf [b] w2 w9).below (by simp; omega) (by omega))
        have HKF := Lib.hid hkf
        clear hkf
        go_wp2_with fail
        go_ret
        exact ⟨rfl, HKF.out⟩
      | true =>
        have hr6 : r6 = true := hww rfl
        subst hr6
        clear hww
        go_wp2_with fail
        refine HC3.out.mono ?_
        rintro e w9 ⟨rfl, hk⟩
        haveI kq : KB [b] w9 wa := ⟨hk.nil _⟩
        clear hk
        go_wp2_with fail
        have hlst := HLAST.out (by simp)
        by_cases h0 : n2 = 0
        · have ev : v = [] := List.eq_nil_of_length_eq_zero (by rw [← HN2.out]; exact h0)
          have h3 : n3 = 0 := by rw [HN3.out, hlst.1.1 ev]; rfl
          subst h0
          subst h3
          clear hlst ev
          refine wp_quietk (l0 := [b]) (by kernel_rfl) (by kernel_rfl) ?_
          repeat ((with_reducible refine wpQuiet_step (fun K hK => ?_)); go_simp; first
            | ((with_reducible refine hK _ ?_); clear hK K)
            | (apply Exists.intro; refine ⟨fun W hW => ?_, hK _ ?_⟩
               · first
                   | with_reducible exact Eq.refl _
                   | ((have hk6 := (kf [b] w6 _).trans hW); (try go_simp); with_reducible first | done | exact Eq.refl _ | exact ⟨Eq.refl _, Eq.refl _⟩)
                   | ((have hk6 := (kf [b] w6 _).trans hW; refine (HW.out W hk6).mono ?_; rintro e w11 ⟨rfl, hk⟩; exact ⟨Eq.refl _, hW.trans (hk.nil _)⟩))
               clear hK K))
          with_reducible refine wpQuiet_nil ?_
          intro w10 hk10
          haveI kqz : KB [b] w10 w9 := ⟨hk10⟩
          go_wp2_with fail
          go_ret
          exact ⟨rfl, HB2.out.trans ((kf [b] w2 w10).below (by simp; omega) (by omega))⟩
        · have ev : v ≠ [] := fun e => h0 (by rw [HN2.out, e]; rfl)
          have h3 : n3 ≠ 0 := fun e => ev (hlst.1.2 (List.eq_nil_of_length_eq_zero (by rw [← HN3.out]; exact e)))
          have hlz := hlst.2 ev
          rw [← HN2.out, ← HN3.out] at hlz
          obtain ⟨Av, cv, hve, _, _, hrv⟩ := HV6.out.open
          obtain ⟨Au, cu, hue, _, _, hru⟩ := HU6.out.open
          rw [← HN2.out] at hve hrv
          rw [← HN3.out] at hue hru
          injection hve with e1 e2 e3
          injection hue with e4 e5 e6
          subst e1; subst e3; subst e4; subst e6
          obtain ⟨pv, rfl, hpv⟩ := hrv.at_ (show n2 - 1 < n2 by omega)
          obtain ⟨pu, rfl, hpu⟩ := hru.at_ (show n3 - 1 < n3 by omega)
          rw [hlz] at hpv
          generalize u.getD (n3 - 1) 0 = z at *
          have hbv : pv.block ∉ [b] := by
            obtain ⟨a', e, hb, _⟩ := hrv (by omega)
            injection e with e
            subst e; exact hb
          have hbu : pu.block ∉ [b] := by
            obtain ⟨a', e, hb, _⟩ := hru (by omega)
            injection e with e
            subst e; exact hb
          have hcv : ∀ W, Keeps [b] w6 W → W.cell? (pv.add (n2 - 1)) = some (.int .i64 z) := fun W k => k.read hpv (by rw [block_of_add]; exact hbv)
          have hcu : ∀ W, Keeps [b] w6 W → W.cell? (pu.add (n3 - 1)) = some (.int .i64 z) := fun W k => k.read hpu (by rw [block_of_add]; exact hbu)
          have d1 : ((n2 : Int) == 0) = false := by rw [beq_eq_false_iff_ne]; omega
          have d2 : ((n3 : Int) == 0) = false := by rw [beq_eq_false_iff_ne]; omega
          have g1 : IntKind.i64.wrap ((n2 : Int) - 1) = (n2 : Int) - 1 := IntWalk.i64_in _ (by omega)
          have g2 : IntKind.i64.wrap ((n3 : Int) - 1) = (n3 : Int) - 1 := IntWalk.i64_in _ (by omega)
          have g3 : ((n2 : Int) - 1).toNat = n2 - 1 := by omega
          have g4 : ((n3 : Int) - 1).toNat = n3 - 1 := by omega
          have g5 : (0 : Int) ≤ (n2 : Int) - 1 := by omega
          have g6 : (0 : Int) ≤ (n3 : Int) - 1 := by omega
          have g7 : (n2 : Int) - 1 < (n2 : Int) := by omega
          have g8 : (n3 : Int) - 1 < (n3 : Int) := by omega
          have x1 : 1 ≤ n2 := by omega
          have x2 : 0 < n2 := by omega
          have x3 : (1 : Int) ≤ (n2 : Int) := by omega
          have x4 : (0 : Int) < (n2 : Int) := by omega
          have x5 : n2 - 1 < n2 := by omega
          have y1 : 1 ≤ n3 := by omega
          have y2 : 0 < n3 := by omega
          have y3 : (1 : Int) ≤ (n3 : Int) := by omega
          have y4 : (0 : Int) < (n3 : Int) := by omega
          have y5 : n3 - 1 < n3 := by omega
          have HCV := Lib.hid hcv
          have HCU := Lib.hid hcu
          clear hcv hcu
          clear hlst ev hlz hpv hpu hrv hru hbv hbu h0 h3 e2 e5
          refine wp_quietk (l0 := [b]) (by kernel_rfl) (by kernel_rfl) ?_
          repeat ((with_reducible refine wpQuiet_step (fun K hK => ?_)); go_simp; first
            | ((with_reducible refine hK _ ?_); clear hK K)
            | (apply Exists.intro; refine ⟨fun W hW => ?_, hK _ ?_⟩
               · first
                   | with_reducible exact Eq.refl _
                   | ((have hk6 := (kf [b] w6 _).trans hW; have hq1 := HCV.out W hk6; have hq2 := HCU.out W hk6; clear hk6); (try go_simp); with_reducible first | done | exact Eq.refl _ | exact ⟨Eq.refl _, Eq.refl _⟩)
                   | ((have hk6 := (kf [b] w6 _).trans hW; refine (HW.out W hk6).mono ?_; rintro e w11 ⟨rfl, hk⟩; exact ⟨Eq.refl _, hW.trans (hk.nil _)⟩))
               clear hK K))
          with_reducible refine wpQuiet_nil ?_
          intro w10 hk10
          haveI kqz : KB [b] w10 w9 := ⟨hk10⟩
          go_wp2_with fail
          go_ret
          exact ⟨rfl, HB2.out.trans ((kf [b] w2 w10).below (by simp; omega) (by omega))⟩
  · have hd : decide ((len : Int) ≤ 400) = false := by simp; omega
    go_enter Try.func5, Try.ntmps5
    go_wp2_with fail
    refine (awake_any w).mono ?_
    rintro e w1 ⟨rfl, hb1⟩
    go_wp2_with fail
    refine (few_any w1 A0 len cap).mono ?_
    rintro e w' ⟨rfl, rfl⟩
    rw [hd]
    go_wp2_with fail
    refine (awake_any w1).mono ?_
    rintro e w2 ⟨rfl, hb2⟩
    go_wp2_with fail
    go_ret
    exact ⟨rfl, hb1.trans (hb2.mono hb1.size)⟩
end Go.Proofs.Ytmjnicikikgncaa
