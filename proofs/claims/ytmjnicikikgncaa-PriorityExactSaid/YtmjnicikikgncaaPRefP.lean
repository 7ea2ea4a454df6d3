/- The walk of the reference's Proves. -/
import Derived.Test.YtmjnicikikgncaaPRef
import Derived.Test.YtmjnicikikgncaaPExL
import Derived.Deep.QuietTactic
namespace Go.Proofs.Ytmjnicikikgncaa
set_option linter.unusedVariables false
open Go.RowKit
set_option maxRecDepth 100000 in
set_option maxHeartbeats 4000000 in
theorem rpproves_is {w : World} {l : List Nat} {rv av bv pv : Value} {r a b p : List Int} (hr : IsI w l rv r) (ha : IsI w l av a) (hb : IsI w l bv b) (hp : IsI w l pv p) (hn : r.length ≤ 1000) (ham : a.length ≤ 1000) (hm : b.length ≤ 1000) (ho : p.length ≤ 1000) : Calls Try.prog 24 #[rv, av, bv, pv] w (RetB (pprB r a b p) w) := by
  unfold RetB
  obtain ⟨R, c0, rfl, _, _, h0⟩ := hr.open
  obtain ⟨A, c, rfl, _, _, h1⟩ := ha.open
  obtain ⟨B, c', rfl, _, _, h2⟩ := hb.open
  obtain ⟨C, c2, rfl, _, _, h3⟩ := hp.open
  have hma := rpvalid_is hr ha (by omega) (by omega)
  have hmb := fun W (k : Keeps [] w W) => rpvalid_is (hr.new k) (hb.new k) (by omega) (by omega)
  by_cases hva : PValid r a
  · rw [pvB_true.2 hva] at hma
    by_cases hvb : PValid r b
    · rw [pvB_true.2 hvb] at hmb
      have hpl := fun W (k : Keeps [] w W) => places_is (IsI.new ha k) (IsI.new hb k) (IsI.new hp k) (by omega) (by omega) (by omega)
      have hpr : pprB r a b p = true ↔ prL (rkF r) a b p 0 := by rw [pprB_true]; exact ⟨fun h => h.2.2, fun h => ⟨hva, hvb, h⟩⟩
      by_cases hpo : PlOf a b p
      · rw [plB_true.2 hpo] at hpl
        have hlen := hpo.len
        rw [hlen] at h3 ⊢
        simp only [hlen] at hpl
        have hbr : ∀ k, k < b.length → 0 ≤ b.getD k 0 ∧ b.getD k 0 < r.length := fun k hk => hvb.2.2 _ (getD_mem hk)
        have har : ∀ k, k < a.length → 0 ≤ a.getD k 0 ∧ a.getD k 0 < r.length := fun k hk => hva.2.2 _ (getD_mem hk)
        generalize hrn : r.length = rn at *
        generalize hna : a.length = n at *
        generalize hnb : b.length = m at *
        have H0 := Lib.hid h0
        have H1 := Lib.hid h1
        have H2 := Lib.hid h2
        have H3 := Lib.hid h3
        have HRN := Lib.hid hrn
        have HNA := Lib.hid hna
        have HNB := Lib.hid hnb
        have HR := Lib.hid hr
        have HA := Lib.hid ha
        have HB := Lib.hid hb
        have HP := Lib.hid hp
        have HMA := Lib.hid hma
        have HMB := Lib.hid hmb
        have HVA := Lib.hid hva
        have HVB := Lib.hid hvb
        have HPL := Lib.hid hpl
        have HPR := Lib.hid hpr
        have HPO := Lib.hid hpo
        have HLEN := Lib.hid hlen
        have HBR := Lib.hid hbr
        have HAR := Lib.hid har
        clear h0 h1 h2 h3 hrn hna hnb hr ha hb hp hma hmb hva hvb hpl hpr hpo hlen hbr har
        go_enter Try.func24, Try.ntmps24
        go_wp2_with fail
        refine HMA.out.mono ?_
        rintro e w1 ⟨rfl, hk1⟩
        have hcb := HMB.out w1 hk1
        have HCB := Lib.hid hcb
        have HK1 := Lib.hid hk1
        clear hcb hk1
        go_wp2_with fail
        refine HCB.out.mono ?_
        rintro e w2 ⟨rfl, hk2⟩
        have hk2 := HK1.out.trans hk2
        have HK2 := Lib.hid hk2
        clear hk2
        have hcp := HPL.out w2 HK2.out
        have HCP := Lib.hid hcp
        clear hcp
        go_wp2_with fail
        refine HCP.out.mono ?_
        rintro e w3 ⟨rfl, hk3⟩
        have hk3 := HK2.out.trans hk3
        have HK3 := Lib.hid hk3
        clear hk3
        by_cases hn0 : n = 0
        · subst hn0
          have hres : pprB r a b p = ((m : Int) == 0) := by
            have ea : a = [] := List.eq_nil_of_length_eq_zero HNA.out
            have ep : p = [] := List.eq_nil_of_length_eq_zero HLEN.out
            rw [Bool.eq_iff_iff, HPR.out, ea, ep]
            show 0 = b.length ↔ _
            rw [HNB.out, beq_iff_eq]; omega
          have HRES := Lib.hid hres
          clear hres
          go_wp2_with fail
          go_ret
          exact ⟨ret_bo HRES.out.symm, HK3.out⟩
        · have hn1 : ((n : Int) == 0) = false := by rw [beq_eq_false_iff_ne]; omega
          have hlastp : pprB r a b p = true → p.getD (n - 1) 0 = (m : Int) - 1 := fun h => by
            have := (prL_places (HPR.out.1 h)).2.2.2 (fun e => hn0 (by rw [← HNA.out, e]; rfl))
            rw [HNA.out, HNB.out] at this; exact this
          obtain ⟨pl, rfl, hpl⟩ := (H3.out.keeps (HK3.out.nil l)).at_ (show n - 1 < n by omega)
          have hw1 : IntKind.i64.wrap ((n : Int) - 1) = (n : Int) - 1 := IntWalk.i64_in _ (by omega)
          have hw2 : ((n : Int) - 1).toNat = n - 1 := by omega
          have hw3 : (0 : Int) ≤ (n : Int) - 1 := by omega
          have hw4 : (n : Int) - 1 < (n : Int) := by omega
          have hw5 : IntKind.i64.wrap ((m : Int) - 1) = (m : Int) - 1 := IntWalk.i64_in _ (by omega)
          generalize hx : p.getD (n - 1) 0 = x at *
          have HX := Lib.hid hx
          have HLASTP := Lib.hid hlastp
          clear hx hlastp
          by_cases hxl : x = (m : Int) - 1
          · have d1 : (x != (m : Int) - 1) = false := by simpa using hxl
            have HXL := Lib.hid hxl
            clear hxl
            go_wp2_with fail
            go_loopg [9, 10] (n + 1) (fun gh fv iv wr => ∃ i f : Nat, n + 1 ≤ i + gh ∧ i ≤ n ∧ iv = .int .i64 (i : Int) ∧ fv = .int .i64 (f : Int) ∧ (0 < i → (f : Int) = p.getD (i - 1) 0 + 1) ∧ (i = 0 → f = 0) ∧ (pprB r a b p = true ↔ prL (rkF r) (a.drop i) b (p.drop i) f) ∧ Keeps [] w wr)
            case atStart => exact ⟨0, 0, by omega, by omega, rfl, rfl, fun h => absurd h (by omega), fun _ => rfl, by simpa using HPR.out, HK3.out⟩
            case round =>
              obtain ⟨i, f, hgh, hi, rfl, rfl, hf1, hf0, hs, hkr⟩ := hrel
              have HKR := Lib.hid hkr
              have HF1 := Lib.hid hf1
              have HF0 := Lib.hid hf0
              clear hkr hf1 hf0
              by_cases hlt : i < n
              · rw [prL_step (by rw [HNA.out]; exact hlt) (by rw [HLEN.out]; exact hlt), HNB.out] at hs
                have hkw := HKR.out.nil l
                obtain ⟨pa, rfl, hpa⟩ := (H1.out.keeps hkw).at_ hlt
                obtain ⟨pc, epc, hpc⟩ := (H3.out.keeps hkw).at_ hlt
                injection epc with epc
                subst epc
                have hp1 := HPO.out.low i (by rw [HNA.out]; exact hlt)
                have hp2 := HPO.out.high i (by rw [HNA.out]; exact hlt)
                have hp3 := HPO.out.letter i (by rw [HNA.out]; exact hlt)
                have hp4 := HPO.out.asc i (by rw [HNA.out]; exact hlt)
                have har := HAR.out i hlt
                rw [HNB.out] at hp2
                have hfq : (f : Int) ≤ p.getD i 0 := by
                  by_cases e : i = 0
                  · rw [HF0.out e]; exact hp1
                  · have := HF1.out (by omega); have := hp4 (by omega); omega
                clear hp4
                generalize hx2 : p.getD i 0 = x2 at *
                obtain ⟨q, rfl⟩ : ∃ q : Nat, x2 = (q : Int) := ⟨x2.toNat, by omega⟩
                rw [Int.toNat_natCast] at hp3 hs
                have hfq : f ≤ q := by omega
                have hqm : q < m := by omega
                generalize hz : a.getD i 0 = z at *
                obtain ⟨z, rfl⟩ : ∃ i : Nat, z = (i : Int) := ⟨z.toNat, by omega⟩
                have hzr : z < rn := by omega
                obtain ⟨pz, rfl, hpz⟩ := (H0.out.keeps hkw).at_ hzr
                have hrz : rkF r (z : Int) = r.getD z 0 := rfl
                have hcv : ∀ W : Prop, W → W := fun _ h => h
                have hcov : Cov (rkF r) b f q ↔ ∀ d, f ≤ d → d < q → rkF r (b.getD d 0) ≤ r.getD z 0 := by
                  unfold Cov; rw [hp3, hrz]
                generalize r.getD z 0 = vz at *
                have HS := Lib.hid hs
                have HCOV := Lib.hid hcov
                have HP3 := Lib.hid hp3
                have HX2 := Lib.hid hx2
                have HZ := Lib.hid hz
                have HRZ := Lib.hid hrz
                clear hs hcov hp3 hx2 hz hrz
                clear hp1 hp2 har hcv hpz hpa hpc
                have hq4 : (0 : Int) ≤ (z : Int) := by omega
                have hq5 : (z : Int) < (rn : Int) := by omega
                go_wp2_with fail
                go_loopg [11] (q + 1) (fun gh kv wr' => ∃ k : Nat, q + 1 ≤ k + gh ∧ f ≤ k ∧ k ≤ q ∧ kv = .int .i64 (k : Int) ∧ (∀ d, f ≤ d → d < k → rkF r (b.getD d 0) ≤ vz) ∧ Keeps [] w wr')
                case atStart => exact ⟨f, by omega, by omega, by omega, rfl, fun d h1 h2 => by omega, HKR.out⟩
                case round =>
                  obtain ⟨k, hgh2, hfk, hkq, rfl, hrel2, hkr2⟩ := hrel
                  have hkw := hkr2.nil l
                  obtain ⟨pa1, ea1, hpa⟩ := (H1.out.keeps hkw).at_ hlt
                  obtain ⟨pc1, ec1, hpc⟩ := (H3.out.keeps hkw).at_ hlt
                  injection ea1 with ea1
                  injection ec1 with ec1
                  subst ea1; subst ec1
                  rw [HX2.out] at hpc
                  rw [HZ.out] at hpa
                  have HREL2 := Lib.hid hrel2
                  have HKR2 := Lib.hid hkr2
                  clear hrel2 hkr2
                  by_cases hlt2 : k < q
                  · obtain ⟨pb, rfl, hpb⟩ := (H2.out.keeps hkw).at_ (show k < m by omega)
                    have hbr := HBR.out k (by omega)
                    obtain ⟨pz1, ez1, hpz⟩ := (H0.out.keeps hkw).at_ hzr
                    injection ez1 with ez1
                    subst ez1
                    have hrz2 : r.getD z 0 = vz := HRZ.out.symm.symm
                    rw [hrz2] at hpz
                    generalize hy : b.getD k 0 = y at *
                    obtain ⟨y, rfl⟩ : ∃ i : Nat, y = (i : Int) := ⟨y.toNat, by omega⟩
                    have hyr : y < rn := by omega
                    obtain ⟨py, epy, hpy⟩ := (H0.out.keeps hkw).at_ hyr
                    injection epy with epy
                    subst epy
                    have hry : rkF r (y : Int) = r.getD y 0 := rfl
                    generalize r.getD y 0 = vy at *
                    have hq6 : (0 : Int) ≤ (y : Int) := by omega
                    have hq7 : (y : Int) < (rn : Int) := by omega
                    have hq8 : (k : Int) < (m : Int) := by omega
                    have HY := Lib.hid hy
                    have HRY := Lib.hid hry
                    clear hy hry
                    clear hkw hbr hrz2
                    by_cases hgt : vz < vy
                    · have d2 : decide (vz < vy) = true := decide_eq_true hgt
                      have hf : Hid (pprB r a b p = false) := pprB_false.2 fun h => by
                        have := HCOV.out.1 (HS.out.1 (pprB_true.2 h)).2.2.2.1 k hfk hlt2
                        rw [HY.out, HRY.out] at this; omega
                      go_wp2_with fail
                      go_quiet (fail)
                      go_wp2_with fail
                      go_ret
                      exact ⟨ret_bo hf.out.symm, HKR2.out.drewN _⟩
                    · have d2 : decide (vz < vy) = false := decide_eq_false hgt
                      go_wp2_with fail
                      go_quiet (fail)
                      go_wp2_with fail
                      go_roundg (q - k)
                      case measure => omega
                      case rel => exact ⟨k + 1, by omega, by omega, by omega, by go_num, fun d h1 h2 => by
                        by_cases e : d = k
                        · subst e; rw [HY.out, HRY.out]; omega
                        · exact HREL2.out d h1 (by omega), HKR2.out.drewN _⟩
                  · obtain rfl : k = q := by omega
                    have hnext := HS.out.trans ⟨fun h => h.2.2.2.2, fun h => ⟨by omega, by omega, HP3.out, HCOV.out.2 HREL2.out, h⟩⟩
                    have HNEXT := Lib.hid hnext
                    clear hnext
                    clear hkw
                    go_wp2_with fail
                    go_roundg (n - i)
                    case measure => omega
                    case rel => exact ⟨i + 1, k + 1, by omega, by omega, by go_num, by go_num, fun _ => by rw [Nat.add_sub_cancel, HX2.out]; rfl, fun h => absurd h (by omega), HNEXT.out, HKR2.out⟩
              · obtain rfl : i = n := by omega
                rw [prL_end (by rw [HNA.out]; exact Nat.le_refl _) (by rw [HLEN.out]; exact Nat.le_refl _), HNB.out] at hs
                have hfm : f = m := by
                  have := HF1.out (by omega)
                  rw [HX.out, HXL.out] at this; omega
                have hres : Hid (pprB r a b p = true) := hs.2 hfm
                clear hs hfm
                go_wp2_with fail
                go_ret
                exact ⟨ret_bo hres.out.symm, HKR.out⟩
          · have d1 : (x != (m : Int) - 1) = true := by simpa using hxl
            have hf : Hid (pprB r a b p = false) := Bool.eq_false_iff.2 fun h => hxl (by rw [← HLASTP.out h])
            have HXL := Lib.hid hxl
            clear hxl
            go_wp2_with fail
            go_ret
            exact ⟨ret_bo hf.out.symm, HK3.out⟩
      · rw [plB_false.2 hpo] at hpl
        have hf := Bool.eq_false_iff.2 (fun h => hpo (prL_places (hpr.1 h)).2.1)
        generalize r.length = rn at *
        generalize a.length = n at *
        generalize b.length = m at *
        generalize p.length = k at *
        have H0 := Lib.hid h0
        have H1 := Lib.hid h1
        have H2 := Lib.hid h2
        have H3 := Lib.hid h3
        have HR := Lib.hid hr
        have HA := Lib.hid ha
        have HB := Lib.hid hb
        have HP := Lib.hid hp
        have HMA := Lib.hid hma
        have HMB := Lib.hid hmb
        have HVA := Lib.hid hva
        have HVB := Lib.hid hvb
        have HPL := Lib.hid hpl
        have HPR := Lib.hid hpr
        have HPO := Lib.hid hpo
        have HF := Lib.hid hf
        clear h0 h1 h2 h3 hr ha hb hp hma hmb hva hvb hpl hpr hpo hf
        go_enter Try.func24, Try.ntmps24
        go_wp2_with fail
        refine HMA.out.mono ?_
        rintro e w1 ⟨rfl, hk1⟩
        have hcb := HMB.out w1 hk1
        have HCB := Lib.hid hcb
        have HK1 := Lib.hid hk1
        clear hcb hk1
        go_wp2_with fail
        refine HCB.out.mono ?_
        rintro e w2 ⟨rfl, hk2⟩
        have hk2 := HK1.out.trans hk2
        have HK2 := Lib.hid hk2
        clear hk2
        have hcp := HPL.out w2 HK2.out
        have HCP := Lib.hid hcp
        clear hcp
        go_wp2_with fail
        refine HCP.out.mono ?_
        rintro e w3 ⟨rfl, hk3⟩
        have hk3 := HK2.out.trans hk3
        have HK3 := Lib.hid hk3
        clear hk3
        go_wp2_with fail
        go_ret
        exact ⟨ret_bo HF.out.symm, HK3.out⟩
    · rw [pvB_false.2 hvb] at hmb
      have hf := pprB_false.2 (fun h : PPrv r a b p => hvb h.2.1)
      generalize r.length = rn at *
      generalize a.length = n at *
      generalize b.length = m at *
      generalize p.length = k at *
      have H0 := Lib.hid h0
      have H1 := Lib.hid h1
      have H2 := Lib.hid h2
      have H3 := Lib.hid h3
      have HR := Lib.hid hr
      have HA := Lib.hid ha
      have HB := Lib.hid hb
      have HP := Lib.hid hp
      have HMA := Lib.hid hma
      have HMB := Lib.hid hmb
      have HVA := Lib.hid hva
      have HVB := Lib.hid hvb
      have HF := Lib.hid hf
      clear h0 h1 h2 h3 hr ha hb hp hma hmb hva hvb hf
      go_enter Try.func24, Try.ntmps24
      go_wp2_with fail
      refine HMA.out.mono ?_
      rintro e w1 ⟨rfl, hk1⟩
      have hcb := HMB.out w1 hk1
      have HCB := Lib.hid hcb
      have HK1 := Lib.hid hk1
      clear hcb hk1
      go_wp2_with fail
      refine HCB.out.mono ?_
      rintro e w2 ⟨rfl, hk2⟩
      have hk2 := HK1.out.trans hk2
      have HK2 := Lib.hid hk2
      clear hk2
      go_wp2_with fail
      go_ret
      exact ⟨ret_bo HF.out.symm, HK2.out⟩
  · rw [pvB_false.2 hva] at hma
    have hf := pprB_false.2 (fun h : PPrv r a b p => hva h.1)
    generalize r.length = rn at *
    generalize a.length = n at *
    generalize b.length = m at *
    generalize p.length = k at *
    have H0 := Lib.hid h0
    have H1 := Lib.hid h1
    have H2 := Lib.hid h2
    have H3 := Lib.hid h3
    have HR := Lib.hid hr
    have HA := Lib.hid ha
    have HB := Lib.hid hb
    have HP := Lib.hid hp
    have HMA := Lib.hid hma
    have HMB := Lib.hid hmb
    have HVA := Lib.hid hva
    have HF := Lib.hid hf
    clear h0 h1 h2 h3 hr ha hb hp hma hmb hva hf
    go_enter Try.func24, Try.ntmps24
    go_wp2_with fail
    refine HMA.out.mono ?_
    rintro e w1 ⟨rfl, hk1⟩
    have HK1 := Lib.hid hk1
    clear hk1
    go_wp2_with fail
    go_ret
    exact ⟨ret_bo HF.out.symm, HK1.out⟩
end Go.Proofs.Ytmjnicikikgncaa
