/- The walk of priority.Proves. -/
import Derived.Test.YtmjnicikikgncaaPSearch
namespace Go.Proofs.Ytmjnicikikgncaa
set_option linter.unusedVariables false
open Go.RowKit

/-- Places of letters in a word, from one place on, the last one last, each covering what lies before it. -/
def prL (rk : Int → Int) : List Int → List Int → List Int → Nat → Prop
  | [], b, [], f => f = b.length
  | x :: a, b, y :: p, f => (f : Int) ≤ y ∧ y < b.length ∧ b.getD y.toNat 0 = x ∧ Cov rk b f y.toNat ∧ prL rk a b p (y.toNat + 1)
  | _, _, _, _ => False
def PPrv (r a b p : List Int) : Prop := PValid r a ∧ PValid r b ∧ prL (rkF r) a b p 0
open Classical in
noncomputable def pprB (r a b p : List Int) : Bool := decide (PPrv r a b p)
theorem pprB_true {r a b p : List Int} : pprB r a b p = true ↔ PPrv r a b p := by simp [pprB]
theorem pprB_false {r a b p : List Int} : pprB r a b p = false ↔ ¬ PPrv r a b p := by simp [pprB]
theorem prL_len {rk : Int → Int} : ∀ {a b p : List Int} {f : Nat}, prL rk a b p f → p.length = a.length
  | [], b, [], f, _ => rfl
  | x :: a, b, y :: p, f, h => by simp [prL_len h.2.2.2.2]
  | [], b, y :: p, f, h => h.elim
  | x :: a, b, [], f, h => h.elim
theorem prL_step {rk : Int → Int} {a b p : List Int} {i f : Nat} (hi : i < a.length) (hp : i < p.length) :
    prL rk (a.drop i) b (p.drop i) f ↔ (f : Int) ≤ p.getD i 0 ∧ p.getD i 0 < b.length ∧ b.getD (p.getD i 0).toNat 0 = a.getD i 0 ∧ Cov rk b f (p.getD i 0).toNat ∧ prL rk (a.drop (i + 1)) b (p.drop (i + 1)) ((p.getD i 0).toNat + 1) := by
  rw [drop_at hi, drop_at hp]
  rfl
theorem prL_end {rk : Int → Int} {a b p : List Int} {i f : Nat} (hi : a.length ≤ i) (hp : p.length ≤ i) : prL rk (a.drop i) b (p.drop i) f ↔ f = b.length := by
  rw [List.drop_eq_nil_of_le hi, List.drop_eq_nil_of_le hp]; rfl
theorem srch_prL {rk : Int → Int} : ∀ {a b q : List Int} {f : Nat}, srch rk a b f = some q → prL rk a b q f
  | [], b, q, f, h => by
    unfold srch at h
    split at h
    · rename_i e; simp only [Option.some.injEq] at h; subst h; exact e
    · cases h
  | x :: a, b, q, f, h => by
    rw [srch_cons] at h
    obtain ⟨p, hp, h2⟩ := List.exists_of_findSome?_eq_some h
    have hp := List.mem_range.1 hp
    by_cases hc : f ≤ p ∧ b.getD p 0 = x ∧ Cov rk b f p
    · rw [sstep_yes hc] at h2
      obtain ⟨q', h3, rfl⟩ := Option.map_eq_some_iff.1 h2
      exact ⟨by omega, by omega, by rw [Int.toNat_natCast]; exact hc.2.1, by rw [Int.toNat_natCast]; exact hc.2.2, by rw [Int.toNat_natCast]; exact srch_prL h3⟩
    · rw [sstep_no hc] at h2; cases h2

set_option maxRecDepth 100000 in
set_option maxHeartbeats 4000000 in
theorem pproves_is {w : World} {l : List Nat} {rv av bv pv : Value} {r a b p : List Int} (hr : IsI w l rv r) (ha : IsI w l av a) (hb : IsI w l bv b) (hp : IsI w l pv p) (hn : r.length ≤ 1000) (ham : a.length ≤ 1000) (hm : b.length ≤ 1000) (ho : p.length ≤ 1000) : Calls Try.prog 23 #[rv, av, bv, pv] w (RetB (pprB r a b p) w) := by
  unfold RetB
  obtain ⟨R, c0, rfl, _, _, h0⟩ := hr.open
  obtain ⟨A, c, rfl, _, _, h1⟩ := ha.open
  obtain ⟨B, c', rfl, _, _, h2⟩ := hb.open
  obtain ⟨C, c2, rfl, _, _, h3⟩ := hp.open
  have hma := pvalid_is hr ha (by omega) (by omega)
  have hmb := fun W (k : Keeps [] w W) => pvalid_is (hr.new k) (hb.new k) (by omega) (by omega)
  by_cases hva : PValid r a
  · rw [pvB_true.2 hva] at hma
    by_cases hvb : PValid r b
    · rw [pvB_true.2 hvb] at hmb
      by_cases hl : p.length = a.length
      · rw [hl] at h3 ⊢
        have hcov := fun (W : World) (k : Keeps [] w W) (f q : Nat) (hq : q < b.length) (hfq : f ≤ q) => covered_is (w := W) (l := l) (f := f) (p := q) (hr.new k) (hb.new k) (by omega) (by omega) hvb.2.2 hfq hq
        have hs0 : pprB r a b p = true ↔ prL (rkF r) (a.drop 0) b (p.drop 0) 0 := by
          rw [pprB_true]; exact ⟨fun h => h.2.2, fun h => ⟨hva, hvb, h⟩⟩
        generalize hrn : r.length = rn at *
        generalize hna : a.length = n at *
        generalize hnb : b.length = m at *
        have H0 := Lib.hid h0
        have H1 := Lib.hid h1
        have H2 := Lib.hid h2
        have H3 := Lib.hid h3
        have HRN := Lib.hid hrn
        have HNA := Lib.hid hna
        have HNB := Lib.hid hnb
        have HR := Lib.hid hr
        have HA := Lib.hid ha
        have HB := Lib.hid hb
        have HP := Lib.hid hp
        have HMA := Lib.hid hma
        have HMB := Lib.hid hmb
        have HVA := Lib.hid hva
        have HVB := Lib.hid hvb
        have HL := Lib.hid hl
        have HCOV := Lib.hid hcov
        have HS0 := Lib.hid hs0
        clear h0 h1 h2 h3 hrn hna hnb hr ha hb hp hma hmb hva hvb hl hcov hs0
        go_enter Try.func23, Try.ntmps23
        go_wp2_with fail
        refine HMA.out.mono ?_
        rintro e w1 ⟨rfl, hk1⟩
        have hcb := HMB.out w1 hk1
        have HCB := Lib.hid hcb
        have HK1 := Lib.hid hk1
        clear hcb hk1
        go_wp2_with fail
        refine HCB.out.mono ?_
        rintro e w2 ⟨rfl, hk2⟩
        have hk2 := HK1.out.trans hk2
        have HK2 := Lib.hid hk2
        clear hk2
        go_wp2_with fail
        go_loopg [9, 10, 11, 31] (n + 1) (fun gh fv _ _ iv wr => ∃ i f : Nat, n + 1 ≤ i + gh ∧ i ≤ n ∧ f ≤ m ∧ iv = .int .i64 (i : Int) ∧ fv = .int .i64 (f : Int) ∧ (pprB r a b p = true ↔ prL (rkF r) (a.drop i) b (p.drop i) f) ∧ Keeps [] w2 wr)
        case atStart => exact ⟨0, 0, by omega, by omega, by omega, rfl, rfl, HS0.out, Keeps.refl _ _⟩
        case round =>
          obtain ⟨i, f, hgh, hi, hfm, rfl, rfl, hs, hkr⟩ := hrel
          have HKR := Lib.hid hkr
          clear hkr
          by_cases hlt : i < n
          · rw [prL_step (by rw [HNA.out]; exact hlt) (by rw [HL.out]; exact hlt), HNB.out] at hs
            have hkw := (HK2.out.trans HKR.out).nil l
            obtain ⟨pa, rfl, hpa⟩ := (H1.out.keeps hkw).at_ hlt
            obtain ⟨pc, rfl, hpc⟩ := (H3.out.keeps hkw).at_ hlt
            have H2r := Lib.hid (H2.out.keeps hkw)
            have hkw0 := HK2.out.trans HKR.out
            have HKW0 := Lib.hid hkw0
            clear hkw0
            generalize p.getD i 0 = x at *
            generalize a.getD i 0 = z at *
            have HS := Lib.hid hs
            clear hs
            clear hkw
            by_cases c1 : x < (f : Int)
            · have hf : Hid (pprB r a b p = false) := pprB_false.2 fun h => absurd (HS.out.1 (pprB_true.2 h)).1 (by omega)
              go_wp2_with fail
              go_quiet (fail)
              go_wp2_with fail
              go_ret
              exact ⟨ret_bo hf.out.symm, (HK2.out.trans HKR.out).drewN _⟩
            · obtain ⟨q, rfl⟩ : ∃ q : Nat, x = (q : Int) := ⟨x.toNat, by omega⟩
              have hfq : f ≤ q := by omega
              by_cases c2 : q < m
              · obtain ⟨pb, rfl, hpb⟩ := H2r.out.at_ c2
                have hs := HS.out
                rw [Int.toNat_natCast] at hs
                generalize b.getD q 0 = y at *
                have HS := Lib.hid hs
                clear hs
                have d1 : decide ((q : Int) < (f : Int)) = false := by simp; omega
                have d1' : decide (q < f) = false := by simp; omega
                have d2 : decide (m ≤ q) = false := by simp; omega
                have d2' : decide ((m : Int) ≤ (q : Int)) = false := by simp; omega
                by_cases c3 : y = z
                · have d3 : (y != z) = false := by simpa using c3
                  have hcall := HCOV.out wr.drew HKW0.out.drew f q c2 hfq
                  have hcc : covB (rkF r) b f q = true ↔ Cov (rkF r) b f q := covB_true
                  generalize covB (rkF r) b f q = g at *
                  have C3 := Lib.hid c3
                  have HCALL := Lib.hid hcall
                  have HCC := Lib.hid hcc
                  clear c3 hcall hcc
                  go_wp2_with fail
                  go_still_tail 25, (by kernel_rfl)
                  change wpList _ _ _ _ _ wr.drew
                  go_wp2_with fail
                  refine HCALL.out.mono ?_
                  rintro e w3 ⟨rfl, hk3⟩
                  have hk3' := HKR.out.drew.trans hk3
                  cases g with
                  | true =>
                    have hnext := HS.out.trans ⟨fun h => h.2.2.2.2, fun h => ⟨by omega, by omega, C3.out, HCC.out.1 rfl, h⟩⟩
                    have HK3' := Lib.hid hk3'
                    have HNEXT := Lib.hid hnext
                    clear hk3' hnext
                    clear hk3
                    go_wp2_with fail
                    go_roundg (n - i)
                    case measure => omega
                    case rel => exact ⟨i + 1, q + 1, by omega, by omega, by omega, by go_num, by go_num, HNEXT.out, HK3'.out⟩
                  | false =>
                    have hf : Hid (pprB r a b p = false) := pprB_false.2 fun h => by
                      have := HCC.out.2 (HS.out.1 (pprB_true.2 h)).2.2.2.1
                      cases this
                    have hk4 := HK2.out.trans hk3'
                    have HK4 := Lib.hid hk4
                    clear hk4
                    clear hk3 hk3'
                    go_wp2_with fail
                    go_ret
                    exact ⟨ret_bo hf.out.symm, HK4.out⟩
                · have d3 : (y != z) = true := by simpa using c3
                  have hf : Hid (pprB r a b p = false) := pprB_false.2 fun h => c3 (HS.out.1 (pprB_true.2 h)).2.2.1
                  have C3 := Lib.hid c3
                  clear c3
                  go_wp2_with fail
                  go_quiet (fail)
                  go_wp2_with fail
                  go_ret
                  exact ⟨ret_bo hf.out.symm, (HK2.out.trans HKR.out).drewN _⟩
              · have d1 : decide ((q : Int) < (f : Int)) = false := by simp; omega
                have d1' : decide (q < f) = false := by simp; omega
                have d2 : decide (m ≤ q) = true := by simp; omega
                have d2' : decide ((m : Int) ≤ (q : Int)) = true := by simp; omega
                have hf : Hid (pprB r a b p = false) := pprB_false.2 fun h => by
                  have := (HS.out.1 (pprB_true.2 h)).2.1
                  omega
                go_wp2_with fail
                go_quiet (fail)
                go_wp2_with fail
                go_ret
                exact ⟨ret_bo hf.out.symm, (HK2.out.trans HKR.out).drewN _⟩
          · obtain rfl : i = n := by omega
            rw [prL_end (by rw [HNA.out]; exact Nat.le_refl _) (by rw [HL.out]; exact Nat.le_refl _), HNB.out] at hs
            have hfin : pprB r a b p = ((f : Int) == (m : Int)) := by
              rw [Bool.eq_iff_iff, hs, beq_iff_eq]; omega
            have HFIN := Lib.hid hfin
            clear hfin
            clear hs
            go_wp2_with fail
            go_ret
            exact ⟨ret_bo HFIN.out.symm, HK2.out.trans HKR.out⟩
      · have hf := pprB_false.2 (fun h : PPrv r a b p => hl (prL_len h.2.2))
        have hne : ((p.length : Int) != (a.length : Int)) = true := by rw [bne_iff_ne]; omega
        generalize r.length = rn at *
        generalize a.length = n at *
        generalize b.length = m at *
        generalize p.length = k at *
        have H0 := Lib.hid h0
        have H1 := Lib.hid h1
        have H2 := Lib.hid h2
        have H3 := Lib.hid h3
        have HR := Lib.hid hr
        have HA := Lib.hid ha
        have HB := Lib.hid hb
        have HP := Lib.hid hp
        have HMA := Lib.hid hma
        have HMB := Lib.hid hmb
        have HVA := Lib.hid hva
        have HVB := Lib.hid hvb
        have HL := Lib.hid hl
        have HF := Lib.hid hf
        clear h0 h1 h2 h3 hr ha hb hp hma hmb hva hvb hl hf
        go_enter Try.func23, Try.ntmps23
        go_wp2_with fail
        refine HMA.out.mono ?_
        rintro e w1 ⟨rfl, hk1⟩
        have hcb := HMB.out w1 hk1
        have HCB := Lib.hid hcb
        have HK1 := Lib.hid hk1
        clear hcb hk1
        go_wp2_with fail
        refine HCB.out.mono ?_
        rintro e w2 ⟨rfl, hk2⟩
        have hk2 := HK1.out.trans hk2
        have HK2 := Lib.hid hk2
        clear hk2
        go_wp2_with fail
        go_ret
        exact ⟨ret_bo HF.out.symm, HK2.out⟩
    · rw [pvB_false.2 hvb] at hmb
      have hf := pprB_false.2 (fun h : PPrv r a b p => hvb h.2.1)
      generalize r.length = rn at *
      generalize a.length = n at *
      generalize b.length = m at *
      generalize p.length = k at *
      have H0 := Lib.hid h0
      have H1 := Lib.hid h1
      have H2 := Lib.hid h2
      have H3 := Lib.hid h3
      have HR := Lib.hid hr
      have HA := Lib.hid ha
      have HB := Lib.hid hb
      have HP := Lib.hid hp
      have HMA := Lib.hid hma
      have HMB := Lib.hid hmb
      have HVA := Lib.hid hva
      have HVB := Lib.hid hvb
      have HF := Lib.hid hf
      clear h0 h1 h2 h3 hr ha hb hp hma hmb hva hvb hf
      go_enter Try.func23, Try.ntmps23
      go_wp2_with fail
      refine HMA.out.mono ?_
      rintro e w1 ⟨rfl, hk1⟩
      have hcb := HMB.out w1 hk1
      have HCB := Lib.hid hcb
      have HK1 := Lib.hid hk1
      clear hcb hk1
      go_wp2_with fail
      refine HCB.out.mono ?_
      rintro e w2 ⟨rfl, hk2⟩
      have hk2 := HK1.out.trans hk2
      have HK2 := Lib.hid hk2
      clear hk2
      go_wp2_with fail
      go_ret
      exact ⟨ret_bo HF.out.symm, HK2.out⟩
  · rw [pvB_false.2 hva] at hma
    have hf := pprB_false.2 (fun h : PPrv r a b p => hva h.1)
    generalize r.length = rn at *
    generalize a.length = n at *
    generalize b.length = m at *
    generalize p.length = k at *
    have H0 := Lib.hid h0
    have H1 := Lib.hid h1
    have H2 := Lib.hid h2
    have H3 := Lib.hid h3
    have HR := Lib.hid hr
    have HA := Lib.hid ha
    have HB := Lib.hid hb
    have HP := Lib.hid hp
    have HMA := Lib.hid hma
    have HMB := Lib.hid hmb
    have HVA := Lib.hid hva
    have HF := Lib.hid hf
    clear h0 h1 h2 h3 hr ha hb hp hma hmb hva hf
    go_enter Try.func23, Try.ntmps23
    go_wp2_with fail
    refine HMA.out.mono ?_
    rintro e w1 ⟨rfl, hk1⟩
    have HK1 := Lib.hid hk1
    clear hk1
    go_wp2_with fail
    go_ret
    exact ⟨ret_bo HF.out.symm, HK1.out⟩
end Go.Proofs.Ytmjnicikikgncaa
