/- The walks of priority.Embed and Leq. -/
import Derived.Test.YtmjnicikikgncaaPSearch
namespace Go.Proofs.Ytmjnicikikgncaa
set_option linter.unusedVariables false
open Go.RowKit

open Classical in
noncomputable def embP (r a b : List Int) : Option (List Int) := if PValid r a ∧ PValid r b then srch (rkF r) a b 0 else none
theorem embP_no {r a b : List Int} (h : ¬ (PValid r a ∧ PValid r b)) : embP r a b = none := if_neg h
theorem embP_yes {r a b : List Int} (h1 : PValid r a) (h2 : PValid r b) : embP r a b = srch (rkF r) a b 0 := if_pos ⟨h1, h2⟩
def PLeq (r a b : List Int) : Prop := PValid r a ∧ PValid r b ∧ PLe (rkF r) a b
open Classical in
noncomputable def pleB (r a b : List Int) : Bool := decide (PLeq r a b)
theorem pleB_true {r a b : List Int} : pleB r a b = true ↔ PLeq r a b := by simp [pleB]
theorem embP_some (r a b : List Int) : (embP r a b).isSome = pleB r a b := by
  rw [Bool.eq_iff_iff, pleB_true]
  by_cases h1 : PValid r a ∧ PValid r b
  · rw [embP_yes h1.1 h1.2, srch_ple _ _ _ (Nat.zero_le _), List.drop_zero]
    exact ⟨fun h => ⟨h1.1, h1.2, h⟩, fun h => h.2.2⟩
  · rw [embP_no h1]
    exact ⟨fun h => (by simp at h), fun h => absurd ⟨h.1, h.2.1⟩ h1⟩

set_option maxHeartbeats 2000000 in
theorem pembed_is {w : World} {l : List Nat} {rv av bv : Value} {r a b : List Int} (hl : ∀ y ∈ l, y < w.heap.size) (hr : IsI w l rv r) (ha : IsI w l av a) (hb : IsI w l bv b) (hn : r.length ≤ 1000) (ham : a.length ≤ 1000) (hm : b.length ≤ 1000) : Calls Try.prog 13 #[rv, av, bv] w (SrPost (embP r a b) l w) := by
  unfold SrPost
  obtain ⟨R, c, rfl, _, _, h1⟩ := hr.open
  obtain ⟨A, c', rfl, _, _, h2⟩ := ha.open
  obtain ⟨B, c2, rfl, _, _, h3⟩ := hb.open
  have hma := pvalid_is hr ha (by omega) (by omega)
  have hmb := fun W (k : Keeps [] w W) => pvalid_is (hr.new k) (hb.new k) (by omega) (by omega)
  by_cases hva : PValid r a
  · rw [pvB_true.2 hva] at hma
    by_cases hvb : PValid r b
    · rw [pvB_true.2 hvb] at hmb
      have hrun := fun (W : World) (k : Keeps [] w W) => search_is a (w := W) (l := l) (r := r) (b := b) (f := 0) (fun y hy => Nat.lt_of_lt_of_le (hl y hy) k.size) (hr.new k) (ha.new k) (hb.new k) hn ham hm hvb.2.2 (Nat.zero_le _)
      rw [← embP_yes hva hvb] at hrun
      generalize embP r a b = o at *
      generalize r.length = rn at *
      generalize a.length = n at *
      generalize b.length = m at *
      have H1 := Lib.hid h1
      have H2 := Lib.hid h2
      have H3 := Lib.hid h3
      have HR := Lib.hid hr
      have HA := Lib.hid ha
      have HB := Lib.hid hb
      have HMA := Lib.hid hma
      have HMB := Lib.hid hmb
      have HVA := Lib.hid hva
      have HVB := Lib.hid hvb
      have HL := Lib.hid hl
      have HRUN := Lib.hid hrun
      clear h1 h2 h3 hr ha hb hma hmb hva hvb hl hrun
      go_enter Try.func13, Try.ntmps13
      go_wp2_with fail
      refine HMA.out.mono ?_
      rintro e w1 ⟨rfl, hk1⟩
      have hcb := HMB.out w1 hk1
      have HCB := Lib.hid hcb
      have HK1 := Lib.hid hk1
      clear hcb hk1
      go_wp2_with fail
      refine HCB.out.mono ?_
      rintro e w2 ⟨rfl, hk2⟩
      have hk2 := HK1.out.trans hk2
      have hrun := HRUN.out w2 hk2
      have HK2 := Lib.hid hk2
      have HRUN := Lib.hid hrun
      clear hk2 hrun
      go_wp2_with fail
      refine HRUN.out.mono ?_
      rintro e w3 ⟨hk3, ⟨ho, rfl⟩ | ⟨V, nq, cq, q, hnq, ho, rfl, hq⟩⟩
      · have hk3 := HK2.out.trans hk3
        have HK3 := Lib.hid hk3
        have HO := Lib.hid ho
        clear hk3 ho
        go_wp2_with fail
        go_ret2
        exact ⟨HK3.out, .inl ⟨HO.out, rfl⟩⟩
      · have hk3 := HK2.out.trans hk3
        have HK3 := Lib.hid hk3
        have HO := Lib.hid ho
        have HNQ := Lib.hid hnq
        have HQ := Lib.hid hq
        clear hk3 ho hnq hq
        go_wp2_with fail
        go_ret2
        exact ⟨HK3.out, .inr ⟨V, nq, cq, q, HNQ.out, HO.out, rfl, HQ.out⟩⟩
    · have hemb := embP_no (r := r) (a := a) (b := b) fun h => hvb h.2
      rw [pvB_false.2 hvb] at hmb
      generalize embP r a b = o at *
      generalize r.length = rn at *
      generalize a.length = n at *
      generalize b.length = m at *
      have H1 := Lib.hid h1
      have H2 := Lib.hid h2
      have H3 := Lib.hid h3
      have HR := Lib.hid hr
      have HA := Lib.hid ha
      have HB := Lib.hid hb
      have HMA := Lib.hid hma
      have HMB := Lib.hid hmb
      have HVA := Lib.hid hva
      have HVB := Lib.hid hvb
      have HL := Lib.hid hl
      have HEMB := Lib.hid hemb
      clear h1 h2 h3 hr ha hb hma hmb hva hvb hl hemb
      go_enter Try.func13, Try.ntmps13
      go_wp2_with fail
      refine HMA.out.mono ?_
      rintro e w1 ⟨rfl, hk1⟩
      have hcb := HMB.out w1 hk1
      have HCB := Lib.hid hcb
      have HK1 := Lib.hid hk1
      clear hcb hk1
      go_wp2_with fail
      refine HCB.out.mono ?_
      rintro e w2 ⟨rfl, hk2⟩
      have hk2 := HK1.out.trans hk2
      have HK2 := Lib.hid hk2
      clear hk2
      go_wp2_with fail
      go_ret2
      exact ⟨HK2.out, .inl ⟨HEMB.out, rfl⟩⟩
  · have hemb := embP_no (r := r) (a := a) (b := b) fun h => hva h.1
    rw [pvB_false.2 hva] at hma
    generalize embP r a b = o at *
    generalize r.length = rn at *
    generalize a.length = n at *
    generalize b.length = m at *
    have H1 := Lib.hid h1
    have H2 := Lib.hid h2
    have H3 := Lib.hid h3
    have HR := Lib.hid hr
    have HA := Lib.hid ha
    have HB := Lib.hid hb
    have HMA := Lib.hid hma
    have HMB := Lib.hid hmb
    have HVA := Lib.hid hva
    have HL := Lib.hid hl
    have HEMB := Lib.hid hemb
    clear h1 h2 h3 hr ha hb hma hmb hva hl hemb
    go_enter Try.func13, Try.ntmps13
    go_wp2_with fail
    refine HMA.out.mono ?_
    rintro e w1 ⟨rfl, hk1⟩
    have HK1 := Lib.hid hk1
    clear hk1
    go_wp2_with fail
    go_ret2
    exact ⟨HK1.out, .inl ⟨HEMB.out, rfl⟩⟩

set_option maxHeartbeats 400000 in
theorem pleq_is {w : World} {l : List Nat} {rv av bv : Value} {r a b : List Int} (hl : ∀ y ∈ l, y < w.heap.size) (hr : IsI w l rv r) (ha : IsI w l av a) (hb : IsI w l bv b) (hn : r.length ≤ 1000) (ham : a.length ≤ 1000) (hm : b.length ≤ 1000) : Calls Try.prog 18 #[rv, av, bv] w (RetB (pleB r a b) w) := by
  unfold RetB
  have hcall := pembed_is hl hr ha hb hn ham hm
  have he := embP_some r a b
  obtain ⟨R, c, rfl, _, _, h1⟩ := hr.open
  obtain ⟨A, c', rfl, _, _, h2⟩ := ha.open
  obtain ⟨B, c2, rfl, _, _, h3⟩ := hb.open
  generalize embP r a b = o at *
  generalize pleB r a b = q at *
  generalize r.length = rn at *
  generalize a.length = n at *
  generalize b.length = m at *
  have HR := Lib.hid hr
  have HA := Lib.hid ha
  have HB := Lib.hid hb
  have H1 := Lib.hid h1
  have H2 := Lib.hid h2
  have H3 := Lib.hid h3
  have HCALL := Lib.hid hcall
  have HE := Lib.hid he
  have HL := Lib.hid hl
  clear hr ha hb h1 h2 h3 hcall he hl
  go_enter Try.func18, Try.ntmps18
  go_wp2_with fail
  refine HCALL.out.mono ?_
  rintro e w1 ⟨hk, ⟨ho, rfl⟩ | ⟨V, nq, cv, p, hnq, ho, rfl, hO⟩⟩
  · have hr : q = false := by rw [← HE.out, ho]; rfl
    have HK := Lib.hid hk
    have HO := Lib.hid ho
    have HR := Lib.hid hr
    clear hk ho hr
    go_wp2_with fail
    go_ret
    exact ⟨ret_bo HR.out.symm, HK.out⟩
  · have hr : q = true := by rw [← HE.out, ho]; rfl
    have HK := Lib.hid hk
    have HO := Lib.hid ho
    have HO := Lib.hid hO
    have HR := Lib.hid hr
    have HNQ := Lib.hid hnq
    clear hk ho hO hr hnq
    go_wp2_with fail
    go_ret
    exact ⟨ret_bo HR.out.symm, HK.out⟩
end Go.Proofs.Ytmjnicikikgncaa
