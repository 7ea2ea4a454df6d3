/- The walks of priority.ranked, Valid and covered. -/
import Derived.Test.YtmjnicikikgncaaAny
import Derived.Test.YtmjnicikikgncaaPrioL
import Derived.Test.YtmjnicikikgncaaWCmp
import Derived.IntWalk
namespace Go.Proofs.Ytmjnicikikgncaa
set_option linter.unusedVariables false
open Go.RowKit

def PRanks (r : List Int) : Prop := (1 ≤ r.length ∧ r.length ≤ 6) ∧ ∀ x ∈ r, 0 ≤ x ∧ x < 6
def PWord (r a : List Int) : Prop := a.length ≤ 12 ∧ ∀ x ∈ a, 0 ≤ x ∧ x < r.length
def PValid (r a : List Int) : Prop := PRanks r ∧ PWord r a
def rkF (r : List Int) (x : Int) : Int := r.getD x.toNat 0
open Classical in
noncomputable def prB (r : List Int) : Bool := decide (PRanks r)
theorem prB_true {r : List Int} : prB r = true ↔ PRanks r := by simp [prB]
theorem prB_false {r : List Int} : prB r = false ↔ ¬ PRanks r := by simp [prB]
open Classical in
noncomputable def pvB (r a : List Int) : Bool := decide (PValid r a)
theorem pvB_true {r a : List Int} : pvB r a = true ↔ PValid r a := by simp [pvB]
theorem pvB_false {r a : List Int} : pvB r a = false ↔ ¬ PValid r a := by simp [pvB]
/-- A number that is not from 0 on, and below another one. -/
def outB (m x : Int) : Bool := decide (x < 0 ∨ m ≤ x)
theorem outB_true {m x : Int} : outB m x = true ↔ x < 0 ∨ m ≤ x := by simp [outB]
theorem outB_false {m x : Int} : outB m x = false ↔ ¬ (x < 0 ∨ m ≤ x) := by unfold outB; exact decide_eq_false_iff_not
theorem out_all {m : Int} {xs : List Int} {r : Bool} (hr : r = true ↔ ∃ i, i < xs.length ∧ outB m (xs.getD i 0) = true) : r = false ↔ ∀ x ∈ xs, 0 ≤ x ∧ x < m := by
  rw [← Bool.not_eq_true, hr]
  constructor
  · intro h x hx
    obtain ⟨i, hi, e⟩ := mem_getD (d := 0) hx
    refine Classical.byContradiction fun hc => h ⟨i, hi, outB_true.2 ?_⟩
    rw [e]; omega
  · rintro h ⟨i, hi, hp⟩
    have := h _ (getD_mem (d := 0) hi)
    have := outB_true.1 hp
    omega

set_option maxHeartbeats 400000 in
theorem ranked_lit {w : World} {l : List Nat} {xs : List Int} : PredR IsN 0 51 #[] l xs (fun i => outB 6 (xs.getD i 0)) w := by
  intro W i u hi hk hu
  have hu : u = .int .i64 (xs.getD i 0) := hu
  subst hu
  show Calls Try.prog 51 #[.int .i64 (xs.getD i 0)] W fun e w' => e = .returned (.bool (outB 6 (xs.getD i 0))) ∧ Keeps [] W w'
  generalize xs.getD i 0 = x
  by_cases h1 : x < 0
  · have hd : Hid (outB 6 x = true) := outB_true.2 (.inl h1)
    go_enter Try.func51, Try.ntmps51
    go_wp2_with fail
    go_ret
    exact ⟨ret_bo hd.out.symm, Keeps.refl _ _⟩
  · by_cases h2 : 6 ≤ x
    · have hd : Hid (outB 6 x = true) := outB_true.2 (.inr h2)
      go_enter Try.func51, Try.ntmps51
      go_wp2_with fail
      go_ret
      exact ⟨ret_bo hd.out.symm, Keeps.refl _ _⟩
    · have hd : Hid (outB 6 x = false) := outB_false.2 (by omega)
      go_enter Try.func51, Try.ntmps51
      go_wp2_with fail
      go_ret
      exact ⟨ret_bo hd.out.symm, Keeps.refl _ _⟩

set_option maxHeartbeats 400000 in
theorem valid_lit {w : World} {l : List Nat} {xs : List Int} {g n c : Nat} {A : Option Addr} (hc : w.cell? ⟨g, 0, none⟩ = some (.slice A n c)) : PredR IsN 0 35 #[.pointer (some ⟨g, 0, none⟩)] l xs (fun i => outB n (xs.getD i 0)) w := by
  intro W i u hi hk hu
  have hu : u = .int .i64 (xs.getD i 0) := hu
  subst hu
  have hc := hk.read hc (by simp)
  show Calls Try.prog 35 #[.int .i64 (xs.getD i 0), .pointer (some ⟨g, 0, none⟩)] W fun e w' => e = .returned (.bool (outB n (xs.getD i 0))) ∧ Keeps [] W w'
  generalize xs.getD i 0 = x
  have HK := Lib.hid hk
  clear hk
  by_cases h1 : x < 0
  · have hd : Hid (outB n x = true) := outB_true.2 (.inl h1)
    go_enter Try.func35, Try.ntmps35
    go_wp2_with fail
    go_ret
    exact ⟨ret_bo hd.out.symm, Keeps.refl _ _⟩
  · by_cases h2 : (n : Int) ≤ x
    · have hd : Hid (outB n x = true) := outB_true.2 (.inr h2)
      go_enter Try.func35, Try.ntmps35
      go_wp2_with fail
      go_ret
      exact ⟨ret_bo hd.out.symm, Keeps.refl _ _⟩
    · have hd : Hid (outB n x = false) := outB_false.2 (by omega)
      go_enter Try.func35, Try.ntmps35
      go_wp2_with fail
      go_ret
      exact ⟨ret_bo hd.out.symm, Keeps.refl _ _⟩

set_option maxHeartbeats 400000 in
theorem ranked_is {w : World} {l : List Nat} {v : Value} {a : List Int} (h : IsI w l v a) (hn : a.length ≤ 1000000) : Calls Try.prog 33 #[v] w (RetB (prB a) w) := by
  unfold RetB
  obtain ⟨A, c, rfl, _, _, h1⟩ := h.open
  have eg := enters_of Try.func51 (by kernel_rfl) rfl
  have hco := anr_ints h hn eg (ranked_lit (w := w) (l := l) (xs := a))
  by_cases hlo : 1 ≤ a.length
  · by_cases hhi : a.length ≤ 6
    · generalize hnn : a.length = n at *
      have H := Lib.hid h
      have H1 := Lib.hid h1
      have HNN := Lib.hid hnn
      have HCO := Lib.hid hco
      clear h h1 hnn hco
      clear eg
      go_enter Try.func33, Try.ntmps33
      go_wp2_with fail
      refine HCO.out.mono ?_
      rintro e w1 ⟨r, rfl, hr, hk⟩
      rw [← HNN.out] at hr
      have hr2 := out_all hr
      have hfin : prB a = !r := by
        cases r with
        | true => exact prB_false.2 fun h => by have := hr2.2 h.2; cases this
        | false => exact prB_true.2 ⟨⟨by rw [HNN.out]; exact hlo, by rw [HNN.out]; exact hhi⟩, hr2.1 rfl⟩
      have HFIN := Lib.hid hfin
      have HK := Lib.hid hk
      clear hfin hk
      clear hr hr2
      go_wp2_with fail
      go_ret
      exact ⟨ret_bo HFIN.out.symm, HK.out⟩
    · have hf : Hid (prB a = false) := prB_false.2 fun h => hhi h.1.2
      generalize a.length = n at *
      have H := Lib.hid h
      have H1 := Lib.hid h1
      have HCO := Lib.hid hco
      clear h h1 hco
      clear eg
      go_enter Try.func33, Try.ntmps33
      go_wp2_with fail
      go_ret
      exact ⟨ret_bo hf.out.symm, Keeps.refl _ _⟩
  · have hf : Hid (prB a = false) := prB_false.2 fun h => hlo h.1.1
    generalize a.length = n at *
    have H := Lib.hid h
    have H1 := Lib.hid h1
    have HCO := Lib.hid hco
    clear h h1 hco
    clear eg
    go_enter Try.func33, Try.ntmps33
    go_wp2_with fail
    go_ret
    exact ⟨ret_bo hf.out.symm, Keeps.refl _ _⟩

set_option maxHeartbeats 1000000 in
theorem pvalid_is {w : World} {l : List Nat} {rv av : Value} {r a : List Int} (hr : IsI w l rv r) (ha : IsI w l av a) (hn : r.length ≤ 1000000) (hm : a.length ≤ 1000000) : Calls Try.prog 16 #[rv, av] w (RetB (pvB r a) w) := by
  unfold RetB
  obtain ⟨A, c, rfl, _, _, h1⟩ := hr.open
  obtain ⟨B, c', rfl, _, _, h2⟩ := ha.open
  have eg := enters_of Try.func35 (by kernel_rfl) rfl
  have hal : Keeps [] w (w.alloc (.cells #[.slice A r.length c] 22)) := (Keeps.refl _ _).alloc _
  have hbx := World.cell?_alloc_new w #[.slice A r.length c] 22 0
  have hrk := ranked_is (hr.new hal) hn
  have hco := fun W (k : Keeps [] (w.alloc (.cells #[.slice A r.length c] 22)) W) => anr_ints ((ha.new hal).new k) hm eg (valid_lit (k.read hbx (by simp)))
  by_cases hpr : PRanks r
  · rw [prB_true.2 hpr] at hrk
    by_cases h12 : a.length ≤ 12
    · generalize hna : r.length = n at *
      generalize hnb : a.length = m at *
      have HR := Lib.hid hr
      have HA := Lib.hid ha
      have H1 := Lib.hid h1
      have H2 := Lib.hid h2
      have HAL := Lib.hid hal
      have HRK := Lib.hid hrk
      have HCO := Lib.hid hco
      have HPR := Lib.hid hpr
      have HNA := Lib.hid hna
      have HNB := Lib.hid hnb
      clear hr ha h1 h2 hal hrk hco hpr hna hnb
      clear eg
      go_enter Try.func16, Try.ntmps16
      go_wp2_with fail
      refine HRK.out.mono ?_
      rintro e w1 ⟨rfl, hk⟩
      have hco := HCO.out w1 hk
      have hk1 := HAL.out.trans hk
      have HCO := Lib.hid hco
      have HK1 := Lib.hid hk1
      clear hco hk1
      clear hk
      go_wp2_with fail
      refine HCO.out.mono ?_
      rintro e w2 ⟨q, rfl, hq, hk⟩
      rw [← HNB.out] at hq
      have hq2 := out_all hq
      have hfin : pvB r a = !q := by
        cases q with
        | true => exact pvB_false.2 fun h => by have := hq2.2 (by rw [← HNA.out]; exact h.2.2); cases this
        | false => exact pvB_true.2 ⟨HPR.out, by rw [HNB.out]; exact h12, by rw [HNA.out]; exact hq2.1 rfl⟩
      have hk2 := HK1.out.trans hk
      have HFIN := Lib.hid hfin
      have HK2 := Lib.hid hk2
      clear hfin hk2
      clear hq hq2 hk
      go_wp2_with fail
      go_ret
      exact ⟨ret_bo HFIN.out.symm, HK2.out⟩
    · have hf : Hid (pvB r a = false) := pvB_false.2 fun h => h12 h.2.1
      generalize r.length = n at *
      generalize a.length = m at *
      have HR := Lib.hid hr
      have HA := Lib.hid ha
      have H1 := Lib.hid h1
      have H2 := Lib.hid h2
      have HAL := Lib.hid hal
      have HRK := Lib.hid hrk
      have HCO := Lib.hid hco
      have HPR := Lib.hid hpr
      clear hr ha h1 h2 hal hrk hco hpr
      clear eg
      go_enter Try.func16, Try.ntmps16
      go_wp2_with fail
      refine HRK.out.mono ?_
      rintro e w1 ⟨rfl, hk⟩
      have hk1 := HAL.out.trans hk
      have HK1 := Lib.hid hk1
      clear hk1
      clear hk
      go_wp2_with fail
      go_ret
      exact ⟨ret_bo hf.out.symm, HK1.out⟩
  · have hf : Hid (pvB r a = false) := pvB_false.2 fun h => hpr h.1
    rw [prB_false.2 hpr] at hrk
    generalize r.length = n at *
    generalize a.length = m at *
    have HR := Lib.hid hr
    have HA := Lib.hid ha
    have H1 := Lib.hid h1
    have H2 := Lib.hid h2
    have HAL := Lib.hid hal
    have HRK := Lib.hid hrk
    have HCO := Lib.hid hco
    have HPR := Lib.hid hpr
    clear hr ha h1 h2 hal hrk hco hpr
    clear eg
    go_enter Try.func16, Try.ntmps16
    go_wp2_with fail
    refine HRK.out.mono ?_
    rintro e w1 ⟨rfl, hk⟩
    have hk1 := HAL.out.trans hk
    have HK1 := Lib.hid hk1
    clear hk1
    clear hk
    go_wp2_with fail
    go_ret
    exact ⟨ret_bo hf.out.symm, HK1.out⟩
end Go.Proofs.Ytmjnicikikgncaa
