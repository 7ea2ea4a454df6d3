/- The walks of semilinear's check and Within. -/
import Derived.Test.YtdhadnnakcdfiaaHas
import Derived.Test.YtdhadnnakcdfiaaShift2
import Derived.Test.YtdhadnnakcdfiaaAnyR
namespace Go.Proofs.Ytdhadnnakcdfiaa
set_option linter.unusedVariables false
open Go.RowKit

noncomputable def chk2 (n : Int) (a b : Lin) : Int := open Classical in if chkL n [a] = 0 then chkL n [b] else chkL n [a]
theorem chk2_zero {n : Int} {a b : Lin} : chk2 n a b = 0 ↔ GoodAll n [a] ∧ GoodAll n [b] := by
  unfold chk2
  by_cases h : chkL n [a] = 0
  · rw [if_pos h, chkL_zero]; exact ⟨fun hb => ⟨chkL_zero.1 h, hb⟩, fun h => h.2⟩
  · rw [if_neg h]; exact ⟨fun h' => absurd h' h, fun h' => absurd (chkL_zero.2 h'.1) h⟩
def Ck2Post (n : Int) (a b : Lin) (w : World) (e : Ending) (w' : World) : Prop := e = .returned (.int .i64 (chk2 n a b)) ∧ Keeps [] w w'

set_option maxHeartbeats 1000000 in
theorem check2_is {w : World} {l : List Nat} {n : Int} {u pv u' pv' : Value} {a b : Lin} (hl : ∀ y ∈ l, y < w.heap.size) (h : IsLin w l u pv a) (ha : a.Small) (h' : IsLin w l u' pv' b) (hb : b.Small) :
    Calls Try.prog 44 #[.int .i64 n, .agg #[u, pv], .agg #[u', pv']] w (Ck2Post n a b w) := by
  have hu := h.1
  obtain ⟨A, c, rfl, _⟩ := hu.open
  have hpp := h.2
  obtain ⟨Ap, cp, V, rfl, _⟩ := hpp
  have hu' := h'.1
  obtain ⟨B, c', rfl, _⟩ := hu'.open
  have hpp' := h'.2
  obtain ⟨Bp, cp', V', rfl, _⟩ := hpp'
  clear hu hu'
  have hk1 : Keeps [] w ((w.alloc (.cells #[.slice A a.base.length c, .slice Ap a.per.length cp] 29)).alloc (.cells #[.slice B b.base.length c', .slice Bp b.per.length cp'] 29)) := ((Keeps.refl _ _).alloc _).alloc _
  have hbx : BoxAt ((w.alloc (.cells #[.slice A a.base.length c, .slice Ap a.per.length cp] 29)).alloc (.cells #[.slice B b.base.length c', .slice Bp b.per.length cp'] 29)) (w.heap.size + 1) (.slice B b.base.length c') (.slice Bp b.per.length cp') := by
    have := BoxAt.start (w.alloc (.cells #[.slice A a.base.length c, .slice Ap a.per.length cp] 29)) (.slice B b.base.length c') (.slice Bp b.per.length cp') 29
    simpa using this
  have hone := IsLins.one (t := 29) (fun y hy => Nat.lt_of_lt_of_le (hl y hy) hk1.size) (h.new hk1)
  simp only [World.size_alloc] at hone
  have hal := (Keeps.refl [] ((w.alloc (.cells #[.slice A a.base.length c, .slice Ap a.per.length cp] 29)).alloc (.cells #[.slice B b.base.length c', .slice Bp b.per.length cp'] 29))).alloc (.cells #[.slice A a.base.length c, .slice Ap a.per.length cp] 29)
  have HH := Lib.hid h
  have HH' := Lib.hid h'
  clear h h'
  have HK1 := Lib.hid hk1
  have HBX := Lib.hid hbx
  have HONE := Lib.hid hone
  have HAL := Lib.hid hal
  have HL := Lib.hid hl
  have HA := Lib.hid ha
  have HB := Lib.hid hb
  clear hk1 hbx hone hal hl ha hb
  go_enter Try.func44, Try.ntmps44
  go_wp2_with fail
  refine (check_is (n := n) HONE.out (by simpa using HA.out) (by simp)).mono ?_
  rintro e w1 ⟨rfl, hk⟩
  have hk2 := HAL.out.trans hk
  have hb1 := HBX.out.new hk2
  have hc0 := hb1.c0
  have hc1 := hb1.c1
  have hK := HK1.out.trans hk2
  by_cases hz : chkL n [a] = 0
  · have hz1 : (chkL n [a] != 0) = false := by rw [hz]; rfl
    have he : Hid (chk2 n a b = chkL n [b]) := by unfold Hid chk2; rw [if_pos hz]
    generalize chkL n [a] = z at *
    have hone2 := IsLins.one (t := 29) (fun y hy => Nat.lt_of_lt_of_le (HL.out y hy) hK.size) (HH'.out.new hK)
    have hal2 := (Keeps.refl [] w1).alloc (.cells #[.slice B b.base.length c', .slice Bp b.per.length cp'] 29)
    have HK := Lib.hid hK
    have HONE2 := Lib.hid hone2
    have HAL2 := Lib.hid hal2
    clear hone2 hal2
    clear hz hk hk2 hb1 hK
    go_wp2_with fail
    refine (check_is (n := n) HONE2.out (by simpa using HB.out) (by simp)).mono ?_
    rintro e w2 ⟨rfl, hk⟩
    have HK2 := Lib.hid (HK.out.trans (HAL2.out.trans hk))
    clear hk
    go_wp2_with fail
    go_ret
    exact ⟨ret_ni he.out, HK2.out⟩
  · have hz1 : (chkL n [a] != 0) = true := by simpa using hz
    have he : Hid (chk2 n a b = chkL n [a]) := by unfold Hid chk2; rw [if_neg hz]
    have HK := Lib.hid hK
    clear hz hk hk2 hb1 hK
    go_wp2_with fail
    go_ret
    exact ⟨ret_ni he.out, HK.out⟩

/-- Periods make each of a vector's list. -/
def AllMade (P : List (List Int)) (L : List (List Int)) : Prop := ∀ p ∈ L, ∃ t, Makes P p t
def WithinS (n : Int) (a b : Lin) : Prop := GoodAll n [a] ∧ GoodAll n [b] ∧ HasIn b a.base ∧ AllMade b.per a.per
open Classical in
noncomputable def notMade (P : List (List Int)) (v : List Int) : Bool := decide (¬ ∃ t, Makes P v t)

theorem within_lit {w : World} {l : List Nat} {u pv : Value} {b : Lin} {L : List (List Int)} {n g : Nat} (hl : ∀ y ∈ l, y < w.heap.size) (h : IsLin w l u pv b) (hg : Good n b) (hn : n ≤ 100) (hL : ∀ p ∈ L, PerOk n p) (hbx : BoxAt w g u pv) :
    PredR IsI [] 46 #[.pointer (some ⟨g, 0, none⟩)] l L (fun i => notMade b.per (L.getD i [])) w := by
  intro W i x hi hk hx
  have h := h.new hk
  have hb := hbx.new hk
  have hp := hL _ (getD_mem (d := []) hi)
  have hl : ∀ y ∈ l, y < W.heap.size := fun y hy => Nat.lt_of_lt_of_le (hl y hy) hk.size
  show Calls Try.prog 46 #[x, .pointer (some ⟨g, 0, none⟩)] W fun e w' => e = .returned (.bool (notMade b.per (L.getD i []))) ∧ Keeps [] W w'
  generalize L.getD i [] = p at *
  have hpp := h.2
  obtain ⟨Bp, cp', V', rfl, _⟩ := hpp
  obtain ⟨A, c, rfl, _⟩ := hx.open
  have hc1 := hb.c1
  have hcall := solve_is n hn b.per W l hl p _ _ h.2 hx hg.per ⟨hp.len, fun y hy => by have := hp.rng y hy; omega⟩ (by have := hg.few; omega)
  have HX := Lib.hid hx
  have H := Lib.hid h
  have HCALL := Lib.hid hcall
  have HL := Lib.hid hl
  clear h hcall hl
  have HP := Lib.hid hp
  clear hx hp hb hbx hg hL
  go_enter Try.func46, Try.ntmps46
  go_wp2_with fail
  refine HCALL.out.mono ?_
  rintro e w1 ⟨hk1, hh⟩
  have HK1 := Lib.hid hk1
  clear hk1
  rcases hh with ⟨rfl, hno⟩ | ⟨A', n', c', k, rfl, hki, hle⟩
  · have HNO := Lib.hid hno
    clear hno
    go_wp2_with fail
    go_ret
    exact ⟨ret_bl (by simp [notMade]; exact HNO.out), HK1.out⟩
  · have HLE := Lib.hid hle
    clear hki hle
    go_wp2_with fail
    go_ret
    exact ⟨ret_bl (by simp [notMade]; exact ⟨k, HLE.out.1⟩), HK1.out⟩

def WiPost (n : Int) (a b : Lin) (w : World) (e : Ending) (w' : World) : Prop := ∃ r : Bool, e = .returned (.bool r) ∧ (r = true ↔ WithinS n a b) ∧ Keeps [] w w'
set_option maxRecDepth 100000 in
set_option maxHeartbeats 2000000 in
theorem within_is {w : World} {l : List Nat} {n : Int} {u pv u' pv' : Value} {a b : Lin} (hl : ∀ y ∈ l, y < w.heap.size) (h : IsLin w l u pv a) (ha : a.Small) (h' : IsLin w l u' pv' b) (hb : b.Small) :
    Calls Try.prog 19 #[.int .i64 n, .agg #[u, pv], .agg #[u', pv']] w (WiPost n a b w) := by
  have hu := h.1
  obtain ⟨A, c, rfl, _⟩ := hu.open
  have hpp := h.2
  obtain ⟨Ap, cp, V, rfl, _⟩ := hpp
  have hu' := h'.1
  obtain ⟨B, c', rfl, _⟩ := hu'.open
  have hpp' := h'.2
  obtain ⟨Bp, cp', V', rfl, _⟩ := hpp'
  clear hu hu'
  have eg := enters_of Try.func46 (by kernel_rfl) rfl
  have hk1 : Keeps [] w ((w.alloc (.cells #[.slice A a.base.length c, .slice Ap a.per.length cp] 29)).alloc (.cells #[.slice B b.base.length c', .slice Bp b.per.length cp'] 29)) := ((Keeps.refl _ _).alloc _).alloc _
  have hbx : BoxAt ((w.alloc (.cells #[.slice A a.base.length c, .slice Ap a.per.length cp] 29)).alloc (.cells #[.slice B b.base.length c', .slice Bp b.per.length cp'] 29)) (w.heap.size + 1) (.slice B b.base.length c') (.slice Bp b.per.length cp') := by
    have := BoxAt.start (w.alloc (.cells #[.slice A a.base.length c, .slice Ap a.per.length cp] 29)) (.slice B b.base.length c') (.slice Bp b.per.length cp') 29
    simpa using this
  have hbxa := (BoxAt.start w (.slice A a.base.length c) (.slice Ap a.per.length cp) 29).new ((Keeps.refl _ _).alloc (.cells #[.slice B b.base.length c', .slice Bp b.per.length cp'] 29))
  have HH := Lib.hid h
  have HH' := Lib.hid h'
  clear h h'
  have HK1 := Lib.hid hk1
  have HBX := Lib.hid hbx
  have HBXA := Lib.hid hbxa
  have HL := Lib.hid hl
  have HA := Lib.hid ha
  have HB := Lib.hid hb
  clear hk1 hbx hbxa hl ha hb
  go_enter Try.func19, Try.ntmps19
  go_wp2_with fail
  refine (check2_is (n := n) (fun y hy => Nat.lt_of_lt_of_le (HL.out y hy) HK1.out.size) (HH.out.new HK1.out) HA.out (HH'.out.new HK1.out) HB.out).mono ?_
  rintro e w1 ⟨rfl, hk⟩
  have hb1 := HBX.out.new hk
  have hc0 := hb1.c0
  have hc1 := hb1.c1
  have hb2 := HBXA.out.new hk
  have hd0 := hb2.c0
  have hd1 := hb2.c1
  have hK := HK1.out.trans hk
  by_cases hz : chk2 n a b = 0
  · have hz1 : (chk2 n a b != 0) = false := by rw [hz]; rfl
    obtain ⟨hga, hgb⟩ := chk2_zero.1 hz
    have hlo := hgb.lo
    have hhi := hgb.hi
    generalize chk2 n a b = z at *
    obtain ⟨m, rfl⟩ : ∃ m : Nat, n = (m : Int) := ⟨n.toNat, by omega⟩
    have hag : Good m a := by simpa using hga.all a (by simp)
    have hbg : Good m b := by simpa using hgb.all b (by simp)
    have hl1 : ∀ y ∈ l, y < w1.heap.size := fun y hy => Nat.lt_of_lt_of_le (HL.out y hy) hK.size
    have hcall := times_is hl1 (HH'.out.new hK) HB.out (HH.out.new hK).1 HA.out.b
    have HK := Lib.hid hK
    have HB1 := Lib.hid hb1
    have HB2 := Lib.hid hb2
    have HGA := Lib.hid hga
    have HGB := Lib.hid hgb
    have HAG := Lib.hid hag
    have HBG := Lib.hid hbg
    have HCALL := Lib.hid hcall
    have HL1 := Lib.hid hl1
    clear hga hgb hag hbg hcall hl1
    clear hz hk hb1 hb2 hK
    go_wp2_with fail
    refine HCALL.out.mono ?_
    rintro e w2 ⟨hk2, hh⟩
    have hb3 := HB1.out.new hk2
    have hb4 := HB2.out.new hk2
    have hc0 := hb3.c0
    have hc1 := hb3.c1
    have hd0 := hb4.c0
    have hd1 := hb4.c1
    have hK2 := HK.out.trans hk2
    rcases hh with ⟨rfl, hno⟩ | ⟨A', n', cc', k, rfl, hpre, hki, hle⟩
    · have HNO := Lib.hid hno
      have HK2 := Lib.hid hK2
      clear hno hk2 hb3 hb4 hK2
      go_wp2_with fail
      go_ret
      refine ⟨false, rfl, ⟨(fun h => by cases h), fun h => ?_⟩, HK2.out⟩
      obtain ⟨t, ht⟩ := h.2.2.1.2
      exact absurd ht (HNO.out h.2.2.1.1 t)
    · have hhas : HasIn b a.base := ⟨hpre, k, hle.1⟩
      have hl2 : ∀ y ∈ l, y < w2.heap.size := fun y hy => Nat.lt_of_lt_of_le (HL.out y hy) hK2.size
      have hany := anr_rows (HH.out.new hK2).2 HA.out.m eg (within_lit (L := a.per) hl2 (HH'.out.new hK2) HBG.out (by omega) HAG.out.per hb3)
      have HK2 := Lib.hid hK2
      have HHAS := Lib.hid hhas
      have HANY := Lib.hid hany
      clear hhas hany
      clear hpre hki hle hk2 hb3 hb4 hK2 hl2
      go_wp2_with fail
      refine HANY.out.mono ?_
      rintro e w3 ⟨r, rfl, hr, hk3⟩
      have HR := Lib.hid hr
      clear hr
      have HK3 := Lib.hid (HK2.out.trans hk3)
      clear hk3
      go_wp2_with fail
      go_ret
      refine ⟨_, rfl, ?_, HK3.out⟩
      rw [Bool.not_eq_true', ← Bool.not_eq_true, HR.out]
      constructor
      · intro h
        refine ⟨HGA.out, HGB.out, HHAS.out, fun p hp => Classical.byContradiction fun hno => h ?_⟩
        obtain ⟨i, hi, e⟩ := mem_getD (d := []) hp
        exact ⟨i, hi, by show notMade b.per (a.per.getD i []) = true; rw [e]; simp [notMade]; simpa using hno⟩
      · rintro ⟨_, _, _, h⟩ ⟨i, hi, hq⟩
        have hq : notMade b.per (a.per.getD i []) = true := hq
        obtain ⟨t, ht⟩ := h _ (getD_mem (d := []) hi)
        simp [notMade] at hq
        exact hq t ht
  · have hz1 : (chk2 n a b != 0) = true := by simpa using hz
    have hng : ¬ (GoodAll n [a] ∧ GoodAll n [b]) := fun h => hz (chk2_zero.2 h)
    generalize chk2 n a b = z at *
    have HK := Lib.hid hK
    have HNG := Lib.hid hng
    clear hng
    clear hz hk hb1 hb2 hK
    go_wp2_with fail
    go_ret
    exact ⟨false, rfl, ⟨(fun h => by cases h), fun h => absurd ⟨h.1, h.2.1⟩ HNG.out⟩, HK.out⟩
end Go.Proofs.Ytdhadnnakcdfiaa
