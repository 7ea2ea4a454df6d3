/- The walks of limit's Maximise, check and Subset. -/
import Derived.Test.YtnmkinaokjekjaaGreatHas
import Derived.Test.YtnmkinaokjekjaaGreatBelow
namespace Go.Proofs.YtnmkinaokjekjaaGreat
set_option linter.unusedVariables false
open Go.RowKit

def maxE (n : Int) (L : List (List Int)) : Int := if dimB n 6 = false then 2 else eachL n vvB L
theorem maxE_zero {n : Int} {L : List (List Int)} : maxE n L = 0 ↔ (1 ≤ n ∧ n ≤ 6) ∧ ∀ x ∈ L, (x.length : Int) = n ∧ vvB x = true := by
  unfold maxE
  by_cases h : dimB n 6 = false
  · rw [if_pos h]; exact ⟨fun h => by omega, fun h' => absurd h'.1 (dimB_false.1 h)⟩
  · rw [if_neg h]
    have h1 := dimB_true.1 (by simpa using h)
    exact ⟨fun h => ⟨h1, eachL_zero.1 h⟩, fun h => eachL_zero.2 h.2⟩
def MaxPost (n : Int) (L : List (List Int)) (l : List Nat) (w : World) (e : Ending) (w' : World) : Prop :=
  Keeps [] w w' ∧ ((maxE n L ≠ 0 ∧ e = .returned (.tuple #[.slice none 0 0, .int .i64 (maxE n L)])) ∨ (maxE n L = 0 ∧ ∃ out, Asc out ∧ (∀ x, x ∈ out ↔ MaxOf covG L x) ∧ OutL l out e w'))
set_option maxRecDepth 100000 in
set_option maxHeartbeats 4000000 in
theorem maximise_is {w : World} {l : List Nat} {lv : Value} {L : List (List Int)} {n : Int} (hlw : ∀ y ∈ l, y < w.heap.size) (h : IsII w l lv L) (hn : L.length ≤ 100000000) (hL : ∀ x ∈ L, x.length ≤ 1000000) :
    Calls Tryz.prog 18 #[.int .i64 n, lv] w (MaxPost n L l w) := by
  unfold MaxPost
  have hd := dim_any n 6
  have egv := enters_of Tryz.func66 (by kernel_rfl) rfl
  have egg := enters_of Tryz.func67 (by kernel_rfl) rfl
  have h' := h
  obtain ⟨A0, c0, V, rfl, _⟩ := h'
  have heq : maxE n L = if dimB n 6 = false then 2 else eachL n vvB L := rfl
  cases hq : dimB n 6 with
  | false =>
    rw [hq] at hd
    rw [hq, if_pos rfl] at heq
    rw [heq]
    have H := Lib.hid h
    have HL := Lib.hid hL
    have HLW := Lib.hid hlw
    have HD := Lib.hid hd
    have HEQ := Lib.hid heq
    clear h hL hlw hd heq
    clear hq
    go_enter Tryz.func18, Tryz.ntmps18
    go_wp2_with fail
    refine (HD.out _).mono ?_
    rintro e w' ⟨rfl, rfl⟩
    go_wp2_with fail
    go_ret2
    exact ⟨Keeps.refl _ _, .inl ⟨by omega, rfl⟩⟩
  | true =>
    rw [hq] at hd
    rw [hq, if_neg (by simp)] at heq
    have hdm := dimB_true.1 hq
    have hcall := fun W (k : Keeps [] w W) => each_is (n := n) (gc := 67) rightF_V egv (h.new k) (by omega) hL
    rw [heq]
    have hz : eachL n vvB L = 0 → ∀ x ∈ L, (x.length : Int) = n ∧ vvB x = true := eachL_zero.1
    generalize eachL n vvB L = z at *
    generalize hLn : L.length = m at *
    have H := Lib.hid h
    have HL := Lib.hid hL
    have HLW := Lib.hid hlw
    have HD := Lib.hid hd
    have HEQ := Lib.hid heq
    have HCALL := Lib.hid hcall
    have HZ := Lib.hid hz
    have HLN := Lib.hid hLn
    have HDM := Lib.hid hdm
    clear h hL hlw hd heq hcall hz hLn hdm
    clear hq
    go_enter Tryz.func18, Tryz.ntmps18
    go_wp2_with fail
    refine (HD.out _).mono ?_
    rintro e w' ⟨rfl, rfl⟩
    go_wp2_with fail
    refine (greatest_is w).mono ?_
    rintro e w1 ⟨rfl, hk1⟩
    have hs0 := World.cell?_alloc_new w1 #[.func (.func 66) #[] #[], .func (.func 67) #[] #[]] 55 0
    have hs1 := World.cell?_alloc_new w1 #[.func (.func 66) #[] #[], .func (.func 67) #[] #[]] 55 1
    have hk2 : Keeps [] w (w1.alloc (.cells #[.func (.func 66) #[] #[], .func (.func 67) #[] #[]] 55)) := hk1.alloc _
    have HS0 := Lib.hid hs0
    have HS1 := Lib.hid hs1
    have HK2 := Lib.hid hk2
    clear hk2
    clear hk1
    go_wp2_with fail
    refine (HCALL.out _ HK2.out).mono ?_
    rintro e w3 ⟨rfl, hk3⟩
    have hs0' := hk3.read HS0.out (by simp)
    have hs1' := hk3.read HS1.out (by simp)
    have hk4 := HK2.out.trans hk3
    have HK4 := Lib.hid hk4
    clear hk4
    clear hk3 hs0 hs1
    by_cases h0 : z = 0
    · subst h0
      have hel : ∀ x ∈ L, VVal x ∧ x.length = n.toNat := fun x hx => by
        have := HZ.out rfl x hx
        exact ⟨vvB_true.1 this.2, by have := this.1; omega⟩
      have hred := reduced_is (gr := 66) (fun y hy => Nat.lt_of_lt_of_le (HLW.out y hy) HK4.out.size) covF_G egg (ordG hel) (fun x hx => ⟨HL.out x hx, HL.out x hx⟩) (H.out.new HK4.out) (by rw [HLN.out]; omega)
      have HRED := Lib.hid hred
      have HEL := Lib.hid hel
      clear hred hel
      go_wp2_with fail
      refine HRED.out.mono ?_
      rintro e w5 ⟨A, q, c, out, hq, rfl, hasc, hys, hO, hk5⟩
      have hk6 := HK4.out.trans hk5
      have hI : IsII w5 l (.slice A q c) out := hO.isL (fun y hy => Nat.lt_of_lt_of_le (HLW.out y hy) HK4.out.size)
      have HK6 := Lib.hid hk6
      have HI := Lib.hid hI
      have HQ := Lib.hid hq
      have HASC := Lib.hid hasc
      have HYS := Lib.hid hys
      clear hk6 hI hq hasc hys
      clear hk5 hO
      go_wp2_with fail
      refine (limited_any A q c w5).mono ?_
      rintro e w6 ⟨he, rfl⟩
      by_cases h256 : 256 < q
      · rw [if_pos h256] at he
        subst he
        go_wp2_with fail
        go_ret2
        exact ⟨HK6.out, out, HASC.out, HYS.out, .inl ⟨by rw [← HQ.out]; exact h256, rfl⟩⟩
      · rw [if_neg h256] at he
        subst he
        go_wp2_with fail
        go_ret2
        exact ⟨HK6.out, out, HASC.out, HYS.out, .inr ⟨by rw [← HQ.out]; omega, A, q, c, HQ.out, rfl, HI.out⟩⟩
    · have hb : (z != 0) = true := by simpa using h0
      have H0 := Lib.hid h0
      clear h0
      go_wp2_with fail
      go_ret2
      exact ⟨HK4.out, .inl ⟨H0.out, rfl⟩⟩

def ckE (n : Int) (a b : List (List Int)) : Int := if chkL n a ≠ 0 then chkL n a else chkL n b
theorem ckE_zero {n : Int} {a b : List (List Int)} : ckE n a b = 0 ↔ chkL n a = 0 ∧ chkL n b = 0 := by
  unfold ckE
  by_cases h : chkL n a = 0
  · rw [if_neg (by simpa using h)]; exact ⟨fun h' => ⟨h, h'⟩, fun h => h.2⟩
  · rw [if_pos h]; exact ⟨fun h' => absurd h' h, fun h' => absurd h'.1 h⟩
set_option maxHeartbeats 2000000 in
theorem check2_is {w : World} {l : List Nat} {av bv : Value} {a b : List (List Int)} {n : Int} (hlw : ∀ y ∈ l, y < w.heap.size) (ha : IsII w l av a) (hn : a.length ≤ 100000000) (hL : ∀ x ∈ a, x.length ≤ 1000000) (hb : IsII w l bv b) (hm : b.length ≤ 100000000) (hM : ∀ x ∈ b, x.length ≤ 1000000) :
    Calls Tryz.prog 40 #[.int .i64 n, av, bv] w (RetE (ckE n a b) w) := by
  unfold RetE
  have hc1 := check_is (n := n) hlw ha hn hL
  have hc2 := fun W (k : Keeps [] w W) => check_is (n := n) (fun y hy => Nat.lt_of_lt_of_le (hlw y hy) k.size) (hb.new k) hm hM
  have heq : ckE n a b = if chkL n a ≠ 0 then chkL n a else chkL n b := rfl
  have ha' := ha
  obtain ⟨A0, c0, V, rfl, _⟩ := ha'
  have hb' := hb
  obtain ⟨B0, d0, U, rfl, _⟩ := hb'
  generalize chkL n a = z at *
  generalize chkL n b = z2 at *
  generalize a.length = an at *
  generalize b.length = bn at *
  by_cases h0 : z = 0
  · subst h0
    rw [if_neg (by simp)] at heq
    have HC1 := Lib.hid hc1
    have HC2 := Lib.hid hc2
    have HEQ := Lib.hid heq
    have HA := Lib.hid ha
    have HB := Lib.hid hb
    have HLW := Lib.hid hlw
    have HL := Lib.hid hL
    have HM := Lib.hid hM
    clear hc1 hc2 heq ha hb hlw hL hM
    go_enter Tryz.func40, Tryz.ntmps40
    go_wp2_with fail
    refine HC1.out.mono ?_
    rintro e w1 ⟨rfl, hk1⟩
    have HK1 := Lib.hid hk1
    clear hk1
    go_wp2_with fail
    refine (HC2.out w1 HK1.out).mono ?_
    rintro e w2 ⟨rfl, hk2⟩
    have hk3 := HK1.out.trans hk2
    have HK3 := Lib.hid hk3
    clear hk3
    clear hk2
    go_wp2_with fail
    go_ret
    exact ⟨ret_ii HEQ.out, HK3.out⟩
  · have hb : (z != 0) = true := by simpa using h0
    rw [if_pos h0] at heq
    have HC1 := Lib.hid hc1
    have HC2 := Lib.hid hc2
    have HEQ := Lib.hid heq
    have HA := Lib.hid ha
    have HLW := Lib.hid hlw
    have HL := Lib.hid hL
    have HM := Lib.hid hM
    clear hc1 hc2 heq ha hlw hL hM
    go_enter Tryz.func40, Tryz.ntmps40
    go_wp2_with fail
    refine HC1.out.mono ?_
    rintro e w1 ⟨rfl, hk1⟩
    have HK1 := Lib.hid hk1
    clear hk1
    go_wp2_with fail
    go_ret
    exact ⟨ret_ii HEQ.out, HK1.out⟩

set_option maxHeartbeats 400000 in
theorem subset1_is {w : World} {l : List Nat} {uv bv : Value} {x : List Int} {b : List (List Int)} {vc : Nat} (h2 : w.cell? ⟨vc, 0, none⟩ = some bv) (hu : IsI w l uv x) (hb : IsII w l bv b) (hn : x.length ≤ 1000000) (hm : b.length ≤ 1000000000) (hM : ∀ y ∈ b, y.length ≤ 1000000) :
    Calls Tryz.prog 42 #[uv, .pointer (some ⟨vc, 0, none⟩)] w (RetB (!undB b x) w) := by
  unfold RetB
  have hcall := within_is hb hm hM hu hn
  obtain ⟨A, c, rfl, _⟩ := hu.open
  have hb' := hb
  obtain ⟨B0, d0, U, rfl, _⟩ := hb'
  generalize undB b x = r at *
  generalize b.length = bn at *
  have HCALL := Lib.hid hcall
  have HU := Lib.hid hu
  have HB := Lib.hid hb
  have HM := Lib.hid hM
  clear hcall hu hb hM
  go_enter Tryz.func42, Tryz.ntmps42
  go_wp2_with fail
  refine HCALL.out.mono ?_
  rintro e w1 ⟨rfl, hk⟩
  have HK := Lib.hid hk
  clear hk
  go_wp2_with fail
  go_ret
  exact ⟨rfl, HK.out⟩

def subB (n : Int) (a b : List (List Int)) : Bool := decide (ckE n a b = 0) && a.all fun v => undB b v
set_option maxHeartbeats 2000000 in
theorem subset_is {w : World} {l : List Nat} {av bv : Value} {a b : List (List Int)} {n : Int} (hlw : ∀ y ∈ l, y < w.heap.size) (ha : IsII w l av a) (hn : a.length ≤ 100000000) (hL : ∀ x ∈ a, x.length ≤ 1000000) (hb : IsII w l bv b) (hm : b.length ≤ 100000000) (hM : ∀ x ∈ b, x.length ≤ 1000000) :
    Calls Tryz.prog 13 #[.int .i64 n, av, bv] w (RetB (subB n a b) w) := by
  unfold RetB
  have eg := enters_of Tryz.func42 (by kernel_rfl) rfl
  have hb' := hb
  obtain ⟨B0, d0, U, rfl, _⟩ := hb'
  have hal : Keeps [] w (w.alloc (.cells #[.slice B0 b.length d0] 23)) := (Keeps.refl _ _).alloc _
  have hvc := World.cell?_alloc_new w #[.slice B0 b.length d0] 23 0
  have hck := check2_is (w := w.alloc (.cells #[.slice B0 b.length d0] 23)) (n := n) (fun y hy => Nat.lt_of_lt_of_le (hlw y hy) hal.size) (ha.new hal) hn hL (hb.new hal) hm hM
  have hany := fun W (k : Keeps [] (w.alloc (.cells #[.slice B0 b.length d0] 23)) W) => ans_rows (w := W) (x := av) (g := 42) (lb := #[.pointer (some ⟨w.heap.size, 0, none⟩)]) (p := fun i => !undB b (a.getD i [])) (ha.new (hal.trans k)) (by omega) eg (fun W2 i u hi hK hu =>
    subset1_is (hK.read (k.read hvc (by simp)) (by simp)) hu ((hb.new (hal.trans k)).new hK) (hL _ (getD_mem hi)) (by omega) hM)
  have hdr : anyB a.length (fun i => !undB b (a.getD i [])) = !(a.all fun v => undB b v) := by
    rw [Bool.eq_iff_iff, anyB_true, Bool.not_eq_true', List.all_eq_false]
    constructor
    · rintro ⟨i, hi, h⟩; exact ⟨_, getD_mem hi, by simpa using h⟩
    · rintro ⟨x, hx, h⟩
      obtain ⟨i, hi, e⟩ := mem_getD (d := []) hx
      exact ⟨i, hi, by rw [e]; simpa using h⟩
  have hB : subB n a b = (decide (ckE n a b = 0) && a.all fun v => undB b v) := rfl
  rw [hdr] at hany
  rw [hB]
  have ha' := ha
  obtain ⟨A0, c0, V, rfl, _⟩ := ha'
  clear hB hdr
  generalize (a.all fun v => undB b v) = r at *
  generalize ckE n a b = z at *
  generalize a.length = an at *
  generalize b.length = bn at *
  have HA := Lib.hid ha
  have HB := Lib.hid hb
  have HCK := Lib.hid hck
  have HANY := Lib.hid hany
  have HAL := Lib.hid hal
  have HLW := Lib.hid hlw
  have HL := Lib.hid hL
  have HM := Lib.hid hM
  clear ha hb hck hany hal hlw hL hM
  by_cases hz : z = 0
  · subst hz
    go_enter Tryz.func13, Tryz.ntmps13
    go_wp2_with fail
    refine HCK.out.mono ?_
    rintro e w1 ⟨rfl, hk1⟩
    have hcall := HANY.out w1 hk1
    have HK1 := Lib.hid hk1
    have HCALL := Lib.hid hcall
    clear hk1 hcall
    clear hvc
    go_wp2_with fail
    refine HCALL.out.mono ?_
    rintro e w2 ⟨rfl, hk2⟩
    have hk := (HAL.out.trans HK1.out).trans hk2
    have HK := Lib.hid hk
    clear hk
    clear hk2
    go_wp2_with fail
    go_ret
    exact ⟨by simp, HK.out⟩
  · have ht : (z == 0) = false := by simpa using hz
    have hd : decide (z = 0) = false := decide_eq_false hz
    rw [hd]
    have HZ := Lib.hid hz
    clear hz
    go_enter Tryz.func13, Tryz.ntmps13
    go_wp2_with fail
    refine HCK.out.mono ?_
    rintro e w1 ⟨rfl, hk1⟩
    have hk := HAL.out.trans hk1
    have HK := Lib.hid hk
    clear hk
    clear hk1 hvc
    go_wp2_with fail
    go_ret
    exact ⟨by simp, HK.out⟩
end Go.Proofs.YtnmkinaokjekjaaGreat
