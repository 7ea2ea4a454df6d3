/- The walk of the reference's Drops. -/
import Derived.Test.YtmjnicikikgncaaPRef
import Derived.Test.YtmjnicikikgncaaPDrops
import Derived.Test.YtmjnicikikgncaaRWithout
import Derived.Test.YtmjnicikikgncaaPutL
import Derived.Deep.QuietTactic
namespace Go.Proofs.Ytmjnicikikgncaa
set_option linter.unusedVariables false
open Go.RowKit

/-- A list that is returned: ascending, with just these words. -/
def AscPost (l : List Nat) (p : List Int → Prop) (w : World) (e : Ending) (w' : World) : Prop :=
  ∃ A n c ys, n = (ys : List (List Int)).length ∧ e = .returned (.slice A n c) ∧ Asc ys ∧ (∀ x, x ∈ ys ↔ p x) ∧ IsII w' l (.slice A n c) ys ∧ Keeps [] w w'

/-- The drops up to a place. -/
def PDropTo (r a : List Int) (k : Nat) (x : List Int) : Prop := ∃ i, i < k ∧ pdOk r a i = true ∧ x = dropAtI a i
theorem PDropTo.yes {r a : List Int} {k : Nat} (h : pdOk r a k = true) {x : List Int} : PDropTo r a (k + 1) x ↔ x = dropAtI a k ∨ PDropTo r a k x := by
  constructor
  · rintro ⟨i, hi, h1, h2⟩
    by_cases e : i = k
    · subst e; exact .inl h2
    · exact .inr ⟨i, by omega, h1, h2⟩
  · rintro (h1 | ⟨i, hi, h1, h2⟩)
    · exact ⟨k, by omega, h, h1⟩
    · exact ⟨i, by omega, h1, h2⟩
theorem PDropTo.no {r a : List Int} {k : Nat} (h : pdOk r a k = false) {x : List Int} : PDropTo r a (k + 1) x ↔ PDropTo r a k x := by
  constructor
  · rintro ⟨i, hi, h1, h2⟩
    by_cases e : i = k
    · subst e; rw [h] at h1; cases h1
    · exact ⟨i, by omega, h1, h2⟩
  · rintro ⟨i, hi, h1, h2⟩
    exact ⟨i, by omega, h1, h2⟩
theorem PDropTo.all {r a : List Int} {k : Nat} (hv : PValid r a) (h1 : k ≤ a.length - 1) (h2 : ¬ k + 1 < a.length) {x : List Int} : PDropTo r a k x ↔ IsPDrop r a x := by
  constructor
  · rintro ⟨i, hi, h3, h4⟩
    exact ⟨hv, i, by omega, pdOk_true.1 h3, h4⟩
  · rintro ⟨_, i, hi, h3, h4⟩
    exact ⟨i, by omega, pdOk_true.2 h3, h4⟩
theorem PDropTo.len {r a x : List Int} {k : Nat} (h : PDropTo r a k x) : x.length ≤ a.length := by
  obtain ⟨i, _, _, rfl⟩ := h
  unfold dropAtI; simp; omega
theorem isII_len {w : World} {l : List Nat} {A : Option Addr} {n c : Nat} {xs : List (List Int)} (h : IsII w l (.slice A n c) xs) : n = xs.length := by
  obtain ⟨A', c', V, hv, _⟩ := h
  injection hv

set_option maxRecDepth 100000 in
set_option maxHeartbeats 4000000 in
theorem rpdrops_is {w : World} {l : List Nat} {rv av : Value} {r a : List Int} (hl : ∀ x ∈ l, x < w.heap.size) (hr : IsI w l rv r) (ha : IsI w l av a) (hn : r.length ≤ 1000) (hm : a.length ≤ 1000) : Calls Try.prog 22 #[rv, av] w (AscPost l (IsPDrop r a) w) := by
  unfold AscPost
  obtain ⟨R, c, rfl, _, _, h1⟩ := hr.open
  obtain ⟨A, c', rfl, _, _, h2⟩ := ha.open
  have hcall := fun W (k : Keeps [] w W) => rpvalid_is (IsI.new hr k) (IsI.new ha k) (by omega) (by omega)
  have hput := fun W (k : Keeps [] w W) (u v : Value) L x => put_is (w := W) (l := l) (lv := u) (vv := v) (L := L) (v := x) (fun y hy => Nat.lt_of_lt_of_le (hl y hy) k.size)
  by_cases hva : PValid r a
  · rw [pvB_true.2 hva] at hcall
    have hwo := fun W (k : Keeps [] w W) i (hi : i < a.length) => without_is (w := W) (l := l) (i := i) (fun y hy => Nat.lt_of_lt_of_le (hl y hy) k.size) (IsI.new ha k) (by omega) hi
    generalize hnn : a.length = n at *
    generalize hrn : r.length = rn at *
    have HR := Lib.hid hr
    have HA := Lib.hid ha
    have H1 := Lib.hid h1
    have H2 := Lib.hid h2
    have HNN := Lib.hid hnn
    have HRN := Lib.hid hrn
    have HCALL := Lib.hid hcall
    have HWO := Lib.hid hwo
    have HVA := Lib.hid hva
    have HPUT := Lib.hid hput
    have HL := Lib.hid hl
    clear hr ha h1 h2 hnn hrn hcall hwo hva hput hl
    go_enter Try.func22, Try.ntmps22
    go_wp2_with fail
    go_loopg [5, 6] (n + 1) (fun gh sv kv wr => ∃ (k k2 : Nat) (V : Option Addr) (cv : Nat) (ys : List (List Int)), n + 1 ≤ k + gh ∧ k ≤ n ∧ k ≤ n - 1 ∧ k2 ≤ k ∧ kv = .int .i64 (k : Int) ∧ sv = .slice V k2 cv ∧ ys.length = k2 ∧ Asc ys ∧ (∀ x, x ∈ ys ↔ PDropTo r a k x) ∧ IsII wr l (.slice V k2 cv) ys ∧ Keeps [] w wr)
    case atStart => exact ⟨0, 0, none, 0, [], by omega, by omega, by omega, by omega, rfl, rfl, rfl, List.Pairwise.nil, fun x => ⟨fun h => (by cases h), fun ⟨i, hi, _⟩ => by omega⟩, IsII.nil, Keeps.refl _ _⟩
    case round =>
      obtain ⟨k, k2, V, cv, ys, hgh, hk, hk', hkk, rfl, rfl, hlen, hasc, hmem, hO, hkr⟩ := hrel
      have HLEN := Lib.hid hlen
      have HO := Lib.hid hO
      have HKR := Lib.hid hkr
      have HASC := Lib.hid hasc
      have HMEM := Lib.hid hmem
      clear hlen hO hkr hasc hmem
      have hc := HCALL.out wr HKR.out
      have HC := Lib.hid hc
      clear hc
      by_cases hlt : k + 1 < n
      · have hltk : k < n := by omega
        have hq1 : (k : Int) + 1 < (n : Int) := by omega
        have hq2 : (0 : Int) ≤ (k : Int) + 1 := by omega
        have hq3 : (k : Int) < (n : Int) := by omega
        have hw1 : IntKind.i64.wrap ((k : Int) + 1) = (k : Int) + 1 := IntWalk.i64_in _ (by omega)
        go_wp2_with fail
        refine HC.out.mono ?_
        rintro e w1 ⟨rfl, hk1⟩
        have hO1 : IsII w1 l (.slice V k2 cv) ys := IsII.new HO.out hk1
        have hk1 := HKR.out.trans hk1
        have hkl := hk1.nil l
        obtain ⟨pa, rfl, hpa⟩ := (H2.out.keeps hkl).at_ hltk
        obtain ⟨pa2, epa, hpa2⟩ := (H2.out.keeps hkl).at_ hlt
        injection epa with epa
        subst epa
        have hx := HVA.out.2.2 _ (getD_mem (d := 0) (show k < a.length by rw [HNN.out]; exact hltk))
        have hy := HVA.out.2.2 _ (getD_mem (d := 0) (show k + 1 < a.length by rw [HNN.out]; exact hlt))
        have hpd : pdOk r a k = true ↔ rkF r (a.getD k 0) ≤ rkF r (a.getD (k + 1) 0) := pdOk_true
        rw [HRN.out] at hx hy
        generalize a.getD k 0 = x at *
        generalize a.getD (k + 1) 0 = y at *
        obtain ⟨x, rfl⟩ : ∃ i : Nat, x = (i : Int) := ⟨x.toNat, by omega⟩
        obtain ⟨y, rfl⟩ : ∃ i : Nat, y = (i : Int) := ⟨y.toNat, by omega⟩
        have hxn : x < rn := by omega
        have hyn : y < rn := by omega
        obtain ⟨px, rfl, hpx⟩ := (H1.out.keeps hkl).at_ hxn
        obtain ⟨py, epy, hpy⟩ := (H1.out.keeps hkl).at_ hyn
        injection epy with epy
        subst epy
        have hrx : rkF r (x : Int) = r.getD x 0 := rfl
        have hry : rkF r (y : Int) = r.getD y 0 := rfl
        rw [hrx, hry] at hpd
        generalize r.getD x 0 = vx at *
        generalize r.getD y 0 = vy at *
        have hq4 : (0 : Int) ≤ (x : Int) := by omega
        have hq5 : (x : Int) < (rn : Int) := by omega
        have hq6 : (0 : Int) ≤ (y : Int) := by omega
        have hq7 : (y : Int) < (rn : Int) := by omega
        have hq8 : ((k : Int) + 1).toNat = k + 1 := by omega
        rw [show pa.add (k + 1) = ⟨pa.block, pa.off + (k + 1), none⟩ by simp [Addr.add]] at hpa2
        have HK1 := Lib.hid hk1
        have HO1 := Lib.hid hO1
        clear hk1 hO1
        clear hkl hrx hry hx hy
        by_cases hle : vx ≤ vy
        · have hyes := fun x => PDropTo.yes (r := r) (a := a) (k := k) (x := x) (hpd.2 hle)
          have hd1 : decide (vx ≤ vy) = true := decide_eq_true hle
          have HYES := Lib.hid hyes
          clear hyes
          clear hpd
          go_wp2_with fail
          go_quiet (fail)
          have hk5 : Keeps [] w (w1.drewN nq) := HK1.out.drewN _
          have hO5 : IsII (w1.drewN nq) l (.slice V k2 cv) ys := IsII.new HO1.out ((Keeps.refl _ _).drewN _)
          generalize w1.drewN nq = w2 at *
          have hcw := HWO.out w2 hk5 k hltk
          have HK5 := Lib.hid hk5
          have HO5 := Lib.hid hO5
          have HCW := Lib.hid hcw
          clear hk5 hO5 hcw
          clear hpa hpa2 hpx hpy
          go_wp2_with fail
          refine HCW.out.mono ?_
          rintro e w3 ⟨A3, c3, rfl, hI3, hk3⟩
          have hO3 := IsII.new HO5.out hk3
          have hk3 := HK5.out.trans hk3
          have hln : ∀ z ∈ ys, z.length ≤ 1000000 := fun z hz => by have := ((HMEM.out z).1 hz).len; rw [HNN.out] at this; omega
          have hl3 : (a.take k ++ a.drop (k + 1)).length ≤ 1000000 := by simp; rw [HNN.out]; omega
          have hcp := HPUT.out w3 hk3 _ _ ys (a.take k ++ a.drop (k + 1)) hO3 hI3 (by rw [HLEN.out]; omega) hln hl3
          have hle3 := putL_len (L := ys) (v := a.take k ++ a.drop (k + 1))
          have hasc3 := putL_asc (v := a.take k ++ a.drop (k + 1)) HASC.out
          have hm3 : ∀ x, x ∈ putL ys (a.take k ++ a.drop (k + 1)) ↔ PDropTo r a (k + 1) x := fun x => by
            rw [mem_putL, HYES.out x, HMEM.out x]; rfl
          rw [HLEN.out] at hle3
          generalize hys2 : putL ys (a.take k ++ a.drop (k + 1)) = ys2 at *
          have HYS2 := Lib.hid hys2
          clear hys2
          generalize (a.take k ++ a.drop (k + 1)).length = n3 at *
          have HI3 := Lib.hid hI3
          have HO3 := Lib.hid hO3
          have HK3 := Lib.hid hk3
          have HCP := Lib.hid hcp
          have HASC3 := Lib.hid hasc3
          have HM3 := Lib.hid hm3
          clear hI3 hO3 hk3 hcp hasc3 hm3
          clear hln hl3
          go_wp2_with fail
          refine HCP.out.mono ?_
          rintro e w4 ⟨A4, n4, c4, rfl, hI4, hk4⟩
          have hk4 := HK3.out.trans hk4
          rw [HYS2.out] at hI4
          have hn4 := isII_len hI4
          have HI4 := Lib.hid hI4
          have HK4 := Lib.hid hk4
          have HN4 := Lib.hid hn4
          clear hI4 hk4 hn4
          go_wp2_with fail
          go_roundg (n - k)
          case measure => omega
          case rel => exact ⟨k + 1, n4, A4, c4, ys2, by omega, by omega, by omega, by rw [HN4.out]; omega, by go_num, rfl, HN4.out.symm, HASC3.out, HM3.out, HI4.out, HK4.out⟩
        · have hno := fun x => PDropTo.no (r := r) (a := a) (k := k) (x := x) (by rw [← Bool.not_eq_true, hpd]; exact hle)
          have hd1 : decide (vx ≤ vy) = false := decide_eq_false hle
          have HNO := Lib.hid hno
          clear hno
          clear hpd
          go_wp2_with fail
          go_quiet (fail)
          go_wp2_with fail
          go_roundg (n - k)
          case measure => omega
          case rel => exact ⟨k + 1, k2, V, cv, ys, by omega, by omega, by omega, by omega, by go_num, rfl, HLEN.out, HASC.out, fun x => (HMEM.out x).trans (HNO.out x).symm, IsII.new HO1.out ((Keeps.refl _ _).drewN _), HK1.out.drewN _⟩
      · have hall := fun x => PDropTo.all (k := k) (x := x) HVA.out (by rw [HNN.out]; exact hk') (by rw [HNN.out]; exact hlt)
        have hq1 : decide ((k : Int) + 1 < (n : Int)) = false := decide_eq_false (by omega)
        have HALL := Lib.hid hall
        clear hall
        have hw1 : IntKind.i64.wrap ((k : Int) + 1) = (k : Int) + 1 := IntWalk.i64_in _ (by omega)
        go_wp2_with fail
        refine HC.out.mono ?_
        rintro e w1 ⟨rfl, hk1⟩
        have hO1 : IsII w1 l (.slice V k2 cv) ys := IsII.new HO.out hk1
        have hk1 := HKR.out.trans hk1
        have HK1 := Lib.hid hk1
        have HO1 := Lib.hid hO1
        clear hk1 hO1
        go_wp2_with fail
        go_ret
        exact ⟨V, k2, cv, ys, HLEN.out.symm, rfl, HASC.out, fun x => (HMEM.out x).trans (HALL.out x), HO1.out, HK1.out⟩
  · rw [pvB_false.2 hva] at hcall
    generalize hnn : a.length = n at *
    generalize hrn : r.length = rn at *
    have HR := Lib.hid hr
    have HA := Lib.hid ha
    have H1 := Lib.hid h1
    have H2 := Lib.hid h2
    have HNN := Lib.hid hnn
    have HRN := Lib.hid hrn
    have HCALL := Lib.hid hcall
    have HVA := Lib.hid hva
    have HPUT := Lib.hid hput
    have HL := Lib.hid hl
    clear hr ha h1 h2 hnn hrn hcall hva hput hl
    go_enter Try.func22, Try.ntmps22
    go_wp2_with fail
    go_loopg [5, 6] (1) (fun gh sv kv wr => 1 ≤ gh ∧ kv = .int .i64 0 ∧ sv = .slice none 0 0 ∧ Keeps [] w wr)
    case atStart => exact ⟨by omega, rfl, rfl, Keeps.refl _ _⟩
    case round =>
      obtain ⟨hgh, rfl, rfl, hkr⟩ := hrel
      have hc := HCALL.out wr hkr
      have HC := Lib.hid hc
      have HKR := Lib.hid hkr
      clear hc hkr
      go_wp2_with fail
      refine HC.out.mono ?_
      rintro e w1 ⟨rfl, hk1⟩
      have hk1 := HKR.out.trans hk1
      have HK1 := Lib.hid hk1
      clear hk1
      go_wp2_with fail
      go_ret
      exact ⟨none, 0, 0, [], rfl, rfl, List.Pairwise.nil, fun x => ⟨fun h => (by cases h), fun h => absurd h.1 HVA.out⟩, IsII.nil, HK1.out⟩
end Go.Proofs.Ytmjnicikikgncaa
