/- The walk of the reference's Drops of words. -/
import Derived.Test.YtfhommegkogahaaREmbedW
import Derived.Test.YtfhommegkogahaaDrops
import Derived.Test.YtfhommegkogahaaRWithout
import Derived.Test.YtfhommegkogahaaPutL
namespace Go.Proofs.Ytfhommegkogahaa
set_option linter.unusedVariables false
open Go.RowKit

/-- A list that is returned: ascending, with just these words. -/
def AscPost (l : List Nat) (p : List Int → Prop) (w : World) (e : Ending) (w' : World) : Prop :=
  ∃ A n c ys, n = (ys : List (List Int)).length ∧ e = .returned (.slice A n c) ∧ Asc ys ∧ (∀ x, x ∈ ys ↔ p x) ∧ IsII w' l (.slice A n c) ys ∧ Keeps [] w w'
theorem isII_len {w : World} {l : List Nat} {A : Option Addr} {n c : Nat} {xs : List (List Int)} (h : IsII w l (.slice A n c) xs) : n = xs.length := by
  obtain ⟨A', c', V, hv, _⟩ := h
  injection hv
def DropTo (a : List Int) (k : Nat) (x : List Int) : Prop := ∃ i, i < k ∧ x = dropL a i
theorem DropTo.next {a : List Int} {k : Nat} {x : List Int} : DropTo a (k + 1) x ↔ x = dropL a k ∨ DropTo a k x := by
  constructor
  · rintro ⟨i, hi, h2⟩
    by_cases e : i = k
    · subst e; exact .inl h2
    · exact .inr ⟨i, by omega, h2⟩
  · rintro (h1 | ⟨i, hi, h2⟩)
    · exact ⟨k, by omega, h1⟩
    · exact ⟨i, by omega, h2⟩
theorem DropTo.len {a x : List Int} {k : Nat} (h : DropTo a k x) : x.length ≤ a.length := by
  obtain ⟨i, _, rfl⟩ := h
  unfold dropL; simp; omega

set_option maxRecDepth 100000 in
set_option maxHeartbeats 4000000 in
theorem rdrops_is {w : World} {l : List Nat} {av : Value} {a : List Int} (hl : ∀ x ∈ l, x < w.heap.size) (ha : IsI w l av a) (hm : a.length ≤ 1000) : Calls Try.prog 27 #[av] w (AscPost l (IsDrop a) w) := by
  unfold AscPost
  obtain ⟨A, c', rfl, _, _, h2⟩ := ha.open
  have hcall := fun W (k : Keeps [] w W) => rvalid_is (IsI.new ha k) (by omega)
  have hput := fun W (k : Keeps [] w W) (u v : Value) L x => put_is (w := W) (l := l) (lv := u) (vv := v) (L := L) (v := x) (fun y hy => Nat.lt_of_lt_of_le (hl y hy) k.size)
  by_cases hva : WValid a
  · rw [wvB_true.2 hva] at hcall
    have hwo := fun W (k : Keeps [] w W) i (hi : i < a.length) => without_is (w := W) (l := l) (i := i) (fun y hy => Nat.lt_of_lt_of_le (hl y hy) k.size) (IsI.new ha k) (by omega) hi
    generalize hnn : a.length = n at *
    have HA := Lib.hid ha
    have H2 := Lib.hid h2
    have HNN := Lib.hid hnn
    have HCALL := Lib.hid hcall
    have HWO := Lib.hid hwo
    have HVA := Lib.hid hva
    have HPUT := Lib.hid hput
    have HL := Lib.hid hl
    clear ha h2 hnn hcall hwo hva hput hl
    go_enter Try.func27, Try.ntmps27
    go_wp2_with fail
    go_loopg [3, 4] (n + 1) (fun gh sv kv wr => ∃ (k k2 : Nat) (V : Option Addr) (cv : Nat) (ys : List (List Int)), n + 1 ≤ k + gh ∧ k ≤ n ∧ k2 ≤ k ∧ kv = .int .i64 (k : Int) ∧ sv = .slice V k2 cv ∧ ys.length = k2 ∧ Asc ys ∧ (∀ x, x ∈ ys ↔ DropTo a k x) ∧ IsII wr l (.slice V k2 cv) ys ∧ Keeps [] w wr)
    case atStart => exact ⟨0, 0, none, 0, [], by omega, by omega, by omega, rfl, rfl, rfl, List.Pairwise.nil, fun x => ⟨fun h => (by cases h), fun ⟨i, hi, _⟩ => by omega⟩, IsII.nil, Keeps.refl _ _⟩
    case round =>
      obtain ⟨k, k2, V, cv, ys, hgh, hk, hkk, rfl, rfl, hlen, hasc, hmem, hO, hkr⟩ := hrel
      have HLEN := Lib.hid hlen
      have HO := Lib.hid hO
      have HKR := Lib.hid hkr
      have HASC := Lib.hid hasc
      have HMEM := Lib.hid hmem
      clear hlen hO hkr hasc hmem
      have hc := HCALL.out wr HKR.out
      have HC := Lib.hid hc
      clear hc
      by_cases hlt : k < n
      · have hq1 : (k : Int) < (n : Int) := by omega
        go_wp2_with fail
        refine HC.out.mono ?_
        rintro e w1 ⟨rfl, hk1⟩
        have hO1 : IsII w1 l (.slice V k2 cv) ys := IsII.new HO.out hk1
        have hk1 := HKR.out.trans hk1
        have hcw := HWO.out w1 hk1 k hlt
        have HK1 := Lib.hid hk1
        have HO1 := Lib.hid hO1
        have HCW := Lib.hid hcw
        clear hk1 hO1 hcw
        go_wp2_with fail
        refine HCW.out.mono ?_
        rintro e w3 ⟨A3, c3, rfl, hI3, hk3⟩
        have hO3 := IsII.new HO1.out hk3
        have hk3 := HK1.out.trans hk3
        have hln : ∀ z ∈ ys, z.length ≤ 1000000 := fun z hz => by have := ((HMEM.out z).1 hz).len; rw [HNN.out] at this; omega
        have hl3 : (a.take k ++ a.drop (k + 1)).length ≤ 1000000 := by simp; rw [HNN.out]; omega
        have hcp := HPUT.out w3 hk3 _ _ ys (a.take k ++ a.drop (k + 1)) hO3 hI3 (by rw [HLEN.out]; omega) hln hl3
        have hle3 := putL_len (L := ys) (v := a.take k ++ a.drop (k + 1))
        have hasc3 := putL_asc (v := a.take k ++ a.drop (k + 1)) HASC.out
        have hm3 : ∀ x, x ∈ putL ys (a.take k ++ a.drop (k + 1)) ↔ DropTo a (k + 1) x := fun x => by
          rw [mem_putL, DropTo.next, HMEM.out x]; rfl
        rw [HLEN.out] at hle3
        generalize hys2 : putL ys (a.take k ++ a.drop (k + 1)) = ys2 at *
        have HYS2 := Lib.hid hys2
        clear hys2
        generalize (a.take k ++ a.drop (k + 1)).length = n3 at *
        have HI3 := Lib.hid hI3
        have HO3 := Lib.hid hO3
        have HK3 := Lib.hid hk3
        have HCP := Lib.hid hcp
        have HASC3 := Lib.hid hasc3
        have HM3 := Lib.hid hm3
        clear hI3 hO3 hk3 hcp hasc3 hm3
        clear hln hl3
        go_wp2_with fail
        refine HCP.out.mono ?_
        rintro e w4 ⟨A4, n4, c4, rfl, hI4, hk4⟩
        have hk4 := HK3.out.trans hk4
        rw [HYS2.out] at hI4
        have hn4 := isII_len hI4
        have HI4 := Lib.hid hI4
        have HK4 := Lib.hid hk4
        have HN4 := Lib.hid hn4
        clear hI4 hk4 hn4
        go_wp2_with fail
        go_roundg (n - k)
        case measure => omega
        case rel => exact ⟨k + 1, n4, A4, c4, ys2, by omega, by omega, by rw [HN4.out]; omega, by go_num, rfl, HN4.out.symm, HASC3.out, HM3.out, HI4.out, HK4.out⟩
      · obtain rfl : k = n := by omega
        have hall : ∀ x, x ∈ ys ↔ IsDrop a x := fun x => by
          rw [HMEM.out x]
          exact ⟨fun ⟨i, hi, e⟩ => ⟨HVA.out, i, by rw [HNN.out]; exact hi, e⟩, fun ⟨_, i, hi, e⟩ => ⟨i, by rw [HNN.out] at hi; exact hi, e⟩⟩
        have HALL := Lib.hid hall
        clear hall
        go_wp2_with fail
        refine HC.out.mono ?_
        rintro e w1 ⟨rfl, hk1⟩
        have hO1 : IsII w1 l (.slice V k2 cv) ys := IsII.new HO.out hk1
        have hk1 := HKR.out.trans hk1
        have HK1 := Lib.hid hk1
        have HO1 := Lib.hid hO1
        clear hk1 hO1
        go_wp2_with fail
        go_ret
        exact ⟨V, k2, cv, ys, HLEN.out.symm, rfl, HASC.out, HALL.out, HO1.out, HK1.out⟩
  · rw [wvB_false.2 hva] at hcall
    generalize hnn : a.length = n at *
    have HA := Lib.hid ha
    have H2 := Lib.hid h2
    have HNN := Lib.hid hnn
    have HCALL := Lib.hid hcall
    have HVA := Lib.hid hva
    have HPUT := Lib.hid hput
    have HL := Lib.hid hl
    clear ha h2 hnn hcall hva hput hl
    go_enter Try.func27, Try.ntmps27
    go_wp2_with fail
    go_loopg [3, 4] (1) (fun gh sv kv wr => 1 ≤ gh ∧ kv = .int .i64 0 ∧ sv = .slice none 0 0 ∧ Keeps [] w wr)
    case atStart => exact ⟨by omega, rfl, rfl, Keeps.refl _ _⟩
    case round =>
      obtain ⟨hgh, rfl, rfl, hkr⟩ := hrel
      have hc := HCALL.out wr hkr
      have HC := Lib.hid hc
      have HKR := Lib.hid hkr
      clear hc hkr
      go_wp2_with fail
      refine HC.out.mono ?_
      rintro e w1 ⟨rfl, hk1⟩
      have hk1 := HKR.out.trans hk1
      have HK1 := Lib.hid hk1
      clear hk1
      go_wp2_with fail
      go_ret
      exact ⟨none, 0, 0, [], rfl, rfl, List.Pairwise.nil, fun x => ⟨fun h => (by cases h), fun h => absurd h.1 HVA.out⟩, IsII.nil, HK1.out⟩
end Go.Proofs.Ytfhommegkogahaa
