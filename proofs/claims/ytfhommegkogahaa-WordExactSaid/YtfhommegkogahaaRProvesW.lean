/- The walk of the reference's Proves of words. -/
import Derived.Test.YtfhommegkogahaaRPlaces
import Derived.Test.YtfhommegkogahaaRValid
import Derived.Test.YtfhommegkogahaaProvesW
namespace Go.Proofs.Ytfhommegkogahaa
set_option linter.unusedVariables false
open Go.RowKit

theorem places_iff {a b p : List Int} : WPlaces a b p ↔ PlOf a b p :=
  ⟨fun h => ⟨h.1, fun i hi => (h.2 i hi).1, fun i hi => (h.2 i hi).2.1, fun i hi => (h.2 i hi).2.2.1, fun i hi => (h.2 i hi).2.2.2⟩,
   fun h => ⟨h.len, fun i hi => ⟨h.low i hi, h.high i hi, h.letter i hi, h.asc i hi⟩⟩⟩
theorem wpr_eq {a b p : List Int} : wprB a b p = (wvB a && (wvB b && plB a b p)) := by
  rw [Bool.eq_iff_iff, wprB_true, Bool.and_eq_true, Bool.and_eq_true, wvB_true, wvB_true, plB_true, ← places_iff]; exact Iff.rfl
set_option maxHeartbeats 1000000 in
theorem rproves_is {w : World} {l : List Nat} {av bv pv : Value} {a b p : List Int} (ha : IsI w l av a) (hb : IsI w l bv b) (hp : IsI w l pv p) (hn : a.length ≤ 1000000) (hm : b.length ≤ 1000000) (ho : p.length ≤ 1000000) : Calls Try.prog 24 #[av, bv, pv] w (RetB (wprB a b p) w) := by
  unfold RetB
  have heq := wpr_eq (a := a) (b := b) (p := p)
  have hc1 := rvalid_is ha hn
  have hc2 := fun W (k : Keeps [] w W) => rvalid_is (IsI.new hb k) hm
  have hc3 := fun W (k : Keeps [] w W) => places_is (IsI.new ha k) (IsI.new hb k) (IsI.new hp k) hn hm ho
  obtain ⟨A, c, rfl, _⟩ := ha.open
  obtain ⟨B, c', rfl, _⟩ := hb.open
  obtain ⟨C, c2, rfl, _⟩ := hp.open
  generalize wvB a = q1 at *
  generalize wvB b = q2 at *
  generalize plB a b p = q3 at *
  generalize wprB a b p = q at *
  have HA := Lib.hid ha
  have HB := Lib.hid hb
  have HP := Lib.hid hp
  have HC1 := Lib.hid hc1
  have HC2 := Lib.hid hc2
  have HC3 := Lib.hid hc3
  clear ha hb hp hc1 hc2 hc3
  cases q1 with
  | false =>
    have HEQ := Lib.hid heq
    clear heq
    go_enter Try.func24, Try.ntmps24
    go_wp2_with fail
    refine HC1.out.mono ?_
    rintro e w1 ⟨rfl, hk1⟩
    have HK1 := Lib.hid hk1
    clear hk1
    go_wp2_with fail
    go_ret
    exact ⟨ret_bo HEQ.out.symm, HK1.out⟩
  | true =>
    cases q2 with
    | false =>
      have HEQ := Lib.hid heq
      clear heq
      go_enter Try.func24, Try.ntmps24
      go_wp2_with fail
      refine HC1.out.mono ?_
      rintro e w1 ⟨rfl, hk1⟩
      have hc2 := HC2.out w1 hk1
      have HK1 := Lib.hid hk1
      have HC2 := Lib.hid hc2
      clear hk1 hc2
      go_wp2_with fail
      refine HC2.out.mono ?_
      rintro e w2 ⟨rfl, hk2⟩
      have hk2 := HK1.out.trans hk2
      have HK2 := Lib.hid hk2
      clear hk2
      go_wp2_with fail
      go_ret
      exact ⟨ret_bo HEQ.out.symm, HK2.out⟩
    | true =>
      have heq : q = q3 := by rw [heq]; simp
      have HEQ := Lib.hid heq
      clear heq
      go_enter Try.func24, Try.ntmps24
      go_wp2_with fail
      refine HC1.out.mono ?_
      rintro e w1 ⟨rfl, hk1⟩
      have hc2 := HC2.out w1 hk1
      have HK1 := Lib.hid hk1
      have HC2 := Lib.hid hc2
      clear hk1 hc2
      go_wp2_with fail
      refine HC2.out.mono ?_
      rintro e w2 ⟨rfl, hk2⟩
      have hk2 := HK1.out.trans hk2
      have hc3 := HC3.out w2 hk2
      have HK2 := Lib.hid hk2
      have HC3 := Lib.hid hc3
      clear hk2 hc3
      go_wp2_with fail
      refine HC3.out.mono ?_
      rintro e w3 ⟨rfl, hk3⟩
      have hk3 := HK2.out.trans hk3
      have HK3 := Lib.hid hk3
      clear hk3
      go_wp2_with fail
      go_ret
      exact ⟨ret_bo HEQ.out.symm, HK3.out⟩
end Go.Proofs.Ytfhommegkogahaa
