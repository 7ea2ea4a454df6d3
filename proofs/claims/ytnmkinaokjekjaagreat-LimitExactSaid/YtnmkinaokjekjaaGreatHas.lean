/- The walks of limit's Has and of law 08's corners. -/
import Derived.Test.YtnmkinaokjekjaaGreatChk
import Derived.Test.YtnmkinaokjekjaaGreatDeck
import Derived.Test.YtnmkinaokjekjaaGreatOwnI
namespace Go.Proofs.YtnmkinaokjekjaaGreat
set_option linter.unusedVariables false
open Go.RowKit

def hasB (n : Int) (L : List (List Int)) (v : List Int) : Bool := decide (chkL n L = 0) && decide ((v.length : Int) = n) && vfB v && undB L v
set_option maxHeartbeats 2000000 in
theorem has_is {w : World} {l : List Nat} {lv vv : Value} {L : List (List Int)} {v : List Int} {n : Int} (hlw : ∀ y ∈ l, y < w.heap.size) (h : IsII w l lv L) (hn : L.length ≤ 100000000) (hL : ∀ x ∈ L, x.length ≤ 1000000) (hv : IsI w l vv v) (hm : v.length ≤ 1000000) :
    Calls Tryz.prog 16 #[.int .i64 n, lv, vv] w (RetB (hasB n L v) w) := by
  unfold RetB
  have hck := check_is (n := n) hlw h hn hL
  have hfi := fun W (k : Keeps [] w W) => finite_is (hv.new k) hm
  have hwi := fun W (k : Keeps [] w W) => within_is (h.new k) (by omega) hL (hv.new k) hm
  have hB : hasB n L v = (decide (chkL n L = 0) && decide ((v.length : Int) = n) && vfB v && undB L v) := rfl
  rw [hB]
  have h' := h
  obtain ⟨A0, c0, V, rfl, _⟩ := h'
  have hv' := hv
  obtain ⟨B0, d0, rfl, _⟩ := hv'.open
  clear hv' hB
  generalize chkL n L = z at *
  generalize hvn : v.length = vn at *
  generalize vfB v = r1 at *
  generalize undB L v = r2 at *
  generalize hLn : L.length = m at *
  have H := Lib.hid h
  have HL := Lib.hid hL
  have HLW := Lib.hid hlw
  have HV := Lib.hid hv
  have HCK := Lib.hid hck
  have HFI := Lib.hid hfi
  have HWI := Lib.hid hwi
  have HVN := Lib.hid hvn
  have HLN := Lib.hid hLn
  clear h hL hlw hv hck hfi hwi hvn hLn
  by_cases hz : z = 0
  · subst hz
    by_cases hl : (vn : Int) = n
    · have ht : ((vn : Int) == n) = true := by simpa using hl
      have hd : decide ((vn : Int) = n) = true := decide_eq_true hl
      rw [hd]
      have HL := Lib.hid hl
      clear hl
      cases r1 with
      | false =>
        go_enter Tryz.func16, Tryz.ntmps16
        go_wp2_with fail
        refine HCK.out.mono ?_
        rintro e w1 ⟨rfl, hk1⟩
        have HK1 := Lib.hid hk1
        clear hk1
        go_wp2_with fail
        refine (HFI.out w1 HK1.out).mono ?_
        rintro e w2 ⟨rfl, hk2⟩
        have hk := HK1.out.trans hk2
        have HK := Lib.hid hk
        clear hk
        clear hk2
        go_wp2_with fail
        go_ret
        exact ⟨by simp, HK.out⟩
      | true =>
        go_enter Tryz.func16, Tryz.ntmps16
        go_wp2_with fail
        refine HCK.out.mono ?_
        rintro e w1 ⟨rfl, hk1⟩
        have HK1 := Lib.hid hk1
        clear hk1
        go_wp2_with fail
        refine (HFI.out w1 HK1.out).mono ?_
        rintro e w2 ⟨rfl, hk2⟩
        have hk := HK1.out.trans hk2
        have HK := Lib.hid hk
        clear hk
        clear hk2
        go_wp2_with fail
        refine (HWI.out w2 HK.out).mono ?_
        rintro e w3 ⟨rfl, hk3⟩
        have hk4 := HK.out.trans hk3
        have HK4 := Lib.hid hk4
        clear hk4
        clear hk3
        go_wp2_with fail
        go_ret
        exact ⟨by simp, HK4.out⟩
    · have ht : ((vn : Int) == n) = false := by simpa using hl
      have hd : decide ((vn : Int) = n) = false := decide_eq_false hl
      rw [hd]
      have HL := Lib.hid hl
      clear hl
      go_enter Tryz.func16, Tryz.ntmps16
      go_wp2_with fail
      refine HCK.out.mono ?_
      rintro e w1 ⟨rfl, hk1⟩
      have HK1 := Lib.hid hk1
      clear hk1
      go_wp2_with fail
      go_ret
      exact ⟨by simp, HK1.out⟩
  · have ht : (z == 0) = false := by simpa using hz
    have hd : decide (z = 0) = false := decide_eq_false hz
    rw [hd]
    have HZ := Lib.hid hz
    clear hz
    go_enter Tryz.func16, Tryz.ntmps16
    go_wp2_with fail
    refine HCK.out.mono ?_
    rintro e w1 ⟨rfl, hk1⟩
    have HK1 := Lib.hid hk1
    clear hk1
    go_wp2_with fail
    go_ret
    exact ⟨by simp, HK1.out⟩

end Go.Proofs.YtnmkinaokjekjaaGreat
