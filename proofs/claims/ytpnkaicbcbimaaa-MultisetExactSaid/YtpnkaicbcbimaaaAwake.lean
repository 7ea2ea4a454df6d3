/- The walk of coverabilitylaw03.awake: it returns true. -/
import Derived.Test.YtpnkaicbcbimaaaProves
namespace Go.Proofs.Ytpnkaicbcbimaaa
set_option linter.unusedVariables false
open Go.RowKit Kuhn

def awT : Nat → Nat → Bool := fun i j => decide (i + j < 2)
def awG : Nat → Nat := fun i => 1 - i
theorem aw_sat : ∀ i, i < 2 → awG i < 2 ∧ awT i (awG i) = true ∧ ∀ k, k < i → awG k ≠ awG i := by decide
theorem aw_vld : vld 2 (fun _ => 2) = true := by decide
theorem aw_cols : colsOf 2 (fun _ => 2) = 2 := rfl
theorem aw_max {k : Nat} (h : IsMax awT 2 (fun _ => false) 0 2 k) : k = 2 := h.sat.2 (sat_of aw_sat)
theorem aw_pick {g : Nat → Nat} (h : ∀ i, i < 2 → Pick awT 2 2 g i) : g 0 = 1 ∧ g 1 = 0 := by
  obtain ⟨a1, a2, a3⟩ := Pick.proves h 0 (by omega)
  obtain ⟨b1, b2, b3⟩ := Pick.proves h 1 (by omega)
  have e := b3 0 (by omega)
  have b2 := of_decide_eq_true b2
  omega

theorem aw_tab (w : World) : TabG (((w.alloc (.cells #[.bool true, .bool true] 4)).alloc (.cells #[.bool true, .bool false] 4)).alloc (.cells #[.slice (some ⟨w.heap.size, 0, none⟩) 2 2, .slice (some ⟨w.heap.size + 1, 0, none⟩) 2 2] 26))
    (w.heap.size + 3) (some ⟨w.heap.size + 2, 0, none⟩) 2 (fun _ => 2) awT := by
  refine ⟨fun i => some ⟨w.heap.size + i, 0, none⟩, fun _ => 2, fun _ => ⟨_, rfl, by simp, fun i hi => ?_⟩, fun i hi _ => ⟨_, rfl, by simp; omega, fun j hj => ?_⟩⟩
  · rw [addz]
    match i, hi with
    | 0, _ => simp [cell_alloc_if]
    | 1, _ => simp [cell_alloc_if]
  · rw [addz]
    match i, j, hi, hj with
    | 0, 0, _, _ => (simp [cell_alloc_if, awT]; omega)
    | 0, 1, _, _ => (simp [cell_alloc_if, awT]; omega)
    | 1, 0, _, _ => simp [cell_alloc_if, awT]
    | 1, 1, _, _ => simp [cell_alloc_if, awT]

set_option maxHeartbeats 1000000 in
theorem awake_any (w : World) : Calls Try.prog 8 #[] w fun e w' => e = .returned (.bool true) ∧ Below w.heap.size w w' := by
  have HT := Lib.hid (aw_tab w)
  go_enter Try.func8, Try.ntmps8
  go_wp2_with fail
  have hb0 : Below w.heap.size w (((w.alloc (.cells #[.bool true, .bool true] 4)).alloc (.cells #[.bool true, .bool false] 4)).alloc (.cells #[.slice (some ⟨w.heap.size, 0, none⟩) 2 2, .slice (some ⟨w.heap.size + 1, 0, none⟩) 2 2] 26)) :=
    (((Below.refl _ _).alloc (Nat.le_refl _) _).alloc (by simp) _).alloc (by simp; omega) _
  have hz0 : (((w.alloc (.cells #[.bool true, .bool true] 4)).alloc (.cells #[.bool true, .bool false] 4)).alloc (.cells #[.slice (some ⟨w.heap.size, 0, none⟩) 2 2, .slice (some ⟨w.heap.size + 1, 0, none⟩) 2 2] 26)).heap.size = w.heap.size + 3 := by simp
  generalize (((w.alloc (.cells #[.bool true, .bool true] 4)).alloc (.cells #[.bool true, .bool false] 4)).alloc (.cells #[.slice (some ⟨w.heap.size, 0, none⟩) 2 2, .slice (some ⟨w.heap.size + 1, 0, none⟩) 2 2] 26)) = W at *
  have hz0' : w.heap.size + 3 ≤ W.heap.size := by omega
  clear hz0
  refine (match_yes W (w.heap.size + 3) 2 2 (fun _ => 2) _ awT HT.out hz0' aw_vld).mono ?_
  rintro e w1 (⟨b, g, rfl, hg, hb1, hb2, hO, hB⟩ | ⟨_, hs, _⟩)
  · obtain ⟨g0, g1⟩ := aw_pick hg
    have hm0 : w1.cell? ⟨b, 0, none⟩ = some (.int .i64 1) := by have : w1.cell? ⟨b, 0, none⟩ = some (.int .i64 (g 0 : Nat)) := (hO 0 (by omega)).1; rw [g0] at this; exact this
    have hm1 : w1.cell? ⟨b, 1, none⟩ = some (.int .i64 0) := by have : w1.cell? ⟨b, 1, none⟩ = some (.int .i64 (g 1 : Nat)) := (hO 1 (by omega)).1; rw [g1] at this; exact this
    have HO := Lib.hid hO
    have HG := Lib.hid hg
    clear hO hg g0 g1
    go_wp2_with fail
    refine (mostall_yes w1 (w.heap.size + 3) 2 2 (fun _ => 2) _ awT (TabG.below HT.out (hB.mono hz0')) (by have := hB.size; omega) aw_vld).mono ?_
    rintro e w2 ⟨k, rfl, hk, hB2⟩
    obtain rfl := aw_max hk
    have hK : Keeps [] w1 w2 := Keeps.of_below hB2
    have hm0' := hK.read hm0 (by simp)
    have hm1' := hK.read hm1 (by simp)
    have hB3 := hB.trans (hB2.mono hB.size)
    have HO2 := Lib.hid (HO.out.keep hK (by simp))
    clear hk hm0 hm1
    go_wp2_with fail
    refine (valid_any w2 (w.heap.size + 3) 2 2 (fun _ => 2) _ awT (TabG.below HT.out (hB3.mono hz0')) (by omega) (by simp)).mono ?_
    rintro e w' ⟨rfl, rfl⟩
    rw [aw_vld]
    go_wp2_with fail
    refine (proves_any w2 (w.heap.size + 3) (b + 1) 2 2 2 2 (fun _ => 2) _ _ awT (fun i => (g i : Int)) (TabG.below HT.out (hB3.mono hz0')) (by have := hB3.size; omega) (rd_of_Own HO2.out) (by have := hB2.size; omega) (by omega) (by simp) (by omega)).mono ?_
    rintro e w3 ⟨rfl, hB4⟩
    have hp : prf 2 (fun _ => 2) awT 2 (fun i => (g i : Int)) = true := by
      refine prf_true aw_vld rfl fun r hr => ?_
      obtain ⟨c1, c2, c3⟩ := Pick.proves HG.out r hr
      refine ⟨show (0 : Int) ≤ (g r : Int) by omega, Int.ofNat_lt.2 c1, by simpa using c2, fun k hk e => c3 k hk ?_⟩
      have e : (g k : Int) = (g r : Int) := e
      omega
    rw [hp]
    clear hp
    go_wp2_with fail
    go_ret
    exact ⟨rfl, (hb0.trans (hB3.mono (by omega))).trans (hB4.mono (by have := hB3.size; omega))⟩
  · exact absurd (sat_of aw_sat) hs
end Go.Proofs.Ytpnkaicbcbimaaa
