/- The walks of multiset.Valid and multiset.columns. -/
import Derived.Test.YtpnkaicbcbimaaaChecked
import Derived.Test.YtpnkaicbcbimaaaTab
import Derived.WalkSpells
namespace Go.Proofs.Ytpnkaicbcbimaaa
set_option linter.unusedVariables false
open Go.RowKit

theorem ret_bool {a b : Bool} (h : a = b) : Ending.returned (.bool a) = .returned (.bool b) := by rw [h]

set_option maxHeartbeats 400000 in
theorem valid_any (w : World) (B n c : Nat) (L : Nat → Nat) (A : Option Addr) (E : Nat → Nat → Bool) (hT : TabG w B A n L E) (hn : n ≤ 1000000000) (hL : ∀ i, i < n → L i ≤ 1000000000) :
    Calls Try.prog 18 #[.slice A n c] w fun e w' => e = .returned (.bool (vld n L)) ∧ w = w' := by
  obtain ⟨R, C, hR, _⟩ := hT
  by_cases h12 : n ≤ 12
  · go_enter Try.func18, Try.ntmps18
    go_wp2
    go_loop [10] (fun i => ∃ k : Nat, k ≤ n ∧ i = .int .i64 k ∧ ∀ i, i < k → L i ≤ 12 ∧ L i = L 0) (fun i => n - (intOf i).toNat)
    case atStart => exact ⟨0, by omega, rfl, fun i hi => by omega⟩
    case round =>
      obtain ⟨k, hk, rfl, hrel⟩ := hrel
      have HR := Lib.hid hrel
      clear hrel
      by_cases hlt : k < n
      · obtain ⟨a, rfl, hab, hc0⟩ := hR.at_ (k := 0) (by omega)
        obtain ⟨a', ha', _, hc⟩ := hR.at_ hlt
        obtain rfl : a = a' := by injection ha'
        clear ha'
        try dsimp only at hc0 hc
        have hLk := hL k hlt
        have hL0 := hL 0 (by omega)
        clear hR hL
        have e0 : a.add 0 = a := by simp [Addr.add]
        rw [e0] at hc0
        clear e0
        by_cases h1 : L k ≤ 12
        · by_cases h2 : L k = L 0
          · have h2' : ((L k : Int) != (L 0 : Int)) = false := by simp [h2]
            have H2 := Lib.hid h2
            clear h2
            go_wp2
            go_round
            case rel =>
              refine ⟨k + 1, by omega, by go_num, fun i hi => ?_⟩
              by_cases e : i = k
              · subst e; exact ⟨h1, H2.out⟩
              · exact HR.out i (by omega)
            case measure => simp [intOf]; omega
          · have h2' : ((L k : Int) != (L 0 : Int)) = true := by simp; omega
            have hf := Lib.hid (vld_false (n := n) (L := L) (fun h => h2 (h.2 k hlt).2))
            clear h2
            go_wp2
            go_ret
            exact ⟨ret_bool hf.out.symm, rfl⟩
        · have hf := Lib.hid (vld_false (n := n) (L := L) (fun h => h1 (h.2 k hlt).1))
          go_wp2
          go_ret
          exact ⟨ret_bool hf.out.symm, rfl⟩
      · go_wp2
        go_ret
        exact ⟨ret_bool (vld_true h12 fun i hi => HR.out i (by omega)).symm, rfl⟩
  · have hf := Lib.hid (vld_false (n := n) (L := L) (fun h => h12 h.1))
    go_enter Try.func18, Try.ntmps18
    go_wp2
    go_ret
    exact ⟨ret_bool hf.out.symm, rfl⟩

theorem ret_int {k : IntKind} {a b : Int} (h : a = b) : Ending.returned (.int k a) = .returned (.int k b) := by rw [h]

set_option maxHeartbeats 400000 in
theorem columns_any (w : World) (B n m c : Nat) (A : Option Addr) (E : Nat → Nat → Bool) (hT : Tab w B A n m E) (hn : n ≤ 1000) :
    Calls Try.prog 26 #[.slice A n c] w fun e w' => e = .returned (.int .i64 ((if n = 0 then 0 else m : Nat) : Int)) ∧ w = w' := by
  obtain ⟨R, C, hR, _⟩ := hT
  by_cases h0 : n = 0
  · subst h0
    go_enter Try.func26, Try.ntmps26
    go_wp2
    go_ret
    exact ⟨rfl, rfl⟩
  · obtain ⟨a, rfl, hab, hc0⟩ := hR.at_ (k := 0) (by omega)
    try dsimp only at hc0
    have e0 : a.add 0 = a := by simp [Addr.add]
    rw [e0] at hc0
    clear e0 hR
    have hz : ((n : Int) == 0) = false := by simp; omega
    have HZ := Lib.hid h0
    clear h0
    have hpos : 0 < n := Nat.pos_of_ne_zero HZ.out
    go_enter Try.func26, Try.ntmps26
    go_wp2
    go_ret
    exact ⟨rfl, rfl⟩
end Go.Proofs.Ytpnkaicbcbimaaa
