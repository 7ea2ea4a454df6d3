/- The walk of the reference's SameAll. -/
import Derived.Test.YtnmkinaokjekjaaGreatCmpL
import Derived.Test.YtnmkinaokjekjaaGreatNow
import Derived.Deep.QuietTactic
namespace Go.Proofs.YtnmkinaokjekjaaGreat
set_option linter.unusedVariables false
open Go.RowKit

theorem eq_of_rows {xs ys : List (List Int)} (hl : ys.length = xs.length) (h : ∀ i, i < xs.length → xs.getD i [] = ys.getD i []) : xs = ys := by
  refine List.ext_getElem hl.symm fun i h1 h2 => ?_
  have := h i h1
  simpa [List.getD_eq_getElem?_getD, h1, h2] using this

set_option maxHeartbeats 1000000 in
theorem sameall_is {w : World} {l : List Nat} {av bv : Value} {xs ys : List (List Int)} (ha : IsII w l av xs) (hb : IsII w l bv ys) (hn : xs.length ≤ 1000000) (hm : ys.length ≤ 1000000) (hx : ∀ x ∈ xs, x.length ≤ 1000000) (hy : ∀ y ∈ ys, y.length ≤ 1000000) :
    Calls Tryz.prog 19 #[av, bv] w (RetB (decide (xs = ys)) w) := by
  unfold RetB
  obtain ⟨A, c, U, rfl, _, _, h1, h2⟩ := ha
  obtain ⟨B, c', V, rfl, _, _, h3, h4⟩ := hb
  by_cases hl : ys.length = xs.length
  · have hyes := eq_of_rows hl
    rw [hl] at h3 h4 ⊢
    have hx' : ∀ i, i < xs.length → (xs.getD i []).length ≤ 1000000 := fun i hi => hx _ (getD_mem hi)
    have hy' : ∀ i, i < xs.length → (ys.getD i []).length ≤ 1000000 := fun i hi => hy _ (getD_mem (by omega))
    generalize hnn : xs.length = n at *
    have H1 := Lib.hid h1
    have H2 := Lib.hid h2
    have H3 := Lib.hid h3
    have H4 := Lib.hid h4
    have HX := Lib.hid hx
    have HY := Lib.hid hy
    have HNN := Lib.hid hnn
    have HL := Lib.hid hl
    have HYES := Lib.hid hyes
    have HX' := Lib.hid hx'
    have HY' := Lib.hid hy'
    clear h1 h2 h3 h4 hx hy hnn hl hyes hx' hy'
    clear hm
    go_enter Tryz.func19, Tryz.ntmps19
    go_wp2_with fail
    go_loopg [5] (n + 1) (fun gh iv wr => ∃ k : Nat, n + 1 ≤ k + gh ∧ k ≤ n ∧ iv = .int .i64 (k : Int) ∧ (∀ i, i < k → xs.getD i [] = ys.getD i []) ∧ Keeps [] w wr)
    case atStart => exact ⟨0, by omega, by omega, rfl, fun i hi => by omega, Keeps.refl _ _⟩
    case round =>
      obtain ⟨k, hgh, hk, rfl, hs, hkr⟩ := hrel
      have HS := Lib.hid hs
      have HKR := Lib.hid hkr
      clear hs hkr
      by_cases hlt : k < n
      · obtain ⟨pa, rfl, hpa⟩ := (H1.out.keeps (HKR.out.nil l)).at_ hlt
        obtain ⟨pb, rfl, hpb⟩ := (H3.out.keeps (HKR.out.nil l)).at_ hlt
        have hc := fun W (k' : Keeps [] w W) => same_is (IsI.new (H2.out k hlt) k') (IsI.new (H4.out k hlt) k') (HX'.out k hlt) (HY'.out k hlt)
        generalize hq : decide (xs.getD k [] = ys.getD k []) = q at *
        have HC := Lib.hid hc
        have HQ := Lib.hid hq
        clear hc hq
        cases q with
        | true =>
          go_wp2_with fail
          go_quiet (refine Calls.quiet_of (HC.out _ (HKR.out.drewN _)))
          go_wp2_with fail
          go_roundg (n - k)
          case measure => omega
          case rel => exact ⟨k + 1, by omega, by omega, by go_num, fun i hi => by
            by_cases e : i = k
            · subst e; exact of_decide_eq_true HQ.out
            · exact HS.out i (by omega), HKR.out.drewN _⟩
        | false =>
          have hd : decide (xs = ys) = false := decide_eq_false fun h => by
            have := of_decide_eq_false HQ.out
            exact this (by rw [h])
          have HD := Lib.hid hd
          clear hd
          go_wp2_with fail
          go_quiet (refine Calls.quiet_of (HC.out _ (HKR.out.drewN _)))
          go_wp2_with fail
          go_ret
          exact ⟨ret_bo HD.out.symm, HKR.out.drewN _⟩
      · obtain rfl : k = n := by omega
        have hd : decide (xs = ys) = true := decide_eq_true (HYES.out HS.out)
        have HD := Lib.hid hd
        clear hd
        go_wp2_with fail
        go_ret
        exact ⟨ret_bo HD.out.symm, HKR.out⟩
  · have hd : decide (xs = ys) = false := decide_eq_false fun h => hl (by rw [h])
    have hne : ((xs.length : Int) != (ys.length : Int)) = true := by rw [bne_iff_ne]; omega
    generalize xs.length = n at *
    generalize ys.length = m at *
    have H1 := Lib.hid h1
    have H2 := Lib.hid h2
    have H3 := Lib.hid h3
    have H4 := Lib.hid h4
    have HX := Lib.hid hx
    have HY := Lib.hid hy
    have HD := Lib.hid hd
    clear h1 h2 h3 h4 hx hy hd
    go_enter Tryz.func19, Tryz.ntmps19
    go_wp2_with fail
    go_ret
    exact ⟨ret_bo HD.out.symm, Keeps.refl _ _⟩
end Go.Proofs.YtnmkinaokjekjaaGreat
