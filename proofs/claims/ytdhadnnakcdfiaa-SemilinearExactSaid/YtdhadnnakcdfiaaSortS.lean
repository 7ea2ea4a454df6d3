/- What SortFunc and CompactFunc ask of slices.Compare and of slices.Equal, at rows of one length. -/
import Derived.Test.YtdhadnnakcdfiaaOne
import Derived.Test.YtdhadnnakcdfiaaAscL
import Derived.Test.YtdhadnnakcdfiaaCompact
import Derived.Test.YtdhadnnakcdfiaaSorts
namespace Go.Proofs.Ytdhadnnakcdfiaa
set_option linter.unusedVariables false
open Go.RowKit

theorem scmp_is {w : World} {l : List Nat} {av bv : Value} {a b : List Int} {n : Nat} (ha : IsI w l av a) (hb : IsI w l bv b) (hn : a.length = n) (hm : b.length = n) (hle : n ≤ 1000000) : Calls Try.prog 57 #[av, bv] w (Quiet (.int .i64 (cmpL a b)) w) := by
  obtain ⟨A, c, rfl, _, _, h1⟩ := ha.open
  obtain ⟨B, c', rfl, _, _, h2⟩ := hb.open
  subst hn
  rw [hm] at h2 ⊢
  refine (scompare_any w _ _ a.length c c' A B _ _ h1.rd h2.rd (by omega)).mono fun e w' ⟨z, e1, e2, q⟩ => ⟨?_, q⟩
  have e3 : Cmp a.length b.length (fun i => a.getD i 0) (fun i => b.getD i 0) z := by rw [hm]; exact e2
  rw [e1, e3.cmpL]
theorem sequal_is {w : World} {l : List Nat} {av bv : Value} {a b : List Int} (ha : IsI w l av a) (hb : IsI w l bv b) (hn : a.length ≤ 1000000) (hm : b.length ≤ 1000000) : Calls Try.prog 40 #[av, bv] w (Quiet (.bool (decide (a = b))) w) := by
  obtain ⟨A, c, rfl, _, _, h1⟩ := ha.open
  obtain ⟨B, c', rfl, _, _, h2⟩ := hb.open
  refine (equal_any w _ _ a.length b.length c c' A B _ _ h1.rd h2.rd (by omega) (by omega)).mono fun e w' ⟨z, e1, e2, q⟩ => ⟨?_, q⟩
  have : z = decide (a = b) := by
    rw [Bool.eq_iff_iff, e2, decide_eq_true_iff]
    exact ⟨fun h => eq_of_getD h.1 h.2, fun h => by rw [h]; exact ⟨rfl, fun _ _ => rfl⟩⟩
  rw [e1, this]
theorem cmpR_rows {l : List Nat} {xs : List (List Int)} {w : World} {b n : Nat} (hx : ∀ x ∈ xs, x.length = n) (hn : n ≤ 1000000) : CmpR Try.prog IsI 57 #[] l cmpL xs w b := by
  intro W u u' x y h1 h2 hk hu hu'
  exact (scmp_is hu hu' (hx x h1) (hx y h2) hn).mono fun e w' ⟨e1, q, e2⟩ => ⟨e1, q, #[], by rw [e2]; cases W; simp [Sort.grow, World.drewN]⟩
theorem eqR_rows {l : List Nat} {xs : List (List Int)} {w : World} {b : Nat} (hx : ∀ x ∈ xs, x.length ≤ 1000000) : EqR IsI 40 #[] l (fun a b => decide (a = b)) xs w b := by
  intro W u u' x y h1 h2 hk hu hu'
  exact sequal_is hu hu' (hx x h1) (hx y h2)
end Go.Proofs.Ytdhadnnakcdfiaa
