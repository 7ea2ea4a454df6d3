/- slices.Clone at ints. -/
import Derived.Test.YtdhadnnakcdfiaaChecked
import Derived.Test.YtdhadnnakcdfiaaTypes
import Derived.WalkSpells
namespace Go.Proofs.Ytdhadnnakcdfiaa
set_option linter.unusedVariables false
open Go.RowKit

def ClonePost (B : Nat) (e : TypeId) (n : Nat) (xs : List Value) (w : World) (en : Ending) (w' : World) : Prop :=
  ∃ A c, en = .returned (.slice A n c) ∧ w'.ownsRow B e 1 (.slice A n c) n xs ∧ Below w.heap.size w w'

set_option maxHeartbeats 400000 in
theorem clone_ints (w : World) (B n c : Nat) (A : Option Addr) (xs : List Value) (hx : xs.length = n) (hr : Rd w B A n (fun i => xs.getD i undef)) (h1 : ∀ u ∈ xs, u.oneCell' = true) (hn : n ≤ 1000000) (hA : A = none → c = 0) :
    Calls Try.prog 39 #[.slice A n c] w (ClonePost w.heap.size 3 n xs w) := by
  have HX := Lib.hid hx
  clear hx
  have heq := fun (W : World) (A : Option Addr) (n c : Nat) => Lib.run_eql_slice_nil (P := Try.prog) W 22 3 A n c 0 0 Try.underlying22
  cases A with
  | none =>
    have hc := hA rfl
    clear hA
    subst hc
    have h0 : n = 0 := by
      rcases Nat.eq_zero_or_pos n with h | h
      · exact h
      · obtain ⟨a, h, _⟩ := hr h; cases h
    subst h0
    go_enter Try.func39, Try.ntmps39
    go_wp2
    go_ret
    have hx : xs = [] := List.eq_nil_of_length_eq_zero HX.out
    exact ⟨none, 0, rfl, by subst hx; exact World.ownsRow_nil _ _ _ _, Below.refl _ _⟩
  | some a =>
    clear hA
    go_enter Try.func39, Try.ntmps39
    go_wp2_with (at_builtin; refine wpList_app _ sl_int rfl _ _ rfl w.heap.size (some ⟨w.heap.size, 0, none⟩) 0 0 [] rfl (World.ownsRow_made w #[] 0 (Nat.le_refl _) (by decide) rfl) B (some a) n c xs rfl HX.out (hr.alloc_ _) h1 (by omega) (by simp) ?_; intro V' cv' w' hown hg hat)
    go_ret
    rw [Nat.zero_add, List.nil_append] at hown
    exact ⟨V', cv', rfl, hown, ((Below.refl _ _).alloc (Nat.le_refl _) _).grown hg (by simp) (by rintro k hk; simp [Value.ownBlock] at hk; omega)⟩
end Go.Proofs.Ytdhadnnakcdfiaa
