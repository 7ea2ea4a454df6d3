/- Rows of ints as blocks, in the words of Rep. -/
import Derived.Test.YtdhadnnakcdfiaaChecked
import Derived.Test.YtdhadnnakcdfiaaTypes
import Derived.Test.YtdhadnnakcdfiaaPush
namespace Go.Proofs.Ytdhadnnakcdfiaa
set_option linter.unusedVariables false
open Go.RowKit

theorem isN_own {w : World} {l : List Nat} {base : Nat} {ty : TypeId} {v : Value} {xs : List Int} {us : List Value} (hu : us = xs.map (Value.int .i64)) (h : w.ownsRow base ty 1 v xs.length us) : OwL IsN 0 ty base w l v xs := by
  subst hu
  refine ⟨_, by simp, h, fun i hi => ?_⟩
  show _ = _
  simp [List.getD_eq_getElem?_getD, hi]
theorem OwL.ints {w : World} {l : List Nat} {base : Nat} {ty : TypeId} {v : Value} {xs : List Int} (h : OwL IsN 0 ty base w l v xs) : w.ownsRow base ty 1 v xs.length (xs.map (Value.int .i64)) := by
  obtain ⟨us, h1, h2, h3⟩ := h
  have : us = xs.map (Value.int .i64) := by
    refine List.ext_getElem (by simpa using h1) fun i hi hi' => ?_
    have := h3 i (by omega)
    have hx : i < xs.length := by omega
    simpa [IsN, List.getD_eq_getElem?_getD, hi, hx] using this
  rw [← this]; exact h2
theorem OwL.own {w : World} {l : List Nat} {base : Nat} {ty : TypeId} {v : Value} {xs : List Int} (h : OwL IsN 0 ty base w l v xs) (hn : 0 < xs.length) :
    ∃ g c, v = .slice (some ⟨g, 0, none⟩) xs.length c ∧ xs.length ≤ c ∧ base ≤ g ∧ g < w.heap.size ∧ Own w g xs.length (fun i => .int .i64 (xs.getD i 0)) := by
  have h2 := h.ints
  obtain ⟨g, c, rfl, hg, hlt⟩ := h2.form hn
  refine ⟨g, c, rfl, (cap_of_own h2).1, hg, hlt, fun i hi => ⟨?_, h2.frozenAt i⟩⟩
  rw [h2.cellAt i (by omega)]
  simp [List.getElem?_eq_getElem hi, List.getD_eq_getElem?_getD]
theorem Own.isI {w : World} {l : List Nat} {g n c : Nat} {f : Nat → Int} {xs : List Int} (h : Own w g n (fun i => .int .i64 (f i))) (hg : g ∉ l) (hc : n ≤ c) (hn : xs.length = n) (he : ∀ i, i < n → xs.getD i 0 = f i) : IsI w l (.slice (some ⟨g, 0, none⟩) n c) xs :=
  IsI.mk hn.symm hc (fun e => by cases e) fun h0 => ⟨_, rfl, hg, fun i hi => by
    have := (h i hi).1
    rw [addz]; show _ = some (Value.int .i64 (xs.getD i 0)); rw [he i hi]; exact this⟩

def CloPost (l : List Nat) (xs : List Int) (w : World) (e : Ending) (w' : World) : Prop := ∃ A c, e = .returned (.slice A xs.length c) ∧ OwL IsN 0 3 w.heap.size w' l (.slice A xs.length c) xs ∧ Keeps [] w w'
end Go.Proofs.Ytdhadnnakcdfiaa
