/- Slices of pairs of lists of numbers ([2][]int). -/
import Derived.Test.YtmjnicikikgncaaNow
namespace Go.Proofs.Ytmjnicikikgncaa
set_option linter.unusedVariables false
open Go.RowKit

def IsPairs (w : World) (l : List Nat) (v : Value) (ps : List (List Int × List Int)) : Prop :=
  ∃ (A : Option Addr) (c : Nat), v = .slice A ps.length c ∧ (0 < ps.length → ∃ a, A = some a ∧ a.block ∉ l ∧ ∀ i, i < ps.length → ∃ u v, w.cell? (a.add (i * 2)) = some u ∧ w.cell? ⟨(a.add (i * 2)).block, (a.add (i * 2)).off + 1, none⟩ = some v ∧ IsI w l u (ps.getD i ([], [])).1 ∧ IsI w l v (ps.getD i ([], [])).2)
theorem IsPairs.keeps {w w' : World} {l : List Nat} {v : Value} {ps : List (List Int × List Int)} (h : IsPairs w l v ps) (k : Keeps l w w') : IsPairs w' l v ps := by
  obtain ⟨A, c, h1, h4⟩ := h
  refine ⟨A, c, h1, fun hn => ?_⟩
  obtain ⟨a, e, hb, hc⟩ := h4 hn
  refine ⟨a, e, hb, fun i hi => ?_⟩
  obtain ⟨u, v, g1, g2, g3, g4⟩ := hc i hi
  exact ⟨u, v, k.read g1 (by rw [block_of_add]; exact hb), k.read g2 (by show (a.add (i * 2)).block ∉ l; rw [block_of_add]; exact hb), Rok.keeps g3 k, Rok.keeps g4 k⟩
theorem IsPairs.at_ {w : World} {l : List Nat} {A : Option Addr} {n c : Nat} {ps : List (List Int × List Int)} (h : IsPairs w l (.slice A n c) ps) {i : Nat} (hi : i < n) : ∃ a u v, A = some a ∧ a.block ∉ l ∧ w.cell? (a.add (i * 2)) = some u ∧ w.cell? ⟨(a.add (i * 2)).block, (a.add (i * 2)).off + 1, none⟩ = some v ∧ IsI w l u (ps.getD i ([], [])).1 ∧ IsI w l v (ps.getD i ([], [])).2 := by
  obtain ⟨A', c', h1, h4⟩ := h
  injection h1 with e1 e2 e3
  subst e1; subst e2
  obtain ⟨a, e, hb, hc⟩ := h4 (by omega)
  obtain ⟨u, v, g⟩ := hc i hi
  exact ⟨a, u, v, e, hb, g⟩
/-- A literal of pairs. -/
theorem IsPairs.lit {w : World} {l : List Nat} {us : Array Value} {t : TypeId} {ps : List (List Int × List Int)} {n : Nat} (hl : ∀ y ∈ l, y < w.heap.size) (hn : n = ps.length) (hs : us.size = n * 2) (h : ∀ i, i < n → IsI w l (us.getD (i * 2) undef) (ps.getD i ([], [])).1 ∧ IsI w l (us.getD (i * 2 + 1) undef) (ps.getD i ([], [])).2) :
    IsPairs (w.alloc (.cells us t)) l (.slice (some ⟨w.heap.size, 0, none⟩) n n) ps := by
  subst hn
  refine ⟨_, ps.length, rfl, fun _ => ⟨_, rfl, (fun hm => by have := hl _ hm; simp at this), fun i hi => ?_⟩⟩
  have hk : Keeps l w (w.alloc (.cells us t)) := (Keeps.refl _ _).alloc _
  obtain ⟨h1, h2⟩ := h i hi
  have i1 : i * 2 < us.size := by omega
  have i2 : i * 2 + 1 < us.size := by omega
  refine ⟨us.getD (i * 2) undef, us.getD (i * 2 + 1) undef, ?_, ?_, Rok.keeps h1 hk, Rok.keeps h2 hk⟩
  · rw [addz, World.cell?_alloc_new]; simp [i1]
  · rw [addz]
    show (w.alloc (.cells us t)).cell? ⟨w.heap.size, i * 2 + 1, none⟩ = _
    rw [World.cell?_alloc_new]; simp [i2]
end Go.Proofs.Ytmjnicikikgncaa
