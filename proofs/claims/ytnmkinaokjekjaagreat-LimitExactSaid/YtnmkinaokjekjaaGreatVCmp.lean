/- The walk of vector.Compare; what SortFunc asks of it. -/
import Derived.Test.YtnmkinaokjekjaaGreatSliI
import Derived.Test.YtnmkinaokjekjaaGreatOrI
import Derived.Test.YtnmkinaokjekjaaGreatAscL
import Derived.Test.YtnmkinaokjekjaaGreatSorts
namespace Go.Proofs.YtnmkinaokjekjaaGreat
set_option linter.unusedVariables false
open Go.RowKit

def Grew (v : Value) (w : World) (e : Ending) (w' : World) : Prop := e = .returned v ∧ ∃ q os, w' = Sort.grow (w.drewN q) os
theorem Grew.keeps {w w' : World} (h : ∃ q os, w' = Sort.grow (w.drewN q) os) : Keeps [] w w' := by
  obtain ⟨q, os, rfl⟩ := h
  refine ⟨rfl, rfl, rfl, by simp [Sort.grow, World.drewN], fun k hk _ => ?_⟩
  exact Sort.heap_grow_old (w.drewN q) os hk

set_option maxHeartbeats 400000 in
theorem compare_vec {w : World} {l : List Nat} {av bv : Value} {a b : List Int} (ha : IsI w l av a) (hb : IsI w l bv b) (hn : a.length ≤ 1000000) (hm : b.length ≤ 1000000) : Calls Tryz.prog 36 #[av, bv] w (Grew (.int .i64 (cmpL a b)) w) := by
  unfold Grew
  obtain ⟨A, c, rfl, _, _, h1⟩ := ha.open
  obtain ⟨B, c', rfl, _, _, h2⟩ := hb.open
  have hcm := cmpL_or a b
  generalize hna : a.length = n at *
  generalize hnb : b.length = m at *
  have H1 := Lib.hid h1
  have H2 := Lib.hid h2
  have HNA := Lib.hid hna
  have HNB := Lib.hid hnb
  have HA := Lib.hid ha
  have HB := Lib.hid hb
  have HCM := Lib.hid hcm
  clear h1 h2 hna hnb ha hb hcm
  go_enter Tryz.func36, Tryz.ntmps36
  go_wp2_with fail
  refine (cmp_any n m w).mono ?_
  rintro e w1 ⟨rfl, q1, rfl⟩
  go_wp2_with fail
  refine Calls.mono (scompare_is HA.out.now HB.out.now (by rw [HNA.out]; exact hn) (by rw [HNB.out]; exact hm)) ?_
  rintro e w1 ⟨rfl, q2, rfl⟩
  generalize hx : ord n m = x at *
  generalize hy : lexS a b = y at *
  have HX := Lib.hid hx
  have HY := Lib.hid hy
  clear hx hy
  go_wp2_with fail
  have hor : IsI ((w.drewN (q1 + q2)).alloc (.cells #[.int .i64 x, .int .i64 y] 3)) [] (.slice (some ⟨w.heap.size, 0, none⟩) 2 2) [x, y] :=
    isL_new (xs := [x, y]) (w := w.drewN (q1 + q2)) (l := []) (by simp) rfl fun i hi => by
      have : i = 0 ∨ i = 1 := by simp at hi; omega
      rcases this with rfl | rfl <;> rfl
  refine Calls.mono (or_is hor (by simp)) ?_
  rintro e w1 ⟨rfl, q3, rfl⟩
  have hz : orL [x, y] = cmpL a b := HCM.out
  rw [hz]
  have HZ := Lib.hid hz
  clear hz
  clear hor
  go_wp2_with fail
  go_ret
  refine ⟨rfl, q1 + q2 + q3, #[.cells #[.int .i64 x, .int .i64 y] 3], ?_⟩
  rw [Sort.alloc_eq_grow, ← World.drewN_drewN (w := w) (q1 + q2) q3]; rfl

theorem cmpR_vec {l : List Nat} {xs : List (List Int)} {w : World} {b : Nat} (hx : ∀ x ∈ xs, x.length ≤ 1000000) : CmpR Tryz.prog IsI 36 #[] l cmpL xs w b := by
  intro W u u' x y h1 h2 hk hu hu'
  show Calls Tryz.prog 36 #[u, u'] W (Grew (.int .i64 (cmpL x y)) W)
  exact compare_vec hu hu' (hx x h1) (hx y h2)
end Go.Proofs.YtnmkinaokjekjaaGreat
