/- The sanity check of law 12. -/
import Derived.Test.YthpobeeccgmieaaSplitH
namespace Go.Proofs.Ythpobeeccgmieaa
set_option linter.unusedVariables false
open Go.RowKit

theorem two {x : List Int} (h : x.length = 1 + 1) : ∃ a b, x = [a, b] := by
  match x, h with
  | [a, b], _ => exact ⟨a, b, rfl⟩
theorem sys0 : Sys [[1, -2]] 1 2 := ⟨⟨rfl, by omega, by omega, .inl (by omega), by simp, by simp⟩, by omega, by omega⟩
theorem sol0 (a b c : Int) : solB [[1, -2]] [c] [a, b] = true ↔ a - 2 * b = c := by
  unfold solB
  rw [decide_eq_true_eq]
  simp only [appL, List.map, dotL, List.length, dotP, List.getD_cons_zero, List.getD_cons_succ]
  constructor
  · intro h
    have h := (List.cons.inj h).1
    omega
  · intro h
    congr 1; omega
theorem solv0 {c : Int} {lo hi : Nat} {x : List Int} : Solv (solB [[1, -2]] [c]) 1 lo hi x ↔ ∃ a b, x = [a, b] ∧ 0 ≤ a ∧ 0 ≤ b ∧ (lo : Int) ≤ a + b ∧ a + b ≤ (hi : Int) ∧ a - 2 * b = c := by
  constructor
  · rintro ⟨h1, h2, h3, h4, h5⟩
    obtain ⟨a, b, rfl⟩ := two h1
    simp only [isum, List.foldr] at h3 h4
    exact ⟨a, b, rfl, h2 a (by simp), h2 b (by simp), by omega, by omega, (sol0 a b c).1 h5⟩
  · rintro ⟨a, b, rfl, h1, h2, h3, h4, h5⟩
    refine ⟨rfl, fun y hy => ?_, ?_, ?_, (sol0 a b c).2 h5⟩
    · simp only [List.mem_cons, List.not_mem_nil, or_false] at hy
      rcases hy with rfl | rfl <;> omega
    · simp only [isum, List.foldr]; omega
    · simp only [isum, List.foldr]; omega
theorem vle2 {a b c d : Int} : VLe [a, b] [c, d] ↔ a ≤ c ∧ b ≤ d := by
  rw [vle_cons, vle_cons]
  exact ⟨fun ⟨h1, h2, _⟩ => ⟨h1, h2⟩, fun ⟨h1, h2⟩ => ⟨h1, h2, VLe.refl []⟩⟩
theorem asc_one (v : List Int) : Asc [v] := by unfold Asc; simp
theorem min0 {hi : Nat} (h4 : 4 ≤ hi) {ys : List (List Int)} (h : MinQ (solB [[1, -2]] [0]) 1 1 hi ys) : ys = [[2, 1]] := by
  refine asc_ext h.1 (asc_one _) fun x => ?_
  rw [h.2, List.mem_singleton]
  constructor
  · rintro ⟨h1, h2⟩
    obtain ⟨a, b, rfl, h3, h4, h5, h6, h7⟩ := solv0.1 h1
    have := h2 [2, 1] (solv0.2 ⟨2, 1, rfl, by omega, by omega, by omega, by omega, by omega⟩) (vle2.2 ⟨by omega, by omega⟩)
    exact this.symm
  · rintro rfl
    refine ⟨solv0.2 ⟨2, 1, rfl, by omega, by omega, by omega, by omega, by omega⟩, fun y hy hle => ?_⟩
    obtain ⟨a, b, rfl, h3, h4, h5, h6, h7⟩ := solv0.1 hy
    obtain ⟨h8, h9⟩ := vle2.1 hle
    have ha : a = 2 := by omega
    have hb : b = 1 := by omega
    rw [ha, hb]
theorem min1 {ys : List (List Int)} (h : MinQ (solB [[1, -2]] [1]) 1 0 4 ys) : ys = [[1, 0]] := by
  refine asc_ext h.1 (asc_one _) fun x => ?_
  rw [h.2, List.mem_singleton]
  constructor
  · rintro ⟨h1, h2⟩
    obtain ⟨a, b, rfl, h3, h4, h5, h6, h7⟩ := solv0.1 h1
    have := h2 [1, 0] (solv0.2 ⟨1, 0, rfl, by omega, by omega, by omega, by omega, by omega⟩) (vle2.2 ⟨by omega, by omega⟩)
    exact this.symm
  · rintro rfl
    refine ⟨solv0.2 ⟨1, 0, rfl, by omega, by omega, by omega, by omega, by omega⟩, fun y hy hle => ?_⟩
    obtain ⟨a, b, rfl, h3, h4, h5, h6, h7⟩ := solv0.1 hy
    obtain ⟨h8, h9⟩ := vle2.1 hle
    have ha : a = 1 := by omega
    have hb : b = 0 := by omega
    rw [ha, hb]
theorem split0 : splitF 10 [[2, 1]] [4, 2] = some [[2, 1], [2, 1]] := by decide
theorem spl0 {ys : List (List Int)} (h : SplQ (solB [[1, -2]] [0]) 1 [4, 2] ys) : ys = [[2, 1], [2, 1]] := by
  obtain ⟨L, h1, rfl⟩ := h
  rw [min0 (by omega) h1, split0]; rfl

/-- Where the rows of a list lie. -/
def RowAt (w : World) (p : Addr) (x : List Int) : Prop := ∃ B c, w.cell? p = some (.slice (some B) x.length c) ∧ IsI w [] (.slice (some B) x.length c) x ∧ ∀ i, i < x.length → w.cell? (B.add i) = some (.int .i64 (x.getD i 0))
theorem IsII.rows {w : World} {V : Option Addr} {m c : Nat} {L : List (List Int)} (h : IsII w [] (.slice V m c) L) (hm : 0 < L.length) (hL : ∀ x ∈ L, 0 < x.length) : ∃ p, V = some p ∧ ∀ i, i < L.length → RowAt w (p.add i) (L.getD i []) := by
  obtain ⟨A, c', W, e, _, _, hc, hv⟩ := h
  injection e with e1 e2 e3
  subst e1
  obtain ⟨p, rfl, _⟩ := hc.at_ hm
  refine ⟨p, rfl, fun i hi => ?_⟩
  obtain ⟨q, eq, hp⟩ := hc.at_ hi
  obtain rfl : q = p := by injection eq with e; exact e.symm
  obtain ⟨B, cb, hB, h2, h3, hb⟩ := (hv i hi).open
  obtain ⟨b, rfl, _⟩ := hb.at_ (hL _ (getD_mem hi))
  rw [hB] at hp
  refine ⟨b, cb, hp, hB ▸ hv i hi, fun j hj => ?_⟩
  obtain ⟨b', eb, hbj⟩ := hb.at_ hj
  obtain rfl : b' = b := by injection eb with e; exact e.symm
  exact hbj
theorem add1 (p : Addr) : p.add 1 = ⟨p.block, p.off + 1, none⟩ := by simp [Addr.add]
theorem add0 (p : Addr) : p.add 0 = p := by simp [Addr.add]
theorem int1_new (w : World) (c : Int) : IsI (w.alloc (.cells #[.int .i64 c] 3)) [] (.slice (some ⟨w.heap.size, 0, none⟩) 1 1) [c] :=
  isL_new (xs := [c]) (by simp) rfl fun i hi => by
    have : i = 0 := by simpa using hi
    subst this; rfl

set_option maxRecDepth 100000 in
set_option maxHeartbeats 4000000 in
theorem awake_k (w : World) : Calls Try.prog 8 #[] w fun e w' => e = .returned (.bool true) ∧ Keeps [] w w' := by
  obtain ⟨w1, hw1⟩ : ∃ w1, w.alloc (.cells #[.int .i64 1, .int .i64 (-2)] 3) = w1 := ⟨_, rfl⟩
  obtain ⟨w2, hw2⟩ : ∃ w2, w1.alloc (.cells #[.slice (some ⟨w.heap.size, 0, none⟩) 2 2] 22) = w2 := ⟨_, rfl⟩
  have k1 : Keeps [] w w1 := by rw [← hw1]; exact (Keeps.refl _ _).alloc _
  have k2 : Keeps [] w1 w2 := by rw [← hw2]; exact (Keeps.refl _ _).alloc _
  have hr : IsI w1 [] (.slice (some ⟨w.heap.size, 0, none⟩) 2 2) [1, -2] := by
    rw [← hw1]
    exact isL_new (xs := [(1 : Int), -2]) (by simp) rfl fun i hi => by
      have : i = 0 ∨ i = 1 := by simp at hi; omega
      rcases this with rfl | rfl <;> rfl
  have hA : IsII w2 [] (.slice (some ⟨w1.heap.size, 0, none⟩) 1 1) [[1, -2]] := by
    rw [← hw2]
    exact isL_new (xs := [[(1 : Int), -2]]) (by simp) rfl fun i hi => by
      have : i = 0 := by simpa using hi
      subst this; exact hr
  have hk2 := k1.trans k2
  have hfree := Free_ok (hi := 4) hA sys0 (by omega) (lx := []) (by simp)
  rw [show ((4 : Nat) : Int) = 4 from rfl, show List.replicate 1 (0 : Int) = [0] from rfl] at hfree
  have HR := Lib.hid hr
  have HFREE := Lib.hid hfree
  have HA := Lib.hid hA
  have HK2 := Lib.hid hk2
  have K1 := Lib.hid k1
  have K2 := Lib.hid k2
  clear hr hfree hA hk2 k1 k2
  go_enter Try.func8, Try.ntmps8
  go_wp2_with fail
  refine HFREE.out.mono ?_
  rintro e w3 ⟨V3, m3, c3, f, hm3, rfl, hq3, hO3, k3⟩
  obtain rfl := min0 (by omega) hq3
  obtain rfl : m3 = 1 := hm3
  have hI3 : IsII w3 [] (.slice V3 1 c3) [[2, 1]] := hO3.isL (by simp)
  have hx3 : IsI (w3.alloc (.cells #[.int .i64 4, .int .i64 2] 3)) [] (.slice (some ⟨w3.heap.size, 0, none⟩) 2 2) [4, 2] :=
    isL_new (xs := [(4 : Int), 2]) (by simp) rfl fun i hi => by
      have : i = 0 ∨ i = 1 := by simp at hi; omega
      rcases this with rfl | rfl <;> rfl
  have k3' : Keeps [] w2 (w3.alloc (.cells #[.int .i64 4, .int .i64 2] 3)) := k3.alloc _
  have hspl := Split_ok (HA.out.new k3') hx3 sys0 rfl (by simp) (by decide) (by decide) (lx := []) (by simp)
  rw [show List.replicate 1 (0 : Int) = [0] from rfl] at hspl
  have HI3 := Lib.hid hI3
  have HX3 := Lib.hid hx3
  have K3' := Lib.hid k3'
  have HSPL := Lib.hid hspl
  have K3 := Lib.hid k3
  have HO3 := Lib.hid hO3
  have HQ3 := Lib.hid hq3
  clear hI3 hx3 k3' hspl k3 hO3 hq3
  go_wp2_with fail
  refine HSPL.out.mono ?_
  rintro e w4 ⟨V4, m4, c4, s, hm4, rfl, hq4, hO4, k4⟩
  obtain rfl := spl0 hq4
  obtain rfl : m4 = 2 := hm4
  have hI4 : IsII w4 [] (.slice V4 2 c4) [[2, 1], [2, 1]] := hO4.isL (by simp)
  have hx4 : IsI (w4.alloc (.cells #[.int .i64 1] 3)) [] (.slice (some ⟨w4.heap.size, 0, none⟩) 1 1) [1] :=
    isL_new (xs := [(1 : Int)]) (by simp) rfl fun i hi => by
      have : i = 0 := by simpa using hi
      subst this; rfl
  have k4' : Keeps [] w2 (w4.alloc (.cells #[.int .i64 1] 3)) := (K3'.out.trans k4).alloc _
  have hmin := Minimal_ok (hi := 4) (HA.out.new k4') hx4 sys0 rfl (by decide) (by omega) (lx := []) (by simp)
  rw [show ((4 : Nat) : Int) = 4 from rfl] at hmin
  have k34 : Keeps [] w3 w4 := ((Keeps.refl [] w3).alloc _).trans k4
  have HI4 := Lib.hid hI4
  have HX4 := Lib.hid hx4
  have K4' := Lib.hid k4'
  have HMIN := Lib.hid hmin
  have K4 := Lib.hid k4
  have HO4 := Lib.hid hO4
  have HQ4 := Lib.hid hq4
  have K34 := Lib.hid k34
  clear hI4 hx4 k4' hmin k4 hO4 hq4 k34
  obtain ⟨p3, rfl, hr3⟩ := HI3.out.rows (by simp) (by simp)
  obtain ⟨p4, rfl, hr4⟩ := HI4.out.rows (by simp) (by simp)
  obtain ⟨B3, q3, hc3, _, hd3⟩ := hr3 0 (by simp)
  obtain ⟨B4, q4, hc4, hJ4, hd4⟩ := hr4 0 (by simp)
  obtain ⟨B5, q5, hc5, _, hd5⟩ := hr4 1 (by simp)
  have hd30 := hd3 0 (by simp)
  have hd31 := hd3 1 (by simp)
  have hd50 := hd5 0 (by simp)
  rw [add0] at hc3 hc4 hd30 hd50
  rw [add1] at hc5 hd31
  have k5' : ∀ w5, Keeps [] (w4.alloc (.cells #[.int .i64 1] 3)) w5 → Keeps [] w4 w5 := fun w5 k => ((Keeps.refl [] w4).alloc _).trans k
  have hend : ∀ w5 V5 c5, Keeps [] (w4.alloc (.cells #[.int .i64 1] 3)) w5 → IsII w5 [] (.slice V5 1 c5) [[1, 0]] → ∃ p5 B6 q6, V5 = some p5 ∧ w5.cell? p3 = some (.slice (some B3) 2 q3) ∧ w5.cell? B3 = some (.int .i64 2) ∧ w5.cell? ⟨B3.block, B3.off + 1, none⟩ = some (.int .i64 1) ∧
      w5.cell? ⟨p4.block, p4.off + 1, none⟩ = some (.slice (some B5) 2 q5) ∧ w5.cell? B5 = some (.int .i64 2) ∧ w5.cell? p5 = some (.slice (some B6) 2 q6) ∧ w5.cell? B6 = some (.int .i64 1) ∧ Keeps [] w w5 := fun w5 V5 c5 k hI => by
    obtain ⟨p5, rfl, hr5⟩ := hI.rows (by simp) (by simp)
    obtain ⟨B6, q6, hc6, _, hd6⟩ := hr5 0 (by simp)
    have hd60 := hd6 0 (by simp)
    rw [add0] at hc6 hd60
    have k4 := k5' w5 k
    have k3 := K34.out.trans k4
    exact ⟨p5, B6, q6, rfl, k3.read hc3 (by simp), k3.read hd30 (by simp), k3.read hd31 (by simp), k4.read hc5 (by simp), k4.read hd50 (by simp), hc6, hd60, HK2.out.trans (K4'.out.trans k)⟩
  have hsv : ∀ w7, Keeps [] w4 w7 → Calls Try.prog 17 #[.slice (some ⟨w1.heap.size, 0, none⟩) 1 1, .slice (some ⟨w7.heap.size, 0, none⟩) 1 1, .slice (some B4) 2 q4] (w7.alloc (.cells #[.int .i64 0] 3)) (RetB true (w7.alloc (.cells #[.int .i64 0] 3))) ∧ (w7.alloc (.cells #[.int .i64 0] 3)).cell? p4 = some (.slice (some B4) 2 q4) := fun w7 k => by
    have kn : Keeps [] w7 (w7.alloc (.cells #[.int .i64 0] 3)) := (Keeps.refl _ _).alloc _
    have := Solves_is (HA.out.new ((K3'.out.trans K4.out).trans (k.trans kn))) (int1_new w7 0) (hJ4.new (k.trans kn)) (by simp) (by simp) (by simp) (by simp)
    rw [show solvesB [[1, -2]] [0] ([[2, 1], [2, 1]].getD 0 []) = true by decide] at this
    exact ⟨this, (k.trans kn).read hc4 (by simp)⟩
  have hck : ∀ w5, Keeps [] w4 w5 → Calls Try.prog 15 #[.slice (some ⟨w1.heap.size, 0, none⟩) 1 1, .slice (some ⟨w5.heap.size, 0, none⟩) 1 1] (w5.alloc (.cells #[.int .i64 1] 3)) (RetN 0 (w5.alloc (.cells #[.int .i64 1] 3))) := fun w5 k => by
    have kn : Keeps [] w5 (w5.alloc (.cells #[.int .i64 1] 3)) := (Keeps.refl _ _).alloc _
    have := check_is (HA.out.new ((K3'.out.trans K4.out).trans (k.trans kn))) (int1_new w5 1) (by simp) (by simp) (by simp)
    rw [show chkE [[1, -2]] [1] = 0 by decide] at this
    exact this
  have HR3 := Lib.hid hr3
  have HR4 := Lib.hid hr4
  have HC3 := Lib.hid hc3
  have HC4 := Lib.hid hc4
  have HC5 := Lib.hid hc5
  have HJ4 := Lib.hid hJ4
  have HD3 := Lib.hid hd3
  have HD4 := Lib.hid hd4
  have HD5 := Lib.hid hd5
  have HD30 := Lib.hid hd30
  have HD31 := Lib.hid hd31
  have HD50 := Lib.hid hd50
  have HEND := Lib.hid hend
  have HSV := Lib.hid hsv
  have HCK := Lib.hid hck
  clear hr3 hr4 hc3 hc4 hc5 hJ4 hd3 hd4 hd5 hd30 hd31 hd50 hend hsv hck
  have K5' := Lib.hid k5'
  clear k5'
  go_wp2_with (first
    | (have _t := hs8; refine hs8.out.mono ?_; rintro e w9 ⟨rfl, k9⟩)
    | (have _t := hck5; refine hck5.out.mono ?_; rintro e w7 ⟨rfl, k7⟩; obtain ⟨hs8a, hc8⟩ := HSV.out w7 ((hk45.trans ((Keeps.refl [] w5).alloc _)).trans k7); have hs8 := Lib.hid hs8a; clear hs8a hck5)
    | (refine HMIN.out.mono ?_; rintro e w5 ⟨V5, m5, c5, x, hm5, rfl, hq5, hO5, k5⟩; (obtain rfl := min1 hq5); (obtain rfl : m5 = 1 := hm5); have hI5 : IsII w5 [] (.slice V5 1 c5) [[1, 0]] := hO5.isL (by simp); obtain ⟨p5, B6, q6, rfl, e1, e2, e3, e4, e5, e6, e7, hkw⟩ := HEND.out w5 V5 c5 k5 hI5; have hk45 := K5'.out w5 k5; have hck5 := Lib.hid (HCK.out w5 hk45); clear hI5 hO5 hq5 HMIN))
  go_ret
  exact ⟨rfl, ((hkw.trans ((Keeps.refl [] w5).alloc _)).trans k7).trans (((Keeps.refl [] w7).alloc _).trans k9)⟩
theorem awake_any (w : World) : Calls Try.prog 8 #[] w fun e w' => e = .returned (.bool true) ∧ Below w.heap.size w w' := (awake_k w).mono fun e w' ⟨h1, h2⟩ => ⟨h1, h2.to_below⟩
end Go.Proofs.Ythpobeeccgmieaa
