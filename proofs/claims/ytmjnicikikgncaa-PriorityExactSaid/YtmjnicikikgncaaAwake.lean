/- The walk of the law's awake. -/
import Derived.Test.YtmjnicikikgncaaPFalling
import Derived.Test.YtmjnicikikgncaaPProves
import Derived.Test.YtmjnicikikgncaaDeckW
namespace Go.Proofs.Ytmjnicikikgncaa
set_option linter.unusedVariables false
open Go.RowKit

theorem isI_lit2 {w : World} {us vs : Array Value} {e e' : TypeId} (zs : List Int) {n : Nat} (hn : n = zs.length) (hu : vs = (zs.map (Value.int .i64)).toArray) : IsI ((w.alloc (.cells us e)).alloc (.cells vs e')) [] (.slice (some ⟨w.heap.size + 1, 0, none⟩) n n) zs := by
  have := isI_lit (w := w.alloc (.cells us e)) (us := vs) (e := e') (l := []) zs hn hu (by simp)
  rwa [World.size_alloc] at this

theorem pr01 : PRanks [0, 1] := ⟨by simp, by simp⟩
theorem pv01 {a : List Int} (h : a.length ≤ 12) (h2 : ∀ x ∈ a, 0 ≤ x ∧ x < 2) : PValid [0, 1] a := ⟨pr01, h, by simpa using h2⟩
theorem asc3 : Asc [[0], [1], [1, 0]] := by
  unfold Asc
  simp [cmpL, lexc, ord]
theorem fall3 (x : List Int) : x ∈ ([[0], [1], [1, 0]] : List (List Int)) ↔ FallW [0, 1] (min 1 6 + 1) x := by
  have hr0 : rkF [0, 1] 0 = 0 := rfl
  have hr1 : rkF [0, 1] 1 = 1 := rfl
  rw [show (min (1 : Int) 6 + 1) = 2 from rfl]
  constructor
  · intro h
    simp at h
    rcases h with rfl | rfl | rfl
    · exact ⟨by simp, by simp, List.pairwise_singleton _ _, by simp [hr0]⟩
    · exact ⟨by simp, by simp, List.pairwise_singleton _ _, by simp [hr1]⟩
    · exact ⟨by simp, by simp, by simp [Falls, hr0, hr1], by simp [hr0, hr1]⟩
  · rintro ⟨h1, h2, h3, h4⟩
    have hcase : ∀ y ∈ x, y = 0 ∨ y = 1 := fun y hy => by have := h2 y hy; simp at this; omega
    match x with
    | [] => exact absurd rfl h1
    | [a] =>
      rcases hcase a (by simp) with rfl | rfl <;> simp
    | [a, b] =>
      have h5 := (List.pairwise_cons.1 h3).1 b (by simp)
      rcases hcase a (by simp) with rfl | rfl <;> rcases hcase b (by simp) with rfl | rfl <;> simp [hr0, hr1] at h5 ⊢
    | a :: b :: c :: u =>
      have h5 := (List.pairwise_cons.1 h3).1 b (by simp)
      have h6 := (List.pairwise_cons.1 (List.pairwise_cons.1 h3).2).1 c (by simp)
      rcases hcase a (by simp) with rfl | rfl <;> rcases hcase b (by simp) with rfl | rfl <;> rcases hcase c (by simp) with rfl | rfl <;> simp [hr0, hr1] at h5 h6
theorem emb101 : embP [0, 1] [1] [0, 1] = some [1] := by
  rw [embP_yes (pv01 (by simp) (by simp)) (pv01 (by simp) (by simp)), srch_cons]
  have hr0 : rkF [0, 1] 0 = 0 := rfl
  have hr1 : rkF [0, 1] 1 = 1 := rfl
  have h1 : sstep (rkF [0, 1]) 1 [] [0, 1] 0 1 = some [1] := by
    have hc : Cov (rkF [0, 1]) [0, 1] 0 1 := fun k hk1 hk2 => by
      have : k = 0 := by omega
      subst this
      show rkF [0, 1] 0 ≤ rkF [0, 1] 1
      rw [hr0, hr1]; omega
    rw [sstep_of (x := 1) (a := []) (Nat.zero_le 1) (show ([0, 1] : List Int).getD 1 0 = 1 from rfl) hc]
    simp [srch]
  rw [findSome_at (k := 1) (fun d hd => by
    have : d = 0 := by omega
    subst this
    exact sstep_no (fun h => by have := h.2.1; simp at this)) (by simp) (by rw [h1]; rfl), h1]
theorem ple001 : pleB [0, 1] [0] [0, 1] = false := by
  rw [← Bool.not_eq_true, pleB_true]
  rintro ⟨_, _, h⟩
  have := (PLe.last h (by simp)).2
  simp at this
theorem drop01 (x : List Int) : x ∈ ([[1]] : List (List Int)) ↔ IsPDrop [0, 1] [0, 1] x := by
  unfold IsPDrop DropOf
  constructor
  · intro h
    rw [List.mem_singleton.1 h]
    refine ⟨pv01 (by simp) (by simp), 0, by simp, ?_, by simp [dropAtI]⟩
    show rkF [0, 1] 0 ≤ rkF [0, 1] 1
    have hr0 : rkF [0, 1] 0 = 0 := rfl
    have hr1 : rkF [0, 1] 1 = 1 := rfl
    rw [hr0, hr1]; omega
  · rintro ⟨_, i, hi, _, rfl⟩
    have : i = 0 := by simp at hi; omega
    subst this
    simp [dropAtI]
theorem prv01 : pprB [0, 1] [1] [0, 1] [1] = true := by
  refine pprB_true.2 ⟨pv01 (by simp) (by simp), pv01 (by simp) (by simp), ?_⟩
  have := emb101
  rw [embP_yes (pv01 (by simp) (by simp)) (pv01 (by simp) (by simp))] at this
  exact srch_prL this

set_option maxRecDepth 100000 in
set_option maxHeartbeats 4000000 in
theorem awake_any (w : World) : Calls Try.prog 8 #[] w fun e w' => e = .returned (.bool true) ∧ Below w.heap.size w w' := by
  have ir : IsI (w.alloc (.cells #[.int .i64 0, .int .i64 1] 3)) [] (.slice (some ⟨w.heap.size, 0, none⟩) 2 2) [0, 1] := isI_lit (us := #[.int .i64 0, .int .i64 1]) (e := 3) [0, 1] rfl rfl (by simp)
  obtain ⟨wr, hwr⟩ : ∃ wr, wr = w.alloc (.cells #[.int .i64 0, .int .i64 1] 3) := ⟨_, rfl⟩
  have hcall := falling_all (l := []) (most := 1) (by simp) ir (by simp) (by omega)
  rw [← hwr] at hcall ir
  have HWR := Lib.hid hwr
  have hkw : Keeps [] w wr := by rw [hwr]; exact (Keeps.refl _ _).alloc _
  haveI kbw : KB [] wr w := ⟨hkw⟩
  clear hkw
  have IR := Lib.hid ir
  have HCALL := Lib.hid hcall
  clear ir hcall
  go_enter Try.func8, Try.ntmps8
  go_wp2_with fail
  rw [← HWR.out]
  clear hwr
  refine HCALL.out.mono ?_
  rintro e w1 ⟨hk, ⟨hno, rfl⟩ | ⟨A, n, c, ys, _, hn, rfl, hasc, hys, hO⟩⟩
  · exact absurd pr01 hno
  obtain rfl : ys = [[0], [1], [1, 0]] := asc_ext hasc asc3 fun x => (hys x).trans (fall3 x).symm
  obtain rfl : n = 3 := hn
  haveI kb1 : KB [] w1 _ := ⟨hk⟩
  clear hk
  clear hys hasc hO
  have i2 : IsI ((w1.alloc (.cells #[.int .i64 1] 3)).alloc (.cells #[.int .i64 0, .int .i64 1] 3)) [] (.slice (some ⟨w1.heap.size, 0, none⟩) 1 1) [1] := IsI.now (isI_lit (us := #[.int .i64 1]) (e := 3) [1] rfl rfl (by simp))
  have i3 := isI_lit2 (w := w1) (us := #[.int .i64 1]) (e := 3) (vs := #[.int .i64 0, .int .i64 1]) (e' := 3) [0, 1] (n := 2) rfl rfl
  have hcall := pembed_is (l := []) (by simp) (IsI.now IR.out) i2 i3 (by simp) (by simp) (by simp)
  rw [emb101] at hcall
  have I2 := Lib.hid i2
  have I3 := Lib.hid i3
  have HCALL := Lib.hid hcall
  clear i2 i3 hcall
  go_wp2_with fail
  refine HCALL.out.mono ?_
  rintro e w2 ⟨hk, ⟨ho, rfl⟩ | ⟨E, ne, ce, q, hne, ho, rfl, hE⟩⟩
  · cases ho
  injection ho with ho
  subst ho
  obtain rfl : ne = 1 := hne
  haveI kb2 : KB [] w2 _ := ⟨hk⟩
  clear hk
  have hE0 := hE
  obtain ⟨A2, c2, he2, _, _, hre⟩ := IsI.open hE0
  injection he2 with e1 e2 e3
  subst e1; subst e3
  obtain ⟨pe, rfl, hpe⟩ := hre.at0 (by simp)
  replace hpe : w2.cell? pe = some (.int .i64 1) := hpe
  have i2 : IsI ((w2.alloc (.cells #[.int .i64 0] 3)).alloc (.cells #[.int .i64 0, .int .i64 1] 3)) [] (.slice (some ⟨w2.heap.size, 0, none⟩) 1 1) [0] := IsI.now (isI_lit (us := #[.int .i64 0]) (e := 3) [0] rfl rfl (by simp))
  have i3 := isI_lit2 (w := w2) (us := #[.int .i64 0]) (e := 3) (vs := #[.int .i64 0, .int .i64 1]) (e' := 3) [0, 1] (n := 2) rfl rfl
  have hcall := pleq_is (l := []) (by simp) (IsI.now IR.out) i2 i3 (by simp) (by simp) (by simp)
  rw [ple001] at hcall
  have I2 := Lib.hid i2
  have I3 := Lib.hid i3
  have HCALL := Lib.hid hcall
  have HE := Lib.hid hE
  clear i2 i3 hcall hE
  clear hre hE0 e2
  go_wp2_with fail
  refine HCALL.out.mono ?_
  rintro e w3 ⟨rfl, hk⟩
  haveI kb3 : KB [] w3 _ := ⟨hk⟩
  clear hk
  have i2 : IsI (w3.alloc (.cells #[.int .i64 0, .int .i64 1] 3)) [] (.slice (some ⟨w3.heap.size, 0, none⟩) 2 2) [0, 1] := isI_lit (us := #[.int .i64 0, .int .i64 1]) (e := 3) [0, 1] rfl rfl (by simp)
  have hcall := pdrops_is (l := []) (by simp) (IsI.now IR.out) i2 (by simp) (by simp)
  have I2 := Lib.hid i2
  have HCALL := Lib.hid hcall
  clear i2 hcall
  go_wp2_with fail
  refine HCALL.out.mono ?_
  rintro e w4 ⟨A5, n5, c5, ys5, hn5, rfl, hasc, hys, _, hk⟩
  obtain rfl : ys5 = [[1]] := asc_ext hasc (by unfold Asc; simp) fun x => (hys x).trans (drop01 x).symm
  obtain rfl : n5 = 1 := hn5
  haveI kb4 : KB [] w4 _ := ⟨hk⟩
  clear hk
  clear hys hasc
  have i2 : IsI (w4.alloc (.cells #[.int .i64 1, .int .i64 0] 3)) [] (.slice (some ⟨w4.heap.size, 0, none⟩) 2 2) [1, 0] := isI_lit (us := #[.int .i64 1, .int .i64 0]) (e := 3) [1, 0] rfl rfl (by simp)
  have hcall := pvalid_is (l := []) (IsI.now IR.out) i2 (by simp) (by simp)
  rw [pvB_true.2 (pv01 (a := [1, 0]) (by simp) (by simp))] at hcall
  have I2 := Lib.hid i2
  have HCALL := Lib.hid hcall
  clear i2 hcall
  go_wp2_with fail
  refine HCALL.out.mono ?_
  rintro e w5 ⟨rfl, hk⟩
  haveI kb5 : KB [] w5 _ := ⟨hk⟩
  clear hk
  have i2 : IsI ((w5.alloc (.cells #[.int .i64 1] 3)).alloc (.cells #[.int .i64 0, .int .i64 1] 3)) [] (.slice (some ⟨w5.heap.size, 0, none⟩) 1 1) [1] := IsI.now (isI_lit (us := #[.int .i64 1]) (e := 3) [1] rfl rfl (by simp))
  have i3 := isI_lit2 (w := w5) (us := #[.int .i64 1]) (e := 3) (vs := #[.int .i64 0, .int .i64 1]) (e' := 3) [0, 1] (n := 2) rfl rfl
  have hcall := pproves_is (l := []) (IsI.now IR.out) i2 i3 (IsI.now HE.out) (by simp) (by simp) (by simp) (by simp)
  rw [prv01] at hcall
  have I2 := Lib.hid i2
  have I3 := Lib.hid i3
  have HCALL := Lib.hid hcall
  clear i2 i3 hcall
  go_wp2_with fail
  refine HCALL.out.mono ?_
  rintro e w6 ⟨rfl, hk⟩
  haveI kb6 : KB [] w6 _ := ⟨hk⟩
  clear hk
  have hfin := (kf [] w w6).to_below
  have HFIN := Lib.hid hfin
  clear hfin
  go_wp2_with fail
  go_ret
  exact ⟨rfl, HFIN.out⟩
end Go.Proofs.Ytmjnicikikgncaa
