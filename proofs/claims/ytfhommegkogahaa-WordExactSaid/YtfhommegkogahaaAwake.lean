/- The walk of the law's awake. -/
import Derived.Test.YtfhommegkogahaaMerge
import Derived.Test.YtfhommegkogahaaDeckW
namespace Go.Proofs.Ytfhommegkogahaa
set_option linter.unusedVariables false
open Go.RowKit

theorem mrg01 : mrgL [0] [1] = [[0, 1], [1, 0]] := by
  rw [mrgL_cons]; simp [mrgL]
theorem isMerge01 (x : List Int) : x ∈ ([[0, 1], [1, 0]] : List (List Int)) ↔ IsMerge [0] [1] x := by
  unfold IsMerge
  rw [mrg01]
  constructor
  · intro h
    refine ⟨h, fun z hz hne hs => ?_⟩
    have hl : z.length = x.length := by
      simp at h hz
      rcases h with rfl | rfl <;> rcases hz with rfl | rfl <;> rfl
    exact hne (hs.eq_of_length hl)
  · exact fun h => h.1
theorem asc01 : Asc [[0, 1], [1, 0]] := by
  unfold Asc
  simp [cmpL, lexc, ord]
theorem emb012 : embW [0, 1] [0, 2, 1] = some [0, 2] := by
  rw [embW_yes ⟨by decide, by simp⟩ ⟨by decide, by simp⟩]
  simp [embF, idxI]
theorem drop44 (x : List Int) : x ∈ ([[4]] : List (List Int)) ↔ IsDrop [4, 4] x := by
  unfold IsDrop dropL
  constructor
  · intro h
    rw [List.mem_singleton.1 h]
    exact ⟨⟨by decide, by simp⟩, 0, by simp, by simp⟩
  · rintro ⟨_, i, hi, rfl⟩
    have : i = 0 ∨ i = 1 := by simp at hi; omega
    rcases this with rfl | rfl <;> simp

set_option maxRecDepth 100000 in
set_option maxHeartbeats 4000000 in
theorem awake_any (w : World) : Calls Try.prog 8 #[] w fun e w' => e = .returned (.bool true) ∧ Below w.heap.size w w' := by
  have i0 : IsI ((w.alloc (.cells #[.int .i64 0] 3)).alloc (.cells #[.int .i64 1] 3)) [] (.slice (some ⟨w.heap.size, 0, none⟩) 1 1) [0] := IsI.now (isI_lit (us := #[.int .i64 0]) (e := 3) [0] rfl rfl (by simp))
  have i1 : IsI ((w.alloc (.cells #[.int .i64 0] 3)).alloc (.cells #[.int .i64 1] 3)) [] (.slice (some ⟨w.heap.size + 1, 0, none⟩) 1 1) [1] := by
    have := isI_lit (w := w.alloc (.cells #[.int .i64 0] 3)) (e := 3) (l := []) [1] rfl rfl (by simp)
    rwa [World.size_alloc] at this
  have I0 := Lib.hid i0
  have I1 := Lib.hid i1
  clear i0 i1
  go_enter Try.func8, Try.ntmps8
  go_wp2_with fail
  refine Calls.mono (merge_is (l := []) (a := [0]) (b := [1]) (by simp) I0.out I1.out (by simp) (by simp)) ?_
  rintro e w1 ⟨hk1, ⟨hno, rfl⟩ | ⟨_, _, hno, rfl⟩ | ⟨A, n, c, ys, _, _, _, hn, rfl, hasc, hys, hO⟩⟩
  · exact absurd ⟨⟨by decide, by simp⟩, ⟨by decide, by simp⟩⟩ hno
  · exact absurd (by decide) hno
  obtain rfl : ys = [[0, 1], [1, 0]] := asc_ext hasc asc01 fun x => (hys x).trans (isMerge01 x).symm
  obtain rfl : n = 2 := hn
  haveI kb1 : KB [] w1 _ := ⟨hk1⟩
  have hL := hO.isL (by simp)
  obtain ⟨A', c', V, he, _, _, hR, hV⟩ := hL
  injection he with e1 e2 e3
  subst e1; subst e3
  obtain ⟨p, rfl, hp⟩ := hR.at0 (by simp)
  obtain ⟨Ar, cr, hV0, _, _, hr0⟩ := (show IsI w1 [] (V 0) [0, 1] from hV 0 (by simp)).open
  obtain ⟨p0, rfl, hp0⟩ := hr0.at0 (by simp)
  rw [hV0] at hp
  have hp0 : w1.cell? p0 = some (.int .i64 0) := hp0
  have hp : w1.cell? p = some (.slice (some p0) 2 cr) := hp
  have i2 : IsI ((w1.alloc (.cells #[.int .i64 0, .int .i64 1] 3)).alloc (.cells #[.int .i64 0, .int .i64 2, .int .i64 1] 3)) [] (.slice (some ⟨w1.heap.size, 0, none⟩) 2 2) [0, 1] := IsI.now (isI_lit (us := #[.int .i64 0, .int .i64 1]) (e := 3) [0, 1] rfl rfl (by simp))
  have i3 : IsI ((w1.alloc (.cells #[.int .i64 0, .int .i64 1] 3)).alloc (.cells #[.int .i64 0, .int .i64 2, .int .i64 1] 3)) [] (.slice (some ⟨w1.heap.size + 1, 0, none⟩) 3 3) [0, 2, 1] := by
    have := isI_lit (w := w1.alloc (.cells #[.int .i64 0, .int .i64 1] 3)) (e := 3) (l := []) [0, 2, 1] rfl rfl (by simp)
    rwa [World.size_alloc] at this
  have I2 := Lib.hid i2
  have I3 := Lib.hid i3
  have HP := Lib.hid hp
  have HP0 := Lib.hid hp0
  clear i2 i3 hp hp0
  clear hys hasc hO hR hV hV0 hr0 hk1
  go_wp2_with fail
  refine Calls.mono (embed_is (l := []) (a := [0, 1]) (b := [0, 2, 1]) I2.out I3.out (by simp) (by simp)) ?_
  rintro e w2 ⟨hk2, ⟨ho, rfl⟩ | ⟨E, ce, q, ho, rfl, hO⟩⟩
  · rw [emb012] at ho; cases ho
  rw [emb012] at ho
  injection ho with ho
  subst ho
  haveI kb2 : KB [] w2 _ := ⟨hk2⟩
  have hE := hO.isL (by simp)
  obtain ⟨A2, c2, he2, _, _, hre⟩ := IsI.open hE
  injection he2 with e1 e2 e3
  subst e1; subst e3
  obtain ⟨pe, rfl, hpe⟩ := hre.at_ (i := 1) (by simp)
  replace hpe : w2.cell? ⟨pe.block, pe.off + 1, none⟩ = some (.int .i64 2) := hpe
  have hp1 := (kf [] w1 w2).read HP.out (by simp)
  have hp2 := (kf [] w1 w2).read HP0.out (by simp)
  have hE' : IsI w2 [] (.slice (some pe) 2 ce) [0, 2] := hE
  have i4 : IsI (w2.alloc (.cells #[.int .i64 3] 3)) [] (.slice (some ⟨w2.heap.size, 0, none⟩) 1 1) [3] := isI_lit (us := #[.int .i64 3]) (e := 3) [3] rfl rfl (by simp)
  have hleq := leq_is (IsI.nil (w := w2.alloc (.cells #[.int .i64 3] 3)) (l := [])) i4 (by simp) (by simp)
  have hb : wleqB [] [3] = true := wleqB_true.2 ⟨⟨by decide, by simp⟩, ⟨by decide, by simp⟩, by simp⟩
  rw [hb] at hleq
  have HE' := Lib.hid hE'
  have HLEQ := Lib.hid hleq
  clear hE' hleq
  clear hO hE hre hb i4 hk2
  go_wp2_with fail
  refine HLEQ.out.mono ?_
  rintro e w3 ⟨rfl, hk3⟩
  haveI kb3 : KB [] w3 _ := ⟨hk3⟩
  have i5 : IsI (w3.alloc (.cells #[.int .i64 4, .int .i64 4] 3)) [] (.slice (some ⟨w3.heap.size, 0, none⟩) 2 2) [4, 4] := isI_lit (us := #[.int .i64 4, .int .i64 4]) (e := 3) [4, 4] rfl rfl (by simp)
  have hdr := drops_is (l := []) (by simp) i5 (by simp)
  have hv := fun W (k : Keeps [] w2 W) => valid_is (IsI.new HE'.out k) (by simp)
  rw [wvB_true.2 (⟨by decide, by simp⟩ : WValid [0, 2])] at hv
  have HDR := Lib.hid hdr
  have HV := Lib.hid hv
  clear hdr hv
  clear hk3 i5
  go_wp2_with fail
  refine HDR.out.mono ?_
  rintro e w4 ⟨A5, n5, c5, ys5, hn5, rfl, hasc, hys, _, hk4⟩
  haveI kb4 : KB [] w4 _ := ⟨hk4⟩
  obtain rfl : ys5 = [[4]] := asc_ext hasc (by unfold Asc; simp) fun x => (hys x).trans (drop44 x).symm
  obtain rfl : n5 = 1 := hn5
  have hv := HV.out w4 (kf [] w2 w4)
  have HV := Lib.hid hv
  clear hv
  clear hys hasc hk4
  go_wp2_with fail
  refine HV.out.mono ?_
  rintro e w5 ⟨rfl, hk5⟩
  haveI kb5 : KB [] w5 _ := ⟨hk5⟩
  have hfin := (kf [] w w5).to_below
  have HFIN := Lib.hid hfin
  clear hfin
  clear hk5
  go_wp2_with fail
  go_ret
  exact ⟨rfl, HFIN.out⟩
end Go.Proofs.Ytfhommegkogahaa
