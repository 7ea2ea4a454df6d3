/- The walk of law 13's awake. -/
import Derived.Test.YtdhadnnakcdfiaaWithin
namespace Go.Proofs.Ytdhadnnakcdfiaa
set_option linter.unusedVariables false
open Go.RowKit

def s0 : Lin := ⟨[1, 0], [[1, 1], [2, 0]]⟩
theorem s0_good : Good 2 s0 := by
  refine ⟨⟨rfl, by simp [s0]⟩, fun p hp => ?_, by simp [s0], fun i h1 h2 => ?_⟩
  · simp [s0] at hp
    rcases hp with e | e <;> subst e
    · exact ⟨rfl, by simp, 0, by omega, by simp⟩
    · exact ⟨rfl, by simp, 0, by omega, by simp⟩
  · simp [s0] at h2
    obtain rfl : i = 1 := by omega
    exact ⟨0, by omega, fun j hj => by omega, by simp [s0]⟩
theorem s0_all : GoodAll 2 [s0] := ⟨by omega, by omega, by simp, fun s hs => by rw [List.mem_singleton.1 hs]; exact s0_good⟩
theorem s0_n : GoodN s0 := s0_all
theorem s0_small : s0.Small := ⟨by simp [s0], by simp [s0], fun i hi => by
  have : i < 2 := hi
  have : i = 0 ∨ i = 1 := by omega
  rcases this with e | e <;> subst e <;> simp [s0]⟩
theorem s0_makes {v : List Int} {x y : Int} (hx : 0 ≤ x) (hy : 0 ≤ y) (h1 : v = [1 + x + 2 * y, x]) : In s0 v [x, y] := by
  subst h1
  refine ⟨rfl, by simp [hx, hy], fun i hi => ?_⟩
  rw [subm_len] at hi
  rw [subm_get _ _ _ hi]
  have : i = 0 ∨ i = 1 := by simp at hi; omega
  rcases this with e | e <;> subst e <;> simp [s0, comb] <;> omega
theorem s0_least {k : List Int} (h : Makes s0.per (subm [4, 1] 1 s0.base) k) : k = [1, 1] := by
  obtain ⟨h1, h2, h3⟩ := h
  match k, h1 with
  | [x, y], _ =>
    have e0 := h3 0 (by simp [subm])
    have e1 := h3 1 (by simp [subm])
    simp [s0, comb, subm] at e0 e1
    have : x = 1 := by omega
    have : y = 1 := by omega
    subst_vars; rfl
theorem s0_pre {v : List Int} (h : VecOk 2 64 v) : TPre s0 v := ⟨s0_n, h⟩

theorem isI_two {w : World} {l : List Nat} {a b : Int} (hl : ∀ y ∈ l, y < w.heap.size) {t : TypeId} : IsI (w.alloc (.cells #[.int .i64 a, .int .i64 b] t)) l (.slice (some ⟨w.heap.size, 0, none⟩) 2 2) [a, b] :=
  isL_new (xs := [a, b]) hl rfl fun i hi => by
    have : i = 0 ∨ i = 1 := by simp at hi; omega
    rcases this with e | e <;> subst e <;> rfl

def AwPost (w : World) (e : Ending) (w' : World) : Prop := e = .returned (.bool true) ∧ Keeps [] w w'
set_option maxRecDepth 100000 in
set_option maxHeartbeats 4000000 in
theorem awake_is (w : World) : Calls Try.prog 8 #[] w (AwPost w) := by
  obtain ⟨w1, hw1⟩ : ∃ w1, w1 = w.alloc (.cells #[.int .i64 1, .int .i64 0] 3) := ⟨_, rfl⟩
  obtain ⟨w2, hw2⟩ : ∃ w2, w2 = w1.alloc (.cells #[.int .i64 1, .int .i64 1] 3) := ⟨_, rfl⟩
  obtain ⟨w3, hw3⟩ : ∃ w3, w3 = w2.alloc (.cells #[.int .i64 2, .int .i64 0] 3) := ⟨_, rfl⟩
  obtain ⟨w4, hw4⟩ : ∃ w4, w4 = w3.alloc (.cells #[.slice (some ⟨w1.heap.size, 0, none⟩) 2 2, .slice (some ⟨w2.heap.size, 0, none⟩) 2 2] 22) := ⟨_, rfl⟩
  obtain ⟨w5, hw5⟩ : ∃ w5, w5 = w4.alloc (.cells #[.slice (some ⟨w.heap.size, 0, none⟩) 2 2, .slice (some ⟨w3.heap.size, 0, none⟩) 2 2] 29) := ⟨_, rfl⟩
  have k1 : Keeps [] w w1 := by rw [hw1]; exact (Keeps.refl _ _).alloc _
  have k2 : Keeps [] w1 w2 := by rw [hw2]; exact (Keeps.refl _ _).alloc _
  have k3 : Keeps [] w2 w3 := by rw [hw3]; exact (Keeps.refl _ _).alloc _
  have k4 : Keeps [] w3 w4 := by rw [hw4]; exact (Keeps.refl _ _).alloc _
  have k5 : Keeps [] w4 w5 := by rw [hw5]; exact (Keeps.refl _ _).alloc _
  have i1 : IsI w1 [] (.slice (some ⟨w.heap.size, 0, none⟩) 2 2) [1, 0] := by rw [hw1]; exact isI_two (by simp)
  have i2 : IsI w2 [] (.slice (some ⟨w1.heap.size, 0, none⟩) 2 2) [1, 1] := by rw [hw2]; exact isI_two (by simp)
  have i3 : IsI w3 [] (.slice (some ⟨w2.heap.size, 0, none⟩) 2 2) [2, 0] := by rw [hw3]; exact isI_two (by simp)
  have i4 : IsII w4 [] (.slice (some ⟨w3.heap.size, 0, none⟩) 2 2) [[1, 1], [2, 0]] := by
    rw [hw4]
    refine isL_new (R := IsI) (xs := [[1, 1], [2, 0]]) (by simp) rfl fun i hi => ?_
    have : i = 0 ∨ i = 1 := by simp at hi; omega
    rcases this with e | e <;> subst e
    · exact i2.new k3
    · exact i3
  have hlin : IsLin w5 [] (.slice (some ⟨w.heap.size, 0, none⟩) 2 2) (.slice (some ⟨w3.heap.size, 0, none⟩) 2 2) s0 := ⟨i1.new (((k2.trans k3).trans k4).trans k5), i4.new k5⟩
  have hbx : BoxAt w5 w4.heap.size (.slice (some ⟨w.heap.size, 0, none⟩) 2 2) (.slice (some ⟨w3.heap.size, 0, none⟩) 2 2) := by rw [hw5]; exact BoxAt.start _ _ _ _
  have k05 := (((k1.trans k2).trans k3).trans k4).trans k5
  have HW : Hid ((((w.alloc (.cells #[.int .i64 1, .int .i64 0] 3)).alloc (.cells #[.int .i64 1, .int .i64 1] 3)).alloc (.cells #[.int .i64 2, .int .i64 0] 3)).alloc (.cells #[.slice (some ⟨w.heap.size + 1, 0, none⟩) 2 2, .slice (some ⟨w.heap.size + 1 + 1, 0, none⟩) 2 2] 22) = w4) := by
    unfold Hid; rw [hw4, hw3, hw2, hw1]; simp
  have HZ : Hid (w3.heap.size = w.heap.size + 1 + 1 + 1) := by unfold Hid; rw [hw3, hw2, hw1]; simp
  have HZ4 : Hid (w4.heap.size = w.heap.size + 1 + 1 + 1 + 1) := by unfold Hid; rw [hw4, hw3, hw2, hw1]; simp
  have HZ5 : Hid (w.heap.size + 1 + 1 + 1 + 1 + 1 = w5.heap.size) := by unfold Hid; rw [hw5, hw4, hw3, hw2, hw1]; simp
  clear k1 k2 k3 k4 k5 i1 i2 i3 i4
  rw [HZ.out] at hlin hbx hw5
  rw [HZ4.out] at hbx
  clear hw1 hw2 hw3 hw4
  have HW5 : Hid (w4.alloc (.cells #[.slice (some ⟨w.heap.size, 0, none⟩) 2 2, .slice (some ⟨w.heap.size + 1 + 1 + 1, 0, none⟩) 2 2] 29) = w5) := hw5.symm
  clear hw5
  have hc0 := hbx.c0
  have hc1 := hbx.c1
  have HLIN := Lib.hid hlin
  have HBX := Lib.hid hbx
  have K05 := Lib.hid k05
  clear hlin hbx k05
  go_enter Try.func8, Try.ntmps8
  go_wp2_with fail
  rw [HW.out, HW5.out, HZ5.out]
  have hal5 : ∀ a b : Int, Keeps [] w5 (w5.alloc (.cells #[.int .i64 a, .int .i64 b] 3)) := fun a b => (Keeps.refl _ _).alloc _
  refine (times_is (l := []) (v := [4, 1]) (by simp) (HLIN.out.new (hal5 _ _)) s0_small (isI_two (by simp)) (by simp)).mono ?_
  rintro e w6 ⟨hk6, hh⟩
  rcases hh with ⟨rfl, hno⟩ | ⟨A, n, c, k, rfl, hpre, hki, hle⟩
  · exact absurd (s0_makes (v := [4, 1]) (x := 1) (y := 1) (by omega) (by omega) rfl) (hno (s0_pre ⟨rfl, by simp⟩) [1, 1])
  · have hk := s0_least hle.1
    subst hk
    obtain ⟨A1, c1, e1, _, _, hrk⟩ := hki.open
    injection e1 with e1 e2 e3
    subst e1; subst e3
    have e2 : n = 2 := e2
    subst e2
    have hk6 := (hal5 4 1).trans hk6
    have hb6 := HBX.out.new hk6
    have hc0 := hb6.c0
    have hc1 := hb6.c1
    have hz6 := hk6.size
    have hlin6 := HLIN.out.new hk6
    have HK6 := Lib.hid hk6
    have HB6 := Lib.hid hb6
    have HLIN6 := Lib.hid hlin6
    have HKI := Lib.hid hki
    have HRK := Lib.hid hrk
    clear hk6 hb6 hlin6 hki hrk
    clear hpre hle hal5
    go_wp2_with fail
    have hal6 : ∀ a b : Int, Keeps [] w6 (w6.alloc (.cells #[.int .i64 a, .int .i64 b] 3)) := fun a b => (Keeps.refl _ _).alloc _
    refine (shift_is (l := []) (n := 2) (v := [0, 3]) (by simp) (HLIN6.out.new (hal6 _ _)) s0_small (isI_two (by simp)) (by simp)).mono ?_
    rintro e w7 ⟨hk7, hh⟩
    rcases hh with ⟨z, rfl, hbad⟩ | ⟨A2, n2, c2, A3, m3, c3, rfl, _, _, _, _, hI, hO⟩
    · exfalso
      have h0 := chkL_zero.2 s0_all
      rcases hbad with ⟨h1, _⟩ | ⟨_, ⟨h1, _⟩ | ⟨_, ⟨h1, _⟩ | ⟨_, h1, _⟩⟩⟩
      · exact h1 h0
      · exact h1 rfl
      · exact h1 (by unfold InRng; simp)
      · exact h1 (by unfold InRng; simp [addV, s0, List.range, List.range.loop])
    · obtain ⟨a2, cc2, e1, _, _, hr2⟩ := hI.open
      injection e1 with e1 e2 e3
      subst e1; subst e3
      have e2 : n2 = 2 := e2
      subst e2
      have hkt : Keeps [] w7 (w7.alloc (.cells #[.slice A2 2 c2, .slice A3 m3 c3] 29)) := (Keeps.refl _ _).alloc _
      have hbt := BoxAt.start w7 (.slice A2 2 c2) (.slice A3 m3 c3) 29
      have hk7 := ((hal6 0 3).trans hk7).trans hkt
      have hI := hI.new hkt
      have hr2 := hr2.keeps hkt
      have hz7 := hk7.size
      obtain ⟨a2, rfl, hb21⟩ := hr2.at_ (show 1 < 2 by omega)
      have hb21 : (w7.alloc (.cells #[.slice (some a2) 2 c2, .slice A3 m3 c3] 29)).cell? ⟨a2.block, a2.off + 1, none⟩ = some (.int .i64 3) := hb21
      have hrk7 := (HRK.out.keeps hk7)
      obtain ⟨ak, rfl, hak0⟩ := hrk7.at0 (by simp)
      obtain ⟨ak', hak', hak1⟩ := hrk7.at_ (show 1 < 2 by omega)
      injection hak' with hak'
      subst hak'
      have hak0 : (w7.alloc (.cells #[.slice (some a2) 2 c2, .slice A3 m3 c3] 29)).cell? ak = some (.int .i64 1) := hak0
      have hak1 : (w7.alloc (.cells #[.slice (some a2) 2 c2, .slice A3 m3 c3] 29)).cell? ⟨ak.block, ak.off + 1, none⟩ = some (.int .i64 1) := hak1
      have hb7 := HB6.out.new hk7
      have hlin7 := HLIN6.out.new hk7
      have hki7 := HKI.out.new hk7
      have hc0 := hb7.c0
      have hc1 := hb7.c1
      have hd0 := hbt.c0
      have HKW := Lib.hid ((K05.out.trans HK6.out).trans hk7)
      have HB7 := Lib.hid hb7
      have HLIN7 := Lib.hid hlin7
      have HKI7 := Lib.hid hki7
      have HBT := Lib.hid hbt
      clear hb7 hlin7 hki7 hbt
      clear hrk7 hr2 hal6 hk7 hkt hI hO
      go_wp2_with fail
      generalize hW : w7.alloc (.cells #[.slice (some a2) 2 c2, .slice A3 m3 c3] 29) = wt at *
      have hwz : w7.heap.size + 1 = wt.heap.size := by rw [← hW]; simp
      rw [hwz]
      have HWZ := Lib.hid hwz
      clear hwz
      clear hW
      have hal7 : ∀ a b : Int, Keeps [] wt (wt.alloc (.cells #[.int .i64 a, .int .i64 b] 3)) := fun a b => (Keeps.refl _ _).alloc _
      refine (provesS_is (l := []) (v := [4, 1]) (t := [1, 1]) (by simp) (HLIN7.out.new (hal7 _ _)) s0_small (isI_two (by simp)) (by simp) (HKI7.out.new (hal7 _ _)) (by simp)).mono ?_
      rintro e w8 ⟨r, rfl, hr, hk8⟩
      obtain rfl : r = true := hr.2 ⟨s0_n, rfl, rfl, by simp, fun i hi => by
        have : i = 0 ∨ i = 1 := by simp [s0] at hi; omega
        rcases this with e | e <;> subst e <;> simp [s0, comb]⟩
      have hk8 := (hal7 4 1).trans hk8
      have hb8 := HB7.out.new hk8
      have hlin8 := HLIN7.out.new hk8
      have hc0 := hb8.c0
      have hc1 := hb8.c1
      have hz8 := hk8.size
      have hk8t := hk8
      have hone := IsLins.one (l := []) (t := 29) (by simp) hlin8
      have hal81 := (Keeps.refl [] w8).alloc (.cells #[.slice (some ⟨w.heap.size, 0, none⟩) 2 2, .slice (some ⟨w.heap.size + 1 + 1 + 1, 0, none⟩) 2 2] 29)
      have hal82 := hal81.alloc (.cells #[.int .i64 1, .int .i64 0] 3)
      have HK8 := Lib.hid hk8
      have HB8 := Lib.hid hb8
      have HLIN8 := Lib.hid hlin8
      have HONE := Lib.hid hone
      have HAL81 := Lib.hid hal81
      have HAL82 := Lib.hid hal82
      clear hk8 hb8 hlin8 hone hal81 hal82
      clear hr hal7 hk8t
      go_wp2_with fail
      refine (has_is (l := []) (n := 2) (ss := [s0]) (v := [1, 0]) (by simp) (HONE.out.new ((Keeps.refl _ _).alloc _)) (by simpa using s0_small) (by simp) (by have := isI_two (w := w8.alloc (.cells #[.slice (some ⟨w.heap.size, 0, none⟩) 2 2, .slice (some ⟨w.heap.size + 1 + 1 + 1, 0, none⟩) 2 2] 29)) (l := []) (a := 1) (b := 0) (t := 3) (by simp); simpa using this) (by simp)).mono ?_
      rintro e w9 ⟨r, rfl, hr, hk9⟩
      obtain rfl : r = true := hr.2 ⟨s0_all, s0, by simp, s0_pre ⟨rfl, by simp⟩, [0, 0], s0_makes (by omega) (by omega) rfl⟩
      have hk9 := HAL82.out.trans hk9
      have hb9 := HB8.out.new hk9
      have hlin9 := HLIN8.out.new hk9
      have hc0 := hb9.c0
      have hc1 := hb9.c1
      have hz9 := hk9.size
      have hk79 := HK8.out.trans hk9
      have hbt9 := HBT.out.new hk79
      have hd0 := hbt9.c0
      have hb21 := hk79.read hb21 (by simp)
      have HK79 := Lib.hid hk79
      have HB9 := Lib.hid hb9
      have HLIN9 := Lib.hid hlin9
      clear hk79 hb9 hlin9
      clear hr hk9 hbt9
      go_wp2_with fail
      refine (within_is (l := []) (n := 2) (by simp) HLIN9.out s0_small HLIN9.out s0_small).mono ?_
      rintro e w10 ⟨r, rfl, hr, hk10⟩
      obtain rfl : r = true := hr.2 ⟨s0_all, s0_all, ⟨s0_pre ⟨rfl, by simp [s0]⟩, [0, 0], s0_makes (by omega) (by omega) rfl⟩, fun p hp => by
        simp [s0] at hp
        rcases hp with e | e <;> subst e
        · refine ⟨[1, 0], rfl, by simp, fun i hi => ?_⟩
          have : i = 0 ∨ i = 1 := by simp at hi; omega
          rcases this with e | e <;> subst e <;> simp [s0, comb]
        · refine ⟨[0, 1], rfl, by simp, fun i hi => ?_⟩
          have : i = 0 ∨ i = 1 := by simp at hi; omega
          rcases this with e | e <;> subst e <;> simp [s0, comb]⟩
      have hb10 := HB9.out.new hk10
      have hlin10 := HLIN9.out.new hk10
      have hc0 := hb10.c0
      have hc1 := hb10.c1
      have hone1 := IsLins.one (l := []) (t := 29) (by simp) hlin10
      have HK10 := Lib.hid ((HKW.out.trans HK79.out).trans hk10)
      have hal10 := (Keeps.refl [] w10).alloc (.cells #[.slice (some ⟨w.heap.size, 0, none⟩) 2 2, .slice (some ⟨w.heap.size + 1 + 1 + 1, 0, none⟩) 2 2] 29)
      have HONE1 := Lib.hid hone1
      have HAL10 := Lib.hid hal10
      clear hone1 hal10
      clear hr hk10 hb10 hlin10
      go_wp2_with fail
      refine (check_is (n := 2) HONE1.out (by simpa using s0_small) (by simp)).mono ?_
      rintro e w11 ⟨rfl, hk11⟩
      rw [chkL_zero.2 s0_all]
      have HK11 := Lib.hid (HK10.out.trans (HAL10.out.trans hk11))
      clear hk11
      go_wp2_with fail
      go_ret
      exact ⟨rfl, HK11.out⟩
theorem awake_any (w : World) : Calls Try.prog 8 #[] w fun e w' => e = .returned (.bool true) ∧ Below w.heap.size w w' := (awake_is w).mono fun e w' h => ⟨h.1, h.2.to_below⟩
end Go.Proofs.Ytdhadnnakcdfiaa
