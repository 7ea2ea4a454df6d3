/- The walk of law 08's awake. -/
import Derived.Test.YtnmkinaokjekjaaGreatHas
import Derived.Test.YtnmkinaokjekjaaGreatAbove
namespace Go.Proofs.YtnmkinaokjekjaaGreat
set_option linter.unusedVariables false
open Go.RowKit

theorem bey_inv {cov : List Int → List Int → Bool} {turn : Int → Int → Option Int} {b c : List Int} {C out' : List (List Int)} (h : Bey cov turn b (C ++ [c]) out') : ∃ out, Bey cov turn b C out ∧ Asc out' ∧ ∀ x, x ∈ out' ↔ MaxOf cov (nextA turn c out) x := by
  generalize hD : C ++ [c] = D at h
  cases h with
  | nil => simp at hD
  | @snoc C' out _ c' h1 h2 h3 =>
    obtain ⟨e1, e2⟩ := List.append_inj' hD rfl
    subst e1
    have e2 : c = c' := by injection e2
    subst e2
    exact ⟨out, h1, h2, h3⟩
theorem bey_nil {cov : List Int → List Int → Bool} {turn : Int → Int → Option Int} {b : List Int} {out : List (List Int)} (h : Bey cov turn b [] out) : out = [b] := by
  generalize hD : ([] : List (List Int)) = D at h
  cases h with
  | nil => rfl
  | snoc h1 h2 h3 => simp at hD
/-- One step whose outcome is known. -/
theorem bey_step {cov : List Int → List Int → Bool} {turn : Int → Int → Option Int} {b c : List Int} {C out out' L : List (List Int)} (h : Bey cov turn b (C ++ [c]) out') (hC : ∀ o, Bey cov turn b C o → o = out) (ha : Asc L) (hm : ∀ x, x ∈ L ↔ MaxOf cov (nextA turn c out) x) : out' = L := by
  obtain ⟨o, h1, h2, h3⟩ := bey_inv h
  have := hC o h1
  subst this
  exact asc_ext h2 ha fun x => (h3 x).trans (hm x).symm

def awLow : List (List Int) := [[1, 1099511627776], [1099511627776, 0]]
theorem aw_low {out : List (List Int)} (h : Bey covG turnB (List.replicate 2 OM) [[2, 1]] out) : out = awLow := by
  refine bey_step (C := []) (out := [List.replicate 2 OM]) h (fun o ho => bey_nil ho) (by simp [Asc, awLow]; decide) fun x => ?_
  have e : nextA turnB [2, 1] [List.replicate 2 OM] = awLow := by decide
  rw [e]
  unfold MaxOf
  constructor
  · intro hx
    refine ⟨hx, fun y hy hc => ?_⟩
    simp only [awLow, List.mem_cons, List.not_mem_nil, or_false] at hx hy
    rcases hx with rfl | rfl <;> rcases hy with rfl | rfl <;> first | rfl | (revert hc; decide)
  · exact fun h => h.1
theorem aw_up {out : List (List Int)} (h : Bey vltB turnA (List.replicate 2 0) awLow out) : out = [[2, 1]] := by
  refine bey_step (C := [[1, 1099511627776]]) (c := [1099511627776, 0]) (out := [[2, 0]]) h (fun o ho => ?_) (List.pairwise_singleton _ _) fun x => ?_
  · refine bey_step (C := []) (out := [List.replicate 2 0]) ho (fun o ho => bey_nil ho) (List.pairwise_singleton _ _) fun x => ?_
    have e : nextA turnA [1, 1099511627776] [List.replicate 2 0] = [[2, 0]] := by decide
    rw [e]
    unfold MaxOf
    exact ⟨fun hx => ⟨hx, fun y hy _ => by rw [List.mem_singleton.1 hx, List.mem_singleton.1 hy]⟩, fun h => h.1⟩
  · have e : nextA turnA [1099511627776, 0] [[2, 0]] = [[2, 1]] := by decide
    rw [e]
    unfold MaxOf
    exact ⟨fun hx => ⟨hx, fun y hy _ => by rw [List.mem_singleton.1 hx, List.mem_singleton.1 hy]⟩, fun h => h.1⟩
theorem aw_c1 : cornE 2 vfB [[2, 1]] = 0 := by decide
theorem aw_c2 : cornE 2 vvB awLow = 0 := by decide
theorem aw_e : eachL 2 vfB [[2, 1]] = 0 := by decide
theorem aw_chk : chkL 2 awLow = 0 := by decide
theorem aw_has1 : hasB 2 awLow [9, 0] = true := by decide
theorem aw_has2 : hasB 2 awLow [2, 1] = false := by decide

theorem aw_below {w w' : World} {e : Ending} (h : BlwPost 2 [[2, 1]] [] w e w') : ∃ A c, e = .returned (.tuple #[.slice A 2 c, .int .i64 0]) ∧ IsII w' [] (.slice A 2 c) awLow ∧ Keeps [] w w' := by
  obtain ⟨hk, ⟨h1, _⟩ | ⟨_, out, hb, ho⟩⟩ := h
  · exact absurd aw_c1 h1
  · have := aw_low hb
    subst this
    rcases ho with ⟨h1, _⟩ | ⟨_, A, m, c, hm, he, hI⟩
    · exact absurd h1 (by decide)
    · have hm : m = 2 := hm
      subst hm
      exact ⟨A, c, he, hI, hk⟩
theorem aw_above {w w' : World} {e : Ending} (h : AbvPost 2 awLow [] w e w') : ∃ A c, e = .returned (.tuple #[.slice A 1 c, .int .i64 0]) ∧ IsII w' [] (.slice A 1 c) [[2, 1]] ∧ Keeps [] w w' := by
  obtain ⟨hk, ⟨h1, _⟩ | ⟨_, out, hb, ho⟩⟩ := h
  · exact absurd aw_c2 h1
  · have := aw_up hb
    subst this
    rcases ho with ⟨h1, _⟩ | ⟨_, ho⟩
    · exact absurd aw_e h1
    · rcases ho with ⟨h1, _⟩ | ⟨_, A, m, c, hm, he, hI⟩
      · exact absurd h1 (by decide)
      · have hm : m = 1 := hm
        subst hm
        exact ⟨A, c, he, hI, hk⟩
theorem two_cells {w : World} {l : List Nat} {A : Option Addr} {c : Nat} {x y : Int} (h : IsI w l (.slice A 2 c) [x, y]) : ∃ a, A = some a ∧ w.cell? a = some (.int .i64 x) ∧ w.cell? ⟨a.block, a.off + 1, none⟩ = some (.int .i64 y) := by
  obtain ⟨A', c', e, _, _, h4⟩ := h.open
  injection e with e1 e2 e3
  subst e1
  obtain ⟨a, rfl, h0⟩ := h4.at0 (by simp)
  obtain ⟨a', e, h1⟩ := h4.at_ (show 1 < 2 by omega)
  injection e with e
  subst e
  exact ⟨a, rfl, h0, h1⟩
theorem two_rows {w : World} {l : List Nat} {A : Option Addr} {c : Nat} {r s : List Int} (hr : r.length = 2) (hs : s.length = 2) (h : IsII w l (.slice A 2 c) [r, s]) : ∃ a B d B' d', A = some a ∧ w.cell? a = some (.slice B 2 d) ∧ w.cell? ⟨a.block, a.off + 1, none⟩ = some (.slice B' 2 d') ∧ IsI w l (.slice B 2 d) r ∧ IsI w l (.slice B' 2 d') s := by
  obtain ⟨A', c', V, e, _, _, h4, h5⟩ := h
  injection e with e1 e2 e3
  subst e1
  obtain ⟨a, rfl, h0⟩ := h4.at0 (by simp)
  obtain ⟨a', e, h1⟩ := h4.at_ (show 1 < 2 by omega)
  injection e with e
  subst e
  have hv0 : IsI w l (V 0) r := h5 0 (by simp)
  have hv1 : IsI w l (V 1) s := h5 1 (by simp)
  obtain ⟨B, d, e0, _⟩ := hv0.open
  obtain ⟨B', d', e1, _⟩ := hv1.open
  rw [hr] at e0
  rw [hs] at e1
  rw [e0] at h0 hv0
  rw [e1] at h1 hv1
  exact ⟨a, B, d, B', d', rfl, h0, h1, hv0, hv1⟩
theorem one_row {w : World} {l : List Nat} {A : Option Addr} {c : Nat} {r : List Int} (hr : r.length = 2) (h : IsII w l (.slice A 1 c) [r]) : ∃ a B d, A = some a ∧ w.cell? a = some (.slice B 2 d) ∧ IsI w l (.slice B 2 d) r := by
  obtain ⟨A', c', V, e, _, _, h4, h5⟩ := h
  injection e with e1 e2 e3
  subst e1
  obtain ⟨a, rfl, h0⟩ := h4.at0 (by simp)
  have hv0 : IsI w l (V 0) r := h5 0 (by simp)
  obtain ⟨B, d, e0, _⟩ := hv0.open
  rw [hr] at e0
  rw [e0] at h0 hv0
  exact ⟨a, B, d, rfl, h0, hv0⟩
theorem isI_two {w : World} {l : List Nat} {a b : Int} (hl : ∀ y ∈ l, y < w.heap.size) {t : TypeId} : IsI (w.alloc (.cells #[.int .i64 a, .int .i64 b] t)) l (.slice (some ⟨w.heap.size, 0, none⟩) 2 2) [a, b] :=
  isL_new (xs := [a, b]) hl rfl fun i hi => by
    have : i = 0 ∨ i = 1 := by simp at hi; omega
    rcases this with e | e <;> subst e <;> rfl

set_option maxRecDepth 100000 in
set_option maxHeartbeats 4000000 in
theorem awake_is (w : World) : Calls Tryz.prog 4 #[] w fun e w' => e = .returned (.bool true) ∧ Keeps [] w w' := by
  have i1 : IsI (w.alloc (.cells #[.int .i64 2, .int .i64 1] 3)) [] (.slice (some ⟨w.heap.size, 0, none⟩) 2 2) [2, 1] := isI_two (by simp)
  have i2 : IsII ((w.alloc (.cells #[.int .i64 2, .int .i64 1] 3)).alloc (.cells #[.slice (some ⟨w.heap.size, 0, none⟩) 2 2] 22)) [] (.slice (some ⟨w.heap.size + 1, 0, none⟩) 1 1) [[2, 1]] := by
    have := isL_new (R := IsI) (d := []) (e := 22) (w := w.alloc (.cells #[.int .i64 2, .int .i64 1] 3)) (l := []) (us := #[.slice (some ⟨w.heap.size, 0, none⟩) 2 2]) (xs := [[2, 1]]) (by simp) rfl (fun i hi => by
      have e : i = 0 := by simpa using hi
      subst e; exact i1)
    rw [World.size_alloc] at this
    exact this
  have k1 : Keeps [] w ((w.alloc (.cells #[.int .i64 2, .int .i64 1] 3)).alloc (.cells #[.slice (some ⟨w.heap.size, 0, none⟩) 2 2] 22)) := ((Keeps.refl _ _).alloc _).alloc _
  have hcall := (below_walk (l := []) (n := 2) (by simp) i2 (by simp) (by simp)).mono fun e w' h => aw_below h
  have HCALL := Lib.hid hcall
  have K1 := Lib.hid k1
  clear hcall k1
  clear i1 i2
  go_enter Tryz.func4, Tryz.ntmps4
  go_wp2_with fail
  refine HCALL.out.mono ?_
  rintro e w2 ⟨A, c, rfl, hI, hk⟩
  have k2 := K1.out.trans hk
  have hcall2 := (above_walk (l := []) (n := 2) (by simp) hI (by decide) (by decide)).mono fun e w' h => aw_above h
  have hab : Calls Tryz.prog 26 #[.int .i64 2, .slice A 2 c] w2 (fun e w' => ∃ A c, e = .returned (.tuple #[.slice A 1 c, .int .i64 0]) ∧ IsII w' [] (.slice A 1 c) [[2, 1]] ∧ Keeps [] w2 w') := hcall2
  have HI := Lib.hid hI
  have K2 := Lib.hid k2
  have HAB := Lib.hid hab
  clear hI k2 hab
  clear hk hcall2
  go_wp2_with fail
  refine HAB.out.mono ?_
  rintro e w3 ⟨A3, c3, rfl, hI3, hk⟩
  have hI' := IsII.new HI.out hk
  have hII := hI'
  obtain ⟨a, B, d, B', d', rfl, h0, h1, hr0, hr1⟩ := two_rows rfl rfl (show IsII w3 [] (.slice A 2 c) [[1, 1099511627776], [1099511627776, 0]] from hI')
  obtain ⟨b0, rfl, g0, g1⟩ := two_cells hr0
  obtain ⟨b1, rfl, g2, g3⟩ := two_cells hr1
  obtain ⟨a3, B3, d3, rfl, h3, hr3⟩ := one_row rfl hI3
  obtain ⟨b3, rfl, g4, g5⟩ := two_cells hr3
  have k3 := K2.out.trans hk
  have hl9 : IsI (w3.alloc (.cells #[.int .i64 9, .int .i64 0] 3)) [] (.slice (some ⟨w3.heap.size, 0, none⟩) 2 2) [9, 0] := isI_two (by simp)
  have hk9 : Keeps [] w3 (w3.alloc (.cells #[.int .i64 9, .int .i64 0] 3)) := (Keeps.refl _ _).alloc _
  have hc9 := has_is (n := 2) (l := []) (L := awLow) (by simp) (IsII.new hII hk9) (by decide) (by decide) hl9 (by decide)
  rw [aw_has1] at hc9
  have hh9 : Calls Tryz.prog 16 #[.int .i64 2, .slice (some a) 2 c, .slice (some ⟨w3.heap.size, 0, none⟩) 2 2] (w3.alloc (.cells #[.int .i64 9, .int .i64 0] 3)) (RetB true (w3.alloc (.cells #[.int .i64 9, .int .i64 0] 3))) := hc9
  have k9 := k3.trans hk9
  have HII := Lib.hid hII
  have K9 := Lib.hid k9
  have HH9 := Lib.hid hh9
  have HI3 := Lib.hid hI3
  clear hII k9 hh9 hI3
  clear hr0 hr1 hr3 hk hI' hl9 hc9 k3
  go_wp2_with fail
  refine HH9.out.mono ?_
  rintro e w4 ⟨rfl, hk⟩
  have k4 := K9.out.trans hk
  have hII4 := IsII.new (IsII.new HII.out hk9) hk
  have hl2 : IsI (w4.alloc (.cells #[.int .i64 2, .int .i64 1] 3)) [] (.slice (some ⟨w4.heap.size, 0, none⟩) 2 2) [2, 1] := isI_two (by simp)
  have hk2 : Keeps [] w4 (w4.alloc (.cells #[.int .i64 2, .int .i64 1] 3)) := (Keeps.refl _ _).alloc _
  have hc2 := has_is (n := 2) (l := []) (L := awLow) (by simp) (IsII.new hII4 hk2) (by decide) (by decide) hl2 (by decide)
  rw [aw_has2] at hc2
  have hh2 : Calls Tryz.prog 16 #[.int .i64 2, .slice (some a) 2 c, .slice (some ⟨w4.heap.size, 0, none⟩) 2 2] (w4.alloc (.cells #[.int .i64 2, .int .i64 1] 3)) (RetB false (w4.alloc (.cells #[.int .i64 2, .int .i64 1] 3))) := hc2
  have k5 := k4.trans hk2
  have HI4 := Lib.hid hII4
  have K5 := Lib.hid k5
  have HH2 := Lib.hid hh2
  clear k5 hh2
  clear hk hc2 hl2 k4 hII4
  go_wp2_with fail
  refine HH2.out.mono ?_
  rintro e w5 ⟨rfl, hk⟩
  have k6 := K5.out.trans hk
  have hck := check_is (n := 2) (l := []) (L := awLow) (by simp) (IsII.new (IsII.new HI4.out hk2) hk) (by decide) (by decide)
  rw [aw_chk] at hck
  have hcc : Calls Tryz.prog 11 #[.int .i64 2, .slice (some a) 2 c] w5 (RetE 0 w5) := hck
  have K6 := Lib.hid k6
  have HCC := Lib.hid hcc
  clear k6 hcc
  clear hk hck
  go_wp2_with fail
  refine HCC.out.mono ?_
  rintro e w6 ⟨rfl, hk⟩
  have k7 := K6.out.trans hk
  have K7 := Lib.hid k7
  clear k7
  clear hk
  go_wp2_with fail
  go_ret
  exact ⟨rfl, K7.out⟩
theorem awake_any (w : World) : Calls Tryz.prog 4 #[] w fun e w' => e = .returned (.bool true) ∧ Below w.heap.size w w' := (awake_is w).mono fun e w' ⟨h1, h2⟩ => ⟨h1, h2.to_below⟩
end Go.Proofs.YtnmkinaokjekjaaGreat
