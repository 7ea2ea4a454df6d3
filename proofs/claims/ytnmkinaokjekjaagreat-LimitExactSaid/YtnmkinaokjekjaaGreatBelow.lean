/- The walk of limit's Below. -/
import Derived.Test.YtnmkinaokjekjaaGreatBey
import Derived.Test.YtnmkinaokjekjaaGreatRepeat
import Derived.Deep.RegionHeld3
namespace Go.Proofs.YtnmkinaokjekjaaGreat
set_option linter.unusedVariables false
open Go.RowKit

set_option maxHeartbeats 400000 in
theorem below1_turn : TurnF 57 turnB := by
  intro W x c hx hc
  obtain ⟨hx1, hx2⟩ := hx
  obtain ⟨hc1, hc2⟩ := hc
  refine ⟨min x (c - 1), decide (0 < c), by unfold turnB; by_cases h : 0 < c <;> simp [h], ?_⟩
  go_enter Tryz.func57, Tryz.ntmps57
  go_wp2_with fail
  go_ret2
  exact ⟨rfl, rfl⟩
set_option maxHeartbeats 400000 in
theorem above2_turn : TurnF 61 turnA := by
  intro W x c hx hc
  obtain ⟨hx1, hx2⟩ := hx
  obtain ⟨hc1, hc2⟩ := hc
  by_cases h : c = 1099511627776
  · refine ⟨max x (c + 1), false, by unfold turnA OM; simp [h], ?_⟩
    have ht : (c != 1099511627776) = false := by simpa using h
    clear h
    go_enter Tryz.func61, Tryz.ntmps61
    go_wp2_with fail
    go_ret2
    exact ⟨rfl, rfl⟩
  · refine ⟨max x (c + 1), true, by unfold turnA OM; simp [h], ?_⟩
    have ht : (c != 1099511627776) = true := by simpa using h
    clear h
    go_enter Tryz.func61, Tryz.ntmps61
    go_wp2_with fail
    go_ret2
    exact ⟨rfl, rfl⟩

theorem cornE_zero {n : Int} {rb : List Int → Bool} {L : List (List Int)} : cornE n rb L = 0 ↔ (1 ≤ n ∧ n ≤ 4) ∧ L.length ≤ 12 ∧ ∀ x ∈ L, (x.length : Int) = n ∧ rb x = true := by
  unfold cornE
  by_cases h : dimB n 4 = false
  · rw [if_pos h]; exact ⟨fun h => by omega, fun h' => absurd h'.1 (dimB_false.1 h)⟩
  · rw [if_neg h]
    have h1 := dimB_true.1 (by simpa using h)
    by_cases h2 : 12 < L.length
    · rw [if_pos h2]; exact ⟨fun h => by omega, fun h' => by omega⟩
    · rw [if_neg h2, eachL_zero]; exact ⟨fun h => ⟨h1, by omega, h⟩, fun h => h.2.2⟩

/-- A list that is returned if it is not too long. -/
def OutL (l : List Nat) (out : List (List Int)) (e : Ending) (w' : World) : Prop :=
  (256 < out.length ∧ e = .returned (.tuple #[.slice none 0 0, .int .i64 1])) ∨ (out.length ≤ 256 ∧ ∃ A m c, m = out.length ∧ e = .returned (.tuple #[.slice A m c, .int .i64 0]) ∧ IsII w' l (.slice A m c) out)
def BlwPost (n : Int) (C : List (List Int)) (l : List Nat) (w : World) (e : Ending) (w' : World) : Prop :=
  Keeps [] w w' ∧ ((cornE n vfB C ≠ 0 ∧ e = .returned (.tuple #[.slice none 0 0, .int .i64 (cornE n vfB C)])) ∨ (cornE n vfB C = 0 ∧ ∃ out, Bey covG turnB (List.replicate n.toNat OM) C out ∧ OutL l out e w'))

set_option maxRecDepth 100000 in
set_option maxHeartbeats 4000000 in
theorem below_walk {w : World} {l : List Nat} {cv : Value} {C : List (List Int)} {n : Int} (hl : ∀ y ∈ l, y < w.heap.size) (h : IsII w l cv C) (hn : C.length ≤ 1000000000) (hC : ∀ x ∈ C, x.length ≤ 1000000) :
    Calls Tryz.prog 24 #[.int .i64 n, cv] w (BlwPost n C l w) := by
  unfold BlwPost
  have egf := enters_of Tryz.func46 (by kernel_rfl) rfl
  have egg := enters_of Tryz.func67 (by kernel_rfl) rfl
  have egt := enters_of Tryz.func57 (by kernel_rfl) rfl
  have hcor := fun W (k : Keeps [] w W) => corners_is (n := n) (gc := 68) rightF_F egf (h.new k) hn hC
  have h' := h
  obtain ⟨A0, c0, V, rfl, _⟩ := h'
  generalize hz : cornE n vfB C = z at *
  have HCOR := Lib.hid hcor
  have HC := Lib.hid hC
  have HL := Lib.hid hl
  have H := Lib.hid h
  clear hcor hC hl h
  by_cases h0 : z = 0
  · subst h0
    obtain ⟨⟨hn1, hn4⟩, hc12, hcs⟩ := cornE_zero.1 hz
    obtain ⟨m, rfl⟩ : ∃ m : Nat, n = (m : Int) := ⟨n.toNat, by omega⟩
    have hcs2 : ∀ c ∈ C, c.length = m ∧ ∀ z ∈ c, 0 ≤ z ∧ z ≤ 1048575 + 1 := fun c hc => ⟨by have := (hcs c hc).1; omega, fun z hz => by have := (vfB_true.1 (hcs c hc).2).el z hz; omega⟩
    have hbp := beyB (n := m) (K := 1048575) (C := C) (by omega) (by omega) (by omega) hcs2
    have hcd : ∀ c ∈ C, c.length = m ∧ ∀ z ∈ c, DB z := fun c hc => ⟨(hcs2 c hc).1, fun z hz => by have := (hcs2 c hc).2 z hz; unfold DB; omega⟩
    have hQ : ∀ x, SmV m 1048575 x → x.length ≤ 1000000 ∧ ∀ z ∈ x, DB z := fun x hx => ⟨by rw [hx.len]; omega, fun z hz => by
      rcases hx.el z hz with h | h
      · unfold DB; omega
      · unfold DB; unfold OM at h; omega⟩
    have hbey := fun W (k : Keeps [] w W) bv (hb : IsI W l bv (List.replicate m OM)) => beyond_is (gr := 66) (fun y hy => Nat.lt_of_lt_of_le (HL.out y hy) k.size) covF_G egg below1_turn egt hbp hQ hcd (by omega) (by omega) hc12 hb (H.out.new k)
    have HZ := Lib.hid hz
    generalize hCn : C.length = K at *
    have HBEY := Lib.hid hbey
    have HCS := Lib.hid hcs
    have HCS2 := Lib.hid hcs2
    have HBP := Lib.hid hbp
    have HCD := Lib.hid hcd
    have HQ := Lib.hid hQ
    have HCN := Lib.hid hCn
    clear hbey hcs hcs2 hbp hcd hQ hCn
    clear hz
    go_enter Tryz.func24, Tryz.ntmps24
    go_wp2_with fail
    refine (least_is w).mono ?_
    rintro e w1 ⟨rfl, hk1⟩
    have hc := HCOR.out w1 hk1
    have HK1 := Lib.hid hk1
    have HC := Lib.hid hc
    clear hk1 hc
    go_wp2_with fail
    refine HC.out.mono ?_
    rintro e w2 ⟨rfl, hk2⟩
    have hk3 := HK1.out.trans hk2
    have HK3 := Lib.hid hk3
    clear hk3
    clear hk2
    go_wp2_with fail
    have hk4 := HK3.out.alloc (.cells #[.int .i64 1099511627776] 3)
    have hcell := World.cell?_alloc_new w2 #[.int .i64 1099511627776] 3 0
    refine (repeat_one _ m 1 1099511627776 ⟨w2.heap.size, 0, none⟩ hcell (by omega)).mono ?_
    rintro e w3 ⟨g, rfl, hg1, hg2, hO, hB⟩
    have hk5 := hk4.trans hB.toK
    have hz2 := HK3.out.size
    have hbeg : IsI w3 l (.slice (some ⟨g, 0, none⟩) m m) (List.replicate m OM) := Own.isI (f := fun _ => 1099511627776) hO (fun hm => by have := HL.out _ hm; simp at hg1; omega) (Nat.le_refl _) (by simp) (fun i hi => by simp [List.getD_eq_getElem?_getD, hi, OM])
    have HK5 := Lib.hid hk5
    have HBEG := Lib.hid hbeg
    clear hk5 hbeg
    clear hO hB hg1 hg2 hcell hk4
    go_wp2_with fail
    refine (greatest_is w3).mono ?_
    rintro e w4 ⟨rfl, hk6⟩
    have hk7 := HK5.out.trans hk6
    have hbe := HBEY.out w4 hk7 _ (HBEG.out.new hk6)
    have HK7 := Lib.hid hk7
    have HBE := Lib.hid hbe
    clear hk7 hbe
    clear hk6
    go_wp2_with fail
    refine HBE.out.mono ?_
    rintro e w5 ⟨A, q, c, out, hq, rfl, hby, hI, hk8⟩
    have hk9 := HK7.out.trans hk8
    have HK9 := Lib.hid hk9
    have HBY := Lib.hid hby
    have HI := Lib.hid hI
    have HQ := Lib.hid hq
    clear hk9 hby hI hq
    clear hk8
    go_wp2_with fail
    refine (limited_any A q c w5).mono ?_
    rintro e w6 ⟨he, rfl⟩
    by_cases h256 : 256 < q
    · rw [if_pos h256] at he
      subst he
      go_wp2_with fail
      go_ret2
      exact ⟨HK9.out, .inr ⟨by first | rfl | trivial, out, HBY.out, .inl ⟨by rw [← HQ.out]; exact h256, rfl⟩⟩⟩
    · rw [if_neg h256] at he
      subst he
      go_wp2_with fail
      go_ret2
      exact ⟨HK9.out, .inr ⟨by first | rfl | trivial, out, HBY.out, .inr ⟨by rw [← HQ.out]; omega, A, q, c, HQ.out, rfl, HI.out⟩⟩⟩
  · have hb : (z != 0) = true := by simpa using h0
    have HZ := Lib.hid hz
    have H0 := Lib.hid h0
    clear hz h0
    go_enter Tryz.func24, Tryz.ntmps24
    go_wp2_with fail
    refine (least_is w).mono ?_
    rintro e w1 ⟨rfl, hk1⟩
    have hc := HCOR.out w1 hk1
    have HK1 := Lib.hid hk1
    have HC := Lib.hid hc
    clear hk1 hc
    go_wp2_with fail
    refine HC.out.mono ?_
    rintro e w2 ⟨rfl, hk2⟩
    have hk3 := HK1.out.trans hk2
    have HK3 := Lib.hid hk3
    clear hk3
    clear hk2
    go_wp2_with fail
    go_ret2
    exact ⟨HK3.out, .inl ⟨H0.out, rfl⟩⟩

end Go.Proofs.YtnmkinaokjekjaaGreat
