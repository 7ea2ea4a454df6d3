/- The walks of multiset.Most and multiset.Match. -/
import Derived.Test.YtpnkaicbcbimaaaMost
import Derived.Test.YtpnkaicbcbimaaaValid
import Derived.Test.YtpnkaicbcbimaaaGreedy
namespace Go.Proofs.Ytpnkaicbcbimaaa
set_option linter.unusedVariables false
open Go.RowKit Kuhn

/-- The columns of a valid table. -/
def colsOf (n : Nat) (L : Nat → Nat) : Nat := if n = 0 then 0 else L 0

theorem rd_of_Own {w : World} {g n : Nat} {f : Nat → Value} (h : Own w g n f) : Rd w (g + 1) (some ⟨g, 0, none⟩) n f := fun hn => ⟨_, rfl, by simp, fun i hi => by rw [addz]; exact (h i hi).1⟩

theorem tab_of_vld {w : World} {B n : Nat} {L : Nat → Nat} {A : Option Addr} {E : Nat → Nat → Bool} (h : TabG w B A n L E) (hv : vld n L = true) : Tab w B A n (colsOf n L) E :=
  h.tab fun i hi => by
    have := ((of_vld hv).2 i hi).2
    unfold colsOf; rw [if_neg (by omega)]; exact this

theorem cols_le {n : Nat} {L : Nat → Nat} (hv : vld n L = true) : colsOf n L ≤ 12 := by
  unfold colsOf
  by_cases h : n = 0
  · rw [if_pos h]; omega
  · rw [if_neg h]; exact ((of_vld hv).2 0 (by omega)).1

theorem cols_if (n : Nat) (L : Nat → Nat) : (if n = 0 then 0 else colsOf n L) = colsOf n L := by unfold colsOf; split <;> rfl

def MostAllPost (E : Nat → Nat → Bool) (m n : Nat) (w : World) (e : Ending) (w' : World) : Prop :=
  ∃ k : Nat, e = .returned (.tuple #[.int .i64 k, .bool true]) ∧ IsMax E m (fun _ => false) 0 n k ∧ Below w.heap.size w w'

set_option maxHeartbeats 1000000 in
theorem mostall_yes (w : World) (B n tc : Nat) (L : Nat → Nat) (A : Option Addr) (E : Nat → Nat → Bool) (hT : TabG w B A n L E) (hB : B ≤ w.heap.size) (hv : vld n L = true) :
    Calls Try.prog 15 #[.slice A n tc] w (MostAllPost E (colsOf n L) n w) := by
  obtain ⟨hn, hL⟩ := of_vld hv
  have hm := cols_le hv
  have HT := Lib.hid hT
  have HV := Lib.hid hv
  have HL := Lib.hid hL
  clear hT hv hL
  have HE := Lib.hid (cols_if n L)
  generalize hme : colsOf n L = m at *
  have HM := Lib.hid hme
  clear hme
  have hmk := run_make_n sl_bool m (by omega)
  go_enter Try.func15, Try.ntmps15
  go_wp2_with fail
  refine (valid_any w B n tc L A E HT.out (by omega) (fun i hi => by have := HL.out i hi; omega)).mono ?_
  rintro e w' ⟨rfl, rfl⟩
  rw [HV.out]
  go_wp2_with fail
  refine (columns_any w B n m tc A E (by have := tab_of_vld HT.out HV.out; rw [HM.out] at this; exact this) (by omega)).mono ?_
  rintro e w' ⟨rfl, rfl⟩
  rw [HE.out]
  go_wp2_with fail
  refine (most_any (w.alloc (.cells (madeCells (Value.bool false).cells m) 4)) E n m B (w.heap.size + 1) 0 tc m A (some ⟨w.heap.size, 0, none⟩) (fun _ => false) ?_ (rd_of_Own (own_made w (.bool false) rfl m 4)) (by simp) (by simp; omega) (by simp) (by omega) (by omega) (by omega)).mono ?_
  · have := tab_of_vld HT.out HV.out
    rw [HM.out] at this
    exact TabG.below this ((Below.refl _ _).alloc hB _)
  rintro e w2 ⟨k, rfl, hk, hb⟩
  have HK := Lib.hid hk
  clear hk
  go_wp2_with fail
  go_ret2
  exact ⟨k, rfl, HK.out, ((Below.refl _ w).alloc (Nat.le_refl _) _).trans (hb.mono (by simp))⟩

set_option maxHeartbeats 400000 in
theorem mostall_no (w : World) (B n tc : Nat) (L : Nat → Nat) (A : Option Addr) (E : Nat → Nat → Bool) (hT : TabG w B A n L E) (hn : n ≤ 1000000000) (hL : ∀ i, i < n → L i ≤ 1000000000) (hv : vld n L = false) :
    Calls Try.prog 15 #[.slice A n tc] w fun e w' => e = .returned (.tuple #[.int .i64 0, .bool false]) ∧ w = w' := by
  have HT := Lib.hid hT
  have HV := Lib.hid hv
  have HL := Lib.hid hL
  clear hT hv hL
  go_enter Try.func15, Try.ntmps15
  go_wp2_with fail
  refine (valid_any w B n tc L A E HT.out hn HL.out).mono ?_
  rintro e w' ⟨rfl, rfl⟩
  rw [HV.out]
  go_wp2_with fail
  go_ret2
  exact ⟨rfl, rfl⟩

def MatchPost (E : Nat → Nat → Bool) (m n : Nat) (w : World) (e : Ending) (w' : World) : Prop :=
  (∃ (b : Nat) (g : Nat → Nat), e = .returned (.tuple #[.slice (some ⟨b, 0, none⟩) n n, .bool true]) ∧ (∀ i, i < n → Pick E m n g i) ∧ w.heap.size ≤ b ∧ b < w'.heap.size ∧ Own w' b n (fun i => .int .i64 (g i)) ∧ Below w.heap.size w w') ∨
  (e = .returned (.tuple #[.slice none 0 0, .bool false]) ∧ ¬ Sat E m (fun _ => false) 0 n ∧ Below w.heap.size w w')

set_option maxHeartbeats 400000 in
theorem match_no (w : World) (B n tc : Nat) (L : Nat → Nat) (A : Option Addr) (E : Nat → Nat → Bool) (hT : TabG w B A n L E) (hn : n ≤ 1000000000) (hL : ∀ i, i < n → L i ≤ 1000000000) (hv : vld n L = false) :
    Calls Try.prog 13 #[.slice A n tc] w fun e w' => e = .returned (.tuple #[.slice none 0 0, .bool false]) ∧ w = w' := by
  have HT := Lib.hid hT
  have HV := Lib.hid hv
  have HL := Lib.hid hL
  clear hT hv hL
  go_enter Try.func13, Try.ntmps13
  go_wp2_with fail
  refine (valid_any w B n tc L A E HT.out hn HL.out).mono ?_
  rintro e w' ⟨rfl, rfl⟩
  rw [HV.out]
  go_wp2_with fail
  go_ret2
  exact ⟨rfl, rfl⟩

set_option maxHeartbeats 4000000 in
theorem match_yes (w : World) (B n tc : Nat) (L : Nat → Nat) (A : Option Addr) (E : Nat → Nat → Bool) (hT : TabG w B A n L E) (hB : B ≤ w.heap.size) (hv : vld n L = true) :
    Calls Try.prog 13 #[.slice A n tc] w (MatchPost E (colsOf n L) n w) := by
  obtain ⟨hn, hL⟩ := of_vld hv
  have hm := cols_le hv
  have HT' := Lib.hid (tab_of_vld hT hv)
  have HT := Lib.hid hT
  have HV := Lib.hid hv
  have HL := Lib.hid hL
  clear hT hv hL
  have HE := Lib.hid (cols_if n L)
  generalize colsOf n L = m at *
  have hmk := run_make_n sl_bool m (by omega)
  have hmk2 := run_make_n sl_int n (by omega)
  go_enter Try.func13, Try.ntmps13
  go_wp2_with fail
  refine (valid_any w B n tc L A E HT.out (by omega) (fun i hi => by have := HL.out i hi; omega)).mono ?_
  rintro e w' ⟨rfl, rfl⟩
  rw [HV.out]
  go_wp2_with fail
  refine (columns_any w B n m tc A E HT'.out (by omega)).mono ?_
  rintro e w' ⟨rfl, rfl⟩
  rw [HE.out]
  go_wp2_with fail
  have hS0 : Hid (Own ((w.alloc (.cells (madeCells #[Value.bool false] m) 4)).alloc (.cells (madeCells #[Value.int .i64 0] n) 3)) w.heap.size m (fun c => .bool (usedOf (fun _ => 0) 0 c))) := by
    rw [usedOf_zero]
    exact (own_made w (.bool false) rfl m 4).keep (l := []) ((Keeps.refl _ _).alloc _) (by simp)
  have hO0 : Hid (Own ((w.alloc (.cells (madeCells #[Value.bool false] m) 4)).alloc (.cells (madeCells #[Value.int .i64 0] n) 3)) (w.heap.size + 1) n (fun c => .int .i64 ((fun _ => (0 : Int)) c))) := by
    have := own_made (w.alloc (.cells (madeCells #[Value.bool false] m) 4)) (.int .i64 0) rfl n 3
    rw [World.size_alloc] at this
    exact this
  have hB0 : Below w.heap.size w ((w.alloc (.cells (madeCells #[Value.bool false] m) 4)).alloc (.cells (madeCells #[Value.int .i64 0] n) 3)) := ((Below.refl _ _).alloc (Nat.le_refl _) _).alloc (by simp) _
  go_loopg [21] (n + 1) (fun gh iv wr => ∃ (i : Nat) (g : Nat → Nat) (f : Nat → Int), n + 1 ≤ i + gh ∧ i ≤ n ∧ iv = .int .i64 (i : Int) ∧ Own wr w.heap.size m (fun c => .bool (usedOf g i c)) ∧ Own wr (w.heap.size + 1) n (fun c => .int .i64 (f c)) ∧
    (∀ r, r < i → f r = g r) ∧ (∀ r, r < i → Pick E m n g r) ∧ (0 < i → Sat E m (usedOf g i) i n) ∧ w.heap.size + 1 < wr.heap.size ∧ Below w.heap.size w wr)
  case atStart => exact ⟨0, fun _ => 0, fun _ => 0, by omega, by omega, rfl, hS0.out, hO0.out, fun r hr => by omega, fun r hr => by omega, fun h => by omega, by simp, hB0⟩
  case round =>
    obtain ⟨i, g, f, hgh, hi, rfl, hS, hO, hf, hp, hsat, hsz, hb⟩ := hrel
    have HS := Lib.hid hS
    have HO := Lib.hid hO
    have HF := Lib.hid hf
    have HP := Lib.hid hp
    have HSat := Lib.hid hsat
    clear hS hO hf hp hsat hS0 hO0 hB0
    by_cases hlt : i < n
    · obtain ⟨R, C, hR, hE⟩ := TabG.below HT'.out (hb.mono hB)
      obtain ⟨a, rfl, hab, hrc⟩ := hR.at_ hlt
      have hEr := hE i hlt
      clear hR hE
      generalize R i = Ri at *
      generalize C i = Ci at *
      clear R C
      have hz2 : wr.frozen? ⟨w.heap.size + 1, i, none⟩ = false := (HO.out i hlt).2
      have hz1 : wr.cell? ⟨w.heap.size + 1, i, none⟩ = some (.int .i64 (f i)) := (HO.out i hlt).1
      have hr0 : Rd wr B Ri m (fun j => .bool (E i j)) := hEr
      have HR0 := Lib.hid hr0
      clear hEr hr0
      go_wp2_with fail
      have hO1 : Hid (Own (wr.setCell ⟨w.heap.size + 1, i, none⟩ (.int .i64 (-1))) (w.heap.size + 1) n (fun c => .int .i64 (upd f i (-1) c))) := HO.out.updInt hlt (-1)
      have hS1 : Hid (Own (wr.setCell ⟨w.heap.size + 1, i, none⟩ (.int .i64 (-1))) w.heap.size m (fun c => .bool (usedOf g i c))) := HS.out.far (p := ⟨w.heap.size + 1, i, none⟩) (by simp) _
      have hB1 : Below w.heap.size w (wr.setCell ⟨w.heap.size + 1, i, none⟩ (.int .i64 (-1))) := hb.setCell (by simp) _
      have hR1 : Hid (Rd (wr.setCell ⟨w.heap.size + 1, i, none⟩ (.int .i64 (-1))) B Ri m (fun j => .bool (E i j))) := HR0.out.keep fun p hp => World.cell?_setCell_other _ _ _ _ (by rintro rfl; simp at hp; omega)
      clear hz1 hz2 hb
      go_loopg [31] (m + 1) (fun gh jv wr => ∃ (j : Nat) (f : Nat → Int), m + 1 ≤ j + gh ∧ j ≤ m ∧ jv = .int .i64 (j : Int) ∧ Own wr w.heap.size m (fun c => .bool (usedOf g i c)) ∧ Own wr (w.heap.size + 1) n (fun c => .int .i64 (f c)) ∧
        (∀ r, r < i → f r = g r) ∧ f i = -1 ∧ w.heap.size + 1 < wr.heap.size ∧ Below w.heap.size w wr ∧ Rd wr B Ri m (fun j => .bool (E i j)) ∧ (∀ j', j' < j → E i j' = true → usedOf g i j' = false → ¬ Sat E m (upd (usedOf g i) j' true) (i + 1) n))
      case atStart => exact ⟨0, upd f i (-1), by omega, by omega, rfl, hS1.out, hO1.out, fun r hr => by rw [upd_ne _ _ (by omega)]; exact HF.out r hr, upd_same _ _ _, by simpa [World.setCell] using hsz, hB1, hR1.out, fun j hj => by omega⟩
      case round =>
        obtain ⟨j, f2, hgj, hj, rfl, hS2, hO2, hf2, hfi, hsz2, hb2, hR2, hnone⟩ := hrel
        have HS2 := Lib.hid hS2
        have HO2 := Lib.hid hO2
        have HF2 := Lib.hid hf2
        have HFi := Lib.hid hfi
        have HR2 := Lib.hid hR2
        have HN := Lib.hid hnone
        clear hS2 hO2 hf2 hfi hR2 hnone hO1 hS1 hB1 hR1
        by_cases hltj : j < m
        · obtain ⟨a', rfl, hab', hec⟩ := HR2.out.at_ hltj
          have hu1 : wr.cell? ⟨w.heap.size, j, none⟩ = some (.bool (usedOf g i j)) := (HS2.out j hltj).1
          have hu2 : wr.frozen? ⟨w.heap.size, j, none⟩ = false := (HS2.out j hltj).2
          cases hEj : E i j with
          | false =>
            rw [hEj] at hec
            have HE := Lib.hid hEj
            clear hEj
            go_wp2_with fail
            go_roundg (m - j)
            case measure => omega
            case rel => exact ⟨j + 1, f2, by omega, by omega, by go_num, HS2.out, HO2.out, HF2.out, HFi.out, hsz2, hb2, HR2.out, fun j' hj' h1 h2 => by
              by_cases e : j' = j
              · subst e; rw [HE.out] at h1; cases h1
              · exact HN.out j' (by omega) h1 h2⟩
          | true =>
            rw [hEj] at hec
            have HE := Lib.hid hEj
            clear hEj
            cases hus : usedOf g i j with
            | true =>
              rw [hus] at hu1
              have HUs := Lib.hid hus
              clear hus
              go_wp2_with fail
              go_roundg (m - j)
              case measure => omega
              case rel => exact ⟨j + 1, f2, by omega, by omega, by go_num, HS2.out, HO2.out, HF2.out, HFi.out, hsz2, hb2, HR2.out, fun j' hj' h1 h2 => by
                by_cases e : j' = j
                · subst e; rw [HUs.out] at h2; cases h2
                · exact HN.out j' (by omega) h1 h2⟩
            | false =>
              rw [hus] at hu1
              have HUs := Lib.hid hus
              clear hus
              go_wp2_with fail
              have hS3 : Own (wr.setCell ⟨w.heap.size, j, none⟩ (.bool true)) w.heap.size m (fun c => .bool (upd (usedOf g i) j true c)) := HS2.out.updBool hltj true
              have hO3 : Own (wr.setCell ⟨w.heap.size, j, none⟩ (.bool true)) (w.heap.size + 1) n (fun c => .int .i64 (f2 c)) := HO2.out.far (p := ⟨w.heap.size, j, none⟩) (by simp) _
              have hB3 : Below w.heap.size w (wr.setCell ⟨w.heap.size, j, none⟩ (.bool true)) := hb2.setCell (by simp) _
              have hR3 : Rd (wr.setCell ⟨w.heap.size, j, none⟩ (.bool true)) B (some a') m (fun j => .bool (E i j)) := HR2.out.keep fun p hp => World.cell?_setCell_other _ _ _ _ (by rintro rfl; simp at hp; omega)
              have hsz3 : w.heap.size + 1 < (wr.setCell ⟨w.heap.size, j, none⟩ (.bool true)).heap.size := by simpa [World.setCell] using hsz2
              generalize wr.setCell ⟨w.heap.size, j, none⟩ (.bool true) = w3 at *
              have HS3 := Lib.hid hS3
              have HO3 := Lib.hid hO3
              have HR3 := Lib.hid hR3
              clear hS3 hO3 hR3 hu1 hu2
              refine (most_any w3 E n m B (w.heap.size + 1) (i + 1) tc m (some a) (some ⟨w.heap.size, 0, none⟩) (upd (usedOf g i) j true) (TabG.below HT'.out (hB3.mono hB)) (rd_of_Own HS3.out) (by simp) (by have := hB3.size; omega) (by omega) (by omega) (by omega) (by omega)).mono ?_
              rintro e w4 ⟨k, rfl, hk, hb4⟩
              have hkl := hk.le
              have HK := Lib.hid hk.sat
              clear hk
              have hKp : Keeps [] w3 w4 := Keeps.of_below hb4
              have HS4 := Lib.hid (HS3.out.keep hKp (by simp))
              have HO4 := Lib.hid (HO3.out.keep hKp (by simp))
              have HR4 := Lib.hid (HR3.out.keeps hKp (by simp))
              have hB4 := hB3.trans (hb4.mono hB3.size)
              have hsz4 := Nat.lt_of_lt_of_le hsz3 hb4.size
              have hu3 : w4.cell? ⟨w.heap.size, j, none⟩ = some (.bool (upd (usedOf g i) j true j)) := (HS4.out j hltj).1
              rw [upd_same] at hu3
              have hu4 : w4.frozen? ⟨w.heap.size, j, none⟩ = false := (HS4.out j hltj).2
              have ho3 : w4.cell? ⟨w.heap.size + 1, i, none⟩ = some (.int .i64 (f2 i)) := (HO4.out i hlt).1
              have ho4 : w4.frozen? ⟨w.heap.size + 1, i, none⟩ = false := (HO4.out i hlt).2
              by_cases hkn : k = n - (i + 1)
              · have ht : ((k : Int) == (n : Int) - (i : Int) - 1) = true := by rw [beq_iff_eq]; omega
                have htj : ((j : Int) == -1) = false := by rw [beq_eq_false_iff_ne]; omega
                have HKn := Lib.hid hkn
                clear hkn
                go_wp2_with fail
                go_roundg (n - i)
                case measure => omega
                case rel =>
                  have hcon : ∀ r, r < i → g r = upd g i j r := fun r hr => (upd_ne _ _ (by omega)).symm
                  refine ⟨i + 1, upd g i j, upd f2 i (j : Int), by omega, by omega, by go_num, ?_, HO4.out.updInt hlt _, fun r hr => ?_, fun r hr => ?_, fun _ => ?_, by simpa [World.setCell] using hsz4, hB4.setCell (by simp) _⟩
                  · rw [usedOf_succ]; exact HS4.out.far (p := ⟨w.heap.size + 1, i, none⟩) (by simp) _
                  · by_cases e : r = i
                    · subst e; rw [upd_same, upd_same]
                    · rw [upd_ne _ _ e, upd_ne _ _ e]; exact HF2.out r (by omega)
                  · by_cases e : r = i
                    · subst e
                      refine ⟨by rw [upd_same]; exact hltj, by rw [upd_same]; exact HE.out, ?_, ?_⟩
                      · rw [upd_same, ← usedOf_congr hcon]; exact HUs.out
                      · rw [upd_same, ← usedOf_congr hcon]; exact HN.out
                    · exact (HP.out r (by omega)).congr fun k hk => hcon k (by omega)
                  · rw [usedOf_succ]; exact HK.out.1 HKn.out
              · have ht : ((k : Int) == (n : Int) - (i : Int) - 1) = false := by rw [beq_eq_false_iff_ne]; omega
                have HKn := Lib.hid hkn
                clear hkn
                go_wp2_with fail
                go_roundg (m - j)
                case measure => omega
                case rel =>
                  refine ⟨j + 1, f2, by omega, by omega, by go_num, ?_, HO4.out.far (p := ⟨w.heap.size, j, none⟩) (by simp) _, HF2.out, HFi.out, by simpa [World.setCell] using hsz4, hB4.setCell (by simp) _, HR4.out.keep fun p hp => World.cell?_setCell_other _ _ _ _ (by rintro rfl; simp at hp; omega), fun j' hj' h1 h2 => ?_⟩
                  · refine (HS4.out.updBool hltj false).congr fun c _ => ?_
                    by_cases e : c = j
                    · subst e; rw [upd_same, HUs.out]
                    · rw [upd_ne _ _ e, upd_ne _ _ e]
                  · by_cases e : j' = j
                    · subst e; exact fun hs => HKn.out (HK.out.2 hs)
                    · exact HN.out j' (by omega) h1 h2
        · obtain rfl : j = m := by omega
          have ho3 : wr.cell? ⟨w.heap.size + 1, i, none⟩ = some (.int .i64 (f2 i)) := (HO2.out i hlt).1
          rw [HFi.out] at ho3
          go_wp2_with fail
          go_ret2
          refine .inr ⟨rfl, fun hs => ?_, hb2⟩
          have hno : ¬ Sat E j (usedOf g i) i n := fun h => by
            obtain ⟨c, c1, c2, c3, c4⟩ := h.step hlt
            exact HN.out c c1 c2 c3 c4
          by_cases h0 : i = 0
          · subst h0; rw [usedOf_zero] at hno; exact hno hs
          · exact hno (HSat.out (by omega))
    · obtain rfl : i = n := by omega
      go_wp2_with fail
      go_ret2
      exact .inl ⟨w.heap.size + 1, g, rfl, HP.out, by omega, hsz, HO.out.congr fun r hr => by rw [HF.out r hr], hb⟩
end Go.Proofs.Ytpnkaicbcbimaaa
