/- The walk of coverabilitylaw03.MultisetExact. -/
import Derived.Test.YtpnkaicbcbimaaaAll
namespace Go.Proofs.Ytpnkaicbcbimaaa
set_option linter.unusedVariables false
open Go.RowKit Kuhn

/-- A table in a cell. -/
def TabAt (w : World) (p : Addr) : Prop :=
  ∃ (A : Option Addr) (n c : Nat) (L : Nat → Nat) (E : Nat → Nat → Bool), w.cell? p = some (.slice A n c) ∧ TabG w w.heap.size A n L E ∧ n ≤ 30 ∧ ∀ i, i < n → L i ≤ 30

set_option maxRecDepth 100000 in
set_option maxHeartbeats 4000000 in
theorem exact_law (w : World) (len cap nr rc nm mc : Nat) (A0 Ar Am : Option Addr) (l z : Nat → Int) (Lr : Nat → Nat) (Er : Nat → Nat → Bool) (hR : Rd w w.heap.size A0 len (fun i => .int .i64 (l i)))
    (hRaw : TabG w w.heap.size Ar nr Lr Er) (hZ : Rd w w.heap.size Am nm (fun i => .int .i64 (z i))) (hq1 : nr ≤ 9223372036854775807) (hq2 : ∀ i, i < nr → Lr i ≤ 9223372036854775807) (hq3 : nm ≤ 9223372036854775807) :
    Calls Try.prog 3 #[.slice A0 len cap, .slice Ar nr rc, .slice Am nm mc] w fun e w' => e = .returned (.bool true) ∧ Below w.heap.size w w' := by
  have HR := Lib.hid hR
  have HRaw := Lib.hid hRaw
  have HZ := Lib.hid hZ
  have HB2 := Lib.hid hq2
  clear hR hRaw hZ hq2
  by_cases hsm : len ≤ 400 ∧ nr ≤ 30 ∧ nm ≤ 30
  · obtain ⟨hlen, hnr, hnm⟩ := hsm
    have hd : decide ((len : Int) ≤ 400) = true := by simp; omega
    go_enter Try.func3, Try.ntmps3
    go_wp2_with fail
    refine (awake_any w).mono ?_
    rintro e w1 ⟨rfl, hb1⟩
    have hz1 := hb1.size
    go_wp2_with fail
    refine (few_any w1 A0 len cap).mono ?_
    rintro e w' ⟨rfl, rfl⟩
    rw [hd]
    go_wp2_with fail
    go_loopg [39] (nr + 1) (fun gh iv wr => ∃ i : Nat, nr + 1 ≤ i + gh ∧ i ≤ nr ∧ iv = .int .i64 (i : Int) ∧ (∀ r, r < i → Lr r ≤ 30) ∧ w1 = wr)
    case atStart => exact ⟨0, by omega, by omega, rfl, fun r hr => by omega, rfl⟩
    case round =>
      obtain ⟨i, hgi, hi, rfl, hL, rfl⟩ := hrel
      have HL := Lib.hid hL
      clear hL
      by_cases hlti : i < nr
      · obtain ⟨R, C, hR, _⟩ := TabG.below HRaw.out hb1
        obtain ⟨a, rfl, _, hrc⟩ := hR.at_ hlti
        clear hR
        have hLi := HB2.out i hlti
        by_cases h30 : Lr i ≤ 30
        · go_wp2_with fail
          go_roundg (nr - i)
          case measure => omega
          case rel => exact ⟨i + 1, by omega, by omega, by go_num, fun r hr => by
            by_cases e : r = i
            · subst e; exact h30
            · exact HL.out r (by omega), rfl⟩
        · go_wp2_with fail
          go_ret
          exact ⟨rfl, hb1⟩
      · obtain rfl : i = nr := by omega
        go_wp2_with fail
        refine (new_any w1 w.heap.size A0 len cap l (HR.out.below hb1) hlen hz1).mono ?_
        rintro e w2 ⟨rfl, hD2, hb2⟩
        have hz2 := hb2.size
        have hbl2 := hD2.lt
        have HD2 := Lib.hid hD2
        have HB2' := hb1.trans (hb2.mono hz1)
        clear hD2 hb2
        generalize hbe : w1.heap.size = b at *
        clear hbe
        go_wp2_with fail
        refine (next_any w2 b w.heap.size 6 HD2.out (by omega)).mono ?_
        rintro e w3 ⟨p1, rfl, _, hp1, hD3, hK3⟩
        have hp1 := hp1 (by omega)
        have hz3 := hK3.size
        have HD3 := Lib.hid hD3
        have HK3 := Lib.hid hK3
        clear hD3 hK3
        go_wp2_with fail
        refine (next_any w3 b w.heap.size 6 HD3.out (by omega)).mono ?_
        rintro e w4 ⟨p2, rfl, _, hp2, hD4, hK4⟩
        have hp2 := hp2 (by omega)
        have hz4 := hK4.size
        have HD4 := Lib.hid hD4
        have HK4 := Lib.hid (HK3.out.trans hK4)
        clear hD4 hK4
        go_wp2_with fail
        refine (table_any w4 b w.heap.size p1 p2 HD4.out (by omega) (by omega)).mono ?_
        rintro e w5 ⟨A1, c1, E1, rfl, hT5, hD5, hK5⟩
        have hz5 := hK5.size
        have HT5 := Lib.hid hT5
        have HD5 := Lib.hid hD5
        have HK5 := Lib.hid (HK4.out.trans hK5)
        clear hT5 hD5 hK5
        go_wp2_with fail
        refine (next_any w5 b w.heap.size 13 HD5.out (by omega)).mono ?_
        rintro e w6 ⟨p3, rfl, _, hp3, hD6, hK6⟩
        have hp3 := hp3 (by omega)
        have hz6 := hK6.size
        have HT6 := Lib.hid (HT5.out.keeps hK6 (by simp; omega))
        have HD6 := Lib.hid hD6
        have HK6 := Lib.hid (HK5.out.trans hK6)
        clear hD6 hK6
        go_wp2_with fail
        refine (next_any w6 b w.heap.size 14 HD6.out (by omega)).mono ?_
        rintro e w7 ⟨p4, rfl, _, hp4, hD7, hK7⟩
        have hp4 := hp4 (by omega)
        have hz7 := hK7.size
        have HT7 := Lib.hid (HT6.out.keeps hK7 (by simp; omega))
        have HD7 := Lib.hid hD7
        have HK7 := Lib.hid (HK6.out.trans hK7)
        clear hD7 hK7
        go_wp2_with fail
        refine (table_any w7 b w.heap.size p3 p4 HD7.out (by omega) (by omega)).mono ?_
        rintro e w8 ⟨A2, c2, E2, rfl, hT8, hD8, hK8⟩
        have hz8 := hK8.size
        have HT8 := Lib.hid (HT7.out.keeps hK8 (by simp; omega))
        have HU8 := Lib.hid hT8
        have HD8 := Lib.hid hD8
        have HK8 := Lib.hid (HK7.out.trans hK8)
        clear hT8 hD8 hK8
        go_wp2_with fail
        refine (table_any w8 b w.heap.size 4 4 HD8.out (by omega) (by omega)).mono ?_
        rintro e w9 ⟨A3, c3, E3, rfl, hT9, hD9, hK9⟩
        have hz9 := hK9.size
        have HT9 := Lib.hid (HT8.out.keeps hK9 (by simp; omega))
        have HU9 := Lib.hid (HU8.out.keeps hK9 (by simp; omega))
        have HV9 := Lib.hid hT9
        have HB9 : Hid (Below w.heap.size w w9) := HB2'.trans ((HK8.out.trans hK9).below (by simp; omega) (by omega))
        clear hT9 hD9 hK9 HB2'
        go_wp2_with fail
        have hbW : Below w9.heap.size w9 (w9.alloc (.cells #[.slice Ar i rc, .slice A1 p1 c1, .slice A2 p3 c2, .slice A3 4 c3] 23)) := (Below.refl _ _).alloc (Nat.le_refl _) _
        have hTabs : ∀ k, k < 4 → TabAt (w9.alloc (.cells #[.slice Ar i rc, .slice A1 p1 c1, .slice A2 p3 c2, .slice A3 4 c3] 23)) ⟨w9.heap.size, k, none⟩ := by
          intro k hk
          have up : ∀ {B : Nat} {A : Option Addr} {n : Nat} {L : Nat → Nat} {E : Nat → Nat → Bool}, TabG w9 B A n L E → B ≤ w9.heap.size → TabG (w9.alloc (.cells #[.slice Ar i rc, .slice A1 p1 c1, .slice A2 p3 c2, .slice A3 4 c3] 23)) (w9.alloc (.cells #[.slice Ar i rc, .slice A1 p1 c1, .slice A2 p3 c2, .slice A3 4 c3] 23)).heap.size A n L E :=
            fun h hB => (TabG.below h (hbW.mono hB)).more (by have := hbW.size; omega)
          match k, hk with
          | 0, _ => exact ⟨Ar, i, rc, Lr, Er, World.cell?_alloc_new _ _ _ _, up (TabG.below HRaw.out HB9.out) HB9.out.size, hnr, HL.out⟩
          | 1, _ => exact ⟨A1, p1, c1, fun _ => p2, E1, World.cell?_alloc_new _ _ _ _, up HT9.out.tab (Nat.le_refl _), by omega, fun _ _ => by show p2 ≤ 30; omega⟩
          | 2, _ => exact ⟨A2, p3, c2, fun _ => p4, E2, World.cell?_alloc_new _ _ _ _, up HU9.out.tab (Nat.le_refl _), by omega, fun _ _ => by show p4 ≤ 30; omega⟩
          | 3, _ => exact ⟨A3, 4, c3, fun _ => 4, E3, World.cell?_alloc_new _ _ _ _, up HV9.out.tab (Nat.le_refl _), by omega, fun _ _ => by show 4 ≤ 30; omega⟩
        have HTabs := Lib.hid hTabs
        have HBW : Hid (Below w.heap.size w (w9.alloc (.cells #[.slice Ar i rc, .slice A1 p1 c1, .slice A2 p3 c2, .slice A3 4 c3] 23))) := HB9.out.trans (hbW.mono HB9.out.size)
        have hWs : w9.heap.size < (w9.alloc (.cells #[.slice Ar i rc, .slice A1 p1 c1, .slice A2 p3 c2, .slice A3 4 c3] 23)).heap.size := by simp
        clear hTabs hbW
        generalize (w9.alloc (.cells #[.slice Ar i rc, .slice A1 p1 c1, .slice A2 p3 c2, .slice A3 4 c3] 23)) = W at *
        have hWw := HBW.out.size
        go_loopg [68] 5 (fun gh kv wr => ∃ k : Nat, 5 ≤ k + gh ∧ k ≤ 4 ∧ kv = .int .i64 (k : Int) ∧ Below W.heap.size W wr)
        case atStart => exact ⟨0, by omega, by omega, rfl, Below.refl _ _⟩
        case round =>
          obtain ⟨k, hgk, hk, rfl, hb⟩ := hrel
          have HBk := Lib.hid hb
          have hzk := hb.size
          clear hb
          by_cases hltk : k < 4
          · obtain ⟨A, n, c, L, E, hc0, hT0, hn0, hL0⟩ := HTabs.out k hltk
            have hc := (HBk.out.cell (p := ⟨w9.heap.size, k, none⟩) hWs).trans hc0
            have HT0 := Lib.hid (TabG.below hT0 HBk.out)
            have HL0 : Hid (∀ i, i < n → L i ≤ 1000000000) := fun i hi => by have := hL0 i hi; omega
            have HMz := Lib.hid (HZ.out.below (HBW.out.trans (HBk.out.mono hWw)))
            clear hc0 hT0 hL0
            go_wp2_with fail
            refine (match_all wr W.heap.size n c L A E HT0.out hzk (by omega) HL0.out).mono ?_
            rintro e v1 ⟨X, nx, cx, ok, f, rfl, hnx, hX, hDx, hy1⟩
            have hv1 := hy1.size
            have HX1 := Lib.hid hX
            have HDx := Lib.hid hDx
            have HT1 := Lib.hid (TabG.below HT0.out (hy1.mono hzk))
            have HZ1 := Lib.hid (HMz.out.below (hy1.mono (by omega)))
            have HB1 := Lib.hid (HBk.out.trans (hy1.mono hzk))
            clear hX hDx hy1
            go_wp2_with fail
            refine (rmatch_all v1 W.heap.size n c L A E HT1.out (by omega) (by omega) HL0.out).mono ?_
            rintro e v2 ⟨Y, ny, cy, ok', f', rfl, hny, hY, hDy, hy2⟩
            have hv2 := hy2.size
            obtain ⟨hok, hxy, hff⟩ := HDx.out.unique hDy
            subst hok
            have HXY : Hid (nx = ny ∧ ∀ i, i < nx → f i = f' i) := ⟨hxy, hff⟩
            have HX2 := Lib.hid (HX1.out.below hy2)
            have HY2 := Lib.hid hY
            have HT2 := Lib.hid (TabG.below HT1.out (hy2.mono (by omega)))
            have HZ2 := Lib.hid (HZ1.out.below (hy2.mono (by omega)))
            have HB2k := Lib.hid (HB1.out.trans (hy2.mono (by omega)))
            clear hY hDy hy2 hxy hff
            go_wp2_with fail
            refine (most_all v2 W.heap.size n c L A E HT2.out (by omega) (by omega) HL0.out).mono ?_
            rintro e v3 ⟨k3, rfl, hk3, hy3⟩
            have hv3 := hy3.size
            have HK3n := Lib.hid hk3
            have HX3 := Lib.hid (HX2.out.below (hy3.mono (by omega)))
            have HY3 := Lib.hid (HY2.out.below hy3)
            have HT3 := Lib.hid (TabG.below HT2.out (hy3.mono (by omega)))
            have HZ3 := Lib.hid (HZ2.out.below (hy3.mono (by omega)))
            have HB3k := Lib.hid (HB2k.out.trans (hy3.mono (by omega)))
            clear hk3 hy3
            go_wp2_with fail
            refine (rmost_all v3 W.heap.size n c L A E HT3.out (by omega) (by omega) HL0.out).mono ?_
            rintro e v4 ⟨k4, rfl, hk4, hy4⟩
            have hv4 := hy4.size
            obtain rfl := HK3n.out.unique hk4
            have HX4 := Lib.hid (HX3.out.below (hy4.mono (by omega)))
            have HY4 := Lib.hid (HY3.out.below (hy4.mono (by omega)))
            have HT4 := Lib.hid (TabG.below HT3.out (hy4.mono (by omega)))
            have HZ4 := Lib.hid (HZ3.out.below (hy4.mono (by omega)))
            have HB4k := Lib.hid (HB3k.out.trans (hy4.mono (by omega)))
            clear hk4 hy4
            go_wp2_with fail
            refine (same_eq v4 v1.heap.size v2.heap.size nx ny cx cy X Y f f' HX4.out HY4.out (by omega) (by omega) HXY.out).mono ?_
            rintro e v5 ⟨rfl, hy5⟩
            have hv5 := hy5.size
            have HY5 := Lib.hid (HY4.out.below (hy5.mono (by omega)))
            have HT5k := Lib.hid (TabG.below HT4.out (hy5.mono (by omega)))
            have HZ5 := Lib.hid (HZ4.out.below (hy5.mono (by omega)))
            have HB5k := Lib.hid (HB4k.out.trans (hy5.mono (by omega)))
            clear hy5
            go_wp2_with fail
            refine (valid_any v5 W.heap.size n c L A E HT5k.out (by omega) HL0.out).mono ?_
            rintro e v6 ⟨rfl, rfl⟩
            go_wp2_with fail
            refine (rvalid_b v5 W.heap.size n c L A E HT5k.out (by omega) HL0.out).mono ?_
            rintro e v6 ⟨rfl, hy6⟩
            have hv6 := hy6.size
            have HY6 := Lib.hid (HY5.out.below (hy6.mono (by omega)))
            have HT6k := Lib.hid (TabG.below HT5k.out (hy6.mono (by omega)))
            have HZ6 := Lib.hid (HZ5.out.below (hy6.mono (by omega)))
            have HB6k := Lib.hid (HB5k.out.trans (hy6.mono (by omega)))
            clear hy6
            go_wp2_with fail
            refine (proves_any v6 W.heap.size w.heap.size n c nm mc L A Am E z HT6k.out (by omega) HZ6.out (by omega) (by omega) HL0.out (by omega)).mono ?_
            rintro e v7 ⟨rfl, hy7⟩
            have hv7 := hy7.size
            have HY7 := Lib.hid (HY6.out.below (hy7.mono (by omega)))
            have HT7k := Lib.hid (TabG.below HT6k.out (hy7.mono (by omega)))
            have HZ7 := Lib.hid (HZ6.out.below (hy7.mono (by omega)))
            have HB7k := Lib.hid (HB6k.out.trans (hy7.mono (by omega)))
            clear hy7
            go_wp2_with fail
            refine (rproves_any v7 W.heap.size w.heap.size n c nm mc L A Am E z HT7k.out HZ7.out (by omega) HL0.out (by omega)).mono ?_
            rintro e v8 ⟨rfl, hy8⟩
            have hv8 := hy8.size
            have HY8 := Lib.hid (HY7.out.below (hy8.mono (by omega)))
            have HT8k := Lib.hid (TabG.below HT7k.out (hy8.mono (by omega)))
            have HB8k := Lib.hid (HB7k.out.trans (hy8.mono (by omega)))
            clear hy8
            go_wp2_with fail
            refine (proves_any v8 W.heap.size v2.heap.size n c ny cy L A Y E f' HT8k.out (by omega) HY8.out (by omega) (by omega) HL0.out (by omega)).mono ?_
            rintro e v9 ⟨rfl, hy9⟩
            have hv9 := hy9.size
            have HY9 := Lib.hid (HY8.out.below (hy9.mono (by omega)))
            have HT9k := Lib.hid (TabG.below HT8k.out (hy9.mono (by omega)))
            have HB9k := Lib.hid (HB8k.out.trans (hy9.mono (by omega)))
            clear hy9
            go_wp2_with fail
            refine (rproves_any v9 W.heap.size v2.heap.size n c ny cy L A Y E f' HT9k.out HY9.out (by omega) HL0.out (by omega)).mono ?_
            rintro e v10 ⟨rfl, hy10⟩
            have hv10 := hy10.size
            have HB10k := Lib.hid (HB9k.out.trans (hy10.mono (by omega)))
            clear hy10
            go_wp2_with fail
            go_roundg (4 - k)
            case measure => omega
            case rel => exact ⟨k + 1, by omega, by omega, by go_num, HB10k.out⟩
          · obtain rfl : k = 4 := by omega
            go_wp2_with fail
            go_ret
            exact ⟨rfl, HBW.out.trans (HBk.out.mono hWw)⟩
  · have tail : ∀ w1 : World, Below w.heap.size w w1 → Calls Try.prog 8 #[] w1 fun e w' => e = .returned (.bool true) ∧ Below w.heap.size w w' := fun w1 hb1 => by
      refine (awake_any w1).mono ?_
      rintro e w2 ⟨rfl, hb2⟩
      exact ⟨rfl, hb1.trans (hb2.mono hb1.size)⟩
    have HTail := Lib.hid tail
    clear tail
    by_cases h1 : len ≤ 400
    · have hd : decide ((len : Int) ≤ 400) = true := by simp; omega
      by_cases h2 : nr ≤ 30
      · have h3 : ¬ nm ≤ 30 := fun h => hsm ⟨h1, h2, h⟩
        clear hsm
        go_enter Try.func3, Try.ntmps3
        go_wp2_with fail
        refine (awake_any w).mono ?_
        rintro e w1 ⟨rfl, hb1⟩
        have HB1 := Lib.hid hb1
        clear hb1
        go_wp2_with fail
        refine (few_any w1 A0 len cap).mono ?_
        rintro e w' ⟨rfl, rfl⟩
        rw [hd]
        go_wp2_with fail
        refine (HTail.out w1 HB1.out).mono ?_
        rintro e w2 ⟨rfl, hb2⟩
        go_wp2_with fail
        go_ret
        exact ⟨rfl, hb2⟩
      · clear hsm
        go_enter Try.func3, Try.ntmps3
        go_wp2_with fail
        refine (awake_any w).mono ?_
        rintro e w1 ⟨rfl, hb1⟩
        have HB1 := Lib.hid hb1
        clear hb1
        go_wp2_with fail
        refine (few_any w1 A0 len cap).mono ?_
        rintro e w' ⟨rfl, rfl⟩
        rw [hd]
        go_wp2_with fail
        refine (HTail.out w1 HB1.out).mono ?_
        rintro e w2 ⟨rfl, hb2⟩
        go_wp2_with fail
        go_ret
        exact ⟨rfl, hb2⟩
    · have hd : decide ((len : Int) ≤ 400) = false := by simp; omega
      clear hsm
      go_enter Try.func3, Try.ntmps3
      go_wp2_with fail
      refine (awake_any w).mono ?_
      rintro e w1 ⟨rfl, hb1⟩
      have HB1 := Lib.hid hb1
      clear hb1
      go_wp2_with fail
      refine (few_any w1 A0 len cap).mono ?_
      rintro e w' ⟨rfl, rfl⟩
      rw [hd]
      go_wp2_with fail
      refine (HTail.out w1 HB1.out).mono ?_
      rintro e w2 ⟨rfl, hb2⟩
      go_wp2_with fail
      go_ret
      exact ⟨rfl, hb2⟩
end Go.Proofs.Ytpnkaicbcbimaaa
