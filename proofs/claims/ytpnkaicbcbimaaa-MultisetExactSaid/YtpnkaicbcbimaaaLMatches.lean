/- The walk of coverabilitylaw03.MultisetMatches. -/
import Derived.Test.YtpnkaicbcbimaaaAwake
import Derived.Test.YtpnkaicbcbimaaaTable
import Derived.Test.YtpnkaicbcbimaaaVec
namespace Go.Proofs.Ytpnkaicbcbimaaa
set_option linter.unusedVariables false
open Go.RowKit Kuhn

theorem vld_const {n m : Nat} (hn : n ≤ 12) (hm : m ≤ 12) : vld n (fun _ => m) = true := vld_true hn fun _ _ => ⟨hm, rfl⟩
theorem cols_const {n m : Nat} (hn : 0 < n) : colsOf n (fun _ => m) = m := if_neg (by omega)
theorem not_less {E : Nat → Nat → Bool} {m n : Nat} {g : Nat → Nat} {z : Nat → Int} {c : Int} (hg : ∀ i, i < n → Pick E m n g i) (hz : PrfTo E m z n) (hc : Cmp n n z (fun i => (g i : Int)) c) : ¬ c < 0 := by
  rcases hc with ⟨h, _⟩ | ⟨_, k, hk, he, hne, rfl⟩ | ⟨_, _, rfl⟩
  · exact absurd rfl h
  · have hl := least (z := fun i => (z i).toNat) hg (fun i hi => ?_) hk (fun i hi => ?_)
    · have := (hz k hk).1
      show ¬ ord (z k) (g k : Int) < 0
      unfold ord
      split
      · rename_i h; intro _; apply hl; show (z k).toNat < g k; omega
      · split <;> omega
    · obtain ⟨a, b, c, d⟩ := hz i hi
      refine ⟨by omega, c, fun q hq e => d q hq ?_⟩
      have := (hz q (by omega)).1
      have e : (z q).toNat = (z i).toNat := e
      omega
    · show (z i).toNat = g i
      have : z i = (g i : Int) := he i hi
      omega
  · omega
theorem sat_prf {E : Nat → Nat → Bool} {m n : Nat} {z : Nat → Int} (hz : PrfTo E m z n) : Sat E m (fun _ => false) 0 n := by
  refine sat_of (z := fun i => (z i).toNat) fun i hi => ?_
  obtain ⟨a, b, c, d⟩ := hz i hi
  refine ⟨by omega, c, fun q hq e => d q hq ?_⟩
  have := (hz q (by omega)).1
  have e : (z q).toNat = (z i).toNat := e
  omega

set_option maxHeartbeats 4000000 in
theorem matches_law (w : World) (len cap : Nat) (A0 : Option Addr) (l : Nat → Int) (hR : Rd w w.heap.size A0 len (fun i => .int .i64 (l i))) :
    Calls Try.prog 4 #[.slice A0 len cap] w fun e w' => e = .returned (.bool true) ∧ Below w.heap.size w w' := by
  have HR := Lib.hid hR
  clear hR
  by_cases hlen : len ≤ 400
  · have hd : decide ((len : Int) ≤ 400) = true := by simp; omega
    go_enter Try.func4, Try.ntmps4
    go_wp2_with fail
    refine (awake_any w).mono ?_
    rintro e w1 ⟨rfl, hb1⟩
    have hz1 := hb1.size
    go_wp2_with fail
    refine (few_any w1 A0 len cap).mono ?_
    rintro e w' ⟨rfl, rfl⟩
    rw [hd]
    go_wp2_with fail
    refine (new_any w1 w.heap.size A0 len cap l (HR.out.below hb1) hlen hz1).mono ?_
    rintro e w2 ⟨rfl, hD2, hb2⟩
    have hz2 := hb2.size
    have hbl2 := hD2.lt
    have HD2 := Lib.hid hD2
    have hB2 := hb1.trans (hb2.mono hz1)
    clear hD2 hb1 hb2
    generalize w1.heap.size = b at *
    go_wp2_with fail
    refine (next_any w2 b w.heap.size 5 HD2.out (by omega)).mono ?_
    rintro e w3 ⟨n, rfl, _, hn, hD3, hK3⟩
    have hn := hn (by omega)
    have hz3 := hK3.size
    have HD3 := Lib.hid hD3
    have HK3 := Lib.hid hK3
    clear hD3 hK3
    go_wp2_with fail
    refine (next_any w3 b w.heap.size 5 HD3.out (by omega)).mono ?_
    rintro e w4 ⟨m', rfl, _, hm, hD4, hK4⟩
    have hm := hm (by omega)
    have hz4 := hK4.size
    have HD4 := Lib.hid hD4
    have HK4 := Lib.hid (HK3.out.trans hK4)
    clear hD4 hK4
    go_wp2_with fail
    obtain ⟨m, hm'⟩ : ∃ m : Nat, m = 1 + m' := ⟨_, rfl⟩
    rw [show (1 : Int) + (m' : Int) = (m : Int) by omega]
    have hm5 : m ≤ 5 := by omega
    have hm1 : 1 ≤ m := by omega
    clear hm' hm
    refine (table_any w4 b w.heap.size n m HD4.out (by omega) (by omega)).mono ?_
    rintro e w5 ⟨A, c, E, rfl, hT5, hD5, hK5⟩
    have hz5 := hK5.size
    have HT5 := Lib.hid hT5
    have HD5 := Lib.hid hD5
    have HB5 : Hid (Below w.heap.size w w5) := hB2.trans ((HK4.out.trans hK5).below (by simp; omega) (by omega))
    clear hT5 hD5 hK5 hB2
    have hv := vld_const (n := n) (m := m) (by omega) (by omega)
    go_wp2_with fail
    refine (match_yes w5 w5.heap.size n c (fun _ => m) A E HT5.out.tab (Nat.le_refl _) hv).mono ?_
    rintro e w6 hM6
    have HV := Lib.hid hv
    clear hv
    rcases hM6 with ⟨bm, g, rfl, hg, hbm1, hbm2, hO, hb6⟩ | ⟨rfl, hns, hb6⟩
    · have hg := hg
      have HG := Lib.hid hg
      have HO6 := Lib.hid hO
      clear hO hg
      have hz6 := hb6.size
      have hK6 : Keeps [] w5 w6 := Keeps.of_below hb6
      have HT6 := Lib.hid (HT5.out.keeps hK6 (by simp))
      have HD6 := Lib.hid (HD5.out.keeps hK6 (by simp) (by simp))
      have HB6 : Hid (Below w.heap.size w w6) := HB5.out.trans (hb6.mono (by omega))
      clear hb6 hK6
      go_wp2_with fail
      refine (mostall_yes w6 w6.heap.size n c (fun _ => m) A E HT6.out.tab (Nat.le_refl _) HV.out).mono ?_
      rintro e w7 ⟨k, rfl, hk, hb7⟩
      have hz7 := hb7.size
      have hK7 : Keeps [] w6 w7 := Keeps.of_below hb7
      have HT7 := Lib.hid (HT6.out.keeps hK7 (by simp))
      have HD7 := Lib.hid (HD6.out.keeps hK7 (by simp) (by simp))
      have HB7 : Hid (Below w.heap.size w w7) := HB6.out.trans (hb7.mono (by omega))
      have HO7 := Lib.hid (HO6.out.keep hK7 (by simp))
      have hkn : k = n := by
        have := hk.sat.2 (sat_of (Pick.proves HG.out))
        omega
      subst hkn
      have hbm7 : bm < w7.heap.size := by omega
      clear hk hb7 hK7 hbm2
      go_wp2_with fail
      refine (proves_any w7 w7.heap.size (bm + 1) k c k k (fun _ => m) A _ E (fun i => (g i : Int)) HT7.out.tab (Nat.le_refl _) (rd_of_Own HO7.out) (by omega) (by omega) (fun _ _ => by show m ≤ _; omega) (by omega)).mono ?_
      rintro e w8 ⟨rfl, hb8⟩
      have hp : prf k (fun _ => m) E k (fun i => (g i : Int)) = true := by
        refine prf_true HV.out rfl fun r hr => ?_
        obtain ⟨c1, c2, c3⟩ := Pick.proves HG.out r hr
        refine ⟨show (0 : Int) ≤ (g r : Int) by omega, Int.ofNat_lt.2 c1, by simpa using c2, fun q hq e => c3 q hq ?_⟩
        have e : (g q : Int) = (g r : Int) := e
        omega
      rw [hp]
      clear hp
      have hz8 := hb8.size
      have hK8 : Keeps [] w7 w8 := Keeps.of_below hb8
      have HT8 := Lib.hid (HT7.out.keeps hK8 (by simp))
      have HD8 := Lib.hid (HD7.out.keeps hK8 (by simp) (by simp))
      have HB8 : Hid (Below w.heap.size w w8) := HB7.out.trans (hb8.mono (by omega))
      have HO8 := Lib.hid (HO7.out.keep hK8 (by simp))
      clear hb8 hK8
      generalize hnk : k = n at *
      have hnk' := Lib.hid hnk
      clear hnk
      by_cases h0 : 0 < n
      · have hc := Lib.hid (cols_const (n := n) (m := m) h0)
        obtain ⟨R8, C8, hR8, _⟩ := HT8.out.tab
        obtain ⟨a, rfl, hab, _⟩ := hR8.at_ h0
        clear hR8
        go_wp2_with fail
        go_loopg [10] 21 (fun gh iv wr => ∃ i : Nat, 21 ≤ i + gh ∧ i ≤ 20 ∧ iv = .int .i64 (i : Int) ∧ Deck wr b w.heap.size ∧ Keeps [b] w8 wr)
        case atStart => exact ⟨0, by omega, by omega, rfl, HD8.out, Keeps.refl _ _⟩
        case round =>
          obtain ⟨i, hgh, hi, rfl, hDr, hKr⟩ := hrel
          have hzr := hKr.size
          have HDr := Lib.hid hDr
          have HKr := Lib.hid hKr
          have HTr := Lib.hid (HT8.out.keeps hKr (by simp; omega))
          clear hDr hKr
          by_cases hlt : i < 20
          · obtain ⟨Rr, Cr, hRr, _⟩ := HTr.out.tab
            obtain ⟨a', ha', hab', hrc⟩ := hRr.at_ h0
            obtain rfl : a = a' := by injection ha'
            rw [show a.add 0 = a by simp [Addr.add]] at hrc
            clear hRr ha'
            go_wp2_with fail
            refine (small_any wr b w.heap.size n ((m : Int) - 1) HDr.out (by omega) (by omega)).mono ?_
            rintro e w9 ⟨Z, zc, zs, rfl, hzl, hzb, hzo, hD9, hK9⟩
            have hz9 := hK9.size
            have HZ := Lib.hid (rd_of_own hzo (.int .i64 0))
            have HK9 := Lib.hid (HKr.out.trans hK9)
            have HT9 := Lib.hid (HTr.out.keeps hK9 (by simp; omega))
            have HD9 := Lib.hid hD9
            have HZ' : Hid (Rd w9 w9.heap.size Z n (fun i => .int .i64 (zs.getD i 0))) := HZ.out.congr fun i hi => by
              rw [List.getD_eq_getElem?_getD, List.getD_eq_getElem?_getD, List.getElem?_map]
              cases zs[i]? <;> rfl
            clear hzl hzb hzo hD9 hK9 hrc
            go_wp2_with fail
            refine (proves_any w9 w9.heap.size w9.heap.size n c n zc (fun _ => m) _ Z E (fun i => zs.getD i 0) HT9.out.tab (Nat.le_refl _) HZ'.out (Nat.le_refl _) (by omega) (fun _ _ => by show m ≤ _; omega) (by omega)).mono ?_
            rintro e w10 ⟨rfl, hb10⟩
            have hK10 : ∀ l, Keeps l w9 w10 := fun l => Keeps.of_below hb10
            have HK10 := Lib.hid (HK9.out.trans (hK10 _))
            have HD10 := Lib.hid (HD9.out.keeps (hK10 []) (by simp) (by simp))
            have hz10 := hb10.size
            cases hp : prf n (fun _ => m) E n (fun i => zs.getD i 0) with
            | false =>
              clear hp
              go_wp2_with fail
              go_roundg (20 - i)
              case measure => omega
              case rel => exact ⟨i + 1, by omega, by omega, by go_num, HD10.out, HK10.out⟩
            | true =>
              obtain ⟨_, _, hpz⟩ := of_prf hp
              have HP := Lib.hid hpz
              clear hp hpz
              have HO10 := Lib.hid (HO8.out.keep HK10.out (by simp; omega))
              go_wp2_with fail
              refine (compare_any w10 w10.heap.size (bm + 1) n n zc n Z _ (fun i => zs.getD i 0) (fun i => (g i : Int)) ((HZ'.out.keeps (hK10 []) (by simp)).more hz10) (rd_of_Own HO10.out) (by omega) (by omega)).mono ?_
              rintro e w11 ⟨cc, rfl, hcc, q, rfl⟩
              have hcn : ¬ cc < 0 := by
                exact not_less HG.out HP.out hcc
              clear hcc
              go_wp2_with fail
              go_roundg (20 - i)
              case measure => omega
              case rel => exact ⟨i + 1, by omega, by omega, by go_num, HD10.out.keeps (l := []) ((Keeps.refl _ _).drewN q) (by simp) (by simp), HK10.out.drewN q⟩
          · obtain rfl : i = 20 := by omega
            go_wp2_with fail
            go_ret
            exact ⟨rfl, HB8.out.trans (HKr.out.below (by simp; omega) (by omega))⟩
      · obtain rfl : n = 0 := by omega
        go_wp2_with fail
        go_loopg [10] 1 (fun gh iv wr => gh = 1 ∧ iv = .int .i64 0 ∧ w8 = wr)
        case atStart => exact ⟨rfl, rfl, rfl⟩
        case round =>
          obtain ⟨_, rfl, rfl⟩ := hrel
          go_wp2_with fail
          go_ret
          exact ⟨rfl, HB8.out⟩
    · have HNS := Lib.hid hns
      clear hns
      have hz6 := hb6.size
      have hK6 : Keeps [] w5 w6 := Keeps.of_below hb6
      have HT6 := Lib.hid (HT5.out.keeps hK6 (by simp))
      have HD6 := Lib.hid (HD5.out.keeps hK6 (by simp) (by simp))
      have HB6 : Hid (Below w.heap.size w w6) := HB5.out.trans (hb6.mono (by omega))
      clear hb6 hK6
      go_wp2_with fail
      refine (mostall_yes w6 w6.heap.size n c (fun _ => m) A E HT6.out.tab (Nat.le_refl _) HV.out).mono ?_
      rintro e w7 ⟨k, rfl, hk, hb7⟩
      have hz7 := hb7.size
      have hK7 : Keeps [] w6 w7 := Keeps.of_below hb7
      have HT7 := Lib.hid (HT6.out.keeps hK7 (by simp))
      have HD7 := Lib.hid (HD6.out.keeps hK7 (by simp) (by simp))
      have HB7 : Hid (Below w.heap.size w w7) := HB6.out.trans (hb7.mono (by omega))
      have hkn : ¬ k = n := fun e => HNS.out (hk.sat.1 (by omega))
      have hkb : ((k : Int) == (n : Int)) = false := by rw [beq_eq_false_iff_ne]; omega
      have HKN := Lib.hid hkn
      have w8e : ∃ w8, w8 = w7 := ⟨_, rfl⟩
      obtain ⟨w8, hw8⟩ := w8e
      subst hw8
      have HT8 := HT7
      have HD8 := HD7
      have HB8 := HB7
      have hz8 := hz7
      clear hk hb7 hK7 hkn
      by_cases h0 : 0 < n
      · have hc := Lib.hid (cols_const (n := n) (m := m) h0)
        obtain ⟨R8, C8, hR8, _⟩ := HT8.out.tab
        obtain ⟨a, rfl, hab, _⟩ := hR8.at_ h0
        clear hR8
        go_wp2_with fail
        go_loopg [10] 21 (fun gh iv wr => ∃ i : Nat, 21 ≤ i + gh ∧ i ≤ 20 ∧ iv = .int .i64 (i : Int) ∧ Deck wr b w.heap.size ∧ Keeps [b] w8 wr)
        case atStart => exact ⟨0, by omega, by omega, rfl, HD8.out, Keeps.refl _ _⟩
        case round =>
          obtain ⟨i, hgh, hi, rfl, hDr, hKr⟩ := hrel
          have hzr := hKr.size
          have HDr := Lib.hid hDr
          have HKr := Lib.hid hKr
          have HTr := Lib.hid (HT8.out.keeps hKr (by simp; omega))
          clear hDr hKr
          by_cases hlt : i < 20
          · obtain ⟨Rr, Cr, hRr, _⟩ := HTr.out.tab
            obtain ⟨a', ha', hab', hrc⟩ := hRr.at_ h0
            obtain rfl : a = a' := by injection ha'
            rw [show a.add 0 = a by simp [Addr.add]] at hrc
            clear hRr ha'
            go_wp2_with fail
            refine (small_any wr b w.heap.size n ((m : Int) - 1) HDr.out (by omega) (by omega)).mono ?_
            rintro e w9 ⟨Z, zc, zs, rfl, hzl, hzb, hzo, hD9, hK9⟩
            have hz9 := hK9.size
            have HZ := Lib.hid (rd_of_own hzo (.int .i64 0))
            have HK9 := Lib.hid (HKr.out.trans hK9)
            have HT9 := Lib.hid (HTr.out.keeps hK9 (by simp; omega))
            have HD9 := Lib.hid hD9
            have HZ' : Hid (Rd w9 w9.heap.size Z n (fun i => .int .i64 (zs.getD i 0))) := HZ.out.congr fun i hi => by
              rw [List.getD_eq_getElem?_getD, List.getD_eq_getElem?_getD, List.getElem?_map]
              cases zs[i]? <;> rfl
            clear hzl hzb hzo hD9 hK9 hrc
            go_wp2_with fail
            refine (proves_any w9 w9.heap.size w9.heap.size n c n zc (fun _ => m) _ Z E (fun i => zs.getD i 0) HT9.out.tab (Nat.le_refl _) HZ'.out (Nat.le_refl _) (by omega) (fun _ _ => by show m ≤ _; omega) (by omega)).mono ?_
            rintro e w10 ⟨rfl, hb10⟩
            have hK10 : ∀ l, Keeps l w9 w10 := fun l => Keeps.of_below hb10
            have HK10 := Lib.hid (HK9.out.trans (hK10 _))
            have HD10 := Lib.hid (HD9.out.keeps (hK10 []) (by simp) (by simp))
            have hz10 := hb10.size
            cases hp : prf n (fun _ => m) E n (fun i => zs.getD i 0) with
            | false =>
              clear hp
              go_wp2_with fail
              go_roundg (20 - i)
              case measure => omega
              case rel => exact ⟨i + 1, by omega, by omega, by go_num, HD10.out, HK10.out⟩
            | true =>
              obtain ⟨_, _, hpz⟩ := of_prf hp
              have HP := Lib.hid hpz
              clear hp hpz
              exact absurd (sat_prf HP.out) HNS.out
          · obtain rfl : i = 20 := by omega
            go_wp2_with fail
            go_ret
            exact ⟨rfl, HB8.out.trans (HKr.out.below (by simp; omega) (by omega))⟩
      · obtain rfl : n = 0 := by omega
        go_wp2_with fail
        go_loopg [10] 1 (fun gh iv wr => gh = 1 ∧ iv = .int .i64 0 ∧ w8 = wr)
        case atStart => exact ⟨rfl, rfl, rfl⟩
        case round =>
          obtain ⟨_, rfl, rfl⟩ := hrel
          go_wp2_with fail
          go_ret
          exact ⟨rfl, HB8.out⟩
  · have hd : decide ((len : Int) ≤ 400) = false := by simp; omega
    go_enter Try.func4, Try.ntmps4
    go_wp2_with fail
    refine (awake_any w).mono ?_
    rintro e w1 ⟨rfl, hb1⟩
    go_wp2_with fail
    refine (few_any w1 A0 len cap).mono ?_
    rintro e w' ⟨rfl, rfl⟩
    rw [hd]
    go_wp2_with fail
    refine (awake_any w1).mono ?_
    rintro e w2 ⟨rfl, hb2⟩
    go_wp2_with fail
    go_ret
    exact ⟨rfl, hb1.trans (hb2.mono hb1.size)⟩
end Go.Proofs.Ytpnkaicbcbimaaa
