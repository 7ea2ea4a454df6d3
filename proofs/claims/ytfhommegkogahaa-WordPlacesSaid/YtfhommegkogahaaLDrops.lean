/- The walk of coverabilitylaw02.WordDrops. -/
import Derived.Test.YtfhommegkogahaaAwake

namespace Go.Proofs.Ytfhommegkogahaa
set_option linter.unusedVariables false
open Go.RowKit

theorem dropL_sub (b : List Int) (i : Nat) : (dropL b i).Sublist b := by
  unfold dropL
  have h : (b.take i ++ b.drop (i + 1)).Sublist (b.take i ++ b.drop i) := by
    refine (List.Sublist.refl _).append ?_
    rw [← List.drop_drop]
    exact List.drop_sublist _ _
  rwa [List.take_append_drop] at h
theorem sub_drop : ∀ {a b : List Int}, a.Sublist b → a.length < b.length → ∃ i, i < b.length ∧ a.Sublist (dropL b i)
  | _, _, .slnil, h => by simp at h
  | a, y :: b, .cons _ hs, h => ⟨0, by simp, by simpa [dropL] using hs⟩
  | x :: a, _ :: b, .cons_cons _ hs, h => by
    obtain ⟨i, hi, h2⟩ := sub_drop hs (by simpa using h)
    refine ⟨i + 1, by simpa using hi, ?_⟩
    have e : dropL (x :: b) (i + 1) = x :: dropL b i := by simp [dropL]
    rw [e]; exact h2.cons_cons x
theorem WValid.sub {a b : List Int} (h : WValid b) (hs : a.Sublist b) : WValid a := ⟨Nat.le_trans hs.length_le h.1, fun x hx => h.2 x (hs.subset hx)⟩
theorem drops_law {a b : List Int} {ys : List (List Int)} (hb : WValid b) (hys : ∀ x, x ∈ ys ↔ IsDrop b x) : (∃ x ∈ ys, WLeq a x) ↔ WLeq a b ∧ a.length < b.length := by
  constructor
  · rintro ⟨x, hx, h⟩
    obtain ⟨_, i, hi, rfl⟩ := (hys x).1 hx
    have h1 := dropL_len hi
    have h2 := h.2.2.length_le
    exact ⟨⟨h.1, hb, h.2.2.trans (dropL_sub b i)⟩, by omega⟩
  · rintro ⟨h, hl⟩
    obtain ⟨i, hi, hs⟩ := sub_drop h.2.2 hl
    exact ⟨_, (hys _).2 ⟨hb, i, hi, rfl⟩, h.1, hb.sub (dropL_sub b i), hs⟩
theorem valid_deck {a : List Int} {m : Int} (hn : a.length ≤ 12) (hm : m ≤ 16) (h : ∀ z ∈ a, 0 ≤ z ∧ z ≤ max (m - 1) 0) : WValid a := ⟨hn, fun z hz => by have := h z hz; omega⟩

set_option maxRecDepth 100000 in
set_option maxHeartbeats 4000000 in
theorem drops_law_any (w : World) (len cap : Nat) (A0 : Option Addr) (l : Nat → Int) (hR : Rd w w.heap.size A0 len (fun i => .int .i64 (l i))) :
    Calls Try.prog 3 #[.slice A0 len cap] w fun e w' => e = .returned (.bool true) ∧ Below w.heap.size w w' := by
  have HR := Lib.hid hR
  clear hR
  by_cases hlen : len ≤ 400
  · have hd : decide ((len : Int) ≤ 400) = true := by simp; omega
    go_enter Try.func3, Try.ntmps3
    go_wp2_with fail
    refine (awake_any w).mono ?_
    rintro e w1 ⟨rfl, hb1⟩
    have hz1 := hb1.size
    go_wp2_with fail
    refine (few_any w1 A0 len cap).mono ?_
    rintro e w' ⟨rfl, rfl⟩
    rw [hd]
    go_wp2_with fail
    refine (new_any w1 w.heap.size A0 len cap l (HR.out.below hb1) hlen hz1).mono ?_
    rintro e w2 ⟨rfl, hD2, hb2⟩
    have hz2 := hb2.size
    have hbl2 := hD2.lt
    have hB2 := hb1.trans (hb2.mono hz1)
    have HD2 := Lib.hid hD2
    have HB2 := Lib.hid hB2
    clear hD2 hB2
    clear hb1 hb2
    generalize w1.heap.size = b at *
    go_wp2_with fail
    refine (word_any w2 b w.heap.size 2 4 HD2.out (by omega) (by omega)).mono ?_
    rintro e w3 ⟨A, n, c, a, rfl, hn, hle, har, hA, hD3, hK3⟩
    have hz3 := hK3.size
    have hva : WValid a := valid_deck (m := 2) (by omega) (by omega) har
    have HA := Lib.hid hA
    have HD3 := Lib.hid hD3
    have HN := Lib.hid hn
    have HVA := Lib.hid hva
    clear hA hD3 hn hva
    haveI kb3 : KB [b] w3 w2 := ⟨hK3⟩
    clear hK3 har
    go_wp2_with fail
    refine (word_any w3 b w.heap.size 3 9 HD3.out (by omega) (by omega)).mono ?_
    rintro e w4 ⟨B, m, d, v, rfl, hm, hle2, hbr, hB, hD4, hK4⟩
    have hz4 := hK4.size
    have hvb : WValid v := valid_deck (m := 3) (by omega) (by omega) hbr
    haveI kb4 : KB [b] w4 w3 := ⟨hK4⟩
    have hdr := drops_is (l := [b]) (by simp; omega) hB (by omega)
    have HB := Lib.hid hB
    have HD4 := Lib.hid hD4
    have HM := Lib.hid hm
    have HVB := Lib.hid hvb
    have HDR := Lib.hid hdr
    clear hB hD4 hm hvb hdr
    clear hK4 hbr
    go_wp2_with fail
    refine HDR.out.mono ?_
    rintro e w5 ⟨Y, k, cy, ys, hk, rfl, hasc, hys, hO, hk5⟩
    haveI kb5 : KB [b] w5 w4 := ⟨hk5.nil _⟩
    have hz5 := hk5.size
    have hL := hO.isL (by simp; omega)
    obtain ⟨Y1, cy1, U, hey, _, _, hyc, hyr⟩ := hL
    injection hey with e1 e2 e3
    subst e1; subst e3
    have hlaw := drops_law (a := a) HVB.out hys
    rw [← hk] at hyc hyr
    have hyl : ∀ x ∈ ys, x.length = m - 1 ∧ WLeq x v := fun x hx => by
      obtain ⟨_, i, hi, rfl⟩ := (hys x).1 hx
      exact ⟨by rw [dropL_len hi, HM.out], HVB.out.sub (dropL_sub v i), HVB.out, dropL_sub v i⟩
    have hm1 : 0 < k → 1 ≤ m := fun h0 => by
      obtain ⟨_, i, hi, _⟩ := (hys _).1 (getD_mem (d := []) (xs := ys) (i := 0) (by omega))
      rw [HM.out]; omega
    have hkb : k ≤ 100 := by
      have := asc_len hasc (L := dropsL v v.length) fun z hz => by
        obtain ⟨_, i, hi, rfl⟩ := (hys z).1 hz
        exact List.mem_map.2 ⟨i, List.mem_range.2 hi, rfl⟩
      rw [dropsL_len, ← HM.out] at this
      omega
    have HK := Lib.hid hk
    have HYC := Lib.hid hyc
    have HYR := Lib.hid hyr
    have HLAW := Lib.hid hlaw
    have HYL := Lib.hid hyl
    clear hk hyc hyr hlaw hyl
    clear hasc hys hO hk5 e2
    go_wp2_with fail
    go_loopg [6, 8, 26] (k + 1) (fun gh sv _ iv wr => ∃ (i : Nat) (s : Bool), k + 1 ≤ i + gh ∧ i ≤ k ∧ iv = .int .i64 (i : Int) ∧ sv = .bool s ∧ (s = true ↔ ∃ j, j < i ∧ WLeq a (ys.getD j [])) ∧ Keeps [b] w5 wr)
    case atStart => exact ⟨0, false, by omega, by omega, rfl, rfl, ⟨(fun h => by cases h), fun ⟨j, hj, _⟩ => by omega⟩, Keeps.refl _ _⟩
    case round =>
      obtain ⟨i, s, hgh, hi, rfl, rfl, hs, hkr⟩ := hrel
      haveI kbr : KB [b] wr w5 := ⟨hkr⟩
      have HKR := Lib.hid hkr
      have hzr := hkr.size
      have HS := Lib.hid hs
      clear hs
      clear hkr
      by_cases hlt : i < k
      · obtain ⟨p, rfl, hp⟩ := (RdL.now HYC.out (c := wr)).at_ hlt
        have hrow : IsI w5 [b] (U i) (ys.getD i []) := HYR.out i hlt
        obtain ⟨Ax, cx, hUi, _⟩ := hrow.open
        have hmem : ys.getD i [] ∈ ys := getD_mem (by rw [← HK.out]; exact hlt)
        obtain ⟨hxl, hxv⟩ := HYL.out _ hmem
        have hm1 := hm1 (by omega)
        have hs1 : ∀ s', (s' = true ↔ s = true ∨ WLeq a (ys.getD i [])) → (s' = true ↔ ∃ j, j < i + 1 ∧ WLeq a (ys.getD j [])) := fun s' h0 => by
          rw [h0, HS.out]
          constructor
          · rintro (⟨j, hj, h⟩ | h)
            · exact ⟨j, by omega, h⟩
            · exact ⟨i, by omega, h⟩
          · rintro ⟨j, hj, h⟩
            by_cases e : j = i
            · subst e; exact .inr h
            · exact .inl ⟨j, by omega, h⟩
        rw [hUi] at hp hrow
        have hne : (((ys.getD i []).length : Int) != (m : Int) - 1) = false := by rw [bne_eq_false_iff_eq]; omega
        have hc1 := fun W (k : Keeps [b] w5 W) => leq_is (Rok.keeps hrow k) (Rok.keeps HB.out ((kf [b] w4 w5).trans k)) (by omega) (by rw [← HM.out]; omega)
        rw [wleqB_true.2 hxv] at hc1
        have hc2 := fun W (k : Keeps [b] w5 W) => leq_is (Rok.keeps HA.out ((kf [b] w3 w5).trans k)) (Rok.keeps hrow k) (by rw [← HN.out]; omega) (by omega)
        generalize hr : wleqB a (ys.getD i []) = r at *
        have hr' : r = true ↔ WLeq a (ys.getD i []) := by rw [← hr, wleqB_true]
        generalize ys.getD i [] = x at *
        generalize x.length = xn at *
        have hc1 := hc1 wr (kf [b] w5 wr)
        have HS1 := Lib.hid hs1
        have HROW := Lib.hid hrow
        have HC1 := Lib.hid hc1
        have HC2 := Lib.hid hc2
        have HR' := Lib.hid hr'
        have HR := Lib.hid hr
        clear hs1 hrow hc1 hc2 hr' hr
        clear hUi hmem hxv hxl
        go_wp2_with fail
        refine HC1.out.mono ?_
        rintro e w6 ⟨rfl, hk6⟩
        haveI kb6 : KB [b] w6 wr := ⟨hk6.nil _⟩
        clear hk6
        have hc2 := HC2.out w6 (kf [b] w5 w6)
        have HC2 := Lib.hid hc2
        clear hc2
        cases s with
        | true =>
          go_wp2_with fail
          go_roundg (k - i)
          case measure => omega
          case rel => exact ⟨i + 1, true, by omega, by omega, by go_num, rfl, HS1.out true (by simp), kf [b] w5 w6⟩
        | false =>
          go_wp2_with fail
          refine HC2.out.mono ?_
          rintro e w7 ⟨rfl, hk7⟩
          haveI kb7 : KB [b] w7 w6 := ⟨hk7.nil _⟩
          clear hk7
          go_wp2_with fail
          go_roundg (k - i)
          case measure => omega
          case rel => exact ⟨i + 1, r, by omega, by omega, by go_num, rfl, HS1.out r (by rw [HR'.out]; simp), kf [b] w5 w7⟩
      · obtain rfl : i = k := by omega
        have hs2 : s = true ↔ WLeq a v ∧ a.length < v.length := by
          rw [← HLAW.out, HS.out]
          constructor
          · rintro ⟨j, hj, h⟩; exact ⟨_, getD_mem (by rw [← HK.out]; exact hj), h⟩
          · rintro ⟨x, hx, h⟩
            obtain ⟨j, hj, e⟩ := mem_getD (d := []) hx
            exact ⟨j, by rw [HK.out]; exact hj, by rw [e]; exact h⟩
        rw [← HN.out, ← HM.out] at hs2
        have hc := leq_is (w := wr) (IsI.now HA.out) (IsI.now HB.out) (by rw [← HN.out]; omega) (by rw [← HM.out]; omega)
        have hr : wleqB a v = true ↔ WLeq a v := wleqB_true
        generalize wleqB a v = r at *
        rw [← hr] at hs2
        have HKF := kf [b] w2 wr
        have hfin : s = (r && decide (n < m)) := by
          rw [Bool.eq_iff_iff, hs2]; simp
        subst hfin
        have HC := Lib.hid hc
        clear hc
        clear hs2 hr
        cases r with
        | true =>
          go_wp2_with fail
          refine HC.out.mono ?_
          rintro e w6 ⟨rfl, hk6⟩
          haveI kb6 : KB [b] w6 wr := ⟨hk6.nil _⟩
          have hkf := HB2.out.trans ((kf [b] w2 w6).below (by simp; omega) (by omega))
          have HKF := Lib.hid hkf
          clear hkf
          clear hk6
          go_wp2_with fail
          go_ret
          exact ⟨rfl, HKF.out⟩
        | false =>
          go_wp2_with fail
          refine HC.out.mono ?_
          rintro e w6 ⟨rfl, hk6⟩
          haveI kb6 : KB [b] w6 wr := ⟨hk6.nil _⟩
          have hkf := HB2.out.trans ((kf [b] w2 w6).below (by simp; omega) (by omega))
          have HKF := Lib.hid hkf
          clear hkf
          clear hk6
          go_wp2_with fail
          go_ret
          exact ⟨rfl, HKF.out⟩
  · have hd : decide ((len : Int) ≤ 400) = false := by simp; omega
    go_enter Try.func3, Try.ntmps3
    go_wp2_with fail
    refine (awake_any w).mono ?_
    rintro e w1 ⟨rfl, hb1⟩
    go_wp2_with fail
    refine (few_any w1 A0 len cap).mono ?_
    rintro e w' ⟨rfl, rfl⟩
    rw [hd]
    go_wp2_with fail
    refine (awake_any w1).mono ?_
    rintro e w2 ⟨rfl, hb2⟩
    go_wp2_with fail
    go_ret
    exact ⟨rfl, hb1.trans (hb2.mono hb1.size)⟩
end Go.Proofs.Ytfhommegkogahaa
