/- The walk of coverabilitylaw02.WordOrder. -/
import Derived.Test.YtfhommegkogahaaLDrops
import Derived.Test.YtfhommegkogahaaEmbedP

namespace Go.Proofs.Ytfhommegkogahaa
set_option linter.unusedVariables false
open Go.RowKit

theorem wleqB_trans {a b c : List Int} (h1 : wleqB a b = true) (h2 : wleqB b c = true) : wleqB a c = true := by
  rw [wleqB_true] at *; exact ⟨h1.1, h2.2.1, h1.2.2.trans h2.2.2⟩
theorem wleqB_anti {a b : List Int} (h1 : wleqB a b = true) (h2 : wleqB b a = true) : a = b := by
  rw [wleqB_true] at *
  exact h1.2.2.eq_of_length (Nat.le_antisymm h1.2.2.length_le h2.2.2.length_le)

set_option maxRecDepth 100000 in
set_option maxHeartbeats 8000000 in
theorem order_law_any (w : World) (len cap : Nat) (A0 : Option Addr) (l : Nat → Int) (hR : Rd w w.heap.size A0 len (fun i => .int .i64 (l i))) :
    Calls Try.prog 6 #[.slice A0 len cap] w fun e w' => e = .returned (.bool true) ∧ Below w.heap.size w w' := by
  have HR := Lib.hid hR
  clear hR
  by_cases hlen : len ≤ 400
  · have hd : decide ((len : Int) ≤ 400) = true := by simp; omega
    go_enter Try.func6, Try.ntmps6
    go_wp2_with fail
    refine (awake_any w).mono ?_
    rintro e w1 ⟨rfl, hb1⟩
    have hz1 := hb1.size
    go_wp2_with fail
    refine (few_any w1 A0 len cap).mono ?_
    rintro e w' ⟨rfl, rfl⟩
    rw [hd]
    go_wp2_with fail
    refine (new_any w1 w.heap.size A0 len cap l (HR.out.below hb1) hlen hz1).mono ?_
    rintro e w2 ⟨rfl, hD2, hb2⟩
    have hz2 := hb2.size
    have hbl2 := hD2.lt
    have hB2 := hb1.trans (hb2.mono hz1)
    have HD2 := Lib.hid hD2
    have HB2 := Lib.hid hB2
    clear hD2 hB2
    clear hb1 hb2
    generalize w1.heap.size = b at *
    go_wp2_with fail
    refine (word_any w2 b w.heap.size 2 3 HD2.out (by omega) (by omega)).mono ?_
    rintro e w3 ⟨A1, n1, c1, a, rfl, hn1, hle1, har, hA1, hD1, hK⟩
    have hz1 := hK.size
    have hv1 : WValid a := valid_deck (m := 2) (by omega) (by omega) har
    haveI kb1 : KB [b] w3 w2 := ⟨hK⟩
    have HA1 := Lib.hid hA1
    have HD1 := Lib.hid hD1
    have HN1 := Lib.hid hn1
    have HV1 := Lib.hid hv1
    clear hA1 hD1 hn1 hv1
    clear hK har
    go_wp2_with fail
    refine (word_any w3 b w.heap.size 2 6 HD1.out (by omega) (by omega)).mono ?_
    rintro e w4 ⟨A2, n2, c2, v, rfl, hn2, hle2, har, hA2, hD2, hK⟩
    have hz2 := hK.size
    have hv2 : WValid v := valid_deck (m := 2) (by omega) (by omega) har
    haveI kb2 : KB [b] w4 w3 := ⟨hK⟩
    have HA2 := Lib.hid hA2
    have HD2 := Lib.hid hD2
    have HN2 := Lib.hid hn2
    have HV2 := Lib.hid hv2
    clear hA2 hD2 hn2 hv2
    clear hK har
    go_wp2_with fail
    refine (word_any w4 b w.heap.size 2 9 HD2.out (by omega) (by omega)).mono ?_
    rintro e w5 ⟨A3, n3, c3, u, rfl, hn3, hle3, har, hA3, hD3, hK⟩
    have hz3 := hK.size
    have hv3 : WValid u := valid_deck (m := 2) (by omega) (by omega) har
    haveI kb3 : KB [b] w5 w4 := ⟨hK⟩
    have HA3 := Lib.hid hA3
    have HD3 := Lib.hid hD3
    have HN3 := Lib.hid hn3
    have HV3 := Lib.hid hv3
    clear hA3 hD3 hn3 hv3
    clear hK har
    go_wp2_with fail
    have hb5 : b < w5.heap.size := by omega
    have HB5 := Lib.hid hb5
    clear hb5
    have ha5 : IsI w5 [b] (.slice A1 n1 c1) a := IsI.now HA1.out
    have hv5 : IsI w5 [b] (.slice A2 n2 c2) v := IsI.now HA2.out
    have hu5 : IsI w5 [b] (.slice A3 n3 c3) u := IsI.now HA3.out
    have hL1 := fun W (k : Keeps [b] w5 W) => leq_is (Rok.keeps ha5 k) (Rok.keeps hv5 k) (by rw [← HN1.out]; omega) (by rw [← HN2.out]; omega)
    have hL2 := fun W (k : Keeps [b] w5 W) => leq_is (Rok.keeps hv5 k) (Rok.keeps hu5 k) (by rw [← HN2.out]; omega) (by rw [← HN3.out]; omega)
    have hL3 := fun W (k : Keeps [b] w5 W) => leq_is (Rok.keeps ha5 k) (Rok.keeps hu5 k) (by rw [← HN1.out]; omega) (by rw [← HN3.out]; omega)
    have hL4 := fun W (k : Keeps [b] w5 W) => leq_is (Rok.keeps hv5 k) (Rok.keeps ha5 k) (by rw [← HN2.out]; omega) (by rw [← HN1.out]; omega)
    have hL5 := fun W (k : Keeps [b] w5 W) => leq_is (Rok.keeps hv5 k) (Rok.keeps hv5 k) (by rw [← HN2.out]; omega) (by rw [← HN2.out]; omega)
    have hS := fun W (k : Keeps [b] w5 W) => same_is (Rok.keeps ha5 k) (Rok.keeps hv5 k) (by rw [← HN1.out]; omega) (by rw [← HN2.out]; omega)
    have hE := fun W (k : Keeps [b] w5 W) => embed_is (Rok.keeps ha5 k) (Rok.keeps hu5 k) (by rw [← HN1.out]; omega) (by rw [← HN3.out]; omega)
    have hr1 : wleqB a v = true → wleqB v u = true → wleqB a u = true := wleqB_trans
    have hr2 : wleqB a v = true → wleqB v a = true → decide (a = v) = true := fun h1 h2 => decide_eq_true (wleqB_anti h1 h2)
    rw [wleqB_true.2 (⟨HV2.out, HV2.out, List.Sublist.refl _⟩ : WLeq v v)] at hL5
    have hsome := embW_some a u
    have hprv := fun p (h : embW a u = some p) => wprB_true.2 (embW_proves h)
    have hpr := fun W (k : Keeps [b] w5 W) pv p (hp : IsI W [b] pv p) (hpl : p.length ≤ 1000000) => proves_is (Rok.keeps ha5 k) (Rok.keeps hu5 k) hp (by rw [← HN1.out]; omega) (by rw [← HN3.out]; omega) hpl
    have hpl := fun p (h : embW a u = some p) => (embW_proves h).2.2.1
    generalize wleqB a v = r1 at *
    generalize wleqB v u = r2 at *
    generalize wleqB a u = r3 at *
    generalize wleqB v a = r4 at *
    generalize decide (a = v) = r5 at *
    generalize embW a u = o at *
    have HA5 := Lib.hid ha5
    have HV5 := Lib.hid hv5
    have HU5 := Lib.hid hu5
    have HL1 := Lib.hid hL1
    have HL2 := Lib.hid hL2
    have HL3 := Lib.hid hL3
    have HL4 := Lib.hid hL4
    have HL5 := Lib.hid hL5
    have HS := Lib.hid hS
    have HE := Lib.hid hE
    have HSOME := Lib.hid hsome
    have HPRV := Lib.hid hprv
    have HPR := Lib.hid hpr
    have HPL := Lib.hid hpl
    clear ha5 hv5 hu5 hL1 hL2 hL3 hL4 hL5 hS hE hsome hprv hpr hpl
    cases r1 <;> cases r2 <;> cases r3 <;> cases r4 <;> cases r5 <;> first
      | (cases hr1 rfl rfl; done)
      | (cases hr2 rfl rfl; done)
      | skip
    all_goals
      clear hr1 hr2
      go_wp2_with (first
        | ((with_reducible refine (HL1.out _ (kf [b] w5 _)).mono ?_); rintro e w9 ⟨rfl, hk⟩; haveI kq : KB [b] w9 _ := ⟨hk.nil _⟩; clear hk)
        | ((with_reducible refine (HL2.out _ (kf [b] w5 _)).mono ?_); rintro e w9 ⟨rfl, hk⟩; haveI kq : KB [b] w9 _ := ⟨hk.nil _⟩; clear hk)
        | ((with_reducible refine (HL3.out _ (kf [b] w5 _)).mono ?_); rintro e w9 ⟨rfl, hk⟩; haveI kq : KB [b] w9 _ := ⟨hk.nil _⟩; clear hk)
        | ((with_reducible refine (HL4.out _ (kf [b] w5 _)).mono ?_); rintro e w9 ⟨rfl, hk⟩; haveI kq : KB [b] w9 _ := ⟨hk.nil _⟩; clear hk)
        | ((with_reducible refine (HL5.out _ (kf [b] w5 _)).mono ?_); rintro e w9 ⟨rfl, hk⟩; haveI kq : KB [b] w9 _ := ⟨hk.nil _⟩; clear hk)
        | ((with_reducible refine (HS.out _ (kf [b] w5 _)).mono ?_); rintro e w9 ⟨rfl, hk⟩; haveI kq : KB [b] w9 _ := ⟨(quiet_keeps hk).nil _⟩; clear hk))
      refine (HE.out _ (kf [b] w5 _)).mono ?_
      rintro e w9 ⟨hk, ⟨ho, rfl⟩ | ⟨E, ce, p, ho, rfl, hO⟩⟩
      · haveI kq : KB [b] w9 _ := ⟨hk.nil _⟩
        have hsm := HSOME.out
        rw [ho] at hsm
        first
          | (simp at hsm; done)
          | skip
        all_goals
          clear hk hsm ho
          go_wp2_with ((with_reducible refine (HL3.out _ (kf [b] w5 _)).mono ?_); rintro e w10 ⟨rfl, hk⟩; haveI kq2 : KB [b] w10 _ := ⟨hk.nil _⟩; clear hk)
          have hkf := HB2.out.trans ((kf [b] w2 w10).below (by simp; omega) (by omega))
          go_ret
          exact ⟨rfl, hkf⟩
      · haveI kq : KB [b] w9 _ := ⟨hk.nil _⟩
        have hsm := HSOME.out
        rw [ho] at hsm
        first
          | (simp at hsm; done)
          | skip
        all_goals
          have hlen := HPL.out p ho
          have hpp := fun W (k : Keeps [b] w5 W) (hp : IsI W [b] (.slice E p.length ce) p) => HPR.out W k _ p hp (by rw [hlen, ← HN1.out]; omega)
          rw [HPRV.out p ho] at hpp
          have hp9 : IsI w9 [b] (.slice E p.length ce) p := hO.isL (fun y hy => by rw [List.mem_singleton.1 hy]; exact Nat.lt_of_lt_of_le HB5.out (kf [b] w5 _).size)
          generalize p.length = pn at *
          have HPP := Lib.hid hpp
          have HP9 := Lib.hid hp9
          clear hpp hp9
          clear hk hsm ho hO hlen
          go_wp2_with (first
            | ((with_reducible refine (HL3.out _ (kf [b] w5 _)).mono ?_); rintro e w10 ⟨rfl, hk⟩; haveI kq2 : KB [b] w10 _ := ⟨hk.nil _⟩; clear hk)
            | ((with_reducible refine (HPP.out _ (kf [b] w5 _) (IsI.now HP9.out)).mono ?_); rintro e w11 ⟨rfl, hk⟩; haveI kq3 : KB [b] w11 _ := ⟨hk.nil _⟩; clear hk))
          have hkf := HB2.out.trans ((kf [b] w2 w11).below (by simp; omega) (by omega))
          go_ret
          exact ⟨rfl, hkf⟩
  · have hd : decide ((len : Int) ≤ 400) = false := by simp; omega
    go_enter Try.func6, Try.ntmps6
    go_wp2_with fail
    refine (awake_any w).mono ?_
    rintro e w1 ⟨rfl, hb1⟩
    go_wp2_with fail
    refine (few_any w1 A0 len cap).mono ?_
    rintro e w' ⟨rfl, rfl⟩
    rw [hd]
    go_wp2_with fail
    refine (awake_any w1).mono ?_
    rintro e w2 ⟨rfl, hb2⟩
    go_wp2_with fail
    go_ret
    exact ⟨rfl, hb1.trans (hb2.mono hb1.size)⟩
end Go.Proofs.Ytfhommegkogahaa
