/- The walks of the reference's Valid, Most and Proves. -/
import Derived.Test.YtpnkaicbcbimaaaTry
import Derived.Test.YtpnkaicbcbimaaaProves
import Derived.Test.YtpnkaicbcbimaaaVec
import Derived.Deep.QuietTactic
import Derived.BigQuiet
namespace Go.Proofs.Ytpnkaicbcbimaaa
set_option linter.unusedVariables false
open Go.RowKit Kuhn

def VldQ (n : Nat) (L : Nat → Nat) (w : World) (e : Ending) (w' : World) : Prop := e = .returned (.bool (vld n L)) ∧ ∃ q, w' = w.drewN q
theorem drew2 (w : World) (a b : Nat) : ∃ q, (w.drewN a).drewN b = w.drewN q := ⟨a + b, by simp only [World.drewN_drewN]⟩

set_option maxHeartbeats 1000000 in
theorem rvalid_any (w : World) (B n c : Nat) (L : Nat → Nat) (A : Option Addr) (E : Nat → Nat → Bool) (hT : TabG w B A n L E) (hn : n ≤ 1000000000) (hL : ∀ i, i < n → L i ≤ 1000000000) :
    Calls Try.prog 19 #[.slice A n c] w (VldQ n L w) := by
  obtain ⟨R, C, hR, _⟩ := hT
  have HR := Lib.hid hR
  have HL := Lib.hid hL
  clear hR hL
  go_enter Try.func19, Try.ntmps19
  go_wp2_with fail
  go_loopg [3] (n + 1) (fun gh iv wr => ∃ k : Nat, n + 1 ≤ k + gh ∧ k ≤ n ∧ iv = .int .i64 (k : Int) ∧ (∀ i, i < k → L i ≤ 12 ∧ L i = L 0) ∧ ∃ q, wr = w.drewN q)
  case atStart => exact ⟨0, by omega, by omega, rfl, fun i hi => by omega, 0, rfl⟩
  case round =>
    obtain ⟨k, hgk, hk, rfl, hrel, q, rfl⟩ := hrel
    have HS := Lib.hid hrel
    clear hrel
    by_cases hlt : k < n
    · obtain ⟨a, rfl, hab, hc0⟩ := HR.out.at_ (k := 0) (by omega)
      obtain ⟨a', ha', _, hc⟩ := HR.out.at_ hlt
      obtain rfl : a = a' := by injection ha'
      clear ha'
      have hLk := HL.out k hlt
      have hL0 := HL.out 0 (by omega)
      rw [show a.add 0 = a by simp [Addr.add]] at hc0
      have hpos : 0 < n := by omega
      by_cases h2 : L k = L 0
      · have h2' : ((L k : Int) != (L 0 : Int)) = false := by simp [h2]
        by_cases h1 : L k ≤ 12
        · have H2 := Lib.hid h2
          clear h2
          go_wp2_with fail
          go_quiet (fail)
          go_wp2_with fail
          go_roundg (n - k)
          case measure => omega
          case rel =>
            refine ⟨k + 1, by omega, by omega, by go_num, fun i hi => ?_, _, rfl⟩
            by_cases e : i = k
            · subst e; exact ⟨h1, H2.out⟩
            · exact HS.out i (by omega)
        · have hf := Lib.hid (vld_false (n := n) (L := L) (fun h => h1 (h.2 k hlt).1))
          have H2 := Lib.hid h2
          clear h2
          go_wp2_with fail
          go_quiet (fail)
          go_wp2_with fail
          go_ret
          exact ⟨ret_bo hf.out.symm, drew2 _ _ _⟩
      · have h2' : ((L k : Int) != (L 0 : Int)) = true := by simp; omega
        have hf := Lib.hid (vld_false (n := n) (L := L) (fun h => h2 (h.2 k hlt).2))
        clear h2
        go_wp2_with fail
        go_quiet (fail)
        go_wp2_with fail
        go_ret
        exact ⟨ret_bo hf.out.symm, drew2 _ _ _⟩
    · by_cases h12 : n ≤ 12
      · have hf := Lib.hid (vld_true (n := n) (L := L) h12 fun i hi => HS.out i (by omega))
        go_wp2_with fail
        go_ret
        refine ⟨ret_bo (Eq.trans ?_ hf.out.symm), _, rfl⟩
        first | rfl | (simp; omega)
      · have hf := Lib.hid (vld_false (n := n) (L := L) (fun h => h12 h.1))
        go_wp2_with fail
        go_ret
        refine ⟨ret_bo (Eq.trans ?_ hf.out.symm), _, rfl⟩
        first | rfl | (simp; omega)

theorem below_drewN {B : Nat} {a w : World} (h : Below B a w) (n : Nat) : Below B a (w.drewN n) := ⟨h.os, h.tape, h.output, h.size, h.block⟩
theorem TabG.drewN {w : World} {B n : Nat} {L : Nat → Nat} {A : Option Addr} {E : Nat → Nat → Bool} (h : TabG w B A n L E) (q : Nat) : TabG (w.drewN q) B A n L E := h.below (below_drewN (Below.refl _ _) q)

set_option maxHeartbeats 400000 in
theorem rmostall_yes (w : World) (B n tc : Nat) (L : Nat → Nat) (A : Option Addr) (E : Nat → Nat → Bool) (hT : TabG w B A n L E) (hB : B ≤ w.heap.size) (hv : vld n L = true) :
    Calls Try.prog 16 #[.slice A n tc] w (MostAllPost E (colsOf n L) n w) := by
  obtain ⟨hn, hL⟩ := of_vld hv
  have hm := cols_le hv
  have HT' := Lib.hid (tab_of_vld hT hv)
  have HT := Lib.hid hT
  have HV := Lib.hid hv
  have HL := Lib.hid hL
  have H0 : Hid (n = 0 → colsOf n L = 0) := fun h => if_pos h
  clear hT hv hL
  generalize colsOf n L = m at *
  go_enter Try.func16, Try.ntmps16
  go_wp2_with fail
  refine (rvalid_any w B n tc L A E HT.out (by omega) (fun i hi => by have := HL.out i hi; omega)).mono ?_
  rintro e w' ⟨rfl, q, rfl⟩
  rw [HV.out]
  go_wp2_with fail
  refine (rmost_any (w.drewN q) E n m B tc A (TabG.drewN HT'.out q) hB (by omega) (by omega) H0.out).mono ?_
  rintro e w2 ⟨k, rfl, hk, hb⟩
  have HK := Lib.hid hk
  clear hk
  go_wp2_with fail
  go_ret2
  exact ⟨k, rfl, HK.out, (below_drewN (Below.refl _ w) q).trans hb⟩

set_option maxHeartbeats 400000 in
theorem rmostall_no (w : World) (B n tc : Nat) (L : Nat → Nat) (A : Option Addr) (E : Nat → Nat → Bool) (hT : TabG w B A n L E) (hn : n ≤ 1000000000) (hL : ∀ i, i < n → L i ≤ 1000000000) (hv : vld n L = false) :
    Calls Try.prog 16 #[.slice A n tc] w fun e w' => e = .returned (.tuple #[.int .i64 0, .bool false]) ∧ Below w.heap.size w w' := by
  have HT := Lib.hid hT
  have HV := Lib.hid hv
  have HL := Lib.hid hL
  clear hT hv hL
  go_enter Try.func16, Try.ntmps16
  go_wp2_with fail
  refine (rvalid_any w B n tc L A E HT.out hn HL.out).mono ?_
  rintro e w' ⟨rfl, q, rfl⟩
  rw [HV.out]
  go_wp2_with fail
  go_ret2
  exact ⟨rfl, below_drewN (Below.refl _ w) q⟩

set_option maxHeartbeats 2000000 in
theorem rproves_any (w : World) (B B' n tc k kc : Nat) (L : Nat → Nat) (A Z : Option Addr) (E : Nat → Nat → Bool) (z : Nat → Int) (hT : TabG w B A n L E) (hZ : Rd w B' Z k (fun i => .int .i64 (z i)))
    (hn : n ≤ 1000000000) (hL : ∀ i, i < n → L i ≤ 1000000000) (hk : k ≤ 1000000000) :
    Calls Try.prog 21 #[.slice A n tc, .slice Z k kc] w (ProvesPost n L E k z w) := by
  have HT := Lib.hid hT
  have HZ := Lib.hid hZ
  have HL := Lib.hid hL
  clear hT hZ hL
  have HB0 : Hid (∀ q, Below w.heap.size w (w.drewN q)) := fun q => below_drewN (Below.refl _ w) q
  cases hv : vld n L with
  | false =>
    have HV := Lib.hid hv
    clear hv
    go_enter Try.func21, Try.ntmps21
    go_wp2_with fail
    refine (rvalid_any w B n tc L A E HT.out hn HL.out).mono ?_
    rintro e w' ⟨rfl, q, rfl⟩
    rw [HV.out]
    go_wp2_with fail
    go_ret
    exact ⟨ret_bool (prf_false (fun h => by rw [HV.out] at h; cases h.1)).symm, HB0.out q⟩
  | true =>
    by_cases hkn : k = n
    · subst hkn
      have hm := cols_le hv
      have hn12 := (of_vld hv).1
      have HT' := Lib.hid (tab_of_vld HT.out hv)
      have HV := Lib.hid hv
      have HP : Hid (PrfTo E (colsOf k L) z k → prf k L E k z = true) := fun h => prf_true HV.out rfl h
      have HQ : Hid (¬ PrfTo E (colsOf k L) z k → prf k L E k z = false) := fun h => prf_false fun h' => h h'.2.2
      clear hv
      generalize colsOf k L = m at *
      go_enter Try.func21, Try.ntmps21
      go_wp2_with fail
      refine (rvalid_any w B k tc L A E HT.out hn HL.out).mono ?_
      rintro e w' ⟨rfl, q0, rfl⟩
      rw [HV.out]
      go_wp2_with fail
      go_loopg [5] (k + 1) (fun gh iv wr => ∃ i : Nat, k + 1 ≤ i + gh ∧ i ≤ k ∧ iv = .int .i64 (i : Int) ∧ PrfTo E m z i ∧ ∃ q, wr = w.drewN q)
      case atStart => exact ⟨0, by omega, by omega, rfl, fun r hr => by omega, q0, rfl⟩
      case round =>
        obtain ⟨i, hgh, hi, rfl, hpr, q, rfl⟩ := hrel
        have HPr := Lib.hid hpr
        clear hpr
        by_cases hlt : i < k
        · obtain ⟨b, rfl, _, hzc⟩ := HZ.out.at_ hlt
          have no : Hid (¬ (0 ≤ z i ∧ z i < m ∧ E i (z i).toNat = true ∧ ∀ q, q < i → z q ≠ z i) → prf k L E k z = false) := fun h => HQ.out fun h' => h (h' i hlt)
          obtain ⟨R, C, hR, hE⟩ := HT'.out
          obtain ⟨a, rfl, hab, hrc⟩ := hR.at_ hlt
          have hEi := hE i hlt
          clear hR hE
          by_cases h0 : 0 ≤ z i
          · obtain ⟨x, hx⟩ := Int.eq_ofNat_of_zero_le h0
            have hzc' := hzc
            rw [hx] at hzc
            have HX := Lib.hid hx
            by_cases h1 : x < m
            · obtain ⟨a', ha', hab', hec⟩ := hEi.at_ h1
              rw [ha'] at hrc
              clear hEi ha' hx h0
              cases hEx : E i x with
              | false =>
                rw [hEx] at hec
                have HE := Lib.hid hEx
                clear hEx hzc'
                go_wp2_with fail
                go_quiet (fail)
                go_wp2_with fail
                go_ret
                refine ⟨ret_bool (no.out fun h => ?_).symm, below_drewN (HB0.out q) _⟩
                have := h.2.2.1
                rw [HX.out, Int.toNat_natCast, HE.out] at this
                cases this
              | true =>
                rw [hEx] at hec
                have HE := Lib.hid hEx
                clear hEx hzc'
                go_wp2_with fail
                go_quiet (fail)
                go_wp2_with fail
                go_loopg [6] (i + 1) (fun gh jv wr => ∃ j : Nat, i + 1 ≤ j + gh ∧ j ≤ i ∧ jv = .int .i64 (j : Int) ∧ (∀ r, r < j → z r ≠ z i) ∧ ∃ q, wr = w.drewN q)
                case atStart => exact ⟨0, by omega, by omega, rfl, fun r hr => by omega, drew2 _ _ _⟩
                case round =>
                  obtain ⟨j, hgj, hj, rfl, hne, q1, rfl⟩ := hrel
                  have HNe := Lib.hid hne
                  clear hne
                  by_cases hltj : j < i
                  · obtain ⟨b2, hb2, _, hzj⟩ := HZ.out.at_ (k := j) (by omega)
                    obtain rfl : b = b2 := by injection hb2
                    clear hb2
                    have hjx : j < k := by omega
                    by_cases heq : z j = x
                    · have ht : (z j == (x : Int)) = true := by rw [beq_iff_eq]; exact heq
                      have HEq := Lib.hid heq
                      clear heq
                      go_wp2_with fail
                      go_quiet (fail)
                      go_wp2_with fail
                      go_ret
                      exact ⟨ret_bool (no.out fun h => h.2.2.2 j hltj (by rw [HEq.out, HX.out])).symm, below_drewN (HB0.out q1) _⟩
                    · have ht : (z j == (x : Int)) = false := by rw [beq_eq_false_iff_ne]; exact heq
                      have HEq := Lib.hid heq
                      clear heq
                      go_wp2_with fail
                      go_quiet (fail)
                      go_wp2_with fail
                      go_roundg (i - j)
                      case measure => omega
                      case rel => exact ⟨j + 1, by omega, by omega, by go_num, fun r hr => by
                        by_cases e : r = j
                        · subst e; rw [HX.out]; exact HEq.out
                        · exact HNe.out r (by omega), _, rfl⟩
                  · obtain rfl : j = i := by omega
                    go_wp2_with fail
                    go_roundg (k - j)
                    case measure => omega
                    case rel =>
                      refine ⟨j + 1, by omega, by omega, by go_num, fun r hr => ?_, _, rfl⟩
                      by_cases e : r = j
                      · subst e; exact ⟨by rw [HX.out]; omega, by rw [HX.out]; omega, by rw [HX.out, Int.toNat_natCast]; exact HE.out, HNe.out⟩
                      · exact HPr.out r (by omega)
            · clear hx h0 hzc'
              go_wp2_with fail
              go_quiet (fail)
              go_wp2_with fail
              go_ret
              exact ⟨ret_bool (no.out fun h => by have := h.2.1; rw [HX.out] at this; omega).symm, HB0.out _⟩
          · have h0' : z i < 0 := by omega
            go_wp2_with fail
            go_quiet (fail)
            go_wp2_with fail
            go_ret
            exact ⟨ret_bool (no.out fun h => by have := h.1; omega).symm, below_drewN (HB0.out q) _⟩
        · obtain rfl : i = k := by omega
          go_wp2_with fail
          go_ret
          exact ⟨ret_bool (HP.out HPr.out).symm, HB0.out q⟩
    · have HV := Lib.hid hv
      have hne : ((k : Int) != (n : Int)) = true := by rw [bne_iff_ne]; omega
      clear hv
      go_enter Try.func21, Try.ntmps21
      go_wp2_with fail
      refine (rvalid_any w B n tc L A E HT.out hn HL.out).mono ?_
      rintro e w' ⟨rfl, q, rfl⟩
      rw [HV.out]
      go_wp2_with fail
      go_ret
      exact ⟨ret_bool (prf_false (fun h => hkn h.2.1)).symm, HB0.out q⟩
end Go.Proofs.Ytpnkaicbcbimaaa
