/- The walk of multiset.Proves. -/
import Derived.Test.YtpnkaicbcbimaaaMatch
namespace Go.Proofs.Ytpnkaicbcbimaaa
set_option linter.unusedVariables false
open Go.RowKit Kuhn

/-- Whether columns z prove a matching, up to row i. -/
def PrfTo (E : Nat → Nat → Bool) (m : Nat) (z : Nat → Int) (i : Nat) : Prop := ∀ r, r < i → 0 ≤ z r ∧ z r < m ∧ E r (z r).toNat = true ∧ ∀ k, k < r → z k ≠ z r
open Classical in
noncomputable def prf (n : Nat) (L : Nat → Nat) (E : Nat → Nat → Bool) (k : Nat) (z : Nat → Int) : Bool := decide (vld n L = true ∧ k = n ∧ PrfTo E (colsOf n L) z n)
open Classical in
theorem prf_true {n k : Nat} {L : Nat → Nat} {E : Nat → Nat → Bool} {z : Nat → Int} (h1 : vld n L = true) (h2 : k = n) (h3 : PrfTo E (colsOf n L) z n) : prf n L E k z = true := decide_eq_true ⟨h1, h2, h3⟩
open Classical in
theorem prf_false {n k : Nat} {L : Nat → Nat} {E : Nat → Nat → Bool} {z : Nat → Int} (h : ¬ (vld n L = true ∧ k = n ∧ PrfTo E (colsOf n L) z n)) : prf n L E k z = false := decide_eq_false h
open Classical in
theorem of_prf {n k : Nat} {L : Nat → Nat} {E : Nat → Nat → Bool} {z : Nat → Int} (h : prf n L E k z = true) : vld n L = true ∧ k = n ∧ PrfTo E (colsOf n L) z n := of_decide_eq_true h

def ProvesPost (n : Nat) (L : Nat → Nat) (E : Nat → Nat → Bool) (k : Nat) (z : Nat → Int) (w : World) (e : Ending) (w' : World) : Prop := e = .returned (.bool (prf n L E k z)) ∧ Below w.heap.size w w'

set_option maxHeartbeats 2000000 in
theorem proves_any (w : World) (B B' n tc k kc : Nat) (L : Nat → Nat) (A Z : Option Addr) (E : Nat → Nat → Bool) (z : Nat → Int) (hT : TabG w B A n L E) (hB : B ≤ w.heap.size) (hZ : Rd w B' Z k (fun i => .int .i64 (z i))) (hB' : B' ≤ w.heap.size)
    (hn : n ≤ 1000000000) (hL : ∀ i, i < n → L i ≤ 1000000000) (hk : k ≤ 1000000000) :
    Calls Try.prog 20 #[.slice A n tc, .slice Z k kc] w (ProvesPost n L E k z w) := by
  have HT := Lib.hid hT
  have HZ := Lib.hid hZ
  have HL := Lib.hid hL
  clear hT hZ hL
  cases hv : vld n L with
  | false =>
    have HV := Lib.hid hv
    clear hv
    go_enter Try.func20, Try.ntmps20
    go_wp2_with fail
    refine (valid_any w B n tc L A E HT.out hn HL.out).mono ?_
    rintro e w' ⟨rfl, rfl⟩
    rw [HV.out]
    go_wp2_with fail
    go_ret
    exact ⟨ret_bool (prf_false (fun h => by rw [HV.out] at h; cases h.1)).symm, Below.refl _ _⟩
  | true =>
    by_cases hkn : k = n
    · subst hkn
      have hm := cols_le hv
      have hn12 := (of_vld hv).1
      have HT' := Lib.hid (tab_of_vld HT.out hv)
      have HV := Lib.hid hv
      have HC := Lib.hid (cols_if k L)
      have HP : Hid (PrfTo E (colsOf k L) z k → prf k L E k z = true) := fun h => prf_true HV.out rfl h
      have HQ : Hid (¬ PrfTo E (colsOf k L) z k → prf k L E k z = false) := fun h => prf_false fun h' => h h'.2.2
      clear hv
      generalize colsOf k L = m at *
      have hmk := run_make_n sl_bool m (by omega)
      go_enter Try.func20, Try.ntmps20
      go_wp2_with fail
      refine (valid_any w B k tc L A E HT.out hn HL.out).mono ?_
      rintro e w' ⟨rfl, rfl⟩
      rw [HV.out]
      go_wp2_with fail
      refine (columns_any w B k m tc A E HT'.out (by omega)).mono ?_
      rintro e w' ⟨rfl, rfl⟩
      rw [HC.out]
      go_wp2_with fail
      have hS0 : Hid (Own (w.alloc (.cells (madeCells #[Value.bool false] m) 4)) w.heap.size m (fun c => .bool (usedOf (fun r => (z r).toNat) 0 c))) := by
        rw [usedOf_zero]
        exact own_made w (.bool false) rfl m 4
      have hB0 : Below w.heap.size w (w.alloc (.cells (madeCells #[Value.bool false] m) 4)) := (Below.refl _ _).alloc (Nat.le_refl _) _
      go_loopg [23] (k + 1) (fun gh iv wr => ∃ i : Nat, k + 1 ≤ i + gh ∧ i ≤ k ∧ iv = .int .i64 (i : Int) ∧ Own wr w.heap.size m (fun c => .bool (usedOf (fun r => (z r).toNat) i c)) ∧ PrfTo E m z i ∧ Below w.heap.size w wr)
      case atStart => exact ⟨0, by omega, by omega, rfl, hS0.out, fun r hr => by omega, hB0⟩
      case round =>
        obtain ⟨i, hgh, hi, rfl, hS, hpr, hb⟩ := hrel
        have HS := Lib.hid hS
        have HPr := Lib.hid hpr
        clear hS hpr hS0 hB0
        by_cases hlt : i < k
        · obtain ⟨b, rfl, _, hzc⟩ := (HZ.out.below (hb.mono hB')).at_ hlt
          have no : Hid (¬ (0 ≤ z i ∧ z i < m ∧ E i (z i).toNat = true ∧ ∀ q, q < i → z q ≠ z i) → prf k L E k z = false) := fun h => HQ.out fun h' => h (h' i hlt)
          by_cases h0 : 0 ≤ z i
          · obtain ⟨x, hx⟩ := Int.eq_ofNat_of_zero_le h0
            by_cases h1 : x < m
            · have hu1 : wr.cell? ⟨w.heap.size, x, none⟩ = some (.bool (usedOf (fun r => (z r).toNat) i x)) := (HS.out x h1).1
              have hu2 : wr.frozen? ⟨w.heap.size, x, none⟩ = false := (HS.out x h1).2
              rw [hx] at hzc
              have HX := Lib.hid hx
              clear hx h0
              cases hus : usedOf (fun r => (z r).toNat) i x with
              | true =>
                rw [hus] at hu1
                have HU := Lib.hid hus
                clear hus
                go_wp2_with fail
                go_ret
                refine ⟨ret_bool (no.out fun h => ?_).symm, hb⟩
                obtain ⟨q, hq, e⟩ := of_decide_eq_true HU.out
                have := (HPr.out q hq).1
                have e : (z q).toNat = x := e
                have hxx := HX.out
                exact h.2.2.2 q hq (by omega)
              | false =>
                rw [hus] at hu1
                have HU := Lib.hid hus
                clear hus
                obtain ⟨R, C, hR, hE⟩ := TabG.below HT'.out (hb.mono hB)
                obtain ⟨a, rfl, hab, hrc⟩ := hR.at_ hlt
                obtain ⟨a', ha', hab', hec⟩ := (hE i hlt).at_ h1
                rw [ha'] at hrc
                clear hR hE ha'
                try dsimp only at hrc hec
                cases hEx : E i x with
                | false =>
                  rw [hEx] at hec
                  have HE := Lib.hid hEx
                  clear hEx
                  go_wp2_with fail
                  go_ret
                  refine ⟨ret_bool (no.out fun h => ?_).symm, hb⟩
                  have := h.2.2.1
                  rw [HX.out, Int.toNat_natCast, HE.out] at this
                  cases this
                | true =>
                  rw [hEx] at hec
                  have HE := Lib.hid hEx
                  clear hEx
                  go_wp2_with fail
                  go_roundg (k - i)
                  case measure => omega
                  case rel =>
                    refine ⟨i + 1, by omega, by omega, by go_num, ?_, fun r hr => ?_, hb.setCell (by simp) _⟩
                    · refine (HS.out.updBool h1 true).congr fun c _ => ?_
                      have e := congrFun (usedOf_succ (fun r => (z r).toNat) i x) c
                      rw [← e]
                      have e2 : upd (fun r => (z r).toNat) i x = fun r => (z r).toNat := by
                        funext r; simp only [upd]; split
                        · rename_i e; subst e; rw [HX.out, Int.toNat_natCast]
                        · rfl
                      rw [e2]
                    · by_cases e : r = i
                      · subst e
                        refine ⟨by rw [HX.out]; omega, by rw [HX.out]; omega, by rw [HX.out, Int.toNat_natCast]; exact HE.out, fun q hq e => ?_⟩
                        have := of_decide_eq_false HU.out
                        refine this ⟨q, hq, ?_⟩
                        have hxx := HX.out
                        show (z q).toNat = x
                        omega
                      · exact HPr.out r (by omega)
            · rw [hx] at hzc
              have HX := Lib.hid hx
              clear hx h0
              go_wp2_with fail
              go_ret
              exact ⟨ret_bool (no.out fun h => by have := h.2.1; rw [HX.out] at this; omega).symm, hb⟩
          · go_wp2_with fail
            go_ret
            exact ⟨ret_bool (no.out fun h => by have := h.1; omega).symm, hb⟩
        · obtain rfl : i = k := by omega
          go_wp2_with fail
          go_ret
          exact ⟨ret_bool (HP.out HPr.out).symm, hb⟩
    · have HV := Lib.hid hv
      have hne : ((k : Int) != (n : Int)) = true := by rw [bne_iff_ne]; omega
      clear hv
      go_enter Try.func20, Try.ntmps20
      go_wp2_with fail
      refine (valid_any w B n tc L A E HT.out hn HL.out).mono ?_
      rintro e w' ⟨rfl, rfl⟩
      rw [HV.out]
      go_wp2_with fail
      go_ret
      exact ⟨ret_bool (prf_false (fun h => hkn h.2.1)).symm, Below.refl _ _⟩
end Go.Proofs.Ytpnkaicbcbimaaa
