/- The walk of coverabilitylaw03.MultisetKoenig. -/
import Derived.Test.YtpnkaicbcbimaaaLMatches
namespace Go.Proofs.Ytpnkaicbcbimaaa
set_option linter.unusedVariables false
open Go.RowKit Kuhn

def bitOf (s i : Nat) : Bool := s / 2 ^ i % 2 == 1
theorem wrap_pow (n : Nat) (h : n < 5) : wrap64 ((2 : Int) ^ n) = ((2 ^ n : Nat) : Int) := by
  have h2 : (2 : Nat) ^ n ≤ 16 := Nat.le_trans (Nat.pow_le_pow_right (by omega) (show n ≤ 4 by omega)) (by decide)
  have e : (2 : Int) ^ n = ((2 ^ n : Nat) : Int) := by simp
  rw [e]
  generalize (2 : Nat) ^ n = P at *
  exact IntWalk.wrap64_in _ (by omega)
theorem and_one_i64 (x : Nat) : bits .and .i64 (x : Int) 1 = ((x % 2 : Nat) : Int) := by
  show IntKind.i64.wrap ((BitVec.ofInt 64 (x : Int) &&& BitVec.ofInt 64 1).toNat : Int) = _
  rw [BitVec.toNat_and, BitVec.ofInt_natCast, BitVec.toNat_ofNat, show (BitVec.ofInt 64 1).toNat = 1 from rfl, Nat.and_one_is_mod, IntKind.wrap_i64]
  omega
theorem bit_yes {s i : Nat} (h : bitOf s i = true) : bits .and .i64 ((s : Int) / 2 ^ i) 1 = 1 := by
  have e : (s : Int) / 2 ^ i = ((s / 2 ^ i : Nat) : Int) := by simp
  rw [e, and_one_i64]
  have : s / 2 ^ i % 2 = 1 := by simpa [bitOf] using h
  rw [this]; rfl
theorem bit_no {s i : Nat} (h : bitOf s i = false) : bits .and .i64 ((s : Int) / 2 ^ i) 1 = 0 := by
  have e : (s : Int) / 2 ^ i = ((s / 2 ^ i : Nat) : Int) := by simp
  rw [e, and_one_i64]
  have : s / 2 ^ i % 2 = 0 := by
    have : ¬ s / 2 ^ i % 2 = 1 := by simpa [bitOf] using h
    omega
  rw [this]; rfl

def someTo (E : Nat → Nat → Bool) (s q : Nat) : Nat → Bool
  | 0 => false
  | i + 1 => someTo E s q i || (bitOf s i && E i q)
def seenTo (E : Nat → Nat → Bool) (n s : Nat) : Nat → Nat
  | 0 => 0
  | q + 1 => seenTo E n s q + if someTo E s q n then 1 else 0
def sizeTo (s : Nat) : Nat → Nat
  | 0 => 0
  | i + 1 => sizeTo s i + if bitOf s i then 1 else 0
theorem sizeTo_le (s i : Nat) : sizeTo s i ≤ i := by
  induction i with
  | zero => exact Nat.le_refl _
  | succ i ih => simp only [sizeTo]; split <;> omega
theorem seenTo_le (E : Nat → Nat → Bool) (n s q : Nat) : seenTo E n s q ≤ q := by
  induction q with
  | zero => exact Nat.le_refl _
  | succ i ih => simp only [seenTo]; split <;> omega
theorem sizeTo_eq (s i : Nat) : sizeTo s i = ((List.range i).filter (bitOf s)).length := by
  induction i with
  | zero => rfl
  | succ i ih => simp only [sizeTo, List.range_succ, List.filter_append, List.length_append, ih]; cases h : bitOf s i <;> simp [h]
theorem seenTo_eq (E : Nat → Nat → Bool) (n s q : Nat) : seenTo E n s q = ((List.range q).filter fun q => someTo E s q n).length := by
  induction q with
  | zero => rfl
  | succ i ih => simp only [seenTo, List.range_succ, List.filter_append, List.length_append, ih]; cases h : someTo E s i n <;> simp [h]
theorem someTo_iff (E : Nat → Nat → Bool) (s q n : Nat) : someTo E s q n = true ↔ ∃ i, i < n ∧ bitOf s i = true ∧ E i q = true := by
  induction n with
  | zero => simp [someTo]
  | succ n ih =>
    simp only [someTo, Bool.or_eq_true, Bool.and_eq_true, ih]
    constructor
    · rintro (⟨i, h1, h2⟩ | h)
      · exact ⟨i, by omega, h2⟩
      · exact ⟨n, by omega, h⟩
    · rintro ⟨i, h1, h2⟩
      by_cases e : i = n
      · subst e; exact .inr h2
      · exact .inl ⟨i, by omega, h2⟩
theorem num_of (n : Nat) : ∀ D : Nat → Bool, ∃ t, t < 2 ^ n ∧ ∀ i, i < n → bitOf t i = D i := by
  induction n with
  | zero => exact fun D => ⟨0, by simp, fun i hi => by omega⟩
  | succ n ih =>
    intro D
    obtain ⟨t, ht, hb⟩ := ih fun i => D (i + 1)
    refine ⟨2 * t + (if D 0 then 1 else 0), by rw [Nat.pow_succ]; split <;> omega, fun i hi => ?_⟩
    match i with
    | 0 => simp only [bitOf, Nat.pow_zero, Nat.div_one]; cases D 0 <;> simp <;> omega
    | i + 1 =>
      rw [← hb i (by omega)]
      simp only [bitOf]
      rw [Nat.pow_succ, Nat.mul_comm (2 ^ i) 2, ← Nat.div_div_eq_div_mul]
      have : (2 * t + (if D 0 then 1 else 0)) / 2 = t := by split <;> omega
      rw [this]
theorem rows_split (n : Nat) (D : Nat → Bool) : ((List.range n).filter D).length + ((List.range n).filter fun r => decide (0 ≤ r) && !D r).length = n := by
  induction n with
  | zero => rfl
  | succ n ih =>
    simp only [List.range_succ, List.filter_append, List.length_append]
    cases h : D n <;> simp [h] at * <;> omega

def Worst (E : Nat → Nat → Bool) (n m s : Nat) (W : Int) : Prop :=
  (∀ t, t < s → (sizeTo t n : Int) - seenTo E n t m ≤ W) ∧ (W = 0 ∨ ∃ t, t < s ∧ W = (sizeTo t n : Int) - seenTo E n t m)
theorem Worst.fin {E : Nat → Nat → Bool} {n m k : Nat} {W : Int} (h : IsMax E m (fun _ => false) 0 n k) (hW0 : 0 ≤ W) (hw : Worst E n m (2 ^ n) W) : (k : Int) = (n : Int) - W := by
  have hkn := h.le
  have up : ∀ t, (sizeTo t n : Int) - seenTo E n t m ≤ n - k := fun t => by
    obtain ⟨⟨M, hM, rfl⟩, _⟩ := h
    have hc : Cover E m (fun _ => false) 0 n (seenTo E n t m + ((List.range n).filter fun r => decide (0 ≤ r) && !bitOf t r).length) :=
      ⟨bitOf t, fun q => someTo E t q n, fun r c hr _ hrn _ hE _ => (someTo_iff E t c n).2 ⟨r, hrn, hr, hE⟩, by rw [seenTo_eq]; omega⟩
    have h1 := hc.bound hM
    have h2 := rows_split n (bitOf t)
    rw [← sizeTo_eq] at h2
    omega
  obtain ⟨_, D, C, hcl, hn⟩ := h
  obtain ⟨t, ht, hb⟩ := num_of n D
  have lo : (n : Int) - k ≤ (sizeTo t n : Int) - seenTo E n t m := by
    have h1 : sizeTo t n = ((List.range n).filter D).length := by
      rw [sizeTo_eq]; congr 1; exact List.filter_congr fun i hi => hb i (List.mem_range.1 hi)
    have h2 : seenTo E n t m ≤ ((List.range m).filter C).length := by
      rw [seenTo_eq, ← List.countP_eq_length_filter, ← List.countP_eq_length_filter]
      refine List.countP_mono_left fun q hq hs => ?_
      obtain ⟨i, hi, hbi, hE⟩ := (someTo_iff E t q n).1 hs
      exact hcl i q (by rw [← hb i hi]; exact hbi) (Nat.zero_le _) hi (List.mem_range.1 hq) hE rfl
    have h3 := rows_split n D
    omega
  have h1 := hw.1 t ht
  rcases hw.2 with h2 | ⟨t', _, h2⟩
  · omega
  · have := up t'; omega
theorem Worst.step {E : Nat → Nat → Bool} {n m s : Nat} {W : Int} (h : Worst E n m s W) : Worst E n m (s + 1) (max W ((sizeTo s n : Int) - seenTo E n s m)) := by
  refine ⟨fun t ht => ?_, ?_⟩
  · by_cases e : t = s
    · subst e; omega
    · have := h.1 t (by omega); omega
  · by_cases e : (sizeTo s n : Int) - seenTo E n s m ≤ W
    · rw [Int.max_eq_left e]
      rcases h.2 with h2 | ⟨t, ht, h2⟩
      · exact .inl h2
      · exact .inr ⟨t, by omega, h2⟩
    · rw [Int.max_eq_right (by omega)]
      exact .inr ⟨s, by omega, rfl⟩
theorem Worst.zero {E : Nat → Nat → Bool} {n m : Nat} : Worst E n m 0 0 := ⟨fun t h => by omega, .inl rfl⟩

set_option maxHeartbeats 4000000 in
theorem koenig_law (w : World) (len cap : Nat) (A0 : Option Addr) (l : Nat → Int) (hR : Rd w w.heap.size A0 len (fun i => .int .i64 (l i))) :
    Calls Try.prog 6 #[.slice A0 len cap] w fun e w' => e = .returned (.bool true) ∧ Below w.heap.size w w' := by
  have HR := Lib.hid hR
  clear hR
  by_cases hlen : len ≤ 400
  · have hd : decide ((len : Int) ≤ 400) = true := by simp; omega
    go_enter Try.func6, Try.ntmps6
    go_wp2_with fail
    refine (awake_any w).mono ?_
    rintro e w1 ⟨rfl, hb1⟩
    have hz1 := hb1.size
    go_wp2_with fail
    refine (few_any w1 A0 len cap).mono ?_
    rintro e w' ⟨rfl, rfl⟩
    rw [hd]
    go_wp2_with fail
    refine (new_any w1 w.heap.size A0 len cap l (HR.out.below hb1) hlen hz1).mono ?_
    rintro e w2 ⟨rfl, hD2, hb2⟩
    have hz2 := hb2.size
    have hbl2 := hD2.lt
    have HD2 := Lib.hid hD2
    have hB2 := hb1.trans (hb2.mono hz1)
    clear hD2 hb1 hb2
    generalize w1.heap.size = b at *
    go_wp2_with fail
    refine (next_any w2 b w.heap.size 5 HD2.out (by omega)).mono ?_
    rintro e w3 ⟨n, rfl, _, hn, hD3, hK3⟩
    have hn := hn (by omega)
    have hz3 := hK3.size
    have HD3 := Lib.hid hD3
    have HK3 := Lib.hid hK3
    clear hD3 hK3
    go_wp2_with fail
    refine (next_any w3 b w.heap.size 5 HD3.out (by omega)).mono ?_
    rintro e w4 ⟨m', rfl, _, hm, hD4, hK4⟩
    have hm := hm (by omega)
    have hz4 := hK4.size
    have HD4 := Lib.hid hD4
    have HK4 := Lib.hid (HK3.out.trans hK4)
    clear hD4 hK4
    obtain ⟨m, hm'⟩ : ∃ m : Nat, m = 1 + m' := ⟨_, rfl⟩
    have hme : (1 : Int) + (m' : Int) = (m : Int) := by omega
    have hm5 : m ≤ 5 := by omega
    have hm1 : 1 ≤ m := by omega
    clear hm' hm
    go_wp2_with fail
    refine (table_any w4 b w.heap.size n m HD4.out (by omega) (by omega)).mono ?_
    rintro e w5 ⟨A, c, E, rfl, hT5, hD5, hK5⟩
    have hz5 := hK5.size
    have HT5 := Lib.hid hT5
    have HB5 : Hid (Below w.heap.size w w5) := hB2.trans ((HK4.out.trans hK5).below (by simp; omega) (by omega))
    clear hT5 hD5 hK5 hB2 hme
    have hv := vld_const (n := n) (m := m) (by omega) (by omega)
    have HV := Lib.hid hv
    clear hv
    go_wp2_with fail
    refine (mostall_yes w5 w5.heap.size n c (fun _ => m) A E HT5.out.tab (Nat.le_refl _) HV.out).mono ?_
    rintro e w6 ⟨k, rfl, hk, hb6⟩
    have hz6 := hb6.size
    have HT6 := Lib.hid (HT5.out.keeps (l := []) (Keeps.of_below hb6) (by simp))
    have HB6 : Hid (Below w.heap.size w w6) := HB5.out.trans (hb6.mono (by omega))
    have HK := Lib.hid hk
    have HKc : Hid (IsMax E m (fun _ => false) 0 n k) := by
      have h := HK.out
      by_cases h0 : 0 < n
      · rw [cols_const h0] at h; exact h
      · have e : n = 0 := by omega
        subst e
        have := h.le
        obtain rfl : k = 0 := by omega
        exact ⟨⟨[], ⟨by simp, by simp, by simp⟩, rfl⟩, fun _ => false, fun _ => false, (fun r c h => by cases h), by simp⟩
    clear hb6 hk
    go_wp2_with fail
    obtain ⟨P, hP⟩ : ∃ P : Nat, P = 2 ^ n := ⟨_, rfl⟩
    have hP16 : P ≤ 16 := by
      rw [hP]; exact Nat.le_trans (Nat.pow_le_pow_right (by omega) (show n ≤ 4 by omega)) (by decide)
    have Hw : Hid (wrap64 ((2 : Int) ^ n) = (P : Int)) := by rw [hP]; exact wrap_pow n (by omega)
    have HP := Lib.hid hP
    clear hP
    go_loopg [9, 10] (P + 1) (fun gh wv sv wr => ∃ (s : Nat) (W : Int), P + 1 ≤ s + gh ∧ s ≤ P ∧ sv = .int .i64 (s : Int) ∧ wv = .int .i64 W ∧ 0 ≤ W ∧ W ≤ 100 ∧ Worst E n m s W ∧ w6 = wr)
    case atStart => exact ⟨0, 0, by omega, by omega, rfl, rfl, by omega, by omega, Worst.zero, rfl⟩
    case round =>
      obtain ⟨s, W, hgs, hs, rfl, rfl, hW0, hW1, hW, rfl⟩ := hrel
      have HW := Lib.hid hW
      clear hW
      by_cases hlt : s < P
      · have hw := Hw.out
        go_wp2_with fail
        clear hw
        go_loopg [12, 13] (m + 1) (fun gh sn cv wr => ∃ (c N : Nat), m + 1 ≤ c + gh ∧ c ≤ m ∧ cv = .int .i64 (c : Int) ∧ sn = .int .i64 (N : Int) ∧ N = seenTo E n s c ∧ w6 = wr)
        case atStart => exact ⟨0, 0, by omega, by omega, rfl, rfl, rfl, rfl⟩
        case round =>
          obtain ⟨q, N, hgq, hq, rfl, rfl, hN, rfl⟩ := hrel
          have HN := Lib.hid hN
          clear hN
          by_cases hltq : q < m
          · go_wp2_with fail
            go_loopg [14, 15] (n + 1) (fun gh sm iv wr => ∃ i : Nat, n + 1 ≤ i + gh ∧ i ≤ n ∧ iv = .int .i64 (i : Int) ∧ sm = .bool (someTo E s q i) ∧ w6 = wr)
            case atStart => exact ⟨0, by omega, by omega, rfl, rfl, rfl⟩
            case round =>
              obtain ⟨i, hgi, hi, rfl, rfl, rfl⟩ := hrel
              by_cases hlti : i < n
              · have HS : Hid (someTo E s q (i + 1) = (someTo E s q i || (bitOf s i && E i q))) := rfl
                generalize someTo E s q i = S at *
                cases S with
                | true =>
                  have HS' : Hid (someTo E s q (i + 1) = true) := HS.out.trans (Bool.true_or _)
                  clear HS
                  go_wp2_with fail
                  go_roundg (n - i)
                  case measure => omega
                  case rel => exact ⟨i + 1, by omega, by omega, by go_num, by rw [HS'.out], rfl⟩
                | false =>
                  cases hbit : bitOf s i with
                  | false =>
                    have hb0 := bit_no hbit
                    have HS' : Hid (someTo E s q (i + 1) = false) := HS.out.trans (by rw [hbit]; rfl)
                    clear hbit HS
                    go_wp2_with fail
                    go_roundg (n - i)
                    case measure => omega
                    case rel => exact ⟨i + 1, by omega, by omega, by go_num, by rw [HS'.out], rfl⟩
                  | true =>
                    have hb0 := bit_yes hbit
                    have HS' : Hid (someTo E s q (i + 1) = E i q) := HS.out.trans (by rw [hbit]; rfl)
                    clear hbit HS
                    obtain ⟨R, C, hR, hE⟩ := HT6.out.tab
                    obtain ⟨a, rfl, hab, hrc⟩ := hR.at_ hlti
                    obtain ⟨a', ha', hab', hec⟩ := (hE i hlti).at_ hltq
                    rw [ha'] at hrc
                    clear hR hE ha'
                    go_wp2_with fail
                    go_roundg (n - i)
                    case measure => omega
                    case rel => exact ⟨i + 1, by omega, by omega, by go_num, by rw [HS'.out], rfl⟩
              · obtain rfl : i = n := by omega
                have HQ : Hid (seenTo E i s (q + 1) = N + if someTo E s q i then 1 else 0) := by rw [HN.out]; rfl
                have hsl := seenTo_le E i s q
                have hNq : N ≤ q := by rw [HN.out]; exact hsl
                clear hsl
                generalize someTo E s q i = S at *
                cases S with
                | true =>
                  go_wp2_with fail
                  go_roundg (m - q)
                  case measure => omega
                  case rel => exact ⟨q + 1, N + 1, by omega, by omega, by go_num, by go_num, HQ.out.symm, rfl⟩
                | false =>
                  go_wp2_with fail
                  go_roundg (m - q)
                  case measure => omega
                  case rel => exact ⟨q + 1, N, by omega, by omega, by go_num, rfl, HQ.out.symm, rfl⟩
          · obtain rfl : q = m := by omega
            have hNq : N ≤ q := by rw [HN.out]; exact seenTo_le E n s q
            go_wp2_with fail
            go_loopg [11, 16] (n + 1) (fun gh zv iv wr => ∃ (i Z : Nat), n + 1 ≤ i + gh ∧ i ≤ n ∧ iv = .int .i64 (i : Int) ∧ zv = .int .i64 (Z : Int) ∧ Z = sizeTo s i ∧ w6 = wr)
            case atStart => exact ⟨0, 0, by omega, by omega, rfl, rfl, rfl, rfl⟩
            case round =>
              obtain ⟨i, Z, hgi, hi, rfl, rfl, hZ, rfl⟩ := hrel
              have hZi : Z ≤ i := by rw [hZ]; exact sizeTo_le s i
              have HZ := Lib.hid hZ
              clear hZ
              by_cases hlti : i < n
              · have HZ' : Hid (sizeTo s (i + 1) = Z + if bitOf s i then 1 else 0) := by rw [HZ.out]; rfl
                cases hbit : bitOf s i with
                | false =>
                  have hb0 := bit_no hbit
                  rw [hbit] at HZ'
                  clear hbit
                  go_wp2_with fail
                  go_roundg (n - i)
                  case measure => omega
                  case rel => exact ⟨i + 1, Z, by omega, by omega, by go_num, by go_num, HZ'.out.symm, rfl⟩
                | true =>
                  have hb0 := bit_yes hbit
                  rw [hbit] at HZ'
                  clear hbit
                  go_wp2_with fail
                  go_roundg (n - i)
                  case measure => omega
                  case rel => exact ⟨i + 1, Z + 1, by omega, by omega, by go_num, by go_num, HZ'.out.symm, rfl⟩
              · obtain rfl : i = n := by omega
                have hst := HW.out.step
                rw [← HZ.out, ← HN.out] at hst
                have HST : Hid (∀ v : Int, W ≤ v → (Z : Int) - N ≤ v → v = W ∨ v = (Z : Int) - N → Worst E i q (s + 1) v) := fun v h1 h2 h3 => by
                  have e : v = max W ((Z : Int) - N) := by omega
                  rw [e]; exact hst
                clear hst
                go_wp2_with fail
                · go_roundg (P - s)
                  case measure => omega
                  case rel => exact ⟨s + 1, (Z : Int) - N, by omega, by omega, by go_num, rfl, by omega, by omega, HST.out _ (by omega) (by omega) (.inr rfl), rfl⟩
                · go_roundg (P - s)
                  case measure => omega
                  case rel => exact ⟨s + 1, W, by omega, by omega, by go_num, rfl, by omega, by omega, HST.out _ (by omega) (by omega) (.inl rfl), rfl⟩
      · obtain rfl : s = P := by omega
        have hfin : ((k : Int) == (n : Int) - W) = true := by
          rw [beq_iff_eq]
          refine Worst.fin (m := m) HKc.out hW0 ?_
          rw [← HP.out]; exact HW.out
        have hw := Hw.out
        go_wp2_with fail
        clear hw
        go_ret
        exact ⟨rfl, HB6.out⟩
  · have hd : decide ((len : Int) ≤ 400) = false := by simp; omega
    go_enter Try.func6, Try.ntmps6
    go_wp2_with fail
    refine (awake_any w).mono ?_
    rintro e w1 ⟨rfl, hb1⟩
    go_wp2_with fail
    refine (few_any w1 A0 len cap).mono ?_
    rintro e w' ⟨rfl, rfl⟩
    rw [hd]
    go_wp2_with fail
    refine (awake_any w1).mono ?_
    rintro e w2 ⟨rfl, hb2⟩
    go_wp2_with fail
    go_ret
    exact ⟨rfl, hb1.trans (hb2.mono hb1.size)⟩
end Go.Proofs.Ytpnkaicbcbimaaa
