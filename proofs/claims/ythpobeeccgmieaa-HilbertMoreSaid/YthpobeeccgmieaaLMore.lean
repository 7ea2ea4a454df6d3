/- The walk of coverabilitylaw12.HilbertMore. -/
import Derived.Test.YthpobeeccgmieaaHLaw

namespace Go.Proofs.Ythpobeeccgmieaa
set_option linter.unusedVariables false
open Go.RowKit

theorem more_few {P : List Int → Bool} {k n : Nat} {few more : List (List Int)} (hf : MinQ P k 0 n few) (hm : MinQ P k 0 (n + 1) more) : more.filter (fun x => decide (isum x ≤ (n : Int))) = few := by
  refine asc_ext (asc_sub hm.1 List.filter_sublist) hf.1 fun x => ?_
  rw [List.mem_filter, hm.2, hf.2, decide_eq_true_eq]
  constructor
  · rintro ⟨⟨h1, h2⟩, h3⟩
    exact ⟨⟨h1.len, h1.pos, h1.ge, h3, h1.sol⟩, fun y hy hle => h2 y ⟨hy.len, hy.pos, hy.ge, by have := hy.le; omega, hy.sol⟩ hle⟩
  · rintro ⟨h1, h2⟩
    refine ⟨⟨⟨h1.len, h1.pos, h1.ge, by have := h1.le; omega, h1.sol⟩, fun y hy hle => h2 y ⟨hy.len, hy.pos, hy.ge, ?_, hy.sol⟩ hle⟩, h1.le⟩
    have := (vle_isum hle).1
    have := h1.le
    omega
theorem filt_take {α : Type} (q : α → Bool) (L : List α) (d : α) {k : Nat} (hk : k < L.length) : ((L.take (k + 1)).filter q) = (L.take k).filter q ++ (if q (L.getD k d) = true then [L.getD k d] else []) := by
  rw [List.take_succ_eq_append_getElem hk, List.filter_append]
  congr 1
  have : L.getD k d = L[k] := by simp [List.getD_eq_getElem?_getD, hk]
  rw [this]
  cases h : q L[k] <;> simp [h]
theorem filt_at {α : Type} (q : α → Bool) (L : List α) (d : α) {k : Nat} (hk : k < L.length) (h : q (L.getD k d) = true) : ((L.take k).filter q).length < (L.filter q).length ∧ (L.filter q).getD ((L.take k).filter q).length d = L.getD k d := by
  have e : L.filter q = (L.take k).filter q ++ (L.getD k d :: (L.drop (k + 1)).filter q) := by
    have h2 : L[k] = L.getD k d := by simp [List.getD_eq_getElem?_getD, hk]
    conv => lhs; rw [← List.take_append_drop k L, List.filter_append, List.drop_eq_getElem_cons hk, h2, List.filter_cons]
    rw [if_pos h]
  rw [e]
  refine ⟨by simp, ?_⟩
  rw [getD_append_right' _ _ _ (Nat.le_refl _)]
  simp

set_option maxRecDepth 100000 in
set_option maxHeartbeats 8000000 in
theorem more_law (w : World) (len cap : Nat) (A0 : Option Addr) (l : Nat → Int) (hR : Rd w w.heap.size A0 len (fun i => .int .i64 (l i))) :
    Calls Try.prog 5 #[.slice A0 len cap] w fun e w' => e = .returned (.bool true) ∧ Below w.heap.size w w' := by
  have HR := Lib.hid hR
  clear hR
  by_cases hlen : len ≤ 400
  · have hd : decide ((len : Int) ≤ 400) = true := by simp; omega
    go_enter Try.func5, Try.ntmps5
    go_wp2_with fail
    refine (awake_any w).mono ?_
    rintro e w1 ⟨rfl, hb1⟩
    have hz1 := hb1.size
    go_wp2_with fail
    refine (few_any w1 A0 len cap).mono ?_
    rintro e w' ⟨rfl, rfl⟩
    rw [hd]
    go_wp2_with fail
    refine (new_any w1 w.heap.size A0 len cap l (HR.out.below hb1) hlen hz1).mono ?_
    rintro e w2 ⟨rfl, hD2, hb2⟩
    have hz2 := hb2.size
    have hbl2 := hD2.lt
    have hB2 := hb1.trans (hb2.mono hz1)
    have HD2 := Lib.hid hD2
    have HB2 := Lib.hid hB2
    clear hD2 hB2
    clear hb1 hb2
    generalize w1.heap.size = b at *
    go_wp2_with fail
    refine (next_any w2 b w.heap.size 2 HD2.out (by omega)).mono ?_
    rintro e w3 ⟨r0, rfl, _, hr0, hD3, hK3⟩
    have hr0 := hr0 (by omega)
    have hz3 := hK3.size
    haveI kb3 : KB [b] w3 w2 := ⟨hK3⟩
    have HD3 := Lib.hid hD3
    clear hD3
    clear hK3
    go_wp2_with fail
    obtain ⟨r, hr⟩ : ∃ r : Nat, r = r0 + 1 := ⟨_, rfl⟩
    rw [show (1 : Int) + (r0 : Int) = (r : Int) by omega]
    have hr1 : 1 ≤ r := by omega
    have hr2 : r ≤ 2 := by omega
    clear hr
    refine (next_any w3 b w.heap.size 4 HD3.out (by omega)).mono ?_
    rintro e w4 ⟨c0, rfl, _, hc0, hD4, hK4⟩
    have hc0 := hc0 (by omega)
    have hz4 := hK4.size
    haveI kb4 : KB [b] w4 w3 := ⟨hK4⟩
    have HD4 := Lib.hid hD4
    clear hD4
    clear hK4
    go_wp2_with fail
    obtain ⟨c, hc⟩ : ∃ c : Nat, c = c0 + 1 := ⟨_, rfl⟩
    rw [show (1 : Int) + (c0 : Int) = (c : Int) by omega]
    have hc1 : 1 ≤ c := by omega
    have hc4 : c ≤ 4 := by omega
    clear hc
    refine (matrix_any w4 b w.heap.size r c HD4.out (by omega) (by omega)).mono ?_
    rintro e w5 ⟨V, cV, A, rfl, hAl, hAp, hAI, hD5, hK5⟩
    have hM : Mat A r c := ⟨hAl, by omega, by omega, .inl (by omega), fun x hx => (hAp x hx).1, fun x hx => (hAp x hx).2⟩
    have hS : Sys A r c := ⟨hM, by omega, by omega⟩
    have hz5 := hK5.size
    haveI kb5 : KB [b] w5 w4 := ⟨hK5⟩
    have HD5 := Lib.hid hD5
    have HM := Lib.hid hM
    have HS := Lib.hid hS
    have HAI := Lib.hid hAI
    have HAL := Lib.hid hAl
    have HAP := Lib.hid hAp
    clear hD5 hM hS hAI hAl hAp
    clear hK5
    go_wp2_with fail
    refine (next_any w5 b w.heap.size 3 HD5.out (by omega)).mono ?_
    rintro e w6 ⟨x0, rfl, _, hx0, hD6, hK6⟩
    have hx0 := hx0 (by omega)
    have hz6 := hK6.size
    haveI kb6 : KB [b] w6 w5 := ⟨hK6⟩
    have HD6 := Lib.hid hD6
    clear hD6
    clear hK6
    go_wp2_with fail
    refine (next_any w6 b w.heap.size 3 HD6.out (by omega)).mono ?_
    rintro e w7 ⟨y0, rfl, _, hy0, hD7, hK7⟩
    have hy0 := hy0 (by omega)
    have hz7 := hK7.size
    haveI kb7 : KB [b] w7 w6 := ⟨hK7⟩
    have hI7 : IsI (w7.alloc (.cells #[.int .i64 (x0 : Int), .int .i64 (y0 : Int)] 3)) [b] (.slice (some ⟨w7.heap.size, 0, none⟩) 2 2) [(x0 : Int), (y0 : Int)] :=
      isL_new (xs := [(x0 : Int), (y0 : Int)]) (fun y hy => by rw [List.mem_singleton.1 hy]; omega) rfl fun i hi => by
        have : i = 0 ∨ i = 1 := by simp at hi; omega
        rcases this with rfl | rfl <;> rfl
    have hA7 : IsII (w7.alloc (.cells #[.int .i64 (x0 : Int), .int .i64 (y0 : Int)] 3)) [b] (.slice V r cV) A := HAI.out.now
    have hK8 : Keeps [b] w2 (w7.alloc (.cells #[.int .i64 (x0 : Int), .int .i64 (y0 : Int)] 3)) := kf [b] _ _
    have hD8 : Deck (w7.alloc (.cells #[.int .i64 (x0 : Int), .int .i64 (y0 : Int)] 3)) b w.heap.size := hD7.keeps ((Keeps.refl [] _).alloc _) (by simp) (by simp)
    obtain ⟨B1, hs1, hbI⟩ := slice_to sl_int hI7 r (by omega)
    have hrng := rng2 (x := x0) (y := y0) (r := r) (by omega) (by omega)
    have hbl : ([(x0 : Int), (y0 : Int)].take r).length = r := by rw [List.length_take]; simp; omega
    have hbI : IsI (w7.alloc (.cells #[.int .i64 (x0 : Int), .int .i64 (y0 : Int)] 3)) [b] (.slice B1 r 2) ([(x0 : Int), (y0 : Int)].take r) := hbI
    generalize [(x0 : Int), (y0 : Int)].take r = bb at *
    have hz8 : w7.heap.size ≤ (w7.alloc (.cells #[.int .i64 (x0 : Int), .int .i64 (y0 : Int)] 3)).heap.size := by simp
    have HA7 := Lib.hid hA7
    have HBI := Lib.hid hbI
    have HBL := Lib.hid hbl
    have HRNG := Lib.hid hrng
    have HK8 := Lib.hid hK8
    have HD8 := Lib.hid hD8
    have HD7 := Lib.hid hD7
    clear hA7 hbI hbl hrng hK8 hD8 hD7
    clear hK7 hI7
    go_wp2_with fail
    refine (next_any _ b w.heap.size 5 HD8.out (by omega)).mono ?_
    rintro e w8 ⟨n, rfl, _, hn0, hD9, hK9⟩
    have hn0 := hn0 (by omega)
    have hz9 := hK9.size
    have hA8 : IsII w8 [b] (.slice V r cV) A := HA7.out.keeps hK9
    have hb8I : IsI w8 [b] (.slice B1 r 2) bb := HBI.out.keeps hK9
    have hK10 := HK8.out.trans hK9
    have hb8 : ∀ y ∈ [b], y < w8.heap.size := fun y hy => by rw [List.mem_singleton.1 hy]; omega
    have hmin := Minimal_ok (hi := n) hA8 hb8I HS.out HBL.out HRNG.out (by omega) hb8
    have hmin2 := fun w9 (k : Keeps [] w8 w9) => Minimal_ok (hi := n + 1) (hA8.new k) (hb8I.new k) HS.out HBL.out HRNG.out (by omega) (fun y hy => Nat.lt_of_lt_of_le (hb8 y hy) k.size)
    have HMIN := Lib.hid hmin
    have HMIN2 := Lib.hid hmin2
    have HA8 := Lib.hid hA8
    have HB8I := Lib.hid hb8I
    have HK10 := Lib.hid hK10
    have HB8 := Lib.hid hb8
    have HD9 := Lib.hid hD9
    clear hmin hmin2 hA8 hb8I hK10 hb8 hD9
    clear hK9
    go_wp2_with fail
    refine HMIN.out.mono ?_
    rintro e w9 ⟨V9, m9, c9, few, hm9, rfl, hq9, hO9, hk9⟩
    have hf9 : IsII w9 [b] (.slice V9 m9 c9) few := hO9.isL HB8.out
    have hmin3 := HMIN2.out w9 hk9
    rw [show ((n + 1 : Nat) : Int) = (n : Int) + 1 by omega] at hmin3
    have hm9b : m9 ≤ 2000000 := by rw [hm9]; exact hq9.len (by omega) (by omega) (by omega)
    have hkf := HK10.out.trans (hk9.nil _)
    have hbw9 : b < w9.heap.size := Nat.lt_of_lt_of_le (HB8.out b (by simp)) hk9.size
    have HF9 := Lib.hid hf9
    have HMIN3 := Lib.hid hmin3
    have HQ9 := Lib.hid hq9
    have HKF := Lib.hid hkf
    have HM9 := Lib.hid hm9
    clear hf9 hmin3 hq9 hkf hm9
    clear hO9 hk9
    go_wp2_with fail
    refine HMIN3.out.mono ?_
    rintro e w10 ⟨V10, m10, c10, more, hm10, rfl, hq10, hO10, hk11⟩
    have hI10 : IsII w10 [] (.slice V10 m10 c10) more := (hO10.weak (l' := []) (by simp)).isL (by simp)
    have hf10 : IsII w10 [] (.slice V9 m9 c9) few := Rok.weak (HF9.out.new hk11) (by simp)
    have hm10b : m10 ≤ 2000000 := by rw [hm10]; exact hq10.len (by omega) (by omega) (by omega)
    have hfm := more_few HQ9.out hq10
    have hk12 := HKF.out.trans (hk11.nil _)
    have hfin := HB2.out.trans (hk12.below (by simp; omega) (by omega))
    have hel : ∀ k, k < m10 → (more.getD k []).length = c ∧ (∀ y ∈ more.getD k [], 0 ≤ y) ∧ isum (more.getD k []) ≤ 10 := fun k hk => by
      have h := ((hq10.2 _).1 (getD_mem (d := []) (show k < more.length by omega))).1
      exact ⟨by have := h.len; omega, h.pos, by have := h.le; omega⟩
    obtain ⟨q, hq⟩ : ∃ q : List Int → Bool, q = fun x => decide (isum x ≤ (n : Int)) := ⟨_, rfl⟩
    rw [← hq] at hfm
    have hqt : ∀ x, isum x ≤ (n : Int) → q x = true := fun x h => by rw [hq]; exact decide_eq_true h
    have hqf : ∀ x, ¬ isum x ≤ (n : Int) → q x = false := fun x h => by rw [hq]; exact decide_eq_false h
    have hfa : ∀ k, k < m10 → q (more.getD k []) = true → ((more.take k).filter q).length < m9 ∧ few.getD ((more.take k).filter q).length [] = more.getD k [] ∧ ((more.take (k + 1)).filter q).length = ((more.take k).filter q).length + 1 := fun k hk h => by
      obtain ⟨h1, h2⟩ := filt_at q more [] (show k < more.length by omega) h
      rw [hfm] at h1 h2
      refine ⟨by rw [HM9.out]; exact h1, h2, ?_⟩
      rw [filt_take q more [] (by omega), if_pos h]; simp
    have hfn : ∀ k, k < m10 → q (more.getD k []) = false → ((more.take (k + 1)).filter q).length = ((more.take k).filter q).length := fun k hk h => by
      rw [filt_take q more [] (by omega), h]; simp
    have hfe : ((more.take m10).filter q).length = m9 := by rw [hm10, List.take_length, hfm, HM9.out]
    have hf0 : ((more.take 0).filter q).length = 0 := by simp
    have hfl : ∀ k, ((more.take k).filter q).length ≤ m9 := fun k => by
      rw [HM9.out, ← hfm]
      exact List.Sublist.length_le (List.Sublist.filter q (List.take_sublist k more))
    obtain ⟨V9', c9', e9, hr9⟩ := hf10.mrow
    rw [← HM9.out] at e9 hr9
    obtain ⟨rfl, rfl⟩ : V9 = V9' ∧ c9 = c9' := by injection e9 with e1 _ e2; exact ⟨e1, e2⟩
    obtain ⟨V10', c10', e10, hr10⟩ := hI10.mrow
    rw [← hm10] at e10 hr10
    obtain ⟨rfl, rfl⟩ : V10 = V10' ∧ c10 = c10' := by injection e10 with e1 _ e2; exact ⟨e1, e2⟩
    generalize hF : (fun k => ((more.take k).filter q).length) = F
    have hfa : ∀ k, k < m10 → q (more.getD k []) = true → F k < m9 ∧ few.getD (F k) [] = more.getD k [] ∧ F (k + 1) = F k + 1 := by rw [← hF]; exact hfa
    have hfn : ∀ k, k < m10 → q (more.getD k []) = false → F (k + 1) = F k := by rw [← hF]; exact hfn
    have hfe : F m10 = m9 := by rw [← hF]; exact hfe
    have hf0 : F 0 = 0 := by rw [← hF]; exact hf0
    have hfl : ∀ k, F k ≤ m9 := by rw [← hF]; exact hfl
    have HI10 := Lib.hid hI10
    have HF10 := Lib.hid hf10
    have HFM := Lib.hid hfm
    have HK12 := Lib.hid hk12
    have HFIN := Lib.hid hfin
    have HEL := Lib.hid hel
    have HQ := Lib.hid hq
    have HQT := Lib.hid hqt
    have HQF := Lib.hid hqf
    have HFA := Lib.hid hfa
    have HFN := Lib.hid hfn
    have HFE := Lib.hid hfe
    have HF0 := Lib.hid hf0
    have HFL := Lib.hid hfl
    have HR9 := Lib.hid hr9
    have HR10 := Lib.hid hr10
    have HQ10 := Lib.hid hq10
    have HM10 := Lib.hid hm10
    clear hI10 hf10 hfm hk12 hfin hel hq hqt hqf hfa hfn hfe hf0 hfl hr9 hr10 hq10 hm10
    clear hO10 hk11 e9 e10 hF
    go_wp2_with fail
    go_loopg [11, 69] (m10 + 1) (fun gh av kv wr => ∃ k : Nat, m10 + 1 ≤ k + gh ∧ k ≤ m10 ∧ kv = .int .i64 (k : Int) ∧ av = .int .i64 (F k : Int) ∧ Keeps [] w10 wr)
    case atStart => exact ⟨0, by omega, by omega, rfl, by rw [HF0.out]; rfl, Keeps.refl _ _⟩
    case round =>
      obtain ⟨k, hgh, hk, rfl, rfl, hkr⟩ := hrel
      have hFk := HFL.out k
      by_cases hlt : k < m10
      · obtain ⟨pa, Bk, ck, rfl, hpa, hIk⟩ := (HR10.out.new hkr) k hlt
        obtain ⟨hl1, hl2, hl3⟩ := HEL.out k hlt
        have hfak := HFA.out k hlt
        have hfnk := HFN.out k hlt
        generalize hx : more.getD k [] = x at *
        rw [hl1] at hpa hIk
        have htk : ∀ j, j < c → isum (x.take (j + 1)) = isum (x.take j) + x.getD j 0 ∧ 0 ≤ isum (x.take j) ∧ isum (x.take (j + 1)) ≤ 10 ∧ 0 ≤ x.getD j 0 := fun j hj =>
          ⟨isum_take (by omega), (isum_ge fun y hy => hl2 y (List.mem_of_mem_take hy)).1, Int.le_trans (isum_take_le hl2 _) hl3, hl2 _ (getD_mem (by omega))⟩
        have hxc : x.take c = x := List.take_of_length_le (by omega)
        have hx0 := (isum_ge hl2).1
        obtain ⟨Bk', ck', ek, _, _, hck⟩ := hIk.open
        rw [hl1] at ek hck
        obtain ⟨rfl, rfl⟩ : Bk = Bk' ∧ ck = ck' := by injection ek with e1 _ e2; exact ⟨e1, e2⟩
        have ht0 : isum (x.take 0) = 0 := by simp [isum]
        generalize wr = wo at *
        have HKR := Lib.hid hkr
        have HIK := Lib.hid hIk
        have HL1 := Lib.hid hl1
        have HL2 := Lib.hid hl2
        have HL3 := Lib.hid hl3
        have HFAK := Lib.hid hfak
        have HFNK := Lib.hid hfnk
        have HX := Lib.hid hx
        have HTK := Lib.hid htk
        have HXC := Lib.hid hxc
        have HCK := Lib.hid hck
        have HT0 := Lib.hid ht0
        clear hkr hIk hl1 hl2 hl3 hfak hfnk hx htk hxc hck ht0
        clear ek
        go_wp2_with fail
        go_loopg [14, 75] (c + 1) (fun gh2 sv jv wr => ∃ (j : Nat) (s : Int), c + 1 ≤ j + gh2 ∧ j ≤ c ∧ jv = .int .i64 (j : Int) ∧ sv = .int .i64 s ∧ s = isum (x.take j) ∧ wo = wr)
        case atStart => exact ⟨0, 0, by omega, by omega, rfl, rfl, HT0.out.symm, rfl⟩
        case round =>
          obtain ⟨j, s, hgh2, hj, rfl, rfl, hs, rfl⟩ := hrel
          by_cases hlt2 : j < c
          · obtain ⟨pb, rfl, hpb⟩ := HCK.out.at_ hlt2
            obtain ⟨h1, h2, h3, h4⟩ := HTK.out j hlt2
            rw [← hs] at h1 h2
            generalize x.getD j 0 = y at *
            rw [h1] at h3
            have HS := Lib.hid hs
            have H1 := Lib.hid h1
            clear hs h1
            go_wp2_with fail
            go_roundg (c - j)
            case measure => omega
            case rel => exact ⟨j + 1, s + y, by omega, by omega, by go_num, rfl, H1.out.symm, rfl⟩
          · obtain rfl : j = c := by omega
            rw [HXC.out] at hs
            subst hs
            by_cases hq : isum x ≤ (n : Int)
            · obtain ⟨h1, h2, h3⟩ := HFAK.out (HQT.out _ hq)
              obtain ⟨pf, Bf, cf, rfl, hpf, hIf⟩ := (HR9.out.new HKR.out) (F k) h1
              rw [h2] at hpf hIf
              rw [HL1.out] at hpf hIf
              have hsm := same_is hIf HIK.out (by rw [HL1.out]; omega) (by rw [HL1.out]; omega)
              rw [decide_eq_true rfl] at hsm
              have hge : decide ((F k : Int) ≥ (m9 : Int)) = false := decide_eq_false (by omega)
              have hge2 : decide ((m9 : Int) ≤ (F k : Int)) = false := decide_eq_false (by omega)
              generalize F k = fk at *
              have H2 := Lib.hid h2
              have H3 := Lib.hid h3
              have HIF := Lib.hid hIf
              have HSM := Lib.hid hsm
              clear h2 h3 hIf hsm
              go_wp2_with fail
              refine HSM.out.mono ?_
              rintro e w11 ⟨rfl, qq, rfl⟩
              go_wp2_with fail
              go_roundg (m10 - k)
              case measure => omega
              case rel => exact ⟨k + 1, by omega, by omega, by go_num, by rw [H3.out]; go_num, HKR.out.drewN qq⟩
            · have h3 := HFNK.out (HQF.out _ (by omega))
              have hlt3 : decide (isum x ≤ (n : Int)) = false := decide_eq_false hq
              have H3 := Lib.hid h3
              clear h3
              go_wp2_with fail
              go_roundg (m10 - k)
              case measure => omega
              case rel => exact ⟨k + 1, by omega, by omega, by go_num, by rw [H3.out], HKR.out⟩
      · obtain rfl : k = m10 := by omega
        have hfe := HFE.out
        rw [hfe]
        have hfin2 := HFIN.out.trans (Below.mono hkr.to_below (by
          have := HK12.out.size
          have := HB2.out.size
          omega))
        have HKR := Lib.hid hkr
        have HFIN2 := Lib.hid hfin2
        have HFE := Lib.hid hfe
        clear hkr hfin2 hfe
        go_wp2_with fail
        go_ret
        exact ⟨rfl, HFIN2.out⟩
  · have hd : decide ((len : Int) ≤ 400) = false := by simp; omega
    go_enter Try.func5, Try.ntmps5
    go_wp2_with fail
    refine (awake_any w).mono ?_
    rintro e w1 ⟨rfl, hb1⟩
    go_wp2_with fail
    refine (few_any w1 A0 len cap).mono ?_
    rintro e w' ⟨rfl, rfl⟩
    rw [hd]
    go_wp2_with fail
    refine (awake_any w1).mono ?_
    rintro e w2 ⟨rfl, hb2⟩
    go_wp2_with fail
    go_ret
    exact ⟨rfl, hb1.trans (hb2.mono hb1.size)⟩
end Go.Proofs.Ythpobeeccgmieaa
