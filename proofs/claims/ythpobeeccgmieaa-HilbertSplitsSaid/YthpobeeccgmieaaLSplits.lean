/- The walk of coverabilitylaw12.HilbertSplits. -/
import Derived.Test.YthpobeeccgmieaaSplS
import Derived.StillTailTactics

namespace Go.Proofs.Ythpobeeccgmieaa
set_option linter.unusedVariables false
open Go.RowKit

theorem sumV_snoc_at {n i : Nat} {v : List Int} {zs : List (List Int)} (hi : i < n) : (sumV n (zs ++ [v])).getD i 0 = (sumV n zs).getD i 0 + v.getD i 0 := by
  rw [sumV_perm List.perm_append_comm, List.singleton_append, sumV_cons_at hi]; omega
theorem dotP_zero {r x : List Int} {n : Nat} (h : ∀ i, i < n → x.getD i 0 = 0) : ∀ {k : Nat}, k ≤ n → dotP r x k = 0
  | 0, _ => rfl
  | k + 1, hk => by
    simp only [dotP]
    rw [dotP_zero h (by omega), h k (by omega)]; omega
theorem sol_sumV {A : List (List Int)} {r n : Nat} (hM : Mat A r n) : ∀ (zs : List (List Int)), (∀ z ∈ zs, z.length = n ∧ solB A (List.replicate r 0) z = true) → solB A (List.replicate r 0) (sumV n zs) = true
  | [], _ => by
    rw [sol_zero hM]
    intro a ha
    exact dotP_zero (n := n) (fun i hi => by rw [sumV_at hi]; rfl) (by rw [hM.len a ha]; omega)
  | z :: zs, h => by
    have ih := sol_sumV hM zs fun y hy => h y (by simp [hy])
    have hz := (h z (by simp)).2
    rw [sol_zero hM] at *
    intro a ha
    have h1 := ih a ha
    have h2 := hz a ha
    have h3 := dotP_sub (r := a) (x := sumV n (z :: zs)) (v := z) (n := n) (k := a.length) (by rw [hM.len a ha]; omega)
    rw [sumV_sub] at h3
    unfold dotL at *
    omega
theorem isum_sumV {n : Nat} : ∀ (zs : List (List Int)), (∀ z ∈ zs, z.length = n) → isum (sumV n zs) = isum (zs.map isum)
  | [], _ => by
    have : sumV n [] = List.replicate n 0 := by
      rw [List.eq_replicate_iff]
      refine ⟨sumV_len, fun y hy => ?_⟩
      obtain ⟨i, hi, rfl⟩ := mem_getD (d := 0) hy
      rw [sumV_len] at hi
      rw [sumV_at hi]; rfl
    rw [this]
    have : ∀ m, isum (List.replicate m 0) = 0 := fun m => by
      induction m with
      | zero => rfl
      | succ m ih => rw [List.replicate_succ, isum_cons, ih]; rfl
    exact this n
  | z :: zs, h => by
    have ih := isum_sumV zs fun y hy => h y (by simp [hy])
    have h1 := isum_sub (n := n) (x := sumV n (z :: zs)) sumV_len (h z (by simp))
    rw [sumV_sub, ih] at h1
    rw [List.map_cons, isum_cons]
    omega
theorem sumV_small {n : Nat} {M : Int} {zs : List (List Int)} (h : ∀ z ∈ zs, z.length = n ∧ ∀ y ∈ z, 0 ≤ y ∧ y ≤ M) : ∀ i, i < n → 0 ≤ (sumV n zs).getD i 0 ∧ (sumV n zs).getD i 0 ≤ M * zs.length := fun i hi => by
  rw [sumV_at hi]
  induction zs with
  | nil => simp [isum]
  | cons z t ih =>
    have h1 := ih fun y hy => h y (by simp [hy])
    obtain ⟨h2, h3⟩ := h z (by simp)
    have h4 := h3 _ (getD_mem (d := 0) (show i < z.length by omega))
    rw [List.map_cons, isum_cons, List.length_cons]
    rw [Int.natCast_add, Int.mul_add]
    omega

set_option maxRecDepth 100000 in
set_option maxHeartbeats 8000000 in
theorem splits_law (w : World) (len cap : Nat) (A0 : Option Addr) (l : Nat → Int) (hR : Rd w w.heap.size A0 len (fun i => .int .i64 (l i))) :
    Calls Try.prog 6 #[.slice A0 len cap] w fun e w' => e = .returned (.bool true) ∧ Below w.heap.size w w' := by
  have HR := Lib.hid hR
  clear hR
  by_cases hlen : len ≤ 400
  · have hd : decide ((len : Int) ≤ 400) = true := by simp; omega
    go_enter Try.func6, Try.ntmps6
    go_wp2_with fail
    refine (awake_any w).mono ?_
    rintro e w1 ⟨rfl, hb1⟩
    have hz1 := hb1.size
    go_wp2_with fail
    refine (few_any w1 A0 len cap).mono ?_
    rintro e w' ⟨rfl, rfl⟩
    rw [hd]
    go_wp2_with fail
    refine (new_any w1 w.heap.size A0 len cap l (HR.out.below hb1) hlen hz1).mono ?_
    rintro e w2 ⟨rfl, hD2, hb2⟩
    have hz2 := hb2.size
    have hbl2 := hD2.lt
    have hB2 := hb1.trans (hb2.mono hz1)
    have HD2 := Lib.hid hD2
    have HB2 := Lib.hid hB2
    clear hD2 hB2
    clear hb1 hb2
    generalize w1.heap.size = b at *
    go_wp2_with fail
    refine (next_any w2 b w.heap.size 4 HD2.out (by omega)).mono ?_
    rintro e w3 ⟨c0, rfl, _, hc0, hD3, hK3⟩
    have hc0 := hc0 (by omega)
    have hz3 := hK3.size
    haveI kb3 : KB [b] w3 w2 := ⟨hK3⟩
    have HD3 := Lib.hid hD3
    clear hD3
    clear hK3
    go_wp2_with fail
    obtain ⟨c, hc⟩ : ∃ c : Nat, c = c0 + 1 := ⟨_, rfl⟩
    rw [show (1 : Int) + (c0 : Int) = (c : Int) by omega]
    have hc1 : 1 ≤ c := by omega
    have hc4 : c ≤ 4 := by omega
    clear hc
    refine (next_any w3 b w.heap.size 2 HD3.out (by omega)).mono ?_
    rintro e w4 ⟨r0, rfl, _, hr0, hD4, hK4⟩
    have hr0 := hr0 (by omega)
    have hz4 := hK4.size
    haveI kb4 : KB [b] w4 w3 := ⟨hK4⟩
    have HD4 := Lib.hid hD4
    clear hD4
    clear hK4
    go_wp2_with fail
    obtain ⟨r, hr⟩ : ∃ r : Nat, r = r0 + 1 := ⟨_, rfl⟩
    rw [show (1 : Int) + (r0 : Int) = (r : Int) by omega]
    have hr1 : 1 ≤ r := by omega
    have hr2 : r ≤ 2 := by omega
    clear hr
    refine (matrix_any w4 b w.heap.size r c HD4.out (by omega) (by omega)).mono ?_
    rintro e w5 ⟨V, cV, A, rfl, hAl, hAp, hAI, hD5, hK5⟩
    have hM : Mat A r c := ⟨hAl, by omega, by omega, .inl (by omega), fun x hx => (hAp x hx).1, fun x hx => (hAp x hx).2⟩
    have hS : Sys A r c := ⟨hM, by omega, by omega⟩
    have hz5 := hK5.size
    haveI kb5 : KB [b] w5 w4 := ⟨hK5⟩
    have hfree := Free_ok (hi := 4) hAI hS (by omega) (lx := [b]) (fun y hy => by rw [List.mem_singleton.1 hy]; omega)
    rw [show ((4 : Nat) : Int) = 4 from rfl] at hfree
    have hK5w : Keeps [b] w2 w5 := kf [b] _ _
    have HD5 := Lib.hid hD5
    have HM := Lib.hid hM
    have HS := Lib.hid hS
    have HAI := Lib.hid hAI
    have HAL := Lib.hid hAl
    have HAP := Lib.hid hAp
    have HFREE := Lib.hid hfree
    have HK5W := Lib.hid hK5w
    clear hD5 hM hS hAI hAl hAp hfree hK5w
    clear hK5
    go_wp2_with fail
    refine HFREE.out.mono ?_
    rintro e w6 ⟨V6, m6, c6, free, hm6, rfl, hq6, hO6, hk6⟩
    have hm6b : m6 ≤ 2000000 := by rw [hm6]; exact hq6.len (by omega) (by omega) (by omega)
    have hz6 := hk6.size
    have hK6 := HK5W.out.trans (hk6.nil [b])
    by_cases hm0 : m6 = 0
    · have hd : ((m6 : Int) == 0) = true := by rw [hm0]; rfl
      have hd2 : decide ((m6 : Int) = 0) = true := decide_eq_true (by omega)
      have hfin := HB2.out.trans (hK6.below (by simp; omega) (by omega))
      have HFIN := Lib.hid hfin
      have HO6 := Lib.hid hO6
      have HQ6 := Lib.hid hq6
      have HK6 := Lib.hid hK6
      have HK6 := Lib.hid hk6
      have HM6 := Lib.hid hm6
      clear hfin hO6 hq6 hK6 hk6 hm6
      subst hm0
      go_wp2_with fail
      go_ret
      exact ⟨rfl, HFIN.out⟩
    · have hd : ((m6 : Int) == 0) = false := by
        have : (m6 : Int) ≠ 0 := by omega
        simpa using this
      have hbw6 : b < w6.heap.size := by omega
      have hD6 := HD5.out.keeps hk6 (by simp) (by simp)
      have hmk := run_make_n sl_int c (by omega) w6
      have hOg : Own (w6.alloc (.cells (madeCells #[Value.int .i64 0] c) 3)) w6.heap.size c (fun _ => .int .i64 0) := own_made w6 (.int .i64 0) rfl c 3
      have hka : Keeps [] w6 (w6.alloc (.cells (madeCells #[Value.int .i64 0] c) 3)) := (Keeps.refl _ _).alloc _
      have hwk : ∀ y ∈ [w6.heap.size, b], y ∈ [b] ∨ w6.heap.size ≤ y := fun y hy => by
        simp only [List.mem_cons, List.not_mem_nil, or_false] at hy ⊢; omega
      have hA7 : IsII (w6.alloc (.cells (madeCells #[Value.int .i64 0] c) 3)) [w6.heap.size, b] (.slice V r cV) A := (IsII.weak (HAI.out.new hk6) hwk).new hka
      have hf7 : IsII (w6.alloc (.cells (madeCells #[Value.int .i64 0] c) 3)) [w6.heap.size, b] (.slice V6 m6 c6) free := (IsII.weak (hO6.isL (fun y hy => by rw [List.mem_singleton.1 hy]; omega)) hwk).new hka
      have hD7 : Deck (w6.alloc (.cells (madeCells #[Value.int .i64 0] c) 3)) b w.heap.size := hD6.keeps hka (by simp) (by simp)
      have hK7 := hK6.trans (hka.nil [b])
      have hg7 : w6.heap.size < (w6.alloc (.cells (madeCells #[Value.int .i64 0] c) 3)).heap.size := by simp
      have hfm : ∀ z ∈ free, Solv (solB A (List.replicate r 0)) (c - 1) 1 4 z := fun z hz => ((hq6.2 z).1 hz).1
      have hgb : w6.heap.size ≠ b := by omega
      have hgw : w.heap.size ≤ w6.heap.size := by have := HB2.out.size; omega
      have HO6 := Lib.hid hO6
      have HQ6 := Lib.hid hq6
      have HK6 := Lib.hid hk6
      have HK6 := Lib.hid hK6
      have HD6 := Lib.hid hD6
      have HM6 := Lib.hid hm6
      clear hO6 hq6 hk6 hK6 hD6 hm6
      go_wp2_with fail
      generalize w6.alloc (.cells (madeCells #[Value.int .i64 0] c) 3) = w7 at *
      generalize w6.heap.size = g at *
      have hzr : ∀ z ∈ free, z.length = c ∧ ∀ y ∈ z, 0 ≤ y ∧ y ≤ 4 := fun z hz => ⟨by have := (hfm z hz).len; omega, fun y hy => ⟨(hfm z hz).pos y hy, Int.le_trans ((isum_ge (hfm z hz).pos).2 y hy) (hfm z hz).le⟩⟩
      have hf7' := hf7
      obtain ⟨V6', c6', e6, hr6⟩ := hf7'.mrow
      rw [← HM6.out] at e6 hr6
      obtain ⟨rfl, rfl⟩ : V6 = V6' ∧ c6 = c6' := by injection e6 with e1 _ e2; exact ⟨e1, e2⟩
      have hr6k : ∀ W, Keeps [g, b] w7 W → MRow W [g, b] V6 m6 free := fun W k => by
        obtain ⟨V', c', e', hr'⟩ := (Rok.keeps hf7 k).mrow
        injection e' with e1 e2 e3
        subst e1
        rw [← HM6.out] at hr'
        exact hr'
      have HOG := Lib.hid hOg
      have HA7 := Lib.hid hA7
      have HF7 := Lib.hid hf7
      have HD7 := Lib.hid hD7
      have HK7 := Lib.hid hK7
      have HFM := Lib.hid hfm
      have HMK := Lib.hid hmk
      have HZR := Lib.hid hzr
      have HR6 := Lib.hid hr6
      have HR6K := Lib.hid hr6k
      clear hOg hA7 hf7 hD7 hK7 hfm hmk hzr hr6 hr6k
      clear hf7'
      clear e6
      go_loopg [9] (2 + 1) (fun gh kv wr => ∃ (k : Nat) (zs : List (List Int)) (o : Nat → Int), 2 + 1 ≤ k + gh ∧ k ≤ 2 ∧ kv = .int .i64 (k : Int) ∧ zs.length = k ∧ (∀ z ∈ zs, z ∈ free) ∧ (∀ i, i < c → o i = (sumV c zs).getD i 0) ∧ Own wr g c (fun i => .int .i64 (o i)) ∧ Deck wr b w.heap.size ∧ Keeps [g, b] w7 wr)
      case atStart => exact ⟨0, [], fun _ => 0, by omega, by omega, rfl, rfl, by simp, fun i hi => by rw [sumV_at hi]; rfl, HOG.out, HD7.out, Keeps.refl _ _⟩
      case round =>
        obtain ⟨k, zs, o, hgh, hk, rfl, hzl, hzf, ho, hOr, hDr, hkr⟩ := hrel
        have hzk := hkr.size
        by_cases hlt : k < 2
        · have hov := ho
          have HZL := Lib.hid hzl
          have HZF := Lib.hid hzf
          have HOV := Lib.hid hov
          have HOR := Lib.hid hOr
          have HDR := Lib.hid hDr
          have HKR := Lib.hid hkr
          clear hzl hzf hov hOr hDr hkr
          clear ho
          go_wp2_with fail
          refine (next_any wr b w.heap.size (m6 : Int) HDR.out (by omega)).mono ?_
          rintro e w8 ⟨j, rfl, _, hj, hD8, hK8⟩
          have hj := hj (by omega)
          have hjm : j < m6 := by omega
          have hk8 := HKR.out.trans (hK8.more (l' := [g, b]) (by simp))
          have hO8 := HOR.out.keep hK8 (by simpa using hgb)
          obtain ⟨pa, Bj, cj, rfl, hpa, hIj⟩ := (HR6K.out w8 hk8) j hjm
          have hyf : free.getD j [] ∈ free := getD_mem (by rw [← HM6.out]; exact hjm)
          obtain ⟨hyl, hyr⟩ := HZR.out _ hyf
          have hs := sumV_small (n := c) (M := 4) (zs := zs) fun z hz => HZR.out z (HZF.out z hz)
          have hs2 : ∀ i, i < c → 0 ≤ o i ∧ o i ≤ 8 := fun i hi => by
            have := hs i hi
            rw [HOV.out i hi]; rw [HZL.out] at this; omega
          have hyr2 : ∀ i, i < c → 0 ≤ (free.getD j []).getD i 0 ∧ (free.getD j []).getD i 0 ≤ 4 := fun i hi => hyr _ (getD_mem (by omega))
          have hnew : ∀ i, i < c → o i + (free.getD j []).getD i 0 = (sumV c (zs ++ [free.getD j []])).getD i 0 := fun i hi => by rw [sumV_snoc_at hi, HOV.out i hi]
          have hmem : ∀ z ∈ zs ++ [free.getD j []], z ∈ free := fun z hz => (List.mem_append.1 hz).elim (HZF.out z) fun h => by rw [List.mem_singleton.1 h]; exact hyf
          rw [hyl] at hpa hIj
          obtain ⟨Bj', cj', ej, _, _, hcj⟩ := hIj.open
          rw [hyl] at ej hcj
          obtain ⟨rfl, rfl⟩ : Bj = Bj' ∧ cj = cj' := by injection ej with e1 _ e2; exact ⟨e1, e2⟩
          generalize hy : free.getD j [] = y at *
          have HK8 := Lib.hid hk8
          have HO8 := Lib.hid hO8
          have HD8 := Lib.hid hD8
          have HIJ := Lib.hid hIj
          have HS := Lib.hid hs
          have HS2 := Lib.hid hs2
          have HYR2 := Lib.hid hyr2
          have HNEW := Lib.hid hnew
          have HMEM := Lib.hid hmem
          have HCJ := Lib.hid hcj
          have HYL := Lib.hid hyl
          have HYR := Lib.hid hyr
          have HYF := Lib.hid hyf
          have HY := Lib.hid hy
          clear hk8 hO8 hD8 hIj hs hs2 hyr2 hnew hmem hcj hyl hyr hyf hy
          clear hK8 ej
          go_wp2_with fail
          go_loopg [66] (c + 1) (fun gh2 iv wr => ∃ i : Nat, c + 1 ≤ i + gh2 ∧ i ≤ c ∧ iv = .int .i64 (i : Int) ∧ Own wr g c (fun q => .int .i64 (if q < i then o q + y.getD q 0 else o q)) ∧ Keeps [g] w8 wr)
          case atStart => exact ⟨0, by omega, by omega, rfl, HO8.out.congr fun q hq => by simp, Keeps.refl _ _⟩
          case round =>
            obtain ⟨i, hgh2, hi, rfl, hOi, hki⟩ := hrel
            have HOI := Lib.hid hOi
            have HKI := Lib.hid hki
            clear hOi hki
            by_cases hlt2 : i < c
            · obtain ⟨aa, rfl, haa⟩ := (HCJ.out.keeps (HKI.out.more (l' := [g, b]) (by simp))).at_ hlt2
              have ho1 : wr.cell? ⟨g, i, none⟩ = some (.int .i64 (o i)) := by have := (HOI.out i hlt2).1; simpa using this
              have ho2 : wr.frozen? ⟨g, i, none⟩ = false := (HOI.out i hlt2).2
              have hr1 := HS2.out i hlt2
              have hr2 := HYR2.out i hlt2
              generalize hxe : o i = x at *
              generalize hye : y.getD i 0 = yy at *
              have hw2 : IntKind.i64.wrap (x + yy) = x + yy := IntWalk.i64_in _ (by omega)
              have HXE := Lib.hid hxe
              have HYE := Lib.hid hye
              clear hxe hye
              go_wp2_with fail
              go_still_tail 10, (by kernel_rfl)
              change wpList _ _ _ _ _ wr.drew
              go_wp2_with fail
              go_roundg (c - i)
              case measure => omega
              case rel =>
                refine ⟨i + 1, by omega, by omega, by go_num, ?_, HKI.out.drew.setCell (by simp) _⟩
                refine ((HOI.out.drew).updInt hlt2 (x + yy)).congr fun q hq => ?_
                show Value.int .i64 _ = Value.int .i64 _
                congr 1
                by_cases e : q = i
                · subst e; rw [upd_same, if_pos (by omega), HXE.out, HYE.out]
                · rw [upd_ne _ _ e]
                  by_cases e2 : q < i
                  · rw [if_pos e2, if_pos (by omega)]
                  · rw [if_neg e2, if_neg (by omega)]
            · obtain rfl : i = c := by omega
              have hfin8 : Own wr g i (fun q => .int .i64 (o q + y.getD q 0)) := HOI.out.congr fun q hq => by rw [if_pos hq]
              have hD9 := HD8.out.keeps HKI.out (by simpa using fun e => hgb e.symm) (by simpa using hgw)
              have hk9 := HK8.out.trans (HKI.out.more (l' := [g, b]) (by simp))
              have HFIN8 := Lib.hid hfin8
              have HD9 := Lib.hid hD9
              have HK9 := Lib.hid hk9
              clear hfin8 hD9 hk9
              go_wp2_with fail
              go_roundg (2 - k)
              case measure => omega
              case rel => exact ⟨k + 1, zs ++ [y], fun q => o q + y.getD q 0, by omega, by omega, by go_num, by rw [List.length_append, HZL.out]; rfl, HMEM.out, HNEW.out, HFIN8.out, HD9.out, HK9.out⟩
        · obtain rfl : k = 2 := by omega
          have hzP : ∀ z ∈ zs, z.length = c ∧ solB A (List.replicate r 0) z = true := fun z hz => ⟨(HZR.out z (hzf z hz)).1, (HFM.out z (hzf z hz)).sol⟩
          have hzV : ∀ z ∈ zs, VFin z := fun z hz => (HFM.out z (hzf z hz)).fin (by omega) (by omega)
          have hXI : IsI wr [] (.slice (some ⟨g, 0, none⟩) c c) (sumV c zs) := Own.isI hOr (by simp) (Nat.le_refl _) sumV_len (fun i hi => (ho i hi).symm)
          have hXp : ∀ y ∈ sumV c zs, 0 ≤ y := fun y hy => by
            obtain ⟨i, hi, rfl⟩ := mem_getD (d := 0) hy
            rw [sumV_len] at hi
            exact sumV_pos hzV i hi
          have hXs : isum (sumV c zs) ≤ 10 ∧ 1 ≤ isum (sumV c zs) := by
            rw [isum_sumV zs fun z hz => (hzP z hz).1]
            match zs, hzl with
            | [z1, z2], _ =>
              have h1 := HFM.out z1 (hzf z1 (by simp))
              have h2 := HFM.out z2 (hzf z2 (by simp))
              have e1 := h1.ge; have e2 := h1.le; have e3 := h2.ge; have e4 := h2.le
              simp only [List.map_cons, List.map_nil, isum_cons, isum_nil]
              omega
          have hXsol := sol_sumV HM.out zs hzP
          have hAr : IsII wr [] (.slice V r cV) A := Rok.weak (Rok.keeps HA7.out hkr) (by simp)
          have hspl := Split_ok (lx := []) hAr hXI HS.out sumV_len hXp hXs.1 hXsol (by simp)
          have hXf : VFin (sumV c zs) := vval_small (M := 10) (by rw [sumV_len]; omega) hXp hXs.1 (by omega)
          have hkc : c - 1 + 1 = c := by omega
          have hworks : ∀ ys, SplQ (solB A (List.replicate r 0)) (c - 1) (sumV c zs) ys → (∀ z ∈ ys, Solv (solB A (List.replicate r 0)) (c - 1) 1 10 z) ∧ sumV c ys = sumV c zs ∧ (ys.Pairwise fun a b => cmpL a b ≤ 0) ∧ ys.length ≤ 10 := fun ys h => by
            have := split_works (k := c - 1) (by rw [hkc]; exact HM.out) (by omega) hXs.1 hXf (by rw [sumV_len, hkc]) hXsol h
            rw [hkc] at this; exact this
          have hbwr : b < wr.heap.size := by omega
          have hw27 : w2.heap.size ≤ g := by omega
          have hkw : Keeps [b] w2 wr := HK7.out.step hkr (fun y hy => by
            simp only [List.mem_cons, List.not_mem_nil, or_false] at hy ⊢
            omega)
          have hOx := hOr
          generalize hX : sumV c zs = X at *
          have hXl : X.length = c := by rw [← hX, sumV_len]
          obtain ⟨hXs1, hXs2⟩ := hXs
          have HZP := Lib.hid hzP
          have HZV := Lib.hid hzV
          have HXI := Lib.hid hXI
          have HXP := Lib.hid hXp
          have HXS1 := Lib.hid hXs1
          have HXS2 := Lib.hid hXs2
          have HXSOL := Lib.hid hXsol
          have HAR := Lib.hid hAr
          have HSPL := Lib.hid hspl
          have HXF := Lib.hid hXf
          have HWORKS := Lib.hid hworks
          have HKW := Lib.hid hkw
          have HOX := Lib.hid hOx
          have HX := Lib.hid hX
          have HXL := Lib.hid hXl
          have HO := Lib.hid ho
          have HZF := Lib.hid hzf
          have HZL := Lib.hid hzl
          have HDR := Lib.hid hDr
          have HKR := Lib.hid hkr
          clear hzP hzV hXI hXp hXs1 hXs2 hXsol hAr hspl hXf hworks hkw hOx hX hXl ho hzf hzl hDr hkr
          clear hOr
          go_wp2_with fail
          refine HSPL.out.mono ?_
          rintro e w8 ⟨V8, m8, c8, ys, hm8, rfl, hq8, hO8, hk8⟩
          obtain ⟨hys, hsum, hasc, hyl⟩ := HWORKS.out ys hq8
          have hm8b : m8 ≤ 10 := by omega
          have hm80 : 0 < m8 := by
            rcases Nat.eq_zero_or_pos m8 with h | h
            · exfalso
              have hnil : ys = [] := List.length_eq_zero_iff.1 (by omega)
              rw [hnil] at hsum
              have := isum_sumV (n := c) [] (by simp)
              rw [hsum] at this
              have h2 := HXS2.out
              rw [this] at h2
              simp [isum] at h2
            · exact h
          have hmk2 := fun W => run_make_n sl_int c (by omega) W
          have hmk3 := fun W => run_make_n sl_int r (by omega) W
          have hOg2 : Own (w8.alloc (.cells (madeCells #[Value.int .i64 0] c) 3)) w8.heap.size c (fun _ => .int .i64 0) := own_made w8 (.int .i64 0) rfl c 3
          have hka2 : Keeps [] w8 (w8.alloc (.cells (madeCells #[Value.int .i64 0] c) 3)) := (Keeps.refl _ _).alloc _
          have hwk2 : ∀ y ∈ [w8.heap.size], y ∈ ([] : List Nat) ∨ w8.heap.size ≤ y := fun y hy => .inr (by have := List.mem_singleton.1 hy; omega)
          have hP9 : IsII (w8.alloc (.cells (madeCells #[Value.int .i64 0] c) 3)) [w8.heap.size] (.slice V8 m8 c8) ys := (IsII.weak (hO8.isL (by simp)) hwk2).new hka2
          have hA9 : IsII (w8.alloc (.cells (madeCells #[Value.int .i64 0] c) 3)) [w8.heap.size] (.slice V r cV) A := (IsII.weak (HAR.out.new hk8) hwk2).new hka2
          have hX9 : IsI (w8.alloc (.cells (madeCells #[Value.int .i64 0] c) 3)) [w8.heap.size] (.slice (some ⟨g, 0, none⟩) c c) X := (IsI.weak (HXI.out.new hk8) hwk2).new hka2
          have hz8 := hk8.size
          have hk9 : Keeps [b] w2 (w8.alloc (.cells (madeCells #[Value.int .i64 0] c) 3)) := (HKW.out.trans (hk8.nil _)).trans (hka2.nil _)
          have hz9 : w8.heap.size < (w8.alloc (.cells (madeCells #[Value.int .i64 0] c) 3)).heap.size := by simp
          have hrow : ∀ k, k < m8 → (ys.getD k []).length = c ∧ VFin (ys.getD k []) ∧ solvesB A (List.replicate r 0) (ys.getD k []) = true ∧ (∀ i, i < c → 0 ≤ (ys.getD k []).getD i 0 ∧ (ys.getD k []).getD i 0 ≤ 10) := fun k hk => by
            have h := hys _ (getD_mem (d := []) (show k < ys.length by omega))
            have h1 : (ys.getD k []).length = c := by have := h.len; omega
            have h2 := h.fin (by omega) (by omega)
            refine ⟨h1, h2, (solvesB_of HS.out (by simp) (by simp [rngB])).2 ⟨h1, h2, h.sol⟩, fun i hi => ?_⟩
            have h3 := getD_mem (xs := ys.getD k []) (d := 0) (i := i) (by omega)
            have h4 := h.le
            exact ⟨h.pos _ h3, by have := (isum_ge h.pos).2 _ h3; omega⟩
          have hprev : ∀ k, k + 1 < m8 → cmpL (ys.getD k []) (ys.getD (k + 1) []) ≤ 0 := fun k hk => by
            have h1 := List.pairwise_iff_getElem.1 hasc k (k + 1) (by omega) (by omega) (by omega)
            simpa [List.getD_eq_getElem?_getD, show k < ys.length by omega, show k + 1 < ys.length by omega] using h1
          have hsm : ∀ k, k ≤ m8 → ∀ i, i < c → 0 ≤ (sumV c (ys.take k)).getD i 0 ∧ (sumV c (ys.take k)).getD i 0 ≤ 100 := fun k hk i hi => by
            have := sumV_small (n := c) (M := 10) (zs := ys.take k) (fun z hz => by
              have h := hys z (List.mem_of_mem_take hz)
              refine ⟨by have := h.len; omega, fun y hy => ⟨h.pos y hy, ?_⟩⟩
              have h4 := h.le
              have := (isum_ge h.pos).2 y hy
              omega) i hi
            rw [List.length_take] at this
            have h5 : ((min k ys.length : Nat) : Int) ≤ 10 := by omega
            omega
          have hst : ∀ k, k < m8 → ∀ i, i < c → (sumV c (ys.take k)).getD i 0 + (ys.getD k []).getD i 0 = (sumV c (ys.take (k + 1))).getD i 0 := fun k hk i hi => by
            rw [List.take_succ_eq_append_getElem (by omega), sumV_snoc_at hi]
            congr 2
            simp [List.getD_eq_getElem?_getD, show k < ys.length by omega]
          have hs0 : ∀ i, i < c → (0 : Int) = (sumV c (ys.take 0)).getD i 0 := fun i hi => by rw [sumV_at hi]; rfl
          have hsfull : sumV c (ys.take m8) = X := by rw [List.take_of_length_le (by omega)]; exact hsum
          have HO8 := Lib.hid hO8
          have HQ8 := Lib.hid hq8
          have HYS := Lib.hid hys
          have HSUM := Lib.hid hsum
          have HASC := Lib.hid hasc
          have HYL := Lib.hid hyl
          have HOG2 := Lib.hid hOg2
          have HP9 := Lib.hid hP9
          have HA9 := Lib.hid hA9
          have HX9 := Lib.hid hX9
          have HK9 := Lib.hid hk9
          have HROW := Lib.hid hrow
          have HPREV := Lib.hid hprev
          have HSM := Lib.hid hsm
          have HST := Lib.hid hst
          have HS0 := Lib.hid hs0
          have HSFULL := Lib.hid hsfull
          have HK8 := Lib.hid hk8
          have HKA2 := Lib.hid hka2
          have HWK2 := Lib.hid hwk2
          have HM8 := Lib.hid hm8
          clear hO8 hq8 hys hsum hasc hyl hOg2 hP9 hA9 hX9 hk9 hrow hprev hsm hst hs0 hsfull hk8 hka2 hwk2 hm8
          go_wp2_with fail
          generalize w8.alloc (.cells (madeCells #[Value.int .i64 0] c) 3) = w9 at *
          generalize w8.heap.size = g2 at *
          have hg2w : w.heap.size ≤ g2 := by omega
          have hrows : ∀ W, Keeps [g2] w9 W → MRow W [g2] V8 m8 ys := fun W k => by
            obtain ⟨V', c', e', hr'⟩ := (Rok.keeps HP9.out k).mrow
            injection e' with e1 e2 e3
            subst e1
            rw [← HM8.out] at hr'
            exact hr'
          have HROWS := Lib.hid hrows
          clear hrows
          go_loopg [90] (m8 + 1) (fun gh kv wr => ∃ (k : Nat) (o : Nat → Int), m8 + 1 ≤ k + gh ∧ k ≤ m8 ∧ kv = .int .i64 (k : Int) ∧ (∀ i, i < c → o i = (sumV c (ys.take k)).getD i 0) ∧ Own wr g2 c (fun i => .int .i64 (o i)) ∧ Keeps [g2] w9 wr)
          case atStart => exact ⟨0, fun _ => 0, by omega, by omega, rfl, HS0.out, HOG2.out, Keeps.refl _ _⟩
          case round =>
            obtain ⟨k, o, hgh, hk, rfl, ho, hOr, hkr⟩ := hrel
            have hzr := hkr.size
            by_cases hlt : k < m8
            · obtain ⟨pa, Bk, ck, rfl, hpa, hIk⟩ := (HROWS.out wr hkr) k hlt
              obtain ⟨hyl, hyf, hysol, hyr⟩ := HROW.out k hlt
              have hA := Rok.keeps HA9.out hkr
              have hOz : IsI (wr.alloc (.cells (madeCells #[Value.int .i64 0] r) 3)) [g2] (.slice (some ⟨wr.heap.size, 0, none⟩) r r) (List.replicate r 0) := Own.isI (f := fun _ => 0) (own_made wr (.int .i64 0) rfl r 3) (by simp; omega) (Nat.le_refl _) (by simp) (fun i hi => by simp [List.getD_eq_getElem?_getD, hi])
              have hkz : Keeps [] wr (wr.alloc (.cells (madeCells #[Value.int .i64 0] r) 3)) := (Keeps.refl _ _).alloc _
              have hslv := Solves_is (hA.new hkz) hOz (hIk.new hkz) (by rw [HM.out.rows]; omega) (fun x hx => by rw [HM.out.len x hx]; omega) (by simp; omega) (by omega)
              rw [hysol] at hslv
              have hsm2 : ∀ i, i < c → 0 ≤ o i ∧ o i ≤ 100 := fun i hi => by rw [ho i hi]; exact HSM.out k hk i hi
              have hnew : ∀ i, i < c → o i + (ys.getD k []).getD i 0 = (sumV c (ys.take (k + 1))).getD i 0 := fun i hi => by rw [ho i hi]; exact HST.out k hlt i hi
              have hOk := hOr.keep hkz (by simp)
              have hkk := hkr.trans (hkz.nil [g2])
              have hIkz := hIk.new hkz
              rw [hyl] at hpa hIk hslv hIkz
              obtain ⟨Bk', ck', ek, _, _, hck⟩ := hIkz.open
              rw [hyl] at ek hck
              obtain ⟨rfl, rfl⟩ : Bk = Bk' ∧ ck = ck' := by injection ek with e1 _ e2; exact ⟨e1, e2⟩
              have hcmp : 0 < k → ∃ (B0 : Option Addr) (c0 : Nat), (∀ W, Keeps [] (wr.alloc (.cells (madeCells #[Value.int .i64 0] r) 3)) W → W.cell? (pa.add (k - 1)) = some (.slice B0 c c0) ∧ Calls Try.prog 28 #[.slice B0 c c0, .slice Bk c ck] W (Quiet (.int .i64 (cmpL (ys.getD (k - 1) []) (ys.getD k []))) W)) ∧ cmpL (ys.getD (k - 1) []) (ys.getD k []) ≤ 0 := fun h0 => by
                obtain ⟨pa', B0, c0, e0, hp0, hI0⟩ := (HROWS.out wr hkr) (k - 1) (by omega)
                obtain rfl : pa' = pa := by injection e0 with e; exact e.symm
                have hl0 := (HROW.out (k - 1) (by omega)).1
                rw [hl0] at hp0 hI0
                refine ⟨B0, c0, fun W kw => ⟨(hkz.trans kw).read hp0 (by simp), ?_⟩, by have := HPREV.out (k - 1) (by omega); rw [show k - 1 + 1 = k by omega] at this; exact this⟩
                exact cmp_is ((hI0.new hkz).new kw) (hIkz.new kw) (by omega) (by omega)
              have hd0 : decide ((k : Int) > 0) = decide (0 < k) := by
                by_cases h : 0 < k
                · rw [decide_eq_true h, decide_eq_true (by omega)]
                · rw [decide_eq_false h, decide_eq_false (by omega)]
              generalize hy : ys.getD k [] = y at *
              have HKR := Lib.hid hkr
              have HIK := Lib.hid hIk
              have HYL := Lib.hid hyl
              have HYF := Lib.hid hyf
              have HYSOL := Lib.hid hysol
              have HYR := Lib.hid hyr
              have HA := Lib.hid hA
              have HOZ := Lib.hid hOz
              have HKZ := Lib.hid hkz
              have HSLV := Lib.hid hslv
              have HSM2 := Lib.hid hsm2
              have HNEW := Lib.hid hnew
              have HOK := Lib.hid hOk
              have HKK := Lib.hid hkk
              have HCK := Lib.hid hck
              have HCMP := Lib.hid hcmp
              have HY := Lib.hid hy
              have HO := Lib.hid ho
              have HOR := Lib.hid hOr
              have HIKZ := Lib.hid hIkz
              clear hkr hIk hyl hyf hysol hyr hA hOz hkz hslv hsm2 hnew hOk hkk hck hcmp hy ho hOr hIkz
              clear ek
              go_wp2_with fail
              refine HSLV.out.mono ?_
              rintro e w10 ⟨rfl, hk10⟩
              by_cases hk0 : k = 0
              · subst hk0
                have hO10 := HOK.out.keep hk10 (by simp)
                have hc10 := HCK.out.keeps (hk10.nil [g2])
                have hkA := HKK.out.trans (hk10.nil [g2])
                have HO10 := Lib.hid hO10
                have HC10 := Lib.hid hc10
                have HKA := Lib.hid hkA
                clear hO10 hc10 hkA
                clear hk10
                go_wp2_with fail
                go_loopg [118] (c + 1) (fun gh2 iv wr => ∃ i : Nat, c + 1 ≤ i + gh2 ∧ i ≤ c ∧ iv = .int .i64 (i : Int) ∧ Own wr g2 c (fun q => .int .i64 (if q < i then o q + y.getD q 0 else o q)) ∧ Keeps [g2] w10 wr)
                case atStart => exact ⟨0, by omega, by omega, rfl, HO10.out.congr fun q hq => by simp, Keeps.refl _ _⟩
                case round =>
                  obtain ⟨i, hgh2, hi, rfl, hOi, hki⟩ := hrel
                  have HOI := Lib.hid hOi
                  have HKI := Lib.hid hki
                  clear hOi hki
                  by_cases hlt2 : i < c
                  · obtain ⟨aa, rfl, haa⟩ := (HC10.out.keeps HKI.out).at_ hlt2
                    have ho1 : wr.cell? ⟨g2, i, none⟩ = some (.int .i64 (o i)) := by have := (HOI.out i hlt2).1; simpa using this
                    have ho2 : wr.frozen? ⟨g2, i, none⟩ = false := (HOI.out i hlt2).2
                    have hr1 := HSM2.out i hlt2
                    have hr2 := HYR.out i hlt2
                    generalize hxe : o i = x at *
                    generalize hye : y.getD i 0 = yy at *
                    have hw2 : IntKind.i64.wrap (x + yy) = x + yy := IntWalk.i64_in _ (by omega)
                    have HXE := Lib.hid hxe
                    have HYE := Lib.hid hye
                    clear hxe hye
                    go_wp2_with fail
                    go_still_tail 10, (by kernel_rfl)
                    change wpList _ _ _ _ _ wr.drew
                    go_wp2_with fail
                    go_roundg (c - i)
                    case measure => omega
                    case rel =>
                      refine ⟨i + 1, by omega, by omega, by go_num, ?_, HKI.out.drew.setCell (by simp) _⟩
                      refine ((HOI.out.drew).updInt hlt2 (x + yy)).congr fun q hq => ?_
                      show Value.int .i64 _ = Value.int .i64 _
                      congr 1
                      by_cases e : q = i
                      · subst e; rw [upd_same, if_pos (by omega), HXE.out, HYE.out]
                      · rw [upd_ne _ _ e]
                        by_cases e2 : q < i
                        · rw [if_pos e2, if_pos (by omega)]
                        · rw [if_neg e2, if_neg (by omega)]
                  · obtain rfl : i = c := by omega
                    have hfin8 : Own wr g2 i (fun q => .int .i64 (o q + y.getD q 0)) := HOI.out.congr fun q hq => by rw [if_pos hq]
                    have hk9 := HKA.out.trans HKI.out
                    have HFIN8 := Lib.hid hfin8
                    have HK9 := Lib.hid hk9
                    clear hfin8 hk9
                    go_wp2_with fail
                    go_roundg (m8 - 0)
                    case measure => omega
                    case rel => exact ⟨0 + 1, fun q => o q + y.getD q 0, by omega, by omega, by go_num, HNEW.out, HFIN8.out, HK9.out⟩
              · have hdk : decide (0 < (k : Int)) = true := decide_eq_true (by omega)
                have hkm : (k : Int) - 1 = ((k - 1 : Nat) : Int) := by omega
                obtain ⟨B0, c0, hcx, hle⟩ := HCMP.out (by omega)
                obtain ⟨hp0, hcc⟩ := hcx w10 hk10
                generalize hcv : cmpL (ys.getD (k - 1) []) y = cv at *
                have hcv0 : decide (0 < cv) = false := decide_eq_false (by omega)
                have hO10 := HOK.out.keep hk10 (by simp)
                have hc10 := HCK.out.keeps (hk10.nil [g2])
                have hkA := HKK.out.trans (hk10.nil [g2])
                have hkm1 : k - 1 < m8 := by omega
                have HO10 := Lib.hid hO10
                have HC10 := Lib.hid hc10
                have HKA := Lib.hid hkA
                have HCC := Lib.hid hcc
                have HCX := Lib.hid hcx
                have HCV := Lib.hid hcv
                have HLE := Lib.hid hle
                clear hO10 hc10 hkA hcc hcx hcv hle
                clear hk10
                go_wp2_with fail
                refine HCC.out.mono ?_
                rintro e w11 ⟨rfl, qq, rfl⟩
                have hO11 := HO10.out.keep ((Keeps.refl [] w10).drewN qq) (by simp)
                have hc11 := HC10.out.keeps ((Keeps.refl [g2] w10).drewN qq)
                have hkB := HKA.out.trans ((Keeps.refl [g2] w10).drewN qq)
                clear HO10 HC10 HKA
                generalize w10.drewN qq = w11 at *
                have HO10 := Lib.hid hO11
                have HC10 := Lib.hid hc11
                have HKA := Lib.hid hkB
                clear hO11 hc11 hkB
                go_wp2_with fail
                go_loopg [118] (c + 1) (fun gh2 iv wr => ∃ i : Nat, c + 1 ≤ i + gh2 ∧ i ≤ c ∧ iv = .int .i64 (i : Int) ∧ Own wr g2 c (fun q => .int .i64 (if q < i then o q + y.getD q 0 else o q)) ∧ Keeps [g2] w11 wr)
                case atStart => exact ⟨0, by omega, by omega, rfl, HO10.out.congr fun q hq => by simp, Keeps.refl _ _⟩
                case round =>
                  obtain ⟨i, hgh2, hi, rfl, hOi, hki⟩ := hrel
                  have HOI := Lib.hid hOi
                  have HKI := Lib.hid hki
                  clear hOi hki
                  by_cases hlt2 : i < c
                  · obtain ⟨aa, rfl, haa⟩ := (HC10.out.keeps HKI.out).at_ hlt2
                    have ho1 : wr.cell? ⟨g2, i, none⟩ = some (.int .i64 (o i)) := by have := (HOI.out i hlt2).1; simpa using this
                    have ho2 : wr.frozen? ⟨g2, i, none⟩ = false := (HOI.out i hlt2).2
                    have hr1 := HSM2.out i hlt2
                    have hr2 := HYR.out i hlt2
                    generalize hxe : o i = x at *
                    generalize hye : y.getD i 0 = yy at *
                    have hw2 : IntKind.i64.wrap (x + yy) = x + yy := IntWalk.i64_in _ (by omega)
                    have HXE := Lib.hid hxe
                    have HYE := Lib.hid hye
                    clear hxe hye
                    go_wp2_with fail
                    go_still_tail 10, (by kernel_rfl)
                    change wpList _ _ _ _ _ wr.drew
                    go_wp2_with fail
                    go_roundg (c - i)
                    case measure => omega
                    case rel =>
                      refine ⟨i + 1, by omega, by omega, by go_num, ?_, HKI.out.drew.setCell (by simp) _⟩
                      refine ((HOI.out.drew).updInt hlt2 (x + yy)).congr fun q hq => ?_
                      show Value.int .i64 _ = Value.int .i64 _
                      congr 1
                      by_cases e : q = i
                      · subst e; rw [upd_same, if_pos (by omega), HXE.out, HYE.out]
                      · rw [upd_ne _ _ e]
                        by_cases e2 : q < i
                        · rw [if_pos e2, if_pos (by omega)]
                        · rw [if_neg e2, if_neg (by omega)]
                  · obtain rfl : i = c := by omega
                    have hfin8 : Own wr g2 i (fun q => .int .i64 (o q + y.getD q 0)) := HOI.out.congr fun q hq => by rw [if_pos hq]
                    have hk9 := HKA.out.trans HKI.out
                    have HFIN8 := Lib.hid hfin8
                    have HK9 := Lib.hid hk9
                    clear hfin8 hk9
                    go_wp2_with fail
                    go_roundg (m8 - k)
                    case measure => omega
                    case rel => exact ⟨k + 1, fun q => o q + y.getD q 0, by omega, by omega, by go_num, HNEW.out, HFIN8.out, HK9.out⟩
            · obtain rfl : k = m8 := by omega
              have hSI : IsI wr [] (.slice (some ⟨g2, 0, none⟩) c c) (sumV c (ys.take k)) := Own.isI hOr (by simp) (Nat.le_refl _) sumV_len (fun i hi => (ho i hi).symm)
              have hXr : IsI wr [] (.slice (some ⟨g, 0, none⟩) c c) X := Rok.weak (Rok.keeps HX9.out hkr) (by simp)
              rw [HSFULL.out] at hSI
              have hsame := same_is hSI hXr (by rw [HXL.out]; omega) (by rw [HXL.out]; omega)
              rw [decide_eq_true rfl] at hsame
              have hd9 : decide (0 < (k : Int)) = true := decide_eq_true (by omega)
              have hkfin : Keeps [b] w2 wr := HK9.out.step hkr (fun y hy => .inr (by rw [List.mem_singleton.1 hy]; omega))
              have hfin := HB2.out.trans (hkfin.below (by simp; omega) (by omega))
              have HSI := Lib.hid hSI
              have HXR := Lib.hid hXr
              have HSAME := Lib.hid hsame
              have HKR := Lib.hid hkr
              have HOR := Lib.hid hOr
              have HO := Lib.hid ho
              have HKFIN := Lib.hid hkfin
              have HFIN := Lib.hid hfin
              clear hSI hXr hsame hkr hOr ho hkfin hfin
              go_wp2_with fail
              refine HSAME.out.mono ?_
              rintro e w10 ⟨rfl, qq, rfl⟩
              go_wp2_with fail
              go_ret
              exact ⟨rfl, HFIN.out.trans (((Keeps.refl [] wr).drewN qq).below (by simp) (by omega))⟩
  · have hd : decide ((len : Int) ≤ 400) = false := by simp; omega
    go_enter Try.func6, Try.ntmps6
    go_wp2_with fail
    refine (awake_any w).mono ?_
    rintro e w1 ⟨rfl, hb1⟩
    go_wp2_with fail
    refine (few_any w1 A0 len cap).mono ?_
    rintro e w' ⟨rfl, rfl⟩
    rw [hd]
    go_wp2_with fail
    refine (awake_any w1).mono ?_
    rintro e w2 ⟨rfl, hb2⟩
    go_wp2_with fail
    go_ret
    exact ⟨rfl, hb1.trans (hb2.mono hb1.size)⟩
end Go.Proofs.Ythpobeeccgmieaa
