/- The walk of coverabilitylaw02.WordMerges. -/
import Derived.Test.YtfhommegkogahaaLDrops

namespace Go.Proofs.Ytfhommegkogahaa
set_option linter.unusedVariables false
open Go.RowKit

theorem sub_cons_ne {x z : Int} {a c : List Int} (h : x ≠ z) : (x :: a).Sublist (z :: c) ↔ (x :: a).Sublist c :=
  ⟨fun hs => by
    cases hs with
    | cons _ h => exact h
    | cons_cons _ _ => exact absurd rfl h, fun hs => hs.cons _⟩
theorem mrg_below : ∀ (c a b : List Int), a.Sublist c → b.Sublist c → ∃ x ∈ mrgL a b, x.Sublist c
  | [], a, b, ha, hb => by
    have h1 := List.eq_nil_of_sublist_nil ha
    have h2 := List.eq_nil_of_sublist_nil hb
    subst h1; subst h2
    exact ⟨[], by simp [mrgL], List.Sublist.refl _⟩
  | z :: c, [], b, _, hb => ⟨b, by simp [mrgL], hb⟩
  | z :: c, x :: a, [], ha, _ => ⟨x :: a, by simp [mrgL], ha⟩
  | z :: c, x :: a, y :: b, ha, hb => by
    rw [mrgL_cons]
    by_cases e : x = y
    · subst e
      rw [if_pos rfl]
      by_cases ez : x = z
      · subst ez
        obtain ⟨u, hu, hs⟩ := mrg_below c a b (List.cons_sublist_cons.1 ha) (List.cons_sublist_cons.1 hb)
        exact ⟨x :: u, List.mem_map.2 ⟨u, hu, rfl⟩, hs.cons_cons x⟩
      · obtain ⟨u, hu, hs⟩ := mrg_below c (x :: a) (x :: b) ((sub_cons_ne ez).1 ha) ((sub_cons_ne ez).1 hb)
        rw [mrgL_cons, if_pos rfl] at hu
        exact ⟨u, hu, hs.cons _⟩
    · rw [if_neg e]
      by_cases ex : x = z
      · subst ex
        obtain ⟨u, hu, hs⟩ := mrg_below c a (y :: b) (List.cons_sublist_cons.1 ha) ((sub_cons_ne (fun h => e h.symm)).1 hb)
        exact ⟨x :: u, List.mem_append.2 (.inl (List.mem_map.2 ⟨u, hu, rfl⟩)), hs.cons_cons x⟩
      · by_cases ey : y = z
        · subst ey
          obtain ⟨u, hu, hs⟩ := mrg_below c (x :: a) b ((sub_cons_ne e).1 ha) (List.cons_sublist_cons.1 hb)
          exact ⟨y :: u, List.mem_append.2 (.inr (List.mem_map.2 ⟨u, hu, rfl⟩)), hs.cons_cons y⟩
        · obtain ⟨u, hu, hs⟩ := mrg_below c (x :: a) (y :: b) ((sub_cons_ne ex).1 ha) ((sub_cons_ne ey).1 hb)
          rw [mrgL_cons, if_neg e] at hu
          exact ⟨u, hu, hs.cons _⟩
theorem mrg_above : ∀ (N : Nat) (a b : List Int), a.length + b.length ≤ N → ∀ x ∈ mrgL a b, a.Sublist x ∧ b.Sublist x
  | 0, a, b, h, x, hx => by
    rw [mrgL_nil a b (by omega)] at hx
    rw [List.mem_singleton.1 hx]
    exact ⟨List.sublist_append_left _ _, List.sublist_append_right _ _⟩
  | N + 1, a, b, h, w, hw => by
    cases a with
    | nil => rw [mrgL_nil _ _ (.inl rfl)] at hw; rw [List.mem_singleton.1 hw]; exact ⟨List.sublist_append_left _ _, List.sublist_append_right _ _⟩
    | cons x a =>
      cases b with
      | nil => rw [mrgL_nil _ _ (.inr rfl)] at hw; rw [List.mem_singleton.1 hw]; exact ⟨List.sublist_append_left _ _, List.sublist_append_right _ _⟩
      | cons y b =>
        simp only [List.length_cons] at h
        rw [mrgL_cons] at hw
        split at hw
        · rename_i e
          subst e
          obtain ⟨u, hu, rfl⟩ := List.mem_map.1 hw
          have := mrg_above N a b (by omega) u hu
          exact ⟨this.1.cons_cons x, this.2.cons_cons x⟩
        · rcases List.mem_append.1 hw with hw | hw
          · obtain ⟨u, hu, rfl⟩ := List.mem_map.1 hw
            have := mrg_above N a (y :: b) (by simp; omega) u hu
            exact ⟨this.1.cons_cons x, this.2.cons _⟩
          · obtain ⟨u, hu, rfl⟩ := List.mem_map.1 hw
            have := mrg_above N (x :: a) b (by simp; omega) u hu
            exact ⟨this.1.cons _, this.2.cons_cons y⟩
theorem min_below {L : List (List Int)} : ∀ (n : Nat) (z : List Int), z ∈ L → z.length ≤ n → ∃ m ∈ L, (∀ u ∈ L, u ≠ m → ¬ u.Sublist m) ∧ m.Sublist z
  | 0, z, hz, hn => ⟨z, hz, fun u hu hne hs => hne (hs.eq_of_length (by have := hs.length_le; omega)), List.Sublist.refl _⟩
  | n + 1, z, hz, hn => by
    by_cases hm : ∀ u ∈ L, u ≠ z → ¬ u.Sublist z
    · exact ⟨z, hz, hm, List.Sublist.refl _⟩
    · simp only [Classical.not_forall] at hm
      obtain ⟨u, hu, hne, hs⟩ := hm
      have hs := Classical.not_not.1 hs
      have h1 := hs.length_le
      have h2 : u.length ≠ z.length := fun e => hne (hs.eq_of_length e)
      obtain ⟨m, h3, h4, h5⟩ := min_below n u hu (by omega)
      exact ⟨m, h3, h4, h5.trans hs⟩
theorem asc_ne {ys : List (List Int)} (h : Asc ys) {i j : Nat} (hi : i < ys.length) (hj : j < ys.length) (hne : j ≠ i) : ys.getD j [] ≠ ys.getD i [] := fun e => by
  have ei : ys.getD i [] = ys[i] := by simp [List.getD_eq_getElem?_getD, hi]
  have ej : ys.getD j [] = ys[j] := by simp [List.getD_eq_getElem?_getD, hj]
  rw [ei, ej] at e
  rcases Nat.lt_or_gt_of_ne hne with h1 | h1
  · have := List.pairwise_iff_getElem.1 h j i hj hi h1
    rw [e, cmpL_self] at this; omega
  · have := List.pairwise_iff_getElem.1 h i j hi hj h1
    rw [e, cmpL_self] at this; omega
theorem merges_law {a b c : List Int} {ys : List (List Int)} (ha : WValid a) (hb : WValid b) (hc : WValid c) (h8 : a.length + b.length ≤ 8) (hys : ∀ x, x ∈ ys ↔ IsMerge a b x) : (∃ x ∈ ys, WLeq x c) ↔ WLeq a c ∧ WLeq b c := by
  constructor
  · rintro ⟨x, hx, h⟩
    have := mrg_above _ a b (Nat.le_refl _) x ((hys x).1 hx).1
    exact ⟨⟨ha, hc, this.1.trans h.2.2⟩, hb, hc, this.2.trans h.2.2⟩
  · rintro ⟨h1, h2⟩
    obtain ⟨u, hu, hs⟩ := mrg_below c a b h1.2.2 h2.2.2
    obtain ⟨m, h3, h4, h5⟩ := min_below _ u hu (Nat.le_refl _)
    exact ⟨m, (hys m).2 ⟨h3, h4⟩, mrgL_valid ha hb h8 m h3, hc, h5.trans hs⟩
/-- What holds of each word that Merge returns. -/
structure MgOk (a b x : List Int) : Prop where
  va : WValid x
  la : wleqB a x = true
  lb : wleqB b x = true
  len : x.length ≤ a.length + b.length
theorem mg_ok {a b x : List Int} (ha : WValid a) (hb : WValid b) (h8 : a.length + b.length ≤ 8) (h : IsMerge a b x) : MgOk a b x := by
  have hv := mrgL_valid ha hb h8 x h.1
  have h2 := mrg_above _ a b (Nat.le_refl _) x h.1
  exact ⟨hv, wleqB_true.2 ⟨ha, hv, h2.1⟩, wleqB_true.2 ⟨hb, hv, h2.2⟩, mrgL_mem _ a b (Nat.le_refl _) x h.1⟩

set_option maxRecDepth 100000 in
set_option maxHeartbeats 8000000 in
theorem merges_law_any (w : World) (len cap : Nat) (A0 : Option Addr) (l : Nat → Int) (hR : Rd w w.heap.size A0 len (fun i => .int .i64 (l i))) :
    Calls Try.prog 4 #[.slice A0 len cap] w fun e w' => e = .returned (.bool true) ∧ Below w.heap.size w w' := by
  have HR := Lib.hid hR
  clear hR
  by_cases hlen : len ≤ 400
  · have hd : decide ((len : Int) ≤ 400) = true := by simp; omega
    go_enter Try.func4, Try.ntmps4
    go_wp2_with fail
    refine (awake_any w).mono ?_
    rintro e w1 ⟨rfl, hb1⟩
    have hz1 := hb1.size
    go_wp2_with fail
    refine (few_any w1 A0 len cap).mono ?_
    rintro e w' ⟨rfl, rfl⟩
    rw [hd]
    go_wp2_with fail
    refine (new_any w1 w.heap.size A0 len cap l (HR.out.below hb1) hlen hz1).mono ?_
    rintro e w2 ⟨rfl, hD2, hb2⟩
    have hz2 := hb2.size
    have hbl2 := hD2.lt
    have hB2 := hb1.trans (hb2.mono hz1)
    have HD2 := Lib.hid hD2
    have HB2 := Lib.hid hB2
    clear hD2 hB2
    clear hb1 hb2
    generalize w1.heap.size = b at *
    go_wp2_with fail
    refine (word_any w2 b w.heap.size 2 4 HD2.out (by omega) (by omega)).mono ?_
    rintro e w3 ⟨A1, n1, c1, a, rfl, hn1, hle1, har, hA1, hD1, hK⟩
    have hz1 := hK.size
    have hv1 : WValid a := valid_deck (m := 2) (by omega) (by omega) har
    haveI kb1 : KB [b] w3 w2 := ⟨hK⟩
    have HA1 := Lib.hid hA1
    have HD1 := Lib.hid hD1
    have HN1 := Lib.hid hn1
    have HV1 := Lib.hid hv1
    clear hA1 hD1 hn1 hv1
    clear hK har
    go_wp2_with fail
    refine (word_any w3 b w.heap.size 2 4 HD1.out (by omega) (by omega)).mono ?_
    rintro e w4 ⟨A2, n2, c2, v, rfl, hn2, hle2, har, hA2, hD2, hK⟩
    have hz2 := hK.size
    have hv2 : WValid v := valid_deck (m := 2) (by omega) (by omega) har
    haveI kb2 : KB [b] w4 w3 := ⟨hK⟩
    have HA2 := Lib.hid hA2
    have HD2 := Lib.hid hD2
    have HN2 := Lib.hid hn2
    have HV2 := Lib.hid hv2
    clear hA2 hD2 hn2 hv2
    clear hK har
    go_wp2_with fail
    refine (word_any w4 b w.heap.size 2 9 HD2.out (by omega) (by omega)).mono ?_
    rintro e w5 ⟨A3, n3, c3, u, rfl, hn3, hle3, har, hA3, hD3, hK⟩
    have hz3 := hK.size
    have hv3 : WValid u := valid_deck (m := 2) (by omega) (by omega) har
    haveI kb3 : KB [b] w5 w4 := ⟨hK⟩
    have HA3 := Lib.hid hA3
    have HD3 := Lib.hid hD3
    have HN3 := Lib.hid hn3
    have HV3 := Lib.hid hv3
    clear hA3 hD3 hn3 hv3
    clear hK har
    go_wp2_with fail
    have h8 : a.length + v.length ≤ 8 := by rw [← HN1.out, ← HN2.out]; omega
    refine Calls.mono (merge_is (l := [b]) (by simp; omega) (IsI.now HA1.out) (IsI.now HA2.out) (by omega) (by omega)) ?_
    rintro e w6 ⟨hk6, ⟨hno, rfl⟩ | ⟨_, _, hno, rfl⟩ | ⟨Y, k, cy, ys, _, _, _, hk, rfl, hasc, hys, hO⟩⟩
    · exact absurd ⟨HV1.out, HV2.out⟩ hno
    · exact absurd h8 hno
    haveI kb6 : KB [b] w6 w5 := ⟨hk6.nil _⟩
    have hz6 := hk6.size
    have hL := hO.isL (by simp; omega)
    obtain ⟨Y1, cy1, U, hey, _, _, hyc, hyr⟩ := hL
    injection hey with e1 e2 e3
    subst e1; subst e3
    rw [← hk] at hyc hyr
    have hlaw := merges_law HV1.out HV2.out HV3.out h8 hys
    have hok : ∀ x ∈ ys, MgOk a v x := fun x hx => mg_ok HV1.out HV2.out h8 ((hys x).1 hx)
    have hmin : ∀ i j, i < k → j < k → j ≠ i → wleqB (ys.getD j []) (ys.getD i []) = false := fun i j hi hj hne => by
      have h1 := (hys _).1 (getD_mem (d := []) (xs := ys) (i := i) (by omega))
      have h2 := (hys _).1 (getD_mem (d := []) (xs := ys) (i := j) (by omega))
      have hne2 := asc_ne hasc (i := i) (j := j) (by omega) (by omega) hne
      rw [← Bool.not_eq_true, wleqB_true]
      exact fun h => h1.2 _ h2.1 hne2 h.2.2
    have hkb : k ≤ 1000 := by
      have := asc_len hasc (L := mrgL a v) fun z hz => ((hys z).1 hz).1
      have := mrgL_256 h8
      omega
    have HK := Lib.hid hk
    have HYC := Lib.hid hyc
    have HYR := Lib.hid hyr
    have HLAW := Lib.hid hlaw
    have HOK := Lib.hid hok
    have HMIN := Lib.hid hmin
    have H8 := Lib.hid h8
    clear hk hyc hyr hlaw hok hmin h8
    clear hasc hys hO hk6 e2
    go_wp2_with fail
    go_loopg [9, 10, 11, 12, 39] (k + 1) (fun gh sv _ _ _ iv wr => ∃ (i : Nat) (s : Bool), k + 1 ≤ i + gh ∧ i ≤ k ∧ iv = .int .i64 (i : Int) ∧ sv = .bool s ∧ (s = true ↔ ∃ j, j < i ∧ WLeq (ys.getD j []) u) ∧ Keeps [b] w6 wr)
    case atStart => exact ⟨0, false, by omega, by omega, rfl, rfl, ⟨(fun h => by cases h), fun ⟨j, hj, _⟩ => by omega⟩, Keeps.refl _ _⟩
    case round =>
      obtain ⟨i, s, hgh, hi, rfl, rfl, hs, hkr⟩ := hrel
      haveI kbr : KB [b] wr w6 := ⟨hkr⟩
      have hzr := hkr.size
      have HS := Lib.hid hs
      clear hs
      clear hkr
      by_cases hlt : i < k
      · obtain ⟨p, rfl, hp⟩ := (RdL.now HYC.out (c := wr)).at_ hlt
        have hrow : IsI w6 [b] (U i) (ys.getD i []) := HYR.out i hlt
        obtain ⟨Ax, cx, hUi, _⟩ := hrow.open
        have hmem : ys.getD i [] ∈ ys := getD_mem (by rw [← HK.out]; exact hlt)
        have hxo := HOK.out _ hmem
        have hs1 : ∀ s', (s' = true ↔ s = true ∨ WLeq (ys.getD i []) u) → (s' = true ↔ ∃ j, j < i + 1 ∧ WLeq (ys.getD j []) u) := fun s' h0 => by
          rw [h0, HS.out]
          constructor
          · rintro (⟨j, hj, h⟩ | h)
            · exact ⟨j, by omega, h⟩
            · exact ⟨i, by omega, h⟩
          · rintro ⟨j, hj, h⟩
            by_cases e : j = i
            · subst e; exact .inr h
            · exact .inl ⟨j, by omega, h⟩
        rw [hUi] at hp hrow
        have hxl : (ys.getD i []).length ≤ n1 + n2 := by rw [HN1.out, HN2.out]; exact hxo.len
        have hx12 := hxo.va.1
        have hc1 := fun W (k : Keeps [b] w6 W) => leq_is (Rok.keeps HA1.out ((kf [b] w3 w6).trans k)) (Rok.keeps hrow k) (by rw [← HN1.out]; omega) (by omega)
        have hc2 := fun W (k : Keeps [b] w6 W) => leq_is (Rok.keeps HA2.out ((kf [b] w4 w6).trans k)) (Rok.keeps hrow k) (by rw [← HN2.out]; omega) (by omega)
        have hc3 := fun W (k : Keeps [b] w6 W) => leq_is (Rok.keeps hrow k) (Rok.keeps HA3.out ((kf [b] w5 w6).trans k)) (by omega) (by rw [← HN3.out]; omega)
        have hcm := fun W (k' : Keeps [b] w6 W) j (hj : j < k) (hne : j ≠ i) => leq_is (Rok.keeps (HYR.out j hj) k') (Rok.keeps hrow k') (by have := (HOK.out _ (getD_mem (d := []) (xs := ys) (i := j) (by rw [← HK.out]; exact hj))).va.1; omega) (by omega)
        rw [hxo.la] at hc1
        rw [hxo.lb] at hc2
        have hmi := fun j hj hne => HMIN.out i j hlt hj hne
        generalize hr : wleqB (ys.getD i []) u = r at *
        have hr' : r = true ↔ WLeq (ys.getD i []) u := by rw [← hr, wleqB_true]
        generalize hx : ys.getD i [] = x at *
        generalize hxn : x.length = xn at *
        have hxl2 : ¬ ((n1 : Int) + (n2 : Int) < (xn : Int)) := by omega
        have hc1 := hc1 wr (kf [b] w6 wr)
        have HS1 := Lib.hid hs1
        have HROW := Lib.hid hrow
        have HC1 := Lib.hid hc1
        have HC2 := Lib.hid hc2
        have HC3 := Lib.hid hc3
        have HCM := Lib.hid hcm
        have HMI := Lib.hid hmi
        have HR' := Lib.hid hr'
        have HR := Lib.hid hr
        have HX := Lib.hid hx
        have HXN := Lib.hid hxn
        have HXO := Lib.hid hxo
        clear hs1 hrow hc1 hc2 hc3 hcm hmi hr' hr hx hxn hxo
        clear hUi hmem
        go_wp2_with fail
        refine HC1.out.mono ?_
        rintro e w7 ⟨rfl, hk7⟩
        haveI kb7 : KB [b] w7 wr := ⟨hk7.nil _⟩
        clear hk7
        have hc2 := HC2.out w7 (kf [b] w6 w7)
        have HC2 := Lib.hid hc2
        clear hc2
        go_wp2_with fail
        refine HC2.out.mono ?_
        rintro e w8 ⟨rfl, hk8⟩
        haveI kb8 : KB [b] w8 w7 := ⟨hk8.nil _⟩
        clear hk8
        go_wp2_with fail
        go_loopg [12, 66] (k + 1) (fun gh _ jv wr => ∃ j : Nat, k + 1 ≤ j + gh ∧ j ≤ k ∧ jv = .int .i64 (j : Int) ∧ Keeps [b] w8 wr)
        case atStart => exact ⟨0, by omega, by omega, rfl, Keeps.refl _ _⟩
        case round =>
          obtain ⟨j, hgh2, hj, rfl, hkr2⟩ := hrel
          haveI kbr2 : KB [b] wr w8 := ⟨hkr2⟩
          clear hkr2
          by_cases hlt2 : j < k
          · by_cases hji : j = i
            · subst hji
              go_wp2_with fail
              go_roundg (k - j)
              case measure => omega
              case rel => exact ⟨j + 1, by omega, by omega, by go_num, kf [b] w8 wr⟩
            · obtain ⟨p2, hp2e, hp2⟩ := (RdL.now HYC.out (c := wr)).at_ hlt2
              injection hp2e with hp2e
              subst hp2e
              have hcj := HCM.out wr (kf [b] w6 wr) j hlt2 hji
              rw [HMI.out j hlt2 hji] at hcj
              have hji2 : ((j : Int) != (i : Int)) = true := by rw [bne_iff_ne]; omega
              obtain ⟨Aj, cj, hUj, _⟩ := (show IsI w6 [b] (U j) (ys.getD j []) from HYR.out j hlt2).open
              rw [hUj] at hp2 hcj
              generalize (ys.getD j []).length = xj at *
              have HCJ := Lib.hid hcj
              clear hcj
              clear hUj
              go_wp2_with fail
              refine HCJ.out.mono ?_
              rintro e w9 ⟨rfl, hk9⟩
              haveI kb9 : KB [b] w9 wr := ⟨hk9.nil _⟩
              clear hk9
              go_wp2_with fail
              go_roundg (k - j)
              case measure => omega
              case rel => exact ⟨j + 1, by omega, by omega, by go_num, kf [b] w8 w9⟩
          · obtain rfl : j = k := by omega
            have hc3 := HC3.out wr (kf [b] w6 wr)
            have HC3 := Lib.hid hc3
            clear hc3
            cases s with
            | true =>
              go_wp2_with fail
              go_roundg (j - i)
              case measure => omega
              case rel => exact ⟨i + 1, true, by omega, by omega, by go_num, rfl, HS1.out true (by simp), kf [b] w6 wr⟩
            | false =>
              go_wp2_with fail
              refine HC3.out.mono ?_
              rintro e w9 ⟨rfl, hk9⟩
              haveI kb9 : KB [b] w9 wr := ⟨hk9.nil _⟩
              clear hk9
              go_wp2_with fail
              go_roundg (j - i)
              case measure => omega
              case rel => exact ⟨i + 1, r, by omega, by omega, by go_num, rfl, HS1.out r (by rw [HR'.out]; simp), kf [b] w6 w9⟩
      · obtain rfl : i = k := by omega
        have hs2 : s = true ↔ WLeq a u ∧ WLeq v u := by
          rw [← HLAW.out, HS.out]
          constructor
          · rintro ⟨j, hj, h⟩; exact ⟨_, getD_mem (by rw [← HK.out]; exact hj), h⟩
          · rintro ⟨x, hx, h⟩
            obtain ⟨j, hj, e⟩ := mem_getD (d := []) hx
            exact ⟨j, by rw [HK.out]; exact hj, by rw [e]; exact h⟩
        have hc := leq_is (w := wr) (IsI.now HA1.out) (IsI.now HA3.out) (by rw [← HN1.out]; omega) (by rw [← HN3.out]; omega)
        have hc2 := fun W (k : Keeps [b] wr W) => leq_is (w := W) (Rok.keeps HA2.out ((kf [b] w4 wr).trans k)) (Rok.keeps HA3.out ((kf [b] w5 wr).trans k)) (by rw [← HN2.out]; omega) (by rw [← HN3.out]; omega)
        have hr : wleqB a u = true ↔ WLeq a u := wleqB_true
        have hr2 : wleqB v u = true ↔ WLeq v u := wleqB_true
        generalize wleqB a u = r at *
        generalize wleqB v u = r2 at *
        rw [← hr, ← hr2] at hs2
        have hfin : s = (r && r2) := by
          rw [Bool.eq_iff_iff, hs2]; simp
        subst hfin
        have HC := Lib.hid hc
        have HC2 := Lib.hid hc2
        clear hc hc2
        clear hs2 hr hr2
        cases r with
        | true =>
          go_wp2_with fail
          refine HC.out.mono ?_
          rintro e w9 ⟨rfl, hk9⟩
          haveI kb9 : KB [b] w9 wr := ⟨hk9.nil _⟩
          have hc2 := HC2.out w9 (hk9.nil _)
          have HC2 := Lib.hid hc2
          clear hc2
          clear hk9
          go_wp2_with fail
          refine HC2.out.mono ?_
          rintro e w10 ⟨rfl, hk10⟩
          haveI kb10 : KB [b] w10 w9 := ⟨hk10.nil _⟩
          have hkf := HB2.out.trans ((kf [b] w2 w10).below (by simp; omega) (by omega))
          have HKF := Lib.hid hkf
          clear hkf
          clear hk10
          go_wp2_with fail
          go_ret
          exact ⟨by simp, HKF.out⟩
        | false =>
          go_wp2_with fail
          refine HC.out.mono ?_
          rintro e w9 ⟨rfl, hk9⟩
          haveI kb9 : KB [b] w9 wr := ⟨hk9.nil _⟩
          have hkf := HB2.out.trans ((kf [b] w2 w9).below (by simp; omega) (by omega))
          have HKF := Lib.hid hkf
          clear hkf
          clear hk9
          go_wp2_with fail
          go_ret
          exact ⟨rfl, HKF.out⟩
  · have hd : decide ((len : Int) ≤ 400) = false := by simp; omega
    go_enter Try.func4, Try.ntmps4
    go_wp2_with fail
    refine (awake_any w).mono ?_
    rintro e w1 ⟨rfl, hb1⟩
    go_wp2_with fail
    refine (few_any w1 A0 len cap).mono ?_
    rintro e w' ⟨rfl, rfl⟩
    rw [hd]
    go_wp2_with fail
    refine (awake_any w1).mono ?_
    rintro e w2 ⟨rfl, hb2⟩
    go_wp2_with fail
    go_ret
    exact ⟨rfl, hb1.trans (hb2.mono hb1.size)⟩
end Go.Proofs.Ytfhommegkogahaa
