/- The walk of coverabilitylaw02.WordPlaces. -/
import Derived.Test.YtfhommegkogahaaLDrops
import Derived.Test.YtfhommegkogahaaEmbedP

namespace Go.Proofs.Ytfhommegkogahaa
set_option linter.unusedVariables false
open Go.RowKit

/-- What Embed returns, both ways in one. -/
theorem emb_any {o : Option (List Int)} {l : List Nat} {w w' : World} {e : Ending} (h : EmbPost o l w e w') (hl : ∀ x ∈ l, x < w.heap.size) :
    Keeps [] w w' ∧ ∃ (E : Option Addr) (n ce : Nat) (p : List Int), e = .returned (.tuple #[.slice E n ce, .bool o.isSome]) ∧ n = p.length ∧ IsI w' l (.slice E n ce) p ∧ (o = some p ∨ (o = none ∧ p = [])) := by
  obtain ⟨hk, ⟨ho, rfl⟩ | ⟨E, ce, p, ho, rfl, hO⟩⟩ := h
  · exact ⟨hk, none, 0, 0, [], by rw [ho]; rfl, rfl, IsI.nil, .inr ⟨ho, rfl⟩⟩
  · exact ⟨hk, E, _, ce, p, by rw [ho]; rfl, rfl, hO.isL hl, .inl ho⟩

set_option maxRecDepth 100000 in
set_option maxHeartbeats 8000000 in
theorem places_law_any (w : World) (len cap : Nat) (A0 : Option Addr) (l : Nat → Int) (hR : Rd w w.heap.size A0 len (fun i => .int .i64 (l i))) :
    Calls Try.prog 7 #[.slice A0 len cap] w fun e w' => e = .returned (.bool true) ∧ Below w.heap.size w w' := by
  have HR := Lib.hid hR
  clear hR
  by_cases hlen : len ≤ 400
  · have hd : decide ((len : Int) ≤ 400) = true := by simp; omega
    go_enter Try.func7, Try.ntmps7
    go_wp2_with fail
    refine (awake_any w).mono ?_
    rintro e w1 ⟨rfl, hb1⟩
    have hz1 := hb1.size
    go_wp2_with fail
    refine (few_any w1 A0 len cap).mono ?_
    rintro e w' ⟨rfl, rfl⟩
    rw [hd]
    go_wp2_with fail
    refine (new_any w1 w.heap.size A0 len cap l (HR.out.below hb1) hlen hz1).mono ?_
    rintro e w2 ⟨rfl, hD2, hb2⟩
    have hz2 := hb2.size
    have hbl2 := hD2.lt
    have hB2 := hb1.trans (hb2.mono hz1)
    have HD2 := Lib.hid hD2
    have HB2 := Lib.hid hB2
    clear hD2 hB2
    clear hb1 hb2
    generalize w1.heap.size = b at *
    go_wp2_with fail
    refine (word_any w2 b w.heap.size 2 4 HD2.out (by omega) (by omega)).mono ?_
    rintro e w3 ⟨A1, n1, c1, a, rfl, hn1, hle1, har, hA1, hD1, hK⟩
    have hz1 := hK.size
    have hv1 : WValid a := valid_deck (m := 2) (by omega) (by omega) har
    haveI kb1 : KB [b] w3 w2 := ⟨hK⟩
    have HA1 := Lib.hid hA1
    have HD1 := Lib.hid hD1
    have HN1 := Lib.hid hn1
    have HV1 := Lib.hid hv1
    clear hA1 hD1 hn1 hv1
    clear hK har
    go_wp2_with fail
    refine (word_any w3 b w.heap.size 2 9 HD1.out (by omega) (by omega)).mono ?_
    rintro e w4 ⟨A2, n2, c2, v, rfl, hn2, hle2, har, hA2, hD2, hK⟩
    have hz2 := hK.size
    have hv2 : WValid v := valid_deck (m := 2) (by omega) (by omega) har
    haveI kb2 : KB [b] w4 w3 := ⟨hK⟩
    have HA2 := Lib.hid hA2
    have HD2 := Lib.hid hD2
    have HN2 := Lib.hid hn2
    have HV2 := Lib.hid hv2
    clear hA2 hD2 hn2 hv2
    clear hK har
    go_wp2_with fail
    have hb4 : b < w4.heap.size := by omega
    refine Calls.mono (embed_is (IsI.now HA1.out) HA2.out (by rw [← HN1.out]; omega) (by rw [← HN2.out]; omega)) ?_
    rintro e w5 hpost
    obtain ⟨hk5, E, ne, ce, p, rfl, hne, hp, ho⟩ := emb_any hpost (by simpa using hb4)
    haveI kb5 : KB [b] w5 w4 := ⟨hk5.nil _⟩
    have hD5 := HD2.out.kept hk5
    have hz5 := hk5.size
    have hpl : ne ≤ 4 := by
      rcases ho with ho | ⟨_, hp0⟩
      · rw [hne, (embW_proves ho).2.2.1, ← HN1.out]; omega
      · rw [hne, hp0]; simp
    have hfinal : (embW a v).isSome = true → wprB a v p = true := fun h => by
      rcases ho with ho | ⟨ho, _⟩
      · exact wprB_true.2 (embW_proves ho)
      · rw [ho] at h; cases h
    have hlst : ∀ q, WProves a v q → (embW a v).isSome = true ∧ p.length = q.length ∧ ∀ i, i < q.length → p.getD i 0 ≤ q.getD i 0 := fun q h => by
      obtain ⟨p', h1, h2, h3⟩ := embW_least h
      rcases ho with ho | ⟨ho, _⟩
      · rw [ho] at h1; injection h1 with h1; subst h1
        exact ⟨by rw [ho]; rfl, h2, h3⟩
      · rw [ho] at h1; cases h1
    generalize (embW a v).isSome = r at *
    have HP := Lib.hid hp
    have HD5 := Lib.hid hD5
    have HNE := Lib.hid hne
    have HFINAL := Lib.hid hfinal
    have HLST := Lib.hid hlst
    have HB4 := Lib.hid hb4
    clear hp hD5 hne hfinal hlst hb4
    clear hpost ho hk5
    go_wp2_with fail
    go_loopg [8, 9, 10, 11] 21 (fun gh kv _ _ _ wr => ∃ k : Nat, 21 ≤ k + gh ∧ k ≤ 20 ∧ kv = .int .i64 (k : Int) ∧ Deck wr b w.heap.size ∧ Keeps [b] w5 wr)
    case atStart => exact ⟨0, by omega, by omega, rfl, HD5.out, Keeps.refl _ _⟩
    case round =>
      obtain ⟨k, hgh, hk, rfl, hDr, hkr⟩ := hrel
      haveI kbr : KB [b] wr w5 := ⟨hkr⟩
      have hzr := hkr.size
      have HDR := Lib.hid hDr
      clear hDr
      clear hkr
      by_cases hlt : k < 20
      · have hk20 : decide ((k : Int) < 20) = true := by simp; omega
        go_wp2_with fail
        obtain ⟨wo, hwo⟩ : ∃ wo : World, wo = wr := ⟨_, rfl⟩
        subst hwo
        go_loopg [9, 10, 38] (n1 + 1) (fun gh qv tv jv wr => ∃ (j t : Nat) (Q : Option Addr) (cq : Nat) (qs : List Int), n1 + 1 ≤ j + gh ∧ j ≤ n1 ∧ t ≤ 3 * j ∧ jv = .int .i64 (j : Int) ∧ tv = .int .i64 (t : Int) ∧ qv = .slice Q j cq ∧ qs.length = j ∧ OwL IsN 0 3 wo.heap.size wr [b] (.slice Q j cq) qs ∧ Deck wr b w.heap.size ∧ Keeps [b] wo wr)
        case atStart => exact ⟨0, 0, none, 0, [], by omega, by omega, by omega, rfl, rfl, rfl, rfl, OwL.nil, HDR.out, Keeps.refl _ _⟩
        case round =>
          obtain ⟨j, t, Q, cq, qs, hgh2, hj, ht, rfl, rfl, rfl, hql, hO, hDj, hkj⟩ := hrel
          have hzj := hkj.size
          have HQL := Lib.hid hql
          have HO := Lib.hid hO
          have HDJ := Lib.hid hDj
          have HKJ := Lib.hid hkj
          clear hql hO hDj hkj
          by_cases hltj : j < n1
          · go_wp2_with fail
            refine (next_any wr b w.heap.size 3 HDJ.out (by omega)).mono ?_
            rintro e w6 ⟨x, rfl, _, hx, hD6, hk6⟩
            have hx := hx (by omega)
            have hO6 := HO.out.keep hk6 (by simp; omega)
            have hk6' := HKJ.out.trans hk6
            have hz6 := hk6.size
            have hz6' := hk6'.size
            have HD6 := Lib.hid hD6
            have HO6 := Lib.hid hO6
            have HK6' := Lib.hid hk6'
            clear hD6 hO6 hk6'
            clear hk6
            have hjb : j + 1 ≤ 1000000000 := by omega
            go_wp2_with (at_builtin; refine wpList_pushg sl_int rfl _ _ rfl (w := w6) (u := .int .i64 ((t : Int) + (x : Int))) (y := (t : Int) + (x : Int)) rfl rfl HO6.out rfl (m := j + 1) (by rw [HQL.out]) hjb hz6' ?_; intro V' c'' w7 hown hg7 hb7)
            have hl7 : ∀ y ∈ (Value.slice Q j cq).ownBlock.toList, wo.heap.size ≤ y := fun y hy => (HO6.out.blocks y hy).1
            go_roundg (n1 - j)
            case measure => omega
            case rel => exact ⟨j + 1, t + x + 1, V', c'', qs ++ [(t : Int) + (x : Int)], by omega, by omega, by omega, by go_num, by go_num, rfl, by rw [List.length_append, HQL.out]; rfl, hown,
              HD6.out.keeps hg7 (fun hm => by have := hl7 b hm; omega) (fun y hy => by have := hl7 y hy; omega), HK6'.out.step hg7 fun y hy => .inr (hl7 y hy)⟩
          · obtain rfl : j = n1 := by omega
            haveI kbj : KB [b] wr wo := ⟨HKJ.out⟩
            have hQ : IsI wr [b] (.slice Q j cq) qs := HO.out.isL (by simp; omega)
            have hpr := proves_is (w := wr) (IsI.now HA1.out) (IsI.now HA2.out) hQ (by rw [← HN1.out]; omega) (by rw [← HN2.out]; omega) (by rw [HQL.out]; omega)
            have hqq := HLST.out qs
            have hw : wprB a v qs = true ↔ WProves a v qs := wprB_true
            generalize wprB a v qs = r2 at *
            cases r2 with
            | false =>
              have HPR := Lib.hid hpr
              have HQQ := Lib.hid hqq
              have HQ := Lib.hid hQ
              clear hpr hqq hQ
              clear hw
              go_wp2_with fail
              refine HPR.out.mono ?_
              rintro e w6 ⟨rfl, hk6⟩
              haveI kb6 : KB [b] w6 wr := ⟨hk6.nil _⟩
              have hD6 := HDJ.out.kept hk6
              have HD6 := Lib.hid hD6
              clear hD6
              clear hk6
              go_wp2_with fail
              go_roundg (20 - k)
              case measure => omega
              case rel => exact ⟨k + 1, by omega, by omega, by go_num, HD6.out, kf [b] w5 w6⟩
            | true =>
              obtain ⟨hr, hlen, hle⟩ := hqq (hw.1 rfl)
              subst hr
              have hnj : ne = j := by rw [HNE.out, hlen, HQL.out]
              subst hnj
              have hle2 : ∀ i, i < ne → p.getD i 0 ≤ qs.getD i 0 := fun i hi => hle i (by rw [HQL.out]; exact hi)
              have HPR := Lib.hid hpr
              have HQ := Lib.hid hQ
              have HLE2 := Lib.hid hle2
              clear hpr hQ hle2
              clear hw hlen hle
              go_wp2_with fail
              refine HPR.out.mono ?_
              rintro e w6 ⟨rfl, hk6⟩
              haveI kb6 : KB [b] w6 wr := ⟨hk6.nil _⟩
              have hD6 := HDJ.out.kept hk6
              have HD6 := Lib.hid hD6
              clear hD6
              clear hk6
              go_wp2_with fail
              obtain ⟨A3, c3, hp3, _, _, hpr3⟩ := (IsI.open HP.out)
              obtain ⟨A4, c4, hq4, _, _, hqr4⟩ := (IsI.open HQ.out)
              injection hp3 with e1 _ e3
              injection hq4 with e4 _ e6
              subst e1; subst e3; subst e4; subst e6
              rw [HQL.out] at hqr4
              rw [← HNE.out] at hpr3
              have HPR3 := Lib.hid hpr3
              have HQR4 := Lib.hid hqr4
              clear hpr3 hqr4
              go_loopg [11, 67] (ne + 1) (fun gh _ iv wr => ∃ i : Nat, ne + 1 ≤ i + gh ∧ i ≤ ne ∧ iv = .int .i64 (i : Int) ∧ Keeps [] w6 wr)
              case atStart => exact ⟨0, by omega, by omega, rfl, Keeps.refl _ _⟩
              case round =>
                obtain ⟨i, hgh3, hi, rfl, hk7⟩ := hrel
                haveI kb7 : KB [b] wr w6 := ⟨hk7.nil _⟩
                have hD7 := HD6.out.kept hk7
                have HK7 := Lib.hid hk7
                have HD7 := Lib.hid hD7
                clear hD7
                clear hk7
                by_cases hlti : i < ne
                · obtain ⟨pp, rfl, hpp⟩ := (RdL.now HPR3.out (c := wr)).at_ hlti
                  obtain ⟨pq, rfl, hpq⟩ := (RdL.now HQR4.out (c := wr)).at_ hlti
                  have hle3 := HLE2.out i hlti
                  generalize p.getD i 0 = x at *
                  generalize qs.getD i 0 = y at *
                  have hd1 : decide (y < x) = false := by simp; omega
                  go_wp2_with fail
                  go_quiet (fail)
                  go_wp2_with fail
                  go_roundg (ne - i)
                  case measure => omega
                  case rel => exact ⟨i + 1, by omega, by omega, by go_num, HK7.out.drewN _⟩
                · obtain rfl : i = ne := by omega
                  go_wp2_with fail
                  go_roundg (20 - k)
                  case measure => omega
                  case rel => exact ⟨k + 1, by omega, by omega, by go_num, HD7.out, kf [b] w5 wr⟩
      · obtain rfl : k = 20 := by omega
        have hpr := HFINAL.out
        have hcall := proves_is (w := wr) (IsI.now HA1.out) (IsI.now HA2.out) (IsI.now HP.out) (by rw [← HN1.out]; omega) (by rw [← HN2.out]; omega) (by rw [← HNE.out]; omega)
        cases r with
        | true =>
          rw [hpr rfl] at hcall
          have HCALL := Lib.hid hcall
          clear hcall
          clear hpr
          go_wp2_with fail
          refine HCALL.out.mono ?_
          rintro e w6 ⟨rfl, hk6⟩
          haveI kb6 : KB [b] w6 wr := ⟨hk6.nil _⟩
          have hkf := HB2.out.trans ((kf [b] w2 w6).below (by simp; omega) (by omega))
          have HKF := Lib.hid hkf
          clear hkf
          clear hk6
          go_wp2_with fail
          go_ret
          exact ⟨rfl, HKF.out⟩
        | false =>
          have hkf := HB2.out.trans ((kf [b] w2 wr).below (by simp; omega) (by omega))
          have HKF := Lib.hid hkf
          clear hkf
          clear hpr hcall
          go_wp2_with fail
          go_ret
          exact ⟨rfl, HKF.out⟩
  · have hd : decide ((len : Int) ≤ 400) = false := by simp; omega
    go_enter Try.func7, Try.ntmps7
    go_wp2_with fail
    refine (awake_any w).mono ?_
    rintro e w1 ⟨rfl, hb1⟩
    go_wp2_with fail
    refine (few_any w1 A0 len cap).mono ?_
    rintro e w' ⟨rfl, rfl⟩
    rw [hd]
    go_wp2_with fail
    refine (awake_any w1).mono ?_
    rintro e w2 ⟨rfl, hb2⟩
    go_wp2_with fail
    go_ret
    exact ⟨rfl, hb1.trans (hb2.mono hb1.size)⟩
end Go.Proofs.Ytfhommegkogahaa
