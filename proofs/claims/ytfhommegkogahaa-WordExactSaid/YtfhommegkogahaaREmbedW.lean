/- The walk of the reference's Embed and Leq of words. -/
import Derived.Test.YtfhommegkogahaaRValid
namespace Go.Proofs.Ytfhommegkogahaa
set_option linter.unusedVariables false
open Go.RowKit

theorem gst_len (a : List Int) : ∀ (s : List Int) (i : Nat) (out : List Int), out.length ≤ a.length → (gst a s i out).length ≤ a.length
  | [], i, out, h => h
  | y :: s, i, out, h => by
    rw [gst]
    split
    · next e =>
      have : out.length < a.length := by
        rcases Nat.lt_or_ge out.length a.length with h | h
        · exact h
        · rw [List.getElem?_eq_none h] at e; cases e
      exact gst_len a s _ _ (by simp; omega)
    · exact gst_len a s _ _ h

theorem gst_step {a b : List Int} {k : Nat} (hk : k < b.length) {out : List Int} : gst a (b.drop k) k out = gst a (b.drop (k + 1)) (k + 1) (if out.length < a.length ∧ a.getD out.length 0 = b.getD k 0 then out ++ [(k : Int)] else out) := by
  rw [List.drop_eq_getElem_cons hk, gst]
  have hb : b.getD k 0 = b[k] := by simp [List.getD_eq_getElem?_getD, hk]
  rw [hb]
  by_cases h : out.length < a.length
  · have ha : a.getD out.length 0 = a[out.length] := by simp [List.getD_eq_getElem?_getD, h]
    rw [ha, List.getElem?_eq_getElem h]
    simp [h]
  · rw [List.getElem?_eq_none (by omega), if_neg (by simp), if_neg (fun e => h e.1)]

theorem embW_gst {a b : List Int} (h1 : WValid a) (h2 : WValid b) : embW a b = if (gst a b 0 []).length < a.length then none else some (gst a b 0 []) := by
  rw [embW_yes h1 h2]
  rcases gst_embF a b b 0 [] rfl (Nat.zero_le _) with ⟨p, h, e⟩ | ⟨h, e⟩
  · rw [e, List.nil_append, if_neg]
    · exact h
    · have := embF_len h
      simp only [List.length_nil, List.drop_zero] at this
      omega
  · rw [if_pos e]; exact h

set_option maxHeartbeats 2000000 in
theorem rembed_is {w : World} {l : List Nat} {av bv : Value} {a b : List Int} (ha : IsI w l av a) (hb : IsI w l bv b) (hn : a.length ≤ 1000000) (hm : b.length ≤ 1000000) : Calls Try.prog 21 #[av, bv] w (EmbPost (embW a b) l w) := by
  unfold EmbPost
  obtain ⟨A, c, rfl, _, _, h1⟩ := ha.open
  obtain ⟨B, c', rfl, _, _, h2⟩ := hb.open
  by_cases hva : WValid a
  · have ea := wvB_true.2 hva
    by_cases hvb : WValid b
    · have eb := wvB_true.2 hvb
      have hemb := embW_gst hva hvb
      have hgl := fun i ys => gst_len a (b.drop i) i ys
      generalize embW a b = o at *
      have hma := rvalid_is ha hn
      rw [ea] at hma
      have hmb := fun W (k : Keeps [] w W) => rvalid_is (IsI.new hb k) hm
      rw [eb] at hmb
      generalize hna : a.length = n at *
      generalize hnb : b.length = m at *
      have H1 := Lib.hid h1
      have H2 := Lib.hid h2
      have HNA := Lib.hid hna
      have HNB := Lib.hid hnb
      have HA := Lib.hid ha
      have HB := Lib.hid hb
      have HEMB := Lib.hid hemb
      have HMA := Lib.hid hma
      have HMB := Lib.hid hmb
      have HVA := Lib.hid hva
      have HVB := Lib.hid hvb
      have HGL := Lib.hid hgl
      clear h1 h2 hna hnb ha hb hemb hma hmb hva hvb hgl
      clear ea eb
      go_enter Try.func21, Try.ntmps21
      go_wp2_with fail
      refine HMA.out.mono ?_
      rintro e w1 ⟨rfl, hk1⟩
      have hcb := HMB.out w1 hk1
      have HCB := Lib.hid hcb
      clear hcb
      haveI : KB [] w1 w := ⟨hk1⟩
      clear hk1
      go_wp2_with fail
      refine HCB.out.mono ?_
      rintro e w2 ⟨rfl, hk2⟩
      haveI : KB [] w2 w1 := ⟨hk2⟩
      have HK2 := Lib.hid (kf [] w w2)
      clear hk2
      go_wp2_with fail
      go_loopg [6, 7] (m + 1) (fun gh sv kv wr => ∃ (k t : Nat) (V : Option Addr) (cv : Nat) (ys : List Int), m + 1 ≤ k + gh ∧ k ≤ m ∧ t ≤ n ∧ kv = .int .i64 (k : Int) ∧ sv = .slice V t cv ∧ ys.length = t ∧
        gst a b 0 [] = gst a (b.drop k) k ys ∧ OwL IsN 0 3 w.heap.size wr l (.slice V t cv) ys ∧ Keeps [] w wr)
      case atStart => exact ⟨0, 0, none, 0, [], by omega, by omega, by omega, rfl, rfl, rfl, rfl, OwL.nil, HK2.out⟩
      case round =>
        obtain ⟨k, t, V, cv, ys, hgh, hk, ht, rfl, rfl, hyl, hrel, hO, hkr⟩ := hrel
        have hz := hkr.size
        have HYL := Lib.hid hyl
        have HREL := Lib.hid hrel
        have HO := Lib.hid hO
        have HKR := Lib.hid hkr
        clear hyl hrel hO hkr
        by_cases hlt : k < m
        · obtain ⟨p2, rfl, hp2⟩ := (RdL.keeps H2.out (HKR.out.nil l)).at_ hlt
          have hst := gst_step (a := a) (b := b) (k := k) (out := ys) (by rw [HNB.out]; exact hlt)
          rw [HYL.out, HNA.out] at hst
          by_cases htn : t < n
          · obtain ⟨p1, rfl, hp1⟩ := (RdL.keeps H1.out (HKR.out.nil l)).at_ htn
            have hd1 : decide ((t : Int) < (n : Int)) = true := by rw [decide_eq_true_iff]; omega
            generalize hx : a.getD t 0 = x at *
            generalize hy : b.getD k 0 = y at *
            have HX := Lib.hid hx
            have HY := Lib.hid hy
            clear hx hy
            by_cases hxy : x = y
            · subst hxy
              rw [if_pos ⟨htn, rfl⟩] at hst
              have hd2 : (x == x) = true := by simp
              have HST := Lib.hid hst
              clear hst
              go_wp2_with fail
              go_quiet (fail)
              have hO3 : OwL IsN 0 3 w.heap.size (wr.drewN nq) l (.slice V t cv) ys := HO.out.new ((Keeps.refl _ _).drewN _)
              have hk3 : Keeps [] w (wr.drewN nq) := HKR.out.drewN _
              have HO3 := Lib.hid hO3
              have HK3 := Lib.hid hk3
              clear hO3 hk3
              go_wp2_with (at_builtin; (refine wpList_push sl_int rfl _ _ rfl (w := wr.drewN nq) (u := .int .i64 (k : Int)) (y := (k : Int)) rfl rfl HO3.out rfl (m := t + 1) (by rw [HYL.out]) (by omega) hz (w0 := w) (l0 := []) (Nat.le_refl _) HK3.out ?_; intro V' c'' w4 hown hg4 hk4))
              go_roundg (m - k)
              case measure => omega
              case rel => exact ⟨k + 1, t + 1, V', c'', ys ++ [(k : Int)], by omega, by omega, by omega, by go_num, rfl, by rw [List.length_append, HYL.out]; rfl, by rw [HREL.out, HST.out], hown, hk4⟩
            · rw [if_neg fun e => hxy e.2] at hst
              have hd2 : (x == y) = false := by rw [beq_eq_false_iff_ne]; exact hxy
              have HST := Lib.hid hst
              clear hst
              go_wp2_with fail
              go_quiet (fail)
              go_wp2_with fail
              go_roundg (m - k)
              case measure => omega
              case rel => exact ⟨k + 1, t, V, cv, ys, by omega, by omega, by omega, by go_num, rfl, HYL.out, by rw [HREL.out, HST.out], HO.out.new ((Keeps.refl _ _).drewN _), HKR.out.drewN _⟩
          · rw [if_neg fun e => htn e.1] at hst
            have hd1 : decide ((t : Int) < (n : Int)) = false := by rw [decide_eq_false_iff_not]; omega
            have HST := Lib.hid hst
            clear hst
            go_wp2_with fail
            go_quiet (fail)
            go_wp2_with fail
            go_roundg (m - k)
            case measure => omega
            case rel => exact ⟨k + 1, t, V, cv, ys, by omega, by omega, by omega, by go_num, rfl, HYL.out, by rw [HREL.out, HST.out], HO.out.new ((Keeps.refl _ _).drewN _), HKR.out.drewN _⟩
        · obtain rfl : k = m := by omega
          have he : gst a b 0 [] = ys := by rw [HREL.out, ← HNB.out, List.drop_length]; rfl
          have ho : o = if t < n then none else some ys := by rw [HEMB.out, he, HYL.out]
          by_cases htn : t < n
          · rw [if_pos htn] at ho
            have HOO := Lib.hid ho
            clear ho he
            go_wp2_with fail
            go_ret2
            exact ⟨HKR.out, .inl ⟨HOO.out, rfl⟩⟩
          · rw [if_neg htn] at ho
            have hres : Keeps [] w wr ∧ OwL IsN 0 3 w.heap.size wr l (.slice V ys.length cv) ys := ⟨HKR.out, by rw [HYL.out]; exact HO.out⟩
            have HRES := Lib.hid hres
            clear hres
            have HOO := Lib.hid ho
            clear ho he
            go_wp2_with fail
            go_ret2
            exact ⟨HKR.out, .inr ⟨V, cv, ys, HOO.out, by rw [HYL.out]; rfl, HRES.out.2⟩⟩
    · have eb := wvB_false.2 hvb
      have hemb := embW_no (a := a) (b := b) fun h => hvb h.2
      have hma := rvalid_is ha hn
      rw [ea] at hma
      have hmb := fun W (k : Keeps [] w W) => rvalid_is (IsI.new hb k) hm
      rw [eb] at hmb
      generalize embW a b = o at *
      generalize a.length = n at *
      generalize b.length = m at *
      have H1 := Lib.hid h1
      have H2 := Lib.hid h2
      have HA := Lib.hid ha
      have HB := Lib.hid hb
      have HEMB := Lib.hid hemb
      have HMA := Lib.hid hma
      have HMB := Lib.hid hmb
      have HVA := Lib.hid hva
      have HVB := Lib.hid hvb
      clear h1 h2 ha hb hemb hma hmb hva hvb
      clear ea eb
      go_enter Try.func21, Try.ntmps21
      go_wp2_with fail
      refine HMA.out.mono ?_
      rintro e w1 ⟨rfl, hk1⟩
      have hcb := HMB.out w1 hk1
      have HCB := Lib.hid hcb
      have HK1 := Lib.hid hk1
      clear hcb hk1
      go_wp2_with fail
      refine HCB.out.mono ?_
      rintro e w2 ⟨rfl, hk2⟩
      have HK2 := Lib.hid hk2
      clear hk2
      go_wp2_with fail
      go_ret2
      exact ⟨HK1.out.trans HK2.out, .inl ⟨HEMB.out, rfl⟩⟩
  · have ea := wvB_false.2 hva
    have hemb := embW_no (a := a) (b := b) fun h => hva h.1
    have hma := rvalid_is ha hn
    rw [ea] at hma
    generalize embW a b = o at *
    generalize a.length = n at *
    generalize b.length = m at *
    have H1 := Lib.hid h1
    have H2 := Lib.hid h2
    have HA := Lib.hid ha
    have HB := Lib.hid hb
    have HEMB := Lib.hid hemb
    have HMA := Lib.hid hma
    have HVA := Lib.hid hva
    clear h1 h2 ha hb hemb hma hva
    clear ea
    go_enter Try.func21, Try.ntmps21
    go_wp2_with fail
    refine HMA.out.mono ?_
    rintro e w1 ⟨rfl, hk1⟩
    have HK1 := Lib.hid hk1
    clear hk1
    go_wp2_with fail
    go_ret2
    exact ⟨HK1.out, .inl ⟨HEMB.out, rfl⟩⟩

set_option maxHeartbeats 400000 in
theorem rleq_is {w : World} {l : List Nat} {av bv : Value} {a b : List Int} (ha : IsI w l av a) (hb : IsI w l bv b) (hn : a.length ≤ 1000000) (hm : b.length ≤ 1000000) : Calls Try.prog 19 #[av, bv] w (RetB (wleqB a b) w) := by
  unfold RetB
  obtain ⟨A, c, rfl, _, _, h1⟩ := ha.open
  obtain ⟨B, c', rfl, _, _, h2⟩ := hb.open
  have hcall := rembed_is ha hb hn hm
  have he := embW_some a b
  generalize embW a b = o at *
  generalize wleqB a b = r at *
  generalize a.length = n at *
  generalize b.length = m at *
  have HA := Lib.hid ha
  have HB := Lib.hid hb
  have H1 := Lib.hid h1
  have H2 := Lib.hid h2
  have HCALL := Lib.hid hcall
  have HE := Lib.hid he
  clear ha hb h1 h2 hcall he
  go_enter Try.func19, Try.ntmps19
  go_wp2_with fail
  refine HCALL.out.mono ?_
  rintro e w1 ⟨hk, ⟨ho, rfl⟩ | ⟨V, cv, p, ho, rfl, hO⟩⟩
  · have hr : r = false := by rw [← HE.out, ho]; rfl
    have HK := Lib.hid hk
    have HO := Lib.hid ho
    have HR := Lib.hid hr
    clear hk ho hr
    go_wp2_with fail
    go_ret
    exact ⟨ret_bo HR.out.symm, HK.out⟩
  · have hr : r = true := by rw [← HE.out, ho]; rfl
    generalize p.length = np at *
    have HK := Lib.hid hk
    have HO := Lib.hid ho
    have HO := Lib.hid hO
    have HR := Lib.hid hr
    clear hk ho hO hr
    go_wp2_with fail
    go_ret
    exact ⟨ret_bo HR.out.symm, HK.out⟩
end Go.Proofs.Ytfhommegkogahaa
