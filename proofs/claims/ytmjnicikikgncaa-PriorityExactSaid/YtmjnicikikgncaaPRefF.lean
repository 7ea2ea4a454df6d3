/- The walk of the reference's find, Embed, Leq. -/
import Derived.Test.YtmjnicikikgncaaPRef
import Derived.Test.YtmjnicikikgncaaPExL
import Derived.Test.YtmjnicikikgncaaPEmbed
namespace Go.Proofs.Ytmjnicikikgncaa
set_option linter.unusedVariables false
open Go.RowKit

set_option maxRecDepth 100000 in
set_option maxHeartbeats 4000000 in
theorem rfind_is : ∀ (a : List Int) {w : World} {l : List Nat} {rv av bv : Value} {r b : List Int} {f : Nat} (hl : ∀ y ∈ l, y < w.heap.size) (hr : IsI w l rv r) (ha : IsI w l av a) (hb : IsI w l bv b) (hn : r.length ≤ 1000) (ham : a.length ≤ 1000) (hm : b.length ≤ 1000) (hx : ∀ x ∈ b, 0 ≤ x ∧ x < r.length) (hxa : ∀ x ∈ a, 0 ≤ x ∧ x < r.length) (hf : f ≤ b.length),
    Calls Try.prog 32 #[rv, av, bv, .int .i64 (f : Int)] w (SrPost (srch (rkF r) a b f) l w) := by
  intro a
  induction a with
  | nil =>
    intro w l rv av bv r b f hl hr ha hb hn ham hm hx hxa hf
    unfold SrPost
    obtain ⟨R, c, rfl, _, _, h1⟩ := hr.open
    obtain ⟨A, c', rfl, _, _, h2⟩ := ha.open
    obtain ⟨B, c2, rfl, _, _, h3⟩ := hb.open
    have hs : srch (rkF r) [] b f = if f = b.length then some [] else none := rfl
    generalize srch (rkF r) [] b f = o at *
    generalize b.length = m at *
    by_cases hfm : f = m
    · rw [if_pos hfm] at hs
      subst hfm
      have H1 := Lib.hid h1
      have H2 := Lib.hid h2
      have H3 := Lib.hid h3
      have HR := Lib.hid hr
      have HA := Lib.hid ha
      have HB := Lib.hid hb
      have HS := Lib.hid hs
      have HX := Lib.hid hx
      have HL := Lib.hid hl
      have HXA := Lib.hid hxa
      clear h1 h2 h3 hr ha hb hs hx hl hxa
      go_enter Try.func32, Try.ntmps32
      go_wp2_with fail
      go_ret2
      exact ⟨Keeps.refl _ _, .inr ⟨none, 0, 0, [], rfl, HS.out, rfl, IsI.nil⟩⟩
    · rw [if_neg hfm] at hs
      have hd : ((f : Int) == (m : Int)) = false := by rw [beq_eq_false_iff_ne]; omega
      have H1 := Lib.hid h1
      have H2 := Lib.hid h2
      have H3 := Lib.hid h3
      have HR := Lib.hid hr
      have HA := Lib.hid ha
      have HB := Lib.hid hb
      have HS := Lib.hid hs
      have HX := Lib.hid hx
      have HL := Lib.hid hl
      have HXA := Lib.hid hxa
      clear h1 h2 h3 hr ha hb hs hx hl hxa
      go_enter Try.func32, Try.ntmps32
      go_wp2_with fail
      go_ret2
      exact ⟨Keeps.refl _ _, .inl ⟨HS.out, rfl⟩⟩
  | cons x a ih =>
    intro w l rv av bv r b f hl hr ha hb hn ham hm hx hxa hf
    unfold SrPost
    obtain ⟨R, c, rfl, _, _, h1⟩ := hr.open
    obtain ⟨A, c', rfl, _, _, h2⟩ := ha.open
    obtain ⟨B, c2, rfl, _, _, h3⟩ := hb.open
    have hxr := hxa x (by simp)
    obtain ⟨xn, rfl⟩ : ∃ i : Nat, x = (i : Int) := ⟨x.toNat, by omega⟩
    obtain ⟨pa, rfl, hpa⟩ := h2.at0 (by simp)
    replace hpa : w.cell? pa = some (.int .i64 (xn : Int)) := hpa
    obtain ⟨A1, hsA, hTA⟩ := slice_from sl_int (show IsL IsN 0 w l (.slice (some pa) ((xn : Int) :: a).length c') ((xn : Int) :: a) from ha) 1 (by simp)
    replace hTA : IsI w l (.slice A1 a.length (c' - 1)) a := hTA
    have hrec := fun (W : World) (k : Keeps [] w W) (p : Nat) (hp : p + 1 ≤ b.length) => ih (w := W) (l := l) (r := r) (b := b) (f := p + 1) (fun y hy => Nat.lt_of_lt_of_le (hl y hy) k.size) (hr.new k) (hTA.new k) (hb.new k) hn (by simp at ham; omega) hm hx (fun z hz => hxa z (by simp [hz])) hp
    simp only [List.length_cons] at *
    replace hsA : ∀ (W : World), (Instr.slice 22 (.slice (some pa) (a.length + 1) c') (some (.int .i64 1)) none none).run Try.prog W = .ok (.slice A1 a.length (c' - 1)) W := fun W => hsA W
    have hfo := fun (i : Nat) (h : FindAt (rkF r) (xn : Int) a b f i) (hf : f ≤ i) (hi : i < b.length) (e : b.getD i 0 = (xn : Int)) (q : List Int) (hq : srch (rkF r) a b (i + 1) = some q) => h.found hf hi e hq
    have hfs := fun (i : Nat) (h : FindAt (rkF r) (xn : Int) a b f i) (hf : f ≤ i) (hr : rkF r (xn : Int) < rkF r (b.getD i 0)) => h.stop hf hr
    have hfd := fun (i : Nat) (h : FindAt (rkF r) (xn : Int) a b f i) (hi : b.length ≤ i) => h.done hi
    have hbr : ∀ k, k < b.length → 0 ≤ b.getD k 0 ∧ b.getD k 0 < r.length := fun k hk => hx _ (getD_mem hk)
    generalize srch (rkF r) ((xn : Int) :: a) b f = o at *
    generalize hna : a.length = n at *
    generalize hn1 : n + 1 = n1 at *
    have hp1 : 1 ≤ n1 := by omega
    have hp3 : 0 < n1 := by omega
    have hp5 : (0 : Int) < (n1 : Int) := by omega
    have hq1 : ((n1 : Int) == 0) = false := by rw [beq_eq_false_iff_ne]; omega
    generalize hbm : b.length = m at *
    generalize hrn : r.length = rn at *
    have hxn : xn < rn := by omega
    obtain ⟨px, rfl, hpx⟩ := h1.at_ hxn
    have hrx : rkF r (xn : Int) = r.getD xn 0 := rfl
    generalize hvx : r.getD xn 0 = vx at *
    have hqx : (0 : Int) ≤ (xn : Int) := by omega
    have hqx2 : (xn : Int) < (rn : Int) := by omega
    clear hxr
    have HN1 := Lib.hid hn1
    have hn1000 : n ≤ 1000 := by omega
    clear hn1 ih
    have H1 := Lib.hid h1
    have H2 := Lib.hid h2
    have H3 := Lib.hid h3
    have HR := Lib.hid hr
    have HA := Lib.hid ha
    have HB := Lib.hid hb
    have HNA := Lib.hid hna
    have HTA := Lib.hid hTA
    have HREC := Lib.hid hrec
    have HX := Lib.hid hx
    have HL := Lib.hid hl
    have HBM := Lib.hid hbm
    have HFO := Lib.hid hfo
    have HFS := Lib.hid hfs
    have HFD := Lib.hid hfd
    have HBR := Lib.hid hbr
    have HRN := Lib.hid hrn
    have HXA := Lib.hid hxa
    have HRX := Lib.hid hrx
    have HVX := Lib.hid hvx
    clear h1 h2 h3 hr ha hb hna hTA hrec hx hl hbm hfo hfs hfd hbr hrn hxa hrx hvx
    go_enter Try.func32, Try.ntmps32
    go_wp2_with fail
    go_loopg [10] (m + 1) (fun gh pv wr => ∃ p : Nat, m + 1 ≤ p + gh ∧ f ≤ p ∧ p ≤ m ∧ pv = .int .i64 (p : Int) ∧ FindAt (rkF r) (xn : Int) a b f p ∧ Keeps [] w wr)
    case atStart => exact ⟨f, by omega, by omega, by omega, rfl, FindAt.start, Keeps.refl _ _⟩
    case round =>
      obtain ⟨p, hgh, hfp, hpm, rfl, hs, hkr⟩ := hrel
      have HS := Lib.hid hs
      have HKR := Lib.hid hkr
      clear hs hkr
      by_cases hlt : p < m
      · obtain ⟨pb, rfl, hpb⟩ := (H3.out.keeps (HKR.out.nil l)).at_ hlt
        have hpa1 := HKR.out.read hpa (by simp)
        have hpx1 := HKR.out.read hpx (by simp)
        have hbr := HBR.out p hlt
        generalize hy : b.getD p 0 = y at *
        have hq2 : (p : Int) < (m : Int) := by omega
        obtain ⟨y, rfl⟩ : ∃ i : Nat, y = (i : Int) := ⟨y.toNat, by omega⟩
        have hyr : y < rn := by omega
        obtain ⟨py, epy, hpy⟩ := (H1.out.keeps (HKR.out.nil l)).at_ hyr
        injection epy with epy
        subst epy
        have hq6 : (0 : Int) ≤ (y : Int) := by omega
        have hq7 : (y : Int) < (rn : Int) := by omega
        have hw1 : IntKind.i64.wrap ((p : Int) + 1) = (p : Int) + 1 := IntWalk.i64_in _ (by omega)
        have hry : rkF r (y : Int) = r.getD y 0 := rfl
        generalize hvy : r.getD y 0 = vy at *
        have HY := Lib.hid hy
        have HRY := Lib.hid hry
        clear hy hry
        clear hbr
        by_cases hxy : (y : Int) = (xn : Int)
        · obtain rfl : y = xn := by omega
          have hd : ((y : Int) == (y : Int)) = true := by simp
          have hvv : vy = vx := by rw [← HRY.out.symm.trans HRX.out] <;> rfl
          have hst := HS.out.step_at hfp HY.out
          have hcr := HREC.out (wr.drewN 1) (HKR.out.drewN 1) p (by omega)
          have hsl : ∀ q, srch (rkF r) a b (p + 1) = some q → q.length = n := fun q h => by rw [srch_len h, HNA.out]
          have hrec := fun (W : World) (k : Keeps [] w W) => HREC.out W k p (by omega)
          generalize ho2 : srch (rkF r) a b (p + 1) = o2 at *
          clear hcr
          have HST := Lib.hid hst
          have HSL := Lib.hid hsl
          have HREC := Lib.hid hrec
          have HO2 := Lib.hid ho2
          clear hst hsl hrec ho2
          go_wp2_with fail
          go_quiet (fail)
          have hk1 : Keeps [] w (wr.drewN nq) := HKR.out.drewN _
          generalize wr.drewN nq = w1 at *
          have hcr := HREC.out w1 hk1
          rw [show ((p + 1 : Nat) : Int) = (p : Int) + 1 from rfl] at hcr
          have HK1 := Lib.hid hk1
          have HCR := Lib.hid hcr
          clear hk1 hcr
          clear hpb hpa1 hpy
          go_wp2_with fail
          refine HCR.out.mono ?_
          rintro e w2 ⟨hk2, ⟨ho, rfl⟩ | ⟨V, nq', cq, q, hnq, ho, rfl, hq⟩⟩
          · have hk2 := HK1.out.trans hk2
            have hst2 := HST.out
            rw [ho] at hst2
            have hmore := HS.out.more hfp (by rw [hst2]; rfl) (by rw [HY.out]; exact Int.le_refl _)
            obtain ⟨pb2, epb, hpb⟩ := (H3.out.keeps (hk2.nil l)).at_ hlt
            injection epb with epb
            subst epb
            rw [HY.out] at hpb
            have hpa1 := hk2.read hpa (by simp)
            obtain ⟨py2, epy, hpy⟩ := (H1.out.keeps (hk2.nil l)).at_ hyr
            injection epy with epy
            subst epy
            rw [hvy] at hpy
            have hd2 : decide (vy < vy) = false := decide_eq_false (Int.lt_irrefl _)
            have HK2 := Lib.hid hk2
            have HST2 := Lib.hid hst2
            have HMORE := Lib.hid hmore
            have HVY := Lib.hid hvy
            clear hk2 hst2 hmore hvy
            clear ho
            go_wp2_with fail
            go_quiet (fail)
            go_wp2_with fail
            go_roundg (m - p)
            case measure => omega
            case rel => exact ⟨p + 1, by omega, by omega, by omega, by go_num, HMORE.out, HK2.out.drewN _⟩
          · have hz1 := HK1.out.size
            have hz2 := hk2.size
            have hk2 := HK1.out.trans hk2
            have hofin := HFO.out p HS.out hfp hlt HY.out q (by rw [HO2.out, ho])
            have hnq4 : nq' ≤ 100000 := by rw [hnq, HSL.out q ho]; omega
            have hown : OwL IsN 0 3 w2.heap.size (w2.alloc (.cells #[.int .i64 (p : Int)] 3)) l (.slice (some ⟨w2.heap.size, 0, none⟩) 1 1) [(p : Int)] := OwL.made1 rfl
            have hu : IsL IsN 0 (w2.alloc (.cells #[.int .i64 (p : Int)] 3)) ((Value.slice (some ⟨w2.heap.size, 0, none⟩) 1 1).ownBlock.toList ++ l) (.slice V nq' cq) q := Rok.keeps (R := IsL IsN 0) (Rok.weak (R := IsL IsN 0) hq fun y hy => by
              rcases List.mem_append.1 hy with h | h
              · have : y = w2.heap.size := by simpa [Value.ownBlock] using h
                exact .inr (by omega)
              · exact .inl h) (((Keeps.refl [] w2).alloc _).nil _)
            have hlz : ∀ y ∈ l, y < w2.heap.size := fun y hy => by have := HL.out y hy; have := hk2.size; omega
            have HOFIN := Lib.hid hofin
            have HOWN := Lib.hid hown
            have HU := Lib.hid hu
            have HK2 := Lib.hid hk2
            have HNQ := Lib.hid hnq
            have HLZ := Lib.hid hlz
            clear hofin hown hu hk2 hnq hlz
            clear ho hq
            go_wp2_with (at_builtin; refine wpList_join sl_int rfl _ _ rfl rfl rfl HOWN.out HU.out (m := 1 + nq') (by rw [HNQ.out]; rfl) (by omega) (by simp) (w0 := w2) (l0 := []) (Nat.le_refl _) ((Keeps.refl _ _).alloc _) ?_; intro V' c3 w3 hown3 hkk3 hk3)
            go_ret2
            have hres := hown3.isL (l := l) HLZ.out
            exact ⟨HK2.out.trans hk3, .inr ⟨V', 1 + nq', c3, (p : Int) :: q, by rw [HNQ.out]; simp [Nat.add_comm], HOFIN.out, rfl, hres⟩⟩
        · have hd : ((y : Int) == (xn : Int)) = false := by rw [beq_eq_false_iff_ne]; exact hxy
          have hs1 : sstep (rkF r) (xn : Int) a b f p = none := sstep_no fun h => hxy (HY.out.symm.trans h.2.1)
          have HS1 := Lib.hid hs1
          have HXY := Lib.hid hxy
          clear hs1 hxy
          by_cases hgt : vx < vy
          · have d2 : decide (vx < vy) = true := decide_eq_true hgt
            have ho : o = none := HFS.out p HS.out hfp (by rw [HY.out, HRY.out, HRX.out]; exact hgt)
            have HO := Lib.hid ho
            clear ho
            go_wp2_with fail
            go_quiet (fail)
            go_wp2_with fail
            go_quiet (fail)
            go_wp2_with fail
            go_ret2
            exact ⟨by first | exact HKR.out.drewN _ | exact (HKR.out.drewN _).drewN _, .inl ⟨HO.out, rfl⟩⟩
          · have d2 : decide (vx < vy) = false := decide_eq_false hgt
            have hmore := HS.out.more hfp HS1.out (by rw [HY.out, HRY.out, HRX.out]; omega)
            have HMORE := Lib.hid hmore
            clear hmore
            go_wp2_with fail
            go_quiet (fail)
            go_wp2_with fail
            go_quiet (fail)
            go_wp2_with fail
            go_roundg (m - p)
            case measure => omega
            case rel => exact ⟨p + 1, by omega, by omega, by omega, by go_num, HMORE.out, HKR.out.drewN _⟩
      · obtain rfl : p = m := by omega
        have ho : o = none := HFD.out p HS.out (Nat.le_refl _)
        have HO := Lib.hid ho
        clear ho
        go_wp2_with fail
        go_ret2
        exact ⟨HKR.out, .inl ⟨HO.out, rfl⟩⟩

set_option maxHeartbeats 2000000 in
theorem rpembed_is {w : World} {l : List Nat} {rv av bv : Value} {r a b : List Int} (hl : ∀ y ∈ l, y < w.heap.size) (hr : IsI w l rv r) (ha : IsI w l av a) (hb : IsI w l bv b) (hn : r.length ≤ 1000) (ham : a.length ≤ 1000) (hm : b.length ≤ 1000) : Calls Try.prog 14 #[rv, av, bv] w (SrPost (embP r a b) l w) := by
  unfold SrPost
  obtain ⟨R, c, rfl, _, _, h1⟩ := hr.open
  obtain ⟨A, c', rfl, _, _, h2⟩ := ha.open
  obtain ⟨B, c2, rfl, _, _, h3⟩ := hb.open
  have hma := rpvalid_is hr ha (by omega) (by omega)
  have hmb := fun W (k : Keeps [] w W) => rpvalid_is (hr.new k) (hb.new k) (by omega) (by omega)
  by_cases hva : PValid r a
  · rw [pvB_true.2 hva] at hma
    by_cases hvb : PValid r b
    · rw [pvB_true.2 hvb] at hmb
      have hrun := fun (W : World) (k : Keeps [] w W) => rfind_is a (w := W) (l := l) (r := r) (b := b) (f := 0) (fun y hy => Nat.lt_of_lt_of_le (hl y hy) k.size) (hr.new k) (ha.new k) (hb.new k) hn ham hm hvb.2.2 hva.2.2 (Nat.zero_le _)
      rw [← embP_yes hva hvb] at hrun
      generalize embP r a b = o at *
      generalize r.length = rn at *
      generalize a.length = n at *
      generalize b.length = m at *
      have H1 := Lib.hid h1
      have H2 := Lib.hid h2
      have H3 := Lib.hid h3
      have HR := Lib.hid hr
      have HA := Lib.hid ha
      have HB := Lib.hid hb
      have HMA := Lib.hid hma
      have HMB := Lib.hid hmb
      have HVA := Lib.hid hva
      have HVB := Lib.hid hvb
      have HL := Lib.hid hl
      have HRUN := Lib.hid hrun
      clear h1 h2 h3 hr ha hb hma hmb hva hvb hl hrun
      go_enter Try.func14, Try.ntmps14
      go_wp2_with fail
      refine HMA.out.mono ?_
      rintro e w1 ⟨rfl, hk1⟩
      have hcb := HMB.out w1 hk1
      have HCB := Lib.hid hcb
      have HK1 := Lib.hid hk1
      clear hcb hk1
      go_wp2_with fail
      refine HCB.out.mono ?_
      rintro e w2 ⟨rfl, hk2⟩
      have hk2 := HK1.out.trans hk2
      have hrun := HRUN.out w2 hk2
      have HK2 := Lib.hid hk2
      have HRUN := Lib.hid hrun
      clear hk2 hrun
      go_wp2_with fail
      refine HRUN.out.mono ?_
      rintro e w3 ⟨hk3, ⟨ho, rfl⟩ | ⟨V, nq, cq, q, hnq, ho, rfl, hq⟩⟩
      · have hk3 := HK2.out.trans hk3
        have HK3 := Lib.hid hk3
        have HO := Lib.hid ho
        clear hk3 ho
        go_wp2_with fail
        go_ret2
        exact ⟨HK3.out, .inl ⟨HO.out, rfl⟩⟩
      · have hk3 := HK2.out.trans hk3
        have HK3 := Lib.hid hk3
        have HO := Lib.hid ho
        have HNQ := Lib.hid hnq
        have HQ := Lib.hid hq
        clear hk3 ho hnq hq
        go_wp2_with fail
        go_ret2
        exact ⟨HK3.out, .inr ⟨V, nq, cq, q, HNQ.out, HO.out, rfl, HQ.out⟩⟩
    · have hemb := embP_no (r := r) (a := a) (b := b) fun h => hvb h.2
      rw [pvB_false.2 hvb] at hmb
      generalize embP r a b = o at *
      generalize r.length = rn at *
      generalize a.length = n at *
      generalize b.length = m at *
      have H1 := Lib.hid h1
      have H2 := Lib.hid h2
      have H3 := Lib.hid h3
      have HR := Lib.hid hr
      have HA := Lib.hid ha
      have HB := Lib.hid hb
      have HMA := Lib.hid hma
      have HMB := Lib.hid hmb
      have HVA := Lib.hid hva
      have HVB := Lib.hid hvb
      have HL := Lib.hid hl
      have HEMB := Lib.hid hemb
      clear h1 h2 h3 hr ha hb hma hmb hva hvb hl hemb
      go_enter Try.func14, Try.ntmps14
      go_wp2_with fail
      refine HMA.out.mono ?_
      rintro e w1 ⟨rfl, hk1⟩
      have hcb := HMB.out w1 hk1
      have HCB := Lib.hid hcb
      have HK1 := Lib.hid hk1
      clear hcb hk1
      go_wp2_with fail
      refine HCB.out.mono ?_
      rintro e w2 ⟨rfl, hk2⟩
      have hk2 := HK1.out.trans hk2
      have HK2 := Lib.hid hk2
      clear hk2
      go_wp2_with fail
      go_ret2
      exact ⟨HK2.out, .inl ⟨HEMB.out, rfl⟩⟩
  · have hemb := embP_no (r := r) (a := a) (b := b) fun h => hva h.1
    rw [pvB_false.2 hva] at hma
    generalize embP r a b = o at *
    generalize r.length = rn at *
    generalize a.length = n at *
    generalize b.length = m at *
    have H1 := Lib.hid h1
    have H2 := Lib.hid h2
    have H3 := Lib.hid h3
    have HR := Lib.hid hr
    have HA := Lib.hid ha
    have HB := Lib.hid hb
    have HMA := Lib.hid hma
    have HMB := Lib.hid hmb
    have HVA := Lib.hid hva
    have HL := Lib.hid hl
    have HEMB := Lib.hid hemb
    clear h1 h2 h3 hr ha hb hma hmb hva hl hemb
    go_enter Try.func14, Try.ntmps14
    go_wp2_with fail
    refine HMA.out.mono ?_
    rintro e w1 ⟨rfl, hk1⟩
    have HK1 := Lib.hid hk1
    clear hk1
    go_wp2_with fail
    go_ret2
    exact ⟨HK1.out, .inl ⟨HEMB.out, rfl⟩⟩

set_option maxHeartbeats 400000 in
theorem rpleq_is {w : World} {l : List Nat} {rv av bv : Value} {r a b : List Int} (hl : ∀ y ∈ l, y < w.heap.size) (hr : IsI w l rv r) (ha : IsI w l av a) (hb : IsI w l bv b) (hn : r.length ≤ 1000) (ham : a.length ≤ 1000) (hm : b.length ≤ 1000) : Calls Try.prog 19 #[rv, av, bv] w (RetB (pleB r a b) w) := by
  unfold RetB
  have hcall := rpembed_is hl hr ha hb hn ham hm
  have he := embP_some r a b
  obtain ⟨R, c, rfl, _, _, h1⟩ := hr.open
  obtain ⟨A, c', rfl, _, _, h2⟩ := ha.open
  obtain ⟨B, c2, rfl, _, _, h3⟩ := hb.open
  generalize embP r a b = o at *
  generalize pleB r a b = q at *
  generalize r.length = rn at *
  generalize a.length = n at *
  generalize b.length = m at *
  have HR := Lib.hid hr
  have HA := Lib.hid ha
  have HB := Lib.hid hb
  have H1 := Lib.hid h1
  have H2 := Lib.hid h2
  have H3 := Lib.hid h3
  have HCALL := Lib.hid hcall
  have HE := Lib.hid he
  have HL := Lib.hid hl
  clear hr ha hb h1 h2 h3 hcall he hl
  go_enter Try.func19, Try.ntmps19
  go_wp2_with fail
  refine HCALL.out.mono ?_
  rintro e w1 ⟨hk, ⟨ho, rfl⟩ | ⟨V, nq, cv, p, hnq, ho, rfl, hO⟩⟩
  · have hr : q = false := by rw [← HE.out, ho]; rfl
    have HK := Lib.hid hk
    have HO := Lib.hid ho
    have HR := Lib.hid hr
    clear hk ho hr
    go_wp2_with fail
    go_ret
    exact ⟨ret_bo HR.out.symm, HK.out⟩
  · have hr : q = true := by rw [← HE.out, ho]; rfl
    have HK := Lib.hid hk
    have HO := Lib.hid ho
    have HO := Lib.hid hO
    have HR := Lib.hid hr
    have HNQ := Lib.hid hnq
    clear hk ho hO hr hnq
    go_wp2_with fail
    go_ret
    exact ⟨ret_bo HR.out.symm, HK.out⟩
end Go.Proofs.Ytmjnicikikgncaa
