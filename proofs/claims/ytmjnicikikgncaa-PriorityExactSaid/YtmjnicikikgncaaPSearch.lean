/- The walks of priority.search, Embed and Leq. -/
import Derived.Test.YtmjnicikikgncaaPCov
import Derived.StillTailTactics
namespace Go.Proofs.Ytmjnicikikgncaa
set_option linter.unusedVariables false
open Go.RowKit

def SrPost (o : Option (List Int)) (l : List Nat) (w : World) (e : Ending) (w' : World) : Prop :=
  Keeps [] w w' ∧ ((o = none ∧ e = .returned (.tuple #[.slice none 0 0, .bool false])) ∨ ∃ A n c q, n = (q : List Int).length ∧ o = some q ∧ e = .returned (.tuple #[.slice A n c, .bool true]) ∧ IsI w' l (.slice A n c) q)

theorem sstep_of {rk : Int → Int} {x : Int} {a b : List Int} {f p : Nat} (h : f ≤ p) (hx : b.getD p 0 = x) (hc : Cov rk b f p) : sstep rk x a b f p = (srch rk a b (p + 1)).map fun q => (p : Int) :: q := sstep_yes ⟨h, hx, hc⟩

theorem srch_len' {rk : Int → Int} {a b : List Int} {f : Nat} {q : List Int} (h : srch rk a b f = some q) : q.length = a.length := srch_len h

set_option maxRecDepth 100000 in
set_option maxHeartbeats 4000000 in
theorem search_is : ∀ (a : List Int) {w : World} {l : List Nat} {rv av bv : Value} {r b : List Int} {f : Nat} (hl : ∀ y ∈ l, y < w.heap.size) (hr : IsI w l rv r) (ha : IsI w l av a) (hb : IsI w l bv b) (hn : r.length ≤ 1000) (ham : a.length ≤ 1000) (hm : b.length ≤ 1000) (hx : ∀ x ∈ b, 0 ≤ x ∧ x < r.length) (hf : f ≤ b.length),
    Calls Try.prog 31 #[rv, av, bv, .int .i64 (f : Int)] w (SrPost (srch (rkF r) a b f) l w) := by
  intro a
  induction a with
  | nil =>
    intro w l rv av bv r b f hl hr ha hb hn ham hm hx hf
    unfold SrPost
    obtain ⟨R, c, rfl, _, _, h1⟩ := hr.open
    obtain ⟨A, c', rfl, _, _, h2⟩ := ha.open
    obtain ⟨B, c2, rfl, _, _, h3⟩ := hb.open
    have hs : srch (rkF r) [] b f = if f = b.length then some [] else none := rfl
    generalize srch (rkF r) [] b f = o at *
    generalize b.length = m at *
    by_cases hfm : f = m
    · rw [if_pos hfm] at hs
      subst hfm
      have H1 := Lib.hid h1
      have H2 := Lib.hid h2
      have H3 := Lib.hid h3
      have HR := Lib.hid hr
      have HA := Lib.hid ha
      have HB := Lib.hid hb
      have HS := Lib.hid hs
      have HX := Lib.hid hx
      have HL := Lib.hid hl
      clear h1 h2 h3 hr ha hb hs hx hl
      go_enter Try.func31, Try.ntmps31
      go_wp2_with fail
      go_ret2
      exact ⟨Keeps.refl _ _, .inr ⟨none, 0, 0, [], rfl, HS.out, rfl, IsI.nil⟩⟩
    · rw [if_neg hfm] at hs
      have hd : ((f : Int) == (m : Int)) = false := by rw [beq_eq_false_iff_ne]; omega
      have H1 := Lib.hid h1
      have H2 := Lib.hid h2
      have H3 := Lib.hid h3
      have HR := Lib.hid hr
      have HA := Lib.hid ha
      have HB := Lib.hid hb
      have HS := Lib.hid hs
      have HX := Lib.hid hx
      have HL := Lib.hid hl
      clear h1 h2 h3 hr ha hb hs hx hl
      go_enter Try.func31, Try.ntmps31
      go_wp2_with fail
      go_ret2
      exact ⟨Keeps.refl _ _, .inl ⟨HS.out, rfl⟩⟩
  | cons x a ih =>
    intro w l rv av bv r b f hl hr ha hb hn ham hm hx hf
    unfold SrPost
    obtain ⟨R, c, rfl, _, _, h1⟩ := hr.open
    obtain ⟨A, c', rfl, _, _, h2⟩ := ha.open
    obtain ⟨B, c2, rfl, _, _, h3⟩ := hb.open
    obtain ⟨pa, rfl, hpa⟩ := h2.at0 (by simp)
    replace hpa : w.cell? pa = some (.int .i64 x) := hpa
    obtain ⟨A1, hsA, hTA⟩ := slice_from sl_int (show IsL IsN 0 w l (.slice (some pa) (x :: a).length c') (x :: a) from ha) 1 (by simp)
    replace hTA : IsI w l (.slice A1 a.length (c' - 1)) a := hTA
    have hrec := fun (W : World) (k : Keeps [] w W) (p : Nat) (hp : p + 1 ≤ b.length) => ih (w := W) (l := l) (r := r) (b := b) (f := p + 1) (fun y hy => Nat.lt_of_lt_of_le (hl y hy) k.size) (hr.new k) (hTA.new k) (hb.new k) hn (by simp at ham; omega) hm hx hp
    have hcov := fun (W : World) (k : Keeps [] w W) (p : Nat) (hp : p < b.length) (hfp : f ≤ p) => covered_is (w := W) (l := l) (f := f) (p := p) (hr.new k) (hb.new k) (by omega) (by omega) hx hfp hp
    have hs0 : srch (rkF r) (x :: a) b f = (List.range b.length).findSome? (sstep (rkF r) x a b f) := srch_cons
    simp only [List.length_cons] at *
    replace hsA : ∀ (W : World), (Instr.slice 22 (.slice (some pa) (a.length + 1) c') (some (.int .i64 1)) none none).run Try.prog W = .ok (.slice A1 a.length (c' - 1)) W := fun W => hsA W
    generalize srch (rkF r) (x :: a) b f = o at *
    generalize hna : a.length = n at *
    generalize hn1 : n + 1 = n1 at *
    have hp1 : 1 ≤ n1 := by omega
    have hp3 : 0 < n1 := by omega
    have hp5 : (0 : Int) < (n1 : Int) := by omega
    have hq1 : ((n1 : Int) == 0) = false := by rw [beq_eq_false_iff_ne]; omega
    generalize hbm : b.length = m at *
    generalize r.length = rn at *
    have HN1 := Lib.hid hn1
    have hn1000 : n ≤ 1000 := by omega
    clear hn1 ih
    have H1 := Lib.hid h1
    have H2 := Lib.hid h2
    have H3 := Lib.hid h3
    have HR := Lib.hid hr
    have HA := Lib.hid ha
    have HB := Lib.hid hb
    have HNA := Lib.hid hna
    have HTA := Lib.hid hTA
    have HREC := Lib.hid hrec
    have HCOV := Lib.hid hcov
    have HS0 := Lib.hid hs0
    have HX := Lib.hid hx
    have HL := Lib.hid hl
    have HBM := Lib.hid hbm
    clear h1 h2 h3 hr ha hb hna hTA hrec hcov hs0 hx hl hbm
    go_enter Try.func31, Try.ntmps31
    go_wp2_with fail
    go_loopg [10, 11, 12] (m + 1) (fun gh pv _ _ wr => ∃ p : Nat, m + 1 ≤ p + gh ∧ f ≤ p ∧ p ≤ m ∧ pv = .int .i64 (p : Int) ∧ (∀ d, d < p → sstep (rkF r) x a b f d = none) ∧ Keeps [] w wr)
    case atStart => exact ⟨f, by omega, by omega, by omega, rfl, fun d hd => sstep_no fun h => by omega, Keeps.refl _ _⟩
    case round =>
      obtain ⟨p, hgh, hfp, hpm, rfl, hs, hkr⟩ := hrel
      have HS := Lib.hid hs
      have HKR := Lib.hid hkr
      clear hs hkr
      by_cases hlt : p < m
      · obtain ⟨pb, rfl, hpb⟩ := (H3.out.keeps (HKR.out.nil l)).at_ hlt
        have hpa1 := HKR.out.read hpa (by simp)
        generalize hy : b.getD p 0 = y at *
        have HY := Lib.hid hy
        clear hy
        have hq2 : (p : Int) < (m : Int) := by omega
        by_cases hxy : y = x
        · have hd : (y != x) = false := by simpa using hxy
          have hcall := HCOV.out wr.drew HKR.out.drew p hlt hfp
          have hcc : covB (rkF r) b f p = true ↔ Cov (rkF r) b f p := covB_true
          generalize covB (rkF r) b f p = q at *
          have HXY := Lib.hid hxy
          have HCALL := Lib.hid hcall
          have HCC := Lib.hid hcc
          clear hxy hcall hcc
          go_wp2_with fail
          go_still_tail 13, (by kernel_rfl)
          change wpList _ _ _ _ _ wr.drew
          go_wp2_with fail
          refine HCALL.out.mono ?_
          rintro e w1 ⟨rfl, hk1⟩
          have hk1 := HKR.out.drew.trans hk1
          cases q with
          | false =>
            have hno : ¬ Cov (rkF r) b f p := fun h => by have := HCC.out.2 h; cases this
            have HK1 := Lib.hid hk1
            have HNO := Lib.hid hno
            clear hk1 hno
            go_wp2_with fail
            go_roundg (m - p)
            case measure => omega
            case rel => exact ⟨p + 1, by omega, by omega, by omega, by go_num, fun d hd => by
              by_cases e : d = p
              · subst e; exact sstep_no fun h => HNO.out h.2.2
              · exact HS.out d (by omega), HK1.out⟩
          | true =>
            have hst := sstep_of (a := a) hfp (HY.out.trans HXY.out) (HCC.out.1 rfl)
            have hcr := HREC.out w1 hk1 p (by omega)
            rw [show ((p + 1 : Nat) : Int) = (p : Int) + 1 from rfl] at hcr
            have hz1 := hk1.size
            have hsl : ∀ q, srch (rkF r) a b (p + 1) = some q → q.length = n := fun q h => by rw [srch_len h, HNA.out]
            generalize srch (rkF r) a b (p + 1) = o2 at *
            have HK1 := Lib.hid hk1
            have HST := Lib.hid hst
            have HCR := Lib.hid hcr
            have HSL := Lib.hid hsl
            clear hk1 hst hcr hsl
            go_wp2_with fail
            refine HCR.out.mono ?_
            rintro e w2 ⟨hk2, ⟨ho, rfl⟩ | ⟨V, nq, cq, q, hnq, ho, rfl, hq⟩⟩
            · have hk2 := HK1.out.trans hk2
              have hst2 := HST.out
              rw [ho] at hst2
              have HK2 := Lib.hid hk2
              have HST2 := Lib.hid hst2
              clear hk2 hst2
              clear ho
              go_wp2_with fail
              go_roundg (m - p)
              case measure => omega
              case rel => exact ⟨p + 1, by omega, by omega, by omega, by go_num, fun d hd => by
                by_cases e : d = p
                · subst e; rw [HST2.out]; rfl
                · exact HS.out d (by omega), HK2.out⟩
            · have hz2 := hk2.size
              have hk2 := HK1.out.trans hk2
              have hst2 := HST.out
              rw [ho] at hst2
              have hofin : o = some ((p : Int) :: q) := by
                rw [HS0.out, findSome_at HS.out (by omega) (by rw [hst2]; rfl), hst2]; rfl
              have hnq4 : nq ≤ 100000 := by rw [hnq, HSL.out q ho]; omega
              have hown : OwL IsN 0 3 w2.heap.size (w2.alloc (.cells #[.int .i64 (p : Int)] 3)) l (.slice (some ⟨w2.heap.size, 0, none⟩) 1 1) [(p : Int)] := OwL.made1 rfl
              have hu : IsL IsN 0 (w2.alloc (.cells #[.int .i64 (p : Int)] 3)) ((Value.slice (some ⟨w2.heap.size, 0, none⟩) 1 1).ownBlock.toList ++ l) (.slice V nq cq) q := Rok.keeps (R := IsL IsN 0) (Rok.weak (R := IsL IsN 0) hq fun y hy => by
                rcases List.mem_append.1 hy with h | h
                · have : y = w2.heap.size := by simpa [Value.ownBlock] using h
                  exact .inr (by omega)
                · exact .inl h) (((Keeps.refl [] w2).alloc _).nil _)
              have hkA : Keeps [] w (w2.alloc (.cells #[.int .i64 (p : Int)] 3)) := hk2.alloc _
              have HOFIN := Lib.hid hofin
              have HOWN := Lib.hid hown
              have HU := Lib.hid hu
              have HKA := Lib.hid hkA
              have HNQ := Lib.hid hnq
              clear hofin hown hu hkA hnq
              clear ho hst2 hq
              go_wp2_with (at_builtin; refine wpList_join sl_int rfl _ _ rfl rfl rfl HOWN.out HU.out (m := 1 + nq) (by rw [HNQ.out]; rfl) (by omega) (by simp) (w0 := w2) (l0 := []) (Nat.le_refl _) ((Keeps.refl _ _).alloc _) ?_; intro V' c3 w3 hown3 hkk3 hk3)
              go_ret2
              have hres := hown3.isL (l := l) (fun y hy => by have := HL.out y hy; omega)
              exact ⟨hk2.trans hk3, .inr ⟨V', 1 + nq, c3, (p : Int) :: q, by rw [HNQ.out]; simp [Nat.add_comm], HOFIN.out, rfl, hres⟩⟩
        · have hd : (y != x) = true := by simpa using hxy
          have HXY := Lib.hid hxy
          clear hxy
          go_wp2_with fail
          go_quiet (fail)
          go_wp2_with fail
          go_roundg (m - p)
          case measure => omega
          case rel => exact ⟨p + 1, by omega, by omega, by omega, by go_num, fun d hd => by
            by_cases e : d = p
            · subst e; exact sstep_no fun h => HXY.out (HY.out.symm.trans h.2.1)
            · exact HS.out d (by omega), HKR.out.drewN _⟩
      · obtain rfl : p = m := by omega
        have ho : o = none := by rw [HS0.out]; exact findSome_none fun d hd => HS.out d hd
        have HO := Lib.hid ho
        clear ho
        go_wp2_with fail
        go_ret2
        exact ⟨HKR.out, .inl ⟨HO.out, rfl⟩⟩
end Go.Proofs.Ytmjnicikikgncaa
