/- The walk of priority.Drops. -/
import Derived.Test.YtmjnicikikgncaaPEmbed
import Derived.Test.YtmjnicikikgncaaConcat
import Derived.Test.YtmjnicikikgncaaStep
namespace Go.Proofs.Ytmjnicikikgncaa
set_option linter.unusedVariables false
open Go.RowKit

def pdOk (r a : List Int) (i : Nat) : Bool := decide (rkF r (a.getD i 0) ≤ rkF r (a.getD (i + 1) 0))
theorem pdOk_true {r a : List Int} {i : Nat} : pdOk r a i = true ↔ rkF r (a.getD i 0) ≤ rkF r (a.getD (i + 1) 0) := by simp [pdOk]
def pdropsL (r a : List Int) (n : Nat) : List (List Int) := ((List.range n).filter (pdOk r a)).map (dropAtI a)
theorem pdropsL_yes {r a : List Int} {n : Nat} (h : pdOk r a n = true) : pdropsL r a (n + 1) = pdropsL r a n ++ [dropAtI a n] := by
  unfold pdropsL
  rw [List.range_succ, List.filter_append, List.map_append, List.filter_cons_of_pos h]; rfl
theorem pdropsL_no {r a : List Int} {n : Nat} (h : pdOk r a n = false) : pdropsL r a (n + 1) = pdropsL r a n := by
  unfold pdropsL
  rw [List.range_succ, List.filter_append, List.filter_cons_of_neg (by rw [h]; decide)]; simp
theorem pdropsL_len (r a : List Int) (n : Nat) : (pdropsL r a n).length ≤ n := by
  unfold pdropsL
  rw [List.length_map]
  exact Nat.le_trans (List.length_filter_le _ _) (by simp)
theorem dropAtI_len {a : List Int} {i : Nat} (h : i < a.length) : (dropAtI a i).length = a.length - 1 := by simp [dropAtI]; omega
def IsPDrop (r a x : List Int) : Prop := PValid r a ∧ DropOf (rkF r) a x
theorem pdropsL_mem {r a x : List Int} (h : PValid r a) : x ∈ pdropsL r a (a.length - 1) ↔ IsPDrop r a x := by
  unfold pdropsL IsPDrop DropOf
  rw [List.mem_map]
  constructor
  · rintro ⟨i, hi, rfl⟩
    obtain ⟨h1, h2⟩ := List.mem_filter.1 hi
    have := List.mem_range.1 h1
    exact ⟨h, i, by omega, pdOk_true.1 h2, rfl⟩
  · rintro ⟨_, i, hi, h2, rfl⟩
    exact ⟨i, List.mem_filter.2 ⟨List.mem_range.2 (by omega), pdOk_true.2 h2⟩, rfl⟩

/-- Words that are returned, ascending, each once, in the call's own memory. -/
def WordsPost (ty : TypeId) (l : List Nat) (p : List Int → Prop) (w : World) (e : Ending) (w' : World) : Prop :=
  ∃ A n c ys, n = (ys : List (List Int)).length ∧ e = .returned (.slice A n c) ∧ Asc ys ∧ (∀ x, x ∈ ys ↔ p x) ∧ OwL IsI [] ty w.heap.size w' l (.slice A n c) ys ∧ Keeps [] w w'

set_option maxRecDepth 100000 in
set_option maxHeartbeats 8000000 in
theorem pdrops_is {w : World} {l : List Nat} {rv av : Value} {r a : List Int} (hl : ∀ x ∈ l, x < w.heap.size) (hr : IsI w l rv r) (ha : IsI w l av a) (hn : r.length ≤ 1000) (hm : a.length ≤ 1000) : Calls Try.prog 21 #[rv, av] w (WordsPost 22 l (IsPDrop r a) w) := by
  unfold WordsPost
  obtain ⟨R, c, rfl, _, _, h1⟩ := hr.open
  obtain ⟨A, c', rfl, _, _, h2⟩ := ha.open
  have hma := pvalid_is hr ha (by omega) (by omega)
  by_cases hva : PValid r a
  · rw [pvB_true.2 hva] at hma
    have eg := enters_of Try.func37 (by kernel_rfl) rfl
    have egc := enters_of Try.func39 (by kernel_rfl) rfl
    have ege := enters_of Try.func41 (by kernel_rfl) rfl
    generalize hnr : r.length = rn at *
    generalize hna : a.length = n at *
    have hn12 : n ≤ 12 := by rw [← hna]; exact hva.2.1
    have H1 := Lib.hid h1
    have H2 := Lib.hid h2
    have HNR := Lib.hid hnr
    have HNA := Lib.hid hna
    have HR := Lib.hid hr
    have HA := Lib.hid ha
    have HMA := Lib.hid hma
    have HVA := Lib.hid hva
    have HL := Lib.hid hl
    have EGC := Lib.hid egc
    have EGE := Lib.hid ege
    clear h1 h2 hnr hna hr ha hma hva hl egc ege
    go_enter Try.func21, Try.ntmps21
    go_wp2_with fail
    refine HMA.out.mono ?_
    rintro e w1 ⟨rfl, hk1⟩
    have HK1 := Lib.hid hk1
    clear hk1
    go_wp2_with fail
    go_loopg [5, 6] (n + 1) (fun gh sv kv wr => ∃ (k k2 : Nat) (V : Option Addr) (cv : Nat), n + 1 ≤ k + gh ∧ k ≤ n ∧ k ≤ n - 1 ∧ k2 ≤ k ∧ kv = .int .i64 (k : Int) ∧ sv = .slice V k2 cv ∧ (pdropsL r a k).length = k2 ∧ OwL IsI [] 22 w.heap.size wr l (.slice V k2 cv) (pdropsL r a k) ∧ Keeps [] w wr)
    case atStart => exact ⟨0, 0, none, 0, by omega, by omega, by omega, by omega, rfl, rfl, rfl, OwL.nil, HK1.out⟩
    case round =>
      obtain ⟨k, k2, V, cv, hgh, hk, hk', hkk, rfl, rfl, hlen, hO, hkr⟩ := hrel
      have hz := hkr.size
      have HLEN := Lib.hid hlen
      have HO := Lib.hid hO
      have HKR := Lib.hid hkr
      clear hlen hO hkr
      by_cases hlt : k + 1 < n
      · have hltk : k < n := by omega
        have hq1 : (k : Int) + 1 < (n : Int) := by omega
        have hq2 : (0 : Int) ≤ (k : Int) + 1 := by omega
        have hq3 : (k : Int) < (n : Int) := by omega
        have hkl := HKR.out.nil l
        obtain ⟨pa, rfl, hpa⟩ := (H2.out.keeps hkl).at_ hltk
        obtain ⟨pa2, epa, hpa2⟩ := (H2.out.keeps hkl).at_ hlt
        injection epa with epa
        subst epa
        have hx := HVA.out.2.2 _ (getD_mem (d := 0) (show k < a.length by rw [HNA.out]; exact hltk))
        have hy := HVA.out.2.2 _ (getD_mem (d := 0) (show k + 1 < a.length by rw [HNA.out]; exact hlt))
        have hpd : pdOk r a k = true ↔ rkF r (a.getD k 0) ≤ rkF r (a.getD (k + 1) 0) := pdOk_true
        rw [HNR.out] at hx hy
        generalize a.getD k 0 = x at *
        generalize a.getD (k + 1) 0 = y at *
        obtain ⟨x, rfl⟩ : ∃ i : Nat, x = (i : Int) := ⟨x.toNat, by omega⟩
        obtain ⟨y, rfl⟩ : ∃ i : Nat, y = (i : Int) := ⟨y.toNat, by omega⟩
        have hxn : x < rn := by omega
        have hyn : y < rn := by omega
        obtain ⟨px, rfl, hpx⟩ := (H1.out.keeps hkl).at_ hxn
        obtain ⟨py, epy, hpy⟩ := (H1.out.keeps hkl).at_ hyn
        injection epy with epy
        subst epy
        have hrx : rkF r (x : Int) = r.getD x 0 := rfl
        have hry : rkF r (y : Int) = r.getD y 0 := rfl
        rw [hrx, hry] at hpd
        generalize r.getD x 0 = vx at *
        generalize r.getD y 0 = vy at *
        have hq4 : (0 : Int) ≤ (x : Int) := by omega
        have hq5 : (x : Int) < (rn : Int) := by omega
        have hq6 : (0 : Int) ≤ (y : Int) := by omega
        have hq7 : (y : Int) < (rn : Int) := by omega
        have hq8 : ((k : Int) + 1).toNat = k + 1 := by omega
        have hb9 : k2 + 1 ≤ 1000000000 := by omega
        rw [show pa.add (k + 1) = ⟨pa.block, pa.off + (k + 1), none⟩ by simp [Addr.add]] at hpa2
        clear hkl hrx hry hx hy
        by_cases hle : vx ≤ vy
        · have hsuc := pdropsL_yes (r := r) (a := a) (n := k) (hpd.2 hle)
          have hd1 : decide (vx ≤ vy) = true := decide_eq_true hle
          have HSUC := Lib.hid hsuc
          clear hsuc
          clear hpd
          have hw1 : IntKind.i64.wrap ((k : Int) + 1) = (k : Int) + 1 := IntWalk.i64_in _ (by omega)
          go_wp2_with fail
          go_quiet (fail)
          clear hw1
          obtain ⟨W1, hW1⟩ : ∃ W1, W1 = wr.drewN nq := ⟨_, rfl⟩
          rw [← hW1]
          have hk5 : Keeps [] w W1 := by rw [hW1]; exact HKR.out.drewN _
          have hO5 : OwL IsI [] 22 w.heap.size W1 l (.slice V k2 cv) (pdropsL r a k) := by rw [hW1]; exact HO.out.new ((Keeps.refl _ _).drewN _)
          clear hW1 hpa hpa2 hpx hpy
          have hkd : Keeps [] w W1.drew := hk5.drew
          have hOd : OwL IsI [] 22 w.heap.size W1.drew l (.slice V k2 cv) (pdropsL r a k) := hO5.new ((Keeps.refl _ _).drew)
          have hb1 : ∀ x ∈ (Value.slice V k2 cv).ownBlock.toList ++ l, x < W1.drew.heap.size := hOd.putb fun x hx => Nat.lt_of_lt_of_le (HL.out x hx) hkd.size
          obtain ⟨A1, hs1, hT⟩ := slice_to sl_int (show IsL IsN 0 w l (.slice (some pa) n c') a from HA.out) k hk
          obtain ⟨A2, hs2, hD⟩ := slice_from sl_int (show IsL IsN 0 w l (.slice (some pa) n c') a from HA.out) (k + 1) (by omega)
          have hs2 : ∀ (W : World), (Instr.slice 22 (.slice (some pa) n c') (some (.int .i64 ((k : Int) + 1))) none none).run Try.prog W = .ok (.slice A2 (n - (k + 1)) (c' - (k + 1))) W := fun W => hs2 W
          have hcat := concat2_is (ty := 22) hb1 (hOd.putw (R := IsI) hT hkd (Nat.le_refl _)) (hOd.putw (R := IsI) hD hkd (Nat.le_refl _)) (by rw [List.length_take, HNA.out]; omega) (by rw [List.length_drop, HNA.out]; omega)
          have hzk := hk5.size
          have HKD := Lib.hid hkd
          have HOD := Lib.hid hOd
          have HB1 := Lib.hid hb1
          have HT := Lib.hid hT
          have HD := Lib.hid hD
          have HCAT := Lib.hid hcat
          have HO5 := Lib.hid hO5
          have HK5 := Lib.hid hk5
          clear hkd hOd hb1 hT hD hcat hO5 hk5
          have hw1 : IntKind.i64.wrap ((k : Int) + 1) = (k : Int) + 1 := IntWalk.i64_in _ (by omega)
          go_wp2_with fail
          go_region_law (first
            | (have _t := hcp; refine step_push sl_rowsi rfl (.tmp 34) (.tmp 44) rfl (w := wC) (v := .slice V k2 cv) (by first | (simp [Act.eval]; done) | (simp only [Act.eval, Act.put]; simp; done) | simp [Act.eval, Act.put]) (by first | (simp [Act.eval]; done) | (simp only [Act.eval, Act.put]; simp; done) | simp [Act.eval, Act.put]) hown1 hcp (m := k2 + 1) (by rw [HLEN.out]) hb9 hkC.size (w0 := w) (l0 := []) (Nat.le_refl _) hkC ?_; intro V2 c3 w41 hown2 hg2 hk41)
            | (refine step_call1 rfl 37 (.tmp 42) #[28] rfl eg HCAT.out (by first | (simp [Act.eval]; done) | (simp only [Act.eval, Act.put]; simp; done) | simp [Act.eval, Act.put]) ?_; rintro e wC ⟨Ac, nc, cc, hnc, rfl, hownC, hkC0⟩; refine ⟨_, rfl, ?_⟩; clear hnc; have hcp := hownC.isL HB1.out; have hkC := HKD.out.trans hkC0; have hown1 := HOD.out.new hkC0))
          all_goals
            clear hw1
            have hlen2 : (pdropsL r a (k + 1)).length = k2 + 1 := by rw [HSUC.out, List.length_append, HLEN.out]; rfl
            have HLEN2 := Lib.hid hlen2
            clear hlen2
            go_wp2_with fail
            go_roundg (n - k)
            case measure => omega
            case rel => exact ⟨k + 1, k2 + 1, V2, c3, by omega, by omega, by omega, by omega, by go_num, rfl, HLEN2.out, by rw [HSUC.out]; exact hown2, hk41⟩
        · have hsuc := pdropsL_no (r := r) (a := a) (n := k) (by rw [← Bool.not_eq_true, hpd]; exact hle)
          have hd1 : decide (vx ≤ vy) = false := decide_eq_false hle
          have hlen2 : (pdropsL r a (k + 1)).length = k2 := by rw [hsuc, HLEN.out]
          have HSUC := Lib.hid hsuc
          have HLEN2 := Lib.hid hlen2
          clear hsuc hlen2
          clear hpd
          have hw1 : IntKind.i64.wrap ((k : Int) + 1) = (k : Int) + 1 := IntWalk.i64_in _ (by omega)
          go_wp2_with fail
          go_quiet (fail)
          clear hw1
          go_wp2_with fail
          go_roundg (n - k)
          case measure => omega
          case rel => exact ⟨k + 1, k2, V, cv, by omega, by omega, by omega, by omega, by go_num, rfl, HLEN2.out, by rw [HSUC.out]; exact HO.out.new ((Keeps.refl _ _).drewN _), HKR.out.drewN _⟩
      · have hkn : k = n - 1 := by omega
        have hnk : ¬ ((k : Int) + 1 < (n : Int)) := by omega
        have hx : ∀ x ∈ pdropsL r a k, x.length ≤ 1000000 := fun x hx => by
          obtain ⟨i, hi, rfl⟩ := List.mem_map.1 hx
          have h1 := List.mem_range.1 (List.mem_filter.1 hi).1
          rw [dropAtI_len (by rw [HNA.out]; omega), HNA.out]; omega
        have hmem : ∀ x, x ∈ pdropsL r a k ↔ IsPDrop r a x := fun x => by rw [hkn, ← HNA.out]; exact pdropsL_mem HVA.out
        have hsort := sort_own Try.sorts38 cmpL_swo EGC.out HO.out (cb := #[]) (fun b hb => cmpR_word hx) (by rw [HLEN.out]; omega)
        change Calls Try.prog 38 _ _ _ at hsort
        have hbl := HO.out.blocks
        generalize pdropsL r a k = xs at *
        have HX := Lib.hid hx
        have HMEM := Lib.hid hmem
        have HSORT := Lib.hid hsort
        have HBL := Lib.hid hbl
        clear hx hmem hsort hbl
        clear hkn
        go_wp2_with fail
        refine HSORT.out.mono ?_
        rintro e w3 ⟨rfl, ys, hp, hs, hO3, hk3⟩
        have hyl : ys.length = k2 := by rw [hp.length_eq, HLEN.out]
        have hcomp := compact_rows hO3 (by omega) EGE.out (cb := #[]) (eq := fun a b => decide (a = b)) (fun b hb => eqR_rows fun x h => HX.out x (hp.mem_iff.1 h))
        have hasc := compL_asc hs
        have hk3 := HKR.out.step hk3 fun x hx => .inr (HBL.out x hx).1
        have hbl3 := hO3.blocks
        clear hs
        have HP := Lib.hid hp
        have HO3 := Lib.hid hO3
        have HK3 := Lib.hid hk3
        have HCOMP := Lib.hid hcomp
        have HYL := Lib.hid hyl
        have HASC := Lib.hid hasc
        have HBL3 := Lib.hid hbl3
        clear hp hO3 hk3 hcomp hyl hasc hbl3
        go_wp2_with fail
        refine HCOMP.out.mono ?_
        rintro e w4 ⟨A', c3, rfl, hO4, hk4⟩
        generalize compL (fun a b => decide (a = b)) [] ys = zs at *
        have hys : ∀ x, x ∈ zs ↔ IsPDrop r a x := fun x => (HASC.out.2 x).trans (HP.out.mem_iff.trans (HMEM.out x))
        have hk5 := HK3.out.step hk4 fun x hx => .inr (HBL3.out x hx).1
        generalize hzl : zs.length = m at *
        have HO4 := Lib.hid hO4
        have HK5 := Lib.hid hk5
        have HYS := Lib.hid hys
        have HZL := Lib.hid hzl
        clear hO4 hk5 hys hzl
        clear hk4
        go_wp2_with fail
        go_ret
        exact ⟨A', m, c3, zs, HZL.out.symm, rfl, HASC.out.1, HYS.out, HO4.out, HK5.out⟩
  · rw [pvB_false.2 hva] at hma
    generalize hnr : r.length = rn at *
    generalize hna : a.length = n at *
    have H1 := Lib.hid h1
    have H2 := Lib.hid h2
    have HNR := Lib.hid hnr
    have HNA := Lib.hid hna
    have HR := Lib.hid hr
    have HA := Lib.hid ha
    have HMA := Lib.hid hma
    have HVA := Lib.hid hva
    have HL := Lib.hid hl
    clear h1 h2 hnr hna hr ha hma hva hl
    go_enter Try.func21, Try.ntmps21
    go_wp2_with fail
    refine HMA.out.mono ?_
    rintro e w1 ⟨rfl, hk1⟩
    have HK1 := Lib.hid hk1
    clear hk1
    go_wp2_with fail
    go_ret
    exact ⟨none, 0, 0, [], rfl, rfl, List.Pairwise.nil, fun x => ⟨(fun h => by cases h), fun h => absurd h.1 HVA.out⟩, OwL.nil, HK1.out⟩
end Go.Proofs.Ytmjnicikikgncaa
