/- The walk of the reference 08's Below. The walks of the reference 08's leq and least. The walk of the reference 08's Above. Pairs of lists of rows, as the law's literal has them. The walk of the law's narrow. What limit's functions return and what the reference's do: the same. A slice of numbers that came in, as a list. A slice of slices of numbers that came in, as a list of lists. -/
import Derived.Test.YtnmkinaokjekjaaGreatE1
import Derived.StillTailTactics
import Derived.Test.YtnmkinaokjekjaaGreatPush
import Derived.Test.YtnmkinaokjekjaaGreatNow
import Derived.Test.YtnmkinaokjekjaaGreatVecF
import Derived.Test.YtnmkinaokjekjaaGreatAbove
import Derived.Test.YtnmkinaokjekjaaGreatUnion
import Derived.Test.YtnmkinaokjekjaaGreatRep
import Derived.Deep.Matrix
namespace Go.Proofs.YtnmkinaokjekjaaGreat
set_option linter.unusedVariables false
open Go.RowKit

set_option maxRecDepth 100000 in
set_option maxHeartbeats 8000000 in
theorem rbelow_is {w : World} {l : List Nat} {cv : Value} {C : List (List Int)} {n : Int} (hlw : ∀ y ∈ l, y < w.heap.size) (h : IsII w l cv C) (hn : C.length ≤ 100000000) (hC : ∀ x ∈ C, x.length ≤ 1000000) :
    Calls Tryz.prog 25 #[.int .i64 n, cv] w (PairR l (bwP n C).1 (bwP n C).2 w) := by
  unfold PairR
  have hargs := rargsF_is (n := n) h hn hC
  have hmp : bwP n C = if cornE n vfB C ≠ 0 then (cornE n vfB C, []) else lim (belF n.toNat C) := rfl
  generalize bwP n C = up at *
  have h' := h
  obtain ⟨A0, c0, V, rfl, _, _, hcell, hval⟩ := h'
  generalize hz : cornE n vfB C = z at *
  by_cases h0 : z = 0
  · subst h0
    have hfin : up = lim (belF n.toNat C) := by rw [hmp, if_neg (by simp)]
    obtain ⟨⟨hn1, hn4⟩, hc12, hcs⟩ := cornE_zero.1 hz
    obtain ⟨m, rfl⟩ : ∃ m : Nat, n = (m : Int) := ⟨n.toNat, by omega⟩
    rw [Int.toNat_natCast] at hfin
    have hcs2 : ∀ c ∈ C, c.length = m ∧ ∀ z ∈ c, 0 ≤ z ∧ z ≤ 1048575 + 1 := fun c hc => ⟨by have := (hcs c hc).1; omega, fun z hz => by have := (vfB_true.1 (hcs c hc).2).el z hz; omega⟩
    have hbp := beyB (n := m) (K := 1048575) (C := C) (by omega) (by omega) (by omega) hcs2
    have htk : ∀ k, k ≤ C.length → (belF m (C.take k)).length ≤ 16777216 ∧ ∀ x ∈ belF m (C.take k), SmV m 1048575 x := fun k hk => by
      have hp := hbp.sub (C' := C.take k) fun c hc => List.mem_of_mem_take hc
      have hb := belF_bey (C.take k) hp
      have h1 := bey_len hb hp
      have h2 : m ^ (C.take k).length ≤ 4 ^ 12 := Nat.le_trans (Nat.pow_le_pow_left (by omega) _) (Nat.pow_le_pow_right (by omega) (by rw [List.length_take]; omega))
      exact ⟨by omega, bey_P hb hp⟩
    have hfl := fun W => rfilled_is m 1099511627776 W (by omega)
    unfold FilPost at hfl
    generalize hCn : C.length = cn at *
    have hm1 : 1 ≤ m := by omega
    have hm4 : m ≤ 4 := by omega
    have HARGS := Lib.hid hargs
    have HFIN := Lib.hid hfin
    have H := Lib.hid h
    have HCELL := Lib.hid hcell
    have HVAL := Lib.hid hval
    have HC := Lib.hid hC
    have HLW := Lib.hid hlw
    have HZ := Lib.hid hz
    have HCS := Lib.hid hcs
    have HCS2 := Lib.hid hcs2
    have HBP := Lib.hid hbp
    have HTK := Lib.hid htk
    have HFL := Lib.hid hfl
    have HCN := Lib.hid hCn
    clear hargs hfin h hcell hval hC hlw hz hcs hcs2 hbp htk hfl hCn
    clear hmp hn1 hn4
    go_enter Tryz.func25, Tryz.ntmps25
    go_wp2_with fail
    refine HARGS.out.mono ?_
    rintro e w1 ⟨rfl, hk1⟩
    have HK1 := Lib.hid hk1
    clear hk1
    go_wp2_with fail
    refine (HFL.out w1).mono ?_
    rintro e w2 ⟨A2, c2, rfl, hO2, hk2⟩
    have hk3 := HK1.out.trans hk2
    have hl2 : ∀ y ∈ l, y < w2.heap.size := fun y hy => Nat.lt_of_lt_of_le (HLW.out y hy) hk3.size
    have hrow2 : IsI w2 l (.slice A2 m c2) (List.replicate m 1099511627776) := by
      have hOc' := hO2.own (by simp; omega)
      rw [List.length_replicate] at hOc'
      obtain ⟨g2, cg, e2, hcg, hg2, hg3, hO7⟩ := hOc'
      obtain ⟨rfl, rfl⟩ : A2 = some ⟨g2, 0, none⟩ ∧ c2 = cg := by injection e2 with e1 _ e3; exact ⟨e1, e3⟩
      exact Own.isI hO7 (fun h => by have := HLW.out _ h; have := HK1.out.size; omega) hcg (by simp) (fun i hi => rfl)
    have hstart : IsII (w2.alloc (.cells #[.slice A2 m c2] 22)) l (.slice (some ⟨w2.heap.size, 0, none⟩) 1 1) (belF m (C.take 0)) := isL_new (xs := [List.replicate m 1099511627776]) hl2 rfl fun i hi => by
      obtain rfl : i = 0 := by simpa using hi
      exact hrow2
    have hk4 := hk3.alloc (.cells #[.slice A2 m c2] 22)
    have HK4 := Lib.hid hk4
    have HSTART := Lib.hid hstart
    clear hk4 hstart
    clear hO2 hk2 hk3 hl2 hrow2
    go_wp2_with fail
    go_loopg [7, 8] (cn + 1) (fun gh sv kv wr => ∃ (k : Nat) (A' : Option Addr) (q c' : Nat), cn + 1 ≤ k + gh ∧ k ≤ cn ∧ kv = .int .i64 (k : Int) ∧ sv = .slice A' q c' ∧ q = (belF m (C.take k)).length ∧ IsII wr l (.slice A' q c') (belF m (C.take k)) ∧ Keeps [] w wr)
    case atStart => exact ⟨0, _, 1, 1, by omega, by omega, rfl, rfl, rfl, HSTART.out, HK4.out⟩
    case round =>
      obtain ⟨k, A', q, c', hgh, hk, rfl, rfl, hq, hI, hkr⟩ := hrel
      generalize wr = wo at *
      have hlo : ∀ y ∈ l, y < wo.heap.size := fun y hy => Nat.lt_of_lt_of_le (HLW.out y hy) hkr.size
      have HQ := Lib.hid hq
      have HI := Lib.hid hI
      have HKR := Lib.hid hkr
      have HLO := Lib.hid hlo
      clear hq hI hkr hlo
      by_cases hlt : k < cn
      · have hcm := getD_mem (d := []) (show k < C.length by rw [HCN.out]; exact hlt)
        obtain ⟨hcl, hce⟩ := HCS2.out _ hcm
        have hce2 : ∀ i, i < m → 0 ≤ (C.getD k []).getD i 0 ∧ (C.getD k []).getD i 0 ≤ 1048576 := fun i hi => by
          have := hce _ (getD_mem (d := 0) (show i < (C.getD k []).length by rw [hcl]; exact hi)); omega
        obtain ⟨pc, epc, hpc0⟩ := (HCELL.out.keeps (HKR.out.nil l)).at_ hlt
        have hrow0 : IsI wo l (V k) (C.getD k []) := (HVAL.out k hlt).keeps (HKR.out.nil l)
        have htks : C.take (k + 1) = C.take k ++ [C.getD k []] := take_snocR (by rw [HCN.out]; exact hlt)
        generalize C.getD k [] = c at *
        obtain ⟨Bc, dc, evc, _, _, hrc⟩ := hrow0.open
        rw [evc] at hpc0
        rw [hcl] at hpc0 hrc
        subst epc
        have HPC := Lib.hid hpc0
        have HCL := Lib.hid hcl
        have HCE := Lib.hid hce
        have HCE2 := Lib.hid hce2
        have HRC := Lib.hid hrc
        have HTKS := Lib.hid htks
        clear hcl hce hce2 hrc htks
        clear hrow0 evc hpc0 hcm
        go_wp2_with fail
        go_loopg [9, 10] (m + 1) (fun gh sv jv wr => ∃ (j : Nat) (A' : Option Addr) (q c' : Nat) (ys : List (List Int)), m + 1 ≤ j + gh ∧ j ≤ m ∧ jv = .int .i64 (j : Int) ∧ sv = .slice A' q c' ∧ q = ys.length ∧ q ≤ j ∧ ys = lessT m c j ∧ OwL IsI [] 22 wo.heap.size wr l (.slice A' q c') ys ∧ Keeps [] wo wr)
        case atStart => exact ⟨0, none, 0, 0, [], by omega, by omega, rfl, rfl, rfl, by omega, rfl, OwL.nil, Keeps.refl _ _⟩
        case round =>
          obtain ⟨j, A3, q3, c3, ys, hgh2, hj, rfl, rfl, hq3, hqj, hys, hO3, hk5⟩ := hrel
          by_cases hltj : j < m
          · have hdj : decide ((j : Int) < (m : Int)) = true := by rw [decide_eq_true_iff]; omega
            obtain ⟨px, epx, hpx0⟩ := HRC.out.at_ hltj
            have hpx0 : wo.cell? (px.add j) = some (.int .i64 (c.getD j 0)) := hpx0
            have hpc := hk5.read HPC.out (by simp)
            have hpx := hk5.read hpx0 (by simp)
            have hcj := HCE2.out j hltj
            have hls := lessT_succ m c j
            rw [← hys] at hls
            subst epx
            generalize c.getD j 0 = x at *
            have HPX := Lib.hid hpx0
            clear hpx0
            by_cases hx0 : 0 < x
            · have hd : decide (0 < x) = true := decide_eq_true hx0
              have hw : IntKind.i64.wrap (x - 1) = x - 1 := IntWalk.i64_in _ (by omega)
              rw [if_pos hx0] at hls
              have HK5 := Lib.hid hk5
              have HQ3 := Lib.hid hq3
              have HYS := Lib.hid hys
              have HO3 := Lib.hid hO3
              have HLS := Lib.hid hls
              clear hq3 hys hO3 hls
              clear hk5
              go_wp2_with fail
              refine (HFL.out wr).mono ?_
              rintro e w6 ⟨A6, c6, rfl, hO6, hk6⟩
              have hOc' := hO6.own (by simp; omega)
              rw [List.length_replicate] at hOc'
              obtain ⟨g2, cg, e2, hcg, hg2, hg3, hO7⟩ := hOc'
              obtain ⟨rfl, rfl⟩ : A6 = some ⟨g2, 0, none⟩ ∧ c6 = cg := by injection e2 with e1 _ e3; exact ⟨e1, e3⟩
              have hk7 := HK5.out.trans hk6
              have ho1 : w6.cell? ⟨g2, j, none⟩ = some (.int .i64 1099511627776) := by have := (hO7 j hltj).1; simpa [List.getD_eq_getElem?_getD, hltj] using this
              have ho2 : w6.frozen? ⟨g2, j, none⟩ = false := (hO7 j hltj).2
              have hpc6 := hk7.read HPC.out (by simp)
              have hpx6 := hk7.read HPX.out (by simp)
              have hk8 : Keeps [g2] w6 (w6.setCell ⟨g2, j, none⟩ (.int .i64 (x - 1))) := (Keeps.refl [g2] w6).setCell (by simp) _
              have hz5 := HK5.out.size
              have hkw8 : Keeps [] wo (w6.setCell ⟨g2, j, none⟩ (.int .i64 (x - 1))) := hk7.step hk8 (fun y hy => .inr (by rw [List.mem_singleton.1 hy]; omega))
              have hne : (Value.slice A3 q3 c3).ownBlock ≠ some g2 := fun e => by have := (HO3.out.lt e).2; omega
              have hgl : g2 ∉ l := fun h => by have := HLO.out _ h; omega
              have hO8 : OwL IsI [] 22 wo.heap.size (w6.setCell ⟨g2, j, none⟩ (.int .i64 (x - 1))) l (.slice A3 q3 c3) ys := HO3.out.keeps ((hk6.nil [g2]).trans hk8) (fun y hy => by rw [List.mem_singleton.1 hy]; exact ⟨.inr hg2, hne⟩)
              have hg2l : g2 ∉ (Value.slice A3 q3 c3).ownBlock.toList ++ l := fun h => by
                rcases List.mem_append.1 h with h | h
                · exact hne (by simpa using h)
                · exact hgl h
              have hnew : IsI (w6.setCell ⟨g2, j, none⟩ (.int .i64 (x - 1))) ((Value.slice A3 q3 c3).ownBlock.toList ++ l) (.slice (some ⟨g2, 0, none⟩) m c6) ((List.replicate m OM).set j (x - 1)) := Own.isI (hO7.updInt hltj (x - 1)) hg2l hcg (by simp) (fun i hi => by
                rw [getD_set _ _ _ _ (by simp; exact hltj)]
                unfold upd
                by_cases e : i = j
                · rw [if_pos e, if_pos e]
                · rw [if_neg e, if_neg e]; rfl)
              have hz8 := hkw8.size
              have HO8 := Lib.hid hO8
              have HNEW := Lib.hid hnew
              have HKW8 := Lib.hid hkw8
              clear hO8 hnew hkw8
              clear hO6 hk6 hO7 hk7 hk8 hne hg2l e2 hpc hpx hgl
              go_wp2_with (at_builtin; go_loud (refine wpList_push sl_rowsi rfl _ _ rfl (w := w6.setCell ⟨g2, j, none⟩ (.int .i64 (x - 1))) (u := .slice (some ⟨g2, 0, none⟩) m c6) (y := (List.replicate m OM).set j (x - 1)) (v := .slice A3 q3 c3) (by rfl) (Eq.trans (b := Value.slice (some ⟨w6.heap.size, 0, none⟩) 1 1) (by rfl) (by simp)) HO8.out HNEW.out (m := q3 + 1) (by rw [← HQ3.out]) (by omega) hz8 (w0 := wo) (l0 := []) (Nat.le_refl _) HKW8.out ?_; intro V' c'' w9 hown9 hg9 hk9))
              have HOWN9 := Lib.hid hown9
              have HK9 := Lib.hid hk9
              clear hown9 hk9
              clear hg9
              go_roundg (m - j)
              case measure => omega
              case rel => exact ⟨j + 1, V', q3 + 1, c'', ys ++ [(List.replicate m OM).set j (x - 1)], by omega, by omega, by go_num, rfl, by simp [← HQ3.out], by omega, HLS.out.symm, HOWN9.out, HK9.out⟩
            · have hd : decide (0 < x) = false := decide_eq_false hx0
              rw [if_neg hx0, List.append_nil] at hls
              have HK5 := Lib.hid hk5
              have HQ3 := Lib.hid hq3
              have HYS := Lib.hid hys
              have HO3 := Lib.hid hO3
              have HLS := Lib.hid hls
              clear hq3 hys hO3 hls
              clear hk5
              go_wp2_with fail
              go_roundg (m - j)
              case measure => omega
              case rel => exact ⟨j + 1, A3, q3, c3, ys, by omega, by omega, by go_num, rfl, HQ3.out, by omega, HLS.out.symm, HO3.out, HK5.out⟩
          · obtain rfl : j = m := by omega
            have hdj : decide ((j : Int) < (j : Int)) = false := by simp
            obtain ⟨hb1, hb2⟩ := HTK.out k (by omega)
            have hl3 := lessT_len j c j
            have hle : IsII wr l (.slice A3 q3 c3) (lessT j c j) := by rw [← hys]; exact hO3.isL HLO.out
            have hcom := rcommon_is (n := j) (fun y hy => Nat.lt_of_lt_of_le (HLO.out y hy) hk5.size) (IsII.new HI.out hk5) hle (by omega) (by omega) (Nat.le_trans (Nat.mul_le_mul hb1 (Nat.le_trans hl3 hm4)) (by decide)) (fun x hx => by
              rcases hx with hx | hx
              · exact ⟨(hb2 x hx).val (by omega) (by omega), (hb2 x hx).len⟩
              · exact lessT_val (Nat.le_refl _) (by omega) HCE2.out hx)
            have hpe := prod_less (c := c) (out := belF j (C.take k)) fun v hv => ⟨(hb2 v hv).len, fun x hx => by rcases (hb2 v hv).el x hx with h | h <;> unfold OM at * <;> omega⟩
            rw [hpe, ← belF_snoc, ← HTKS.out] at hcom
            have hk6 := HKR.out.trans hk5
            have HCOM := Lib.hid hcom
            have HQ3 := Lib.hid hq3
            have HYS := Lib.hid hys
            have HO3 := Lib.hid hO3
            have HK6 := Lib.hid hk6
            clear hq3 hys hO3 hk6
            clear hle hb1 hb2 hpe hk5 hcom
            go_wp2_with fail
            refine HCOM.out.mono ?_
            rintro e w7 ⟨hk7, A7, n7, c7, hn7, rfl, hI7⟩
            have hk8 := HK6.out.trans hk7
            have HK8 := Lib.hid hk8
            have HN7 := Lib.hid hn7
            have HI7 := Lib.hid hI7
            clear hk8 hn7 hI7
            clear hk7
            go_wp2_with fail
            go_roundg (cn - k)
            case measure => omega
            case rel => exact ⟨k + 1, A7, n7, c7, by omega, by omega, by go_num, rfl, HN7.out, HI7.out, HK8.out⟩
      · obtain rfl : k = cn := by omega
        have htc : C.take k = C := List.take_of_length_le (by rw [HCN.out]; exact Nat.le_refl _)
        have hq2 := HQ.out
        have hI2 := HI.out
        rw [htc] at hq2 hI2
        have hl2 := rlimited_is hq2 hI2
        rw [← HFIN.out] at hl2
        have HL2 := Lib.hid hl2
        clear hl2
        clear hq2 hI2 htc
        go_wp2_with fail
        refine HL2.out.mono ?_
        rintro e w6 ⟨rfl, A6, n6, c6, hn6, rfl, hI6⟩
        have HN6 := Lib.hid hn6
        have HI6 := Lib.hid hI6
        clear hn6 hI6
        go_wp2_with fail
        go_ret2
        exact ⟨HKR.out, A6, n6, c6, HN6.out, rfl, HI6.out⟩
  · have ht : (z != 0) = true := by simpa using h0
    have hfin : up = (z, []) := by rw [hmp, if_pos h0]
    have HARGS := Lib.hid hargs
    have HFIN := Lib.hid hfin
    have H := Lib.hid h
    have HCELL := Lib.hid hcell
    have HVAL := Lib.hid hval
    have HC := Lib.hid hC
    have HLW := Lib.hid hlw
    have HZ := Lib.hid hz
    have H0 := Lib.hid h0
    clear hargs hfin h hcell hval hC hlw hz h0
    clear hmp
    go_enter Tryz.func25, Tryz.ntmps25
    go_wp2_with fail
    refine HARGS.out.mono ?_
    rintro e w1 ⟨rfl, hk1⟩
    have HK1 := Lib.hid hk1
    clear hk1
    go_wp2_with fail
    go_ret2
    exact ⟨HK1.out, none, 0, 0, by rw [HFIN.out]; rfl, by rw [HFIN.out]; first | rfl | skip, by rw [HFIN.out]; exact IsL.nil⟩
end Go.Proofs.YtnmkinaokjekjaaGreat

namespace Go.Proofs.YtnmkinaokjekjaaGreat
set_option linter.unusedVariables false
open Go.RowKit

set_option maxHeartbeats 1000000 in
theorem rlq_is {w : World} {l : List Nat} {av bv : Value} {a b : List Int} (ha : IsI w l av a) (hb : IsI w l bv b) (hl : a.length ≤ b.length) (hn : b.length ≤ 1000000) : Calls Tryz.prog 88 #[av, bv] w (RetB (pleB a b) w) := by
  unfold RetB
  have hB := pleB_true (a := a) (b := b)
  generalize pleB a b = r at *
  obtain ⟨A, c, rfl, _, _, hca⟩ := ha.open
  obtain ⟨B, d, rfl, _, _, hcb⟩ := hb.open
  generalize han : a.length = p at *
  generalize hbn : b.length = q at *
  have HB := Lib.hid hB
  have HCA := Lib.hid hca
  have HCB := Lib.hid hcb
  have HAN := Lib.hid han
  have HBN := Lib.hid hbn
  have HA := Lib.hid ha
  have HB := Lib.hid hb
  clear hB hca hcb han hbn ha hb
  go_enter Tryz.func88, Tryz.ntmps88
  go_wp2_with fail
  go_loopg [5] (p + 1) (fun gh iv wr => ∃ k : Nat, p + 1 ≤ k + gh ∧ k ≤ p ∧ iv = .int .i64 (k : Int) ∧ (∀ i, i < k → a.getD i 0 ≤ b.getD i 0) ∧ Keeps [] w wr)
  case atStart => exact ⟨0, by omega, by omega, rfl, fun i hi => by omega, Keeps.refl _ _⟩
  case round =>
    obtain ⟨k, hgh, hk, rfl, hs, hkr⟩ := hrel
    have HS := Lib.hid hs
    clear hs
    by_cases hlt : k < p
    · obtain ⟨pa, rfl, hpa0⟩ := HCA.out.at_ hlt
      obtain ⟨pb, rfl, hpb0⟩ := HCB.out.at_ (show k < q by omega)
      have hpa0 : w.cell? (pa.add k) = some (.int .i64 (a.getD k 0)) := hpa0
      have hpb0 : w.cell? (pb.add k) = some (.int .i64 (b.getD k 0)) := hpb0
      have hpa := hkr.read hpa0 (by simp)
      have hpb := hkr.read hpb0 (by simp)
      have hltq : (k : Int) < (q : Int) := by omega
      have hltp : (k : Int) < (p : Int) := by omega
      clear hpa0 hpb0
      have HKR := Lib.hid hkr
      clear hkr
      generalize hxe : a.getD k 0 = x at *
      generalize hye : b.getD k 0 = y at *
      by_cases hxy : y < x
      · have hd : decide (y < x) = true := decide_eq_true hxy
        have hr : r = false := by
          cases r with
          | false => rfl
          | true =>
            have := HB.out.1 rfl k hlt
            rw [hxe, hye] at this; omega
        have HR := Lib.hid hr
        have HXE := Lib.hid hxe
        have HYE := Lib.hid hye
        clear hr hxe hye
        go_wp2_with fail
        go_quiet (fail)
        go_wp2_with fail
        go_ret
        exact ⟨ret_b HR.out, HKR.out.drewN _⟩
      · have hd : decide (y < x) = false := decide_eq_false hxy
        have h0 : ∀ i, i < k + 1 → a.getD i 0 ≤ b.getD i 0 := fun i hi => by
          by_cases e : i = k
          · rw [e, hxe, hye]; omega
          · exact HS.out i (by omega)
        have H0 := Lib.hid h0
        have HXE := Lib.hid hxe
        have HYE := Lib.hid hye
        clear h0 hxe hye
        go_wp2_with fail
        go_quiet (fail)
        go_wp2_with fail
        go_roundg (p - k)
        case measure => omega
        case rel => exact ⟨k + 1, by omega, by omega, by go_num, H0.out, HKR.out.drewN _⟩
    · obtain rfl : k = p := by omega
      have hr : r = true := HB.out.2 (fun i hi => HS.out i hi)
      have HKR := Lib.hid hkr
      have HR := Lib.hid hr
      clear hr
      clear hkr
      go_wp2_with fail
      go_ret
      exact ⟨ret_b HR.out, HKR.out⟩

theorem any_take {L : List (List Int)} {f : List Int → Bool} {k : Nat} (hk : k < L.length) : (L.take (k + 1)).any f = ((L.take k).any f || f (L.getD k [])) := by
  rw [take_snocR hk, List.any_append]; simp

set_option maxRecDepth 100000 in
set_option maxHeartbeats 8000000 in
theorem rleast_is {w : World} {l : List Nat} {lv : Value} {L : List (List Int)} {n : Nat} (hlw : ∀ y ∈ l, y < w.heap.size) (h : IsII w l lv L) (hn : L.length ≤ 100000000) (hL : ∀ x ∈ L, x.length = n) (hn6 : n ≤ 1000000) :
    Calls Tryz.prog 63 #[lv] w (RowsP l (leastL L) w) := by
  unfold RowsP leastL
  have h' := h
  obtain ⟨A0, c0, V, rfl, _, _, hcell, hval⟩ := h'
  have hinv := leastF_inv L
  have hsn := leastF_snoc L
  generalize hLn : L.length = m at *
  have HLW := Lib.hid hlw
  have H := Lib.hid h
  have HCELL := Lib.hid hcell
  have HVAL := Lib.hid hval
  have HLN := Lib.hid hLn
  have HL := Lib.hid hL
  have HINV := Lib.hid hinv
  have HSN := Lib.hid hsn
  clear hlw h hcell hval hLn hL hinv hsn
  go_enter Tryz.func63, Tryz.ntmps63
  go_wp2_with fail
  go_loopg [3, 4] (m + 1) (fun gh sv kv wr => ∃ (k : Nat) (A' : Option Addr) (q c' : Nat), m + 1 ≤ k + gh ∧ k ≤ m ∧ kv = .int .i64 (k : Int) ∧ sv = .slice A' q c' ∧ q = (leastF L (L.take k)).length ∧ IsII wr l (.slice A' q c') (leastF L (L.take k)) ∧ Keeps [] w wr)
  case atStart => exact ⟨0, none, 0, 0, by omega, by omega, rfl, rfl, rfl, (IsL.nil : IsII w l (.slice none 0 0) []), Keeps.refl _ _⟩
  case round =>
    obtain ⟨k, A', q, c', hgh, hk, rfl, rfl, hq, hI, hkr⟩ := hrel
    generalize wr = wo at *
    have HKO := Lib.hid hkr
    have HQ := Lib.hid hq
    have HI := Lib.hid hI
    clear hq hI
    clear hkr
    by_cases hlt : k < m
    · have hkm : (k : Int) < (m : Int) := by omega
      have hcol : ∃ x, x = L.getD k [] := ⟨_, rfl⟩
      obtain ⟨x, hx⟩ := hcol
      have hxm : x ∈ L := by rw [hx]; exact getD_mem (d := []) (by rw [HLN.out]; exact hlt)
      have hxl := HL.out x hxm
      obtain ⟨pi, epi, hpi0⟩ := (HCELL.out.keeps (HKO.out.nil l)).at_ hlt
      have hxi : IsI wo l (V k) x := by rw [hx]; exact (HVAL.out k hlt).keeps (HKO.out.nil l)
      obtain ⟨Bx, dx, ex, _⟩ := hxi.open
      rw [ex] at hpi0 hxi
      rw [hxl] at hpi0 hxi
      subst epi
      have HPI := Lib.hid hpi0
      have hls : leastF L (L.take (k + 1)) = if badB L x = true then leastF L (L.take k) else putL (leastF L (L.take k)) x := by
        rw [take_snocR (show k < L.length by rw [HLN.out]; exact hlt), ← hx]; exact HSN.out _ _
      have HX := Lib.hid hx
      have HXM := Lib.hid hxm
      have HXL := Lib.hid hxl
      have HXI := Lib.hid hxi
      have HLS := Lib.hid hls
      clear hx hxm hxl hxi hls
      clear ex hpi0
      go_wp2_with fail
      go_loopg [5, 6] (m + 1) (fun gh bv jv wr => ∃ (j : Nat) (mb : Bool), m + 1 ≤ j + gh ∧ j ≤ m ∧ jv = .int .i64 (j : Int) ∧ bv = .bool mb ∧ mb = !((L.take j).any fun y => !decide (x = y) && pleB y x) ∧ Keeps [] wo wr)
      case atStart => exact ⟨0, true, by omega, by omega, rfl, rfl, rfl, Keeps.refl _ _⟩
      case round =>
        obtain ⟨j, mb, hgh2, hj, rfl, rfl, hmb, hkr⟩ := hrel
        by_cases hltj : j < m
        · have hjm : (j : Int) < (m : Int) := by omega
          have hpi := hkr.read HPI.out (by simp)
          obtain ⟨pj, epj, hpj⟩ := (HCELL.out.keeps ((HKO.out.trans hkr).nil l)).at_ hltj
          obtain rfl : pi = pj := by injection epj
          have hyi : IsI wr l (V j) (L.getD j []) := (HVAL.out j hltj).keeps ((HKO.out.trans hkr).nil l)
          have hyl := HL.out _ (getD_mem (d := []) (show j < L.length by rw [HLN.out]; exact hltj))
          have hat := any_take (f := fun y => !decide (x = y) && pleB y x) (show j < L.length by rw [HLN.out]; exact hltj)
          generalize L.getD j [] = y at *
          obtain ⟨By, dy, ey, _⟩ := hyi.open
          rw [ey] at hpj hyi
          rw [hyl] at hpj hyi
          have hxr := IsI.new HXI.out hkr
          have hsame := fun W (kp : Keeps [] wr W) => same_is (IsI.new hxr kp) (IsI.new hyi kp) (by rw [HXL.out]; omega) (by omega)
          have hlq := fun W (kp : Keeps [] wr W) => rlq_is (IsI.new hyi kp) (IsI.new hxr kp) (by rw [HXL.out]; omega) (by rw [HXL.out]; omega)
          have hst : ∀ u, u = (!decide (x = y) && pleB y x) → (if u = true then false else mb) = !((L.take (j + 1)).any fun y => !decide (x = y) && pleB y x) := fun u hu => by
            rw [hat, ← hu, hmb]; cases u <;> simp
          have HKR := Lib.hid hkr
          clear hkr ey hyi hxr hat hmb
          cases hde : decide (x = y) with
          | true =>
            have hst := hst false (by rw [hde]; rfl)
            rw [if_neg (by simp)] at hst
            rw [hde] at hsame
            have HSAME := Lib.hid hsame
            have HLQ := Lib.hid hlq
            have HST := Lib.hid hst
            have HYL := Lib.hid hyl
            clear hsame hlq hst hyl
            clear hde
            go_upto_region 9 with fail
            refine wp_quietk (l0 := []) (by kernel_rfl) (by kernel_rfl) ?_
            repeat ((with_reducible refine wpQuiet_step (fun K hK => ?_)); go_simp; first
              | ((with_reducible refine hK _ ?_); clear hK K)
              | (rw [if_neg (by intro h; cases h)]; (with_reducible refine hK _ ?_); clear hK K)
              | (apply Exists.intro; refine ⟨fun W hW => ?_, hK _ ?_⟩
                 · first
                     | with_reducible exact Eq.refl _
                     | ((have hq1 := hW.read hpi (by simp); have hq2 := hW.read hpj (by simp)); (try go_simp); with_reducible first | done | exact Eq.refl _ | exact ⟨Eq.refl _, Eq.refl _⟩)
                     | ((first | (refine (HSAME.out W hW).mono ?_; rintro e w10 ⟨rfl, hk⟩; exact ⟨Eq.refl _, hW.trans (quiet_keeps hk)⟩) | (refine (HLQ.out W hW).mono ?_; rintro e w10 ⟨rfl, hk⟩; exact ⟨Eq.refl _, hW.trans hk⟩)))
                 clear hK K))
            with_reducible refine wpQuiet_nil ?_
            intro w9 hk9
            have hk10 := HKR.out.trans hk9
            have HK10 := Lib.hid hk10
            clear hk10
            clear hk9 hpi hpj
            go_wp2_with fail
            go_roundg (m - j)
            case measure => omega
            case rel => exact ⟨j + 1, _, by omega, by omega, by go_num, rfl, HST.out, HK10.out⟩
          | false =>
            rw [hde] at hsame hst
            cases hpe : pleB y x with
            | true =>
              have hst := hst true (by rw [hpe]; rfl)
              rw [if_pos rfl] at hst
              rw [hpe] at hlq
              have HSAME := Lib.hid hsame
              have HLQ := Lib.hid hlq
              have HST := Lib.hid hst
              have HYL := Lib.hid hyl
              clear hsame hlq hst hyl
              clear hde hpe
              go_upto_region 9 with fail
              refine wp_quietk (l0 := []) (by kernel_rfl) (by kernel_rfl) ?_
              repeat ((with_reducible refine wpQuiet_step (fun K hK => ?_)); go_simp; first
                | ((with_reducible refine hK _ ?_); clear hK K)
                | (rw [if_neg (by intro h; cases h)]; (with_reducible refine hK _ ?_); clear hK K)
                | (apply Exists.intro; refine ⟨fun W hW => ?_, hK _ ?_⟩
                   · first
                       | with_reducible exact Eq.refl _
                       | ((have hq1 := hW.read hpi (by simp); have hq2 := hW.read hpj (by simp)); (try go_simp); with_reducible first | done | exact Eq.refl _ | exact ⟨Eq.refl _, Eq.refl _⟩)
                       | ((first | (refine (HSAME.out W hW).mono ?_; rintro e w10 ⟨rfl, hk⟩; exact ⟨Eq.refl _, hW.trans (quiet_keeps hk)⟩) | (refine (HLQ.out W hW).mono ?_; rintro e w10 ⟨rfl, hk⟩; exact ⟨Eq.refl _, hW.trans hk⟩)))
                   clear hK K))
              with_reducible refine wpQuiet_nil ?_
              intro w9 hk9
              have hk10 := HKR.out.trans hk9
              have HK10 := Lib.hid hk10
              clear hk10
              clear hk9 hpi hpj
              go_wp2_with fail
              go_roundg (m - j)
              case measure => omega
              case rel => exact ⟨j + 1, _, by omega, by omega, by go_num, rfl, HST.out, HK10.out⟩
            | false =>
              have hst := hst false (by rw [hpe]; rfl)
              rw [if_neg (by simp)] at hst
              rw [hpe] at hlq
              have HSAME := Lib.hid hsame
              have HLQ := Lib.hid hlq
              have HST := Lib.hid hst
              have HYL := Lib.hid hyl
              clear hsame hlq hst hyl
              clear hde hpe
              go_upto_region 9 with fail
              refine wp_quietk (l0 := []) (by kernel_rfl) (by kernel_rfl) ?_
              repeat ((with_reducible refine wpQuiet_step (fun K hK => ?_)); go_simp; first
                | ((with_reducible refine hK _ ?_); clear hK K)
                | (rw [if_neg (by intro h; cases h)]; (with_reducible refine hK _ ?_); clear hK K)
                | (apply Exists.intro; refine ⟨fun W hW => ?_, hK _ ?_⟩
                   · first
                       | with_reducible exact Eq.refl _
                       | ((have hq1 := hW.read hpi (by simp); have hq2 := hW.read hpj (by simp)); (try go_simp); with_reducible first | done | exact Eq.refl _ | exact ⟨Eq.refl _, Eq.refl _⟩)
                       | ((first | (refine (HSAME.out W hW).mono ?_; rintro e w10 ⟨rfl, hk⟩; exact ⟨Eq.refl _, hW.trans (quiet_keeps hk)⟩) | (refine (HLQ.out W hW).mono ?_; rintro e w10 ⟨rfl, hk⟩; exact ⟨Eq.refl _, hW.trans hk⟩)))
                   clear hK K))
              with_reducible refine wpQuiet_nil ?_
              intro w9 hk9
              have hk10 := HKR.out.trans hk9
              have HK10 := Lib.hid hk10
              clear hk10
              clear hk9 hpi hpj
              go_wp2_with fail
              go_roundg (m - j)
              case measure => omega
              case rel => exact ⟨j + 1, _, by omega, by omega, by go_num, rfl, HST.out, HK10.out⟩
        · obtain rfl : j = m := by omega
          have htj : L.take j = L := List.take_of_length_le (by rw [HLN.out]; exact Nat.le_refl _)
          rw [htj] at hmb
          have hls := HLS.out
          have hbb : badB L x = !mb := by rw [hmb]; unfold badB; simp
          rw [hbb] at hls
          obtain ⟨hi1, hi2, hi3⟩ := HINV.out (L.take k)
          have hpi := hkr.read HPI.out (by simp)
          have hk4 := HKO.out.trans hkr
          cases mb with
          | true =>
            rw [if_neg (by simp)] at hls
            have hput := put_is (fun y hy => Nat.lt_of_lt_of_le (HLW.out y hy) hk4.size) (IsII.new HI.out hkr) (IsI.new HXI.out hkr) (Nat.le_trans hi3 (by rw [List.length_take, HLN.out]; omega)) (fun y hy => by rw [HL.out y (List.mem_of_mem_take ((hi2 y).1 hy).1)]; omega) (by rw [HXL.out]; omega)
            unfold PutPost at hput
            rw [← hls] at hput
            have HPUT := Lib.hid hput
            have HLS := Lib.hid hls
            have HBB := Lib.hid hbb
            have HK4 := Lib.hid hk4
            clear hls hbb hk4
            clear hput hi1 hi2 hi3 hmb htj hkr
            go_wp2_with fail
            refine HPUT.out.mono ?_
            rintro e w7 ⟨A7, m7, c7, rfl, hI7, hk7⟩
            have hk8 := HK4.out.trans hk7
            have hn7 : m7 = (leastF L (L.take (k + 1))).length := by obtain ⟨_, _, _, e, _⟩ := hI7; injection e
            have HK8 := Lib.hid hk8
            have HI7 := Lib.hid hI7
            have HN7 := Lib.hid hn7
            clear hk8 hI7 hn7
            clear hk7
            go_wp2_with fail
            go_roundg (j - k)
            case measure => omega
            case rel => exact ⟨k + 1, A7, m7, c7, by omega, by omega, by go_num, rfl, HN7.out, HI7.out, HK8.out⟩
          | false =>
            rw [if_pos (by simp)] at hls
            have hI2 := IsII.new HI.out hkr
            have hq2 := HQ.out
            rw [← hls] at hI2 hq2
            have HLS := Lib.hid hls
            have HBB := Lib.hid hbb
            have HK4 := Lib.hid hk4
            have HI2 := Lib.hid hI2
            have HQ2 := Lib.hid hq2
            clear hls hbb hk4 hI2 hq2
            clear hi1 hi2 hi3 hmb htj hkr
            go_wp2_with fail
            go_roundg (j - k)
            case measure => omega
            case rel => exact ⟨k + 1, A', q, c', by omega, by omega, by go_num, rfl, HQ2.out, HI2.out, HK4.out⟩
    · obtain rfl : k = m := by omega
      have htk : L.take k = L := List.take_of_length_le (by rw [HLN.out]; exact Nat.le_refl _)
      have hq2 := HQ.out
      have hI2 := HI.out
      rw [htk] at hq2 hI2
      have HQ2 := Lib.hid hq2
      have HI2 := Lib.hid hI2
      clear hq2 hI2
      clear htk
      go_wp2_with fail
      go_ret
      exact ⟨HKO.out, A', q, c', HQ2.out, rfl, HI2.out⟩
end Go.Proofs.YtnmkinaokjekjaaGreat

namespace Go.Proofs.YtnmkinaokjekjaaGreat
set_option linter.unusedVariables false
open Go.RowKit

theorem abv_lim {n : Int} {R : List (List Int)} {z : Int × List (List Int)} (hz : z = if eachL n vfB R ≠ 0 then (1, []) else lim R) : (∀ x ∈ R, vfB x = false → z = (1, [])) ∧ ((∀ x ∈ R, (x.length : Int) = n ∧ vfB x = true) → z = lim R) := by
  refine ⟨fun x hx hf => ?_, fun h => ?_⟩
  · rw [hz, if_pos]
    intro h0
    have := (eachL_zero.1 h0 x hx).2
    rw [hf] at this; cases this
  · rw [hz, eachL_zero.2 h, if_neg (by simp)]
set_option maxRecDepth 100000 in
set_option maxHeartbeats 16000000 in
theorem rabove_is {w : World} {l : List Nat} {cv : Value} {C : List (List Int)} {n : Int} (hlw : ∀ y ∈ l, y < w.heap.size) (h : IsII w l cv C) (hn : C.length ≤ 100000000) (hC : ∀ x ∈ C, x.length ≤ 1000000) :
    Calls Tryz.prog 27 #[.int .i64 n, cv] w (PairR l (abP n C).1 (abP n C).2 w) := by
  unfold PairR
  have hargs := rargsV_is (n := n) h hn hC
  have hmp : abP n C = if cornE n vvB C ≠ 0 then (cornE n vvB C, []) else if eachL n vfB (abvF n.toNat C) ≠ 0 then (1, []) else lim (abvF n.toNat C) := rfl
  generalize abP n C = up at *
  have h' := h
  obtain ⟨A0, c0, V, rfl, _, _, hcell, hval⟩ := h'
  generalize hz : cornE n vvB C = z at *
  by_cases h0 : z = 0
  · subst h0
    rw [if_neg (by simp)] at hmp
    have hfin := abv_lim hmp
    obtain ⟨⟨hn1, hn4⟩, hc12, hcs⟩ := cornE_zero.1 hz
    obtain ⟨m, rfl⟩ : ∃ m : Nat, n = (m : Int) := ⟨n.toNat, by omega⟩
    rw [Int.toNat_natCast] at hfin
    have hcs2 : ∀ c ∈ C, SmV m 1048576 c := fun c hc => ⟨by have := (hcs c hc).1; omega, fun z hz => (vvB_true.1 (hcs c hc).2).el z hz⟩
    have hbp := beyA (n := m) (K := 1048576) (C := C) (by omega) hcs2
    have htk : ∀ k, k ≤ C.length → (abvF m (C.take k)).length ≤ 16777216 ∧ ∀ x ∈ abvF m (C.take k), UpV m (1048576 + 1) x := fun k hk => by
      have hp := hbp.sub (C' := C.take k) fun c hc => List.mem_of_mem_take hc
      have hb := abvF_bey (C.take k) hp
      have h1 := bey_len hb hp
      have h2 : m ^ (C.take k).length ≤ 4 ^ 12 := Nat.le_trans (Nat.pow_le_pow_left (by omega) _) (Nat.pow_le_pow_right (by omega) (by rw [List.length_take]; omega))
      exact ⟨by omega, bey_P hb hp⟩
    have hfl := fun W => rfilled_is m 0 W (by omega)
    unfold FilPost at hfl
    generalize hCn : C.length = cn at *
    have hm1 : 1 ≤ m := by omega
    have hm4 : m ≤ 4 := by omega
    have HARGS := Lib.hid hargs
    have HFIN := Lib.hid hfin
    have H := Lib.hid h
    have HCELL := Lib.hid hcell
    have HVAL := Lib.hid hval
    have HC := Lib.hid hC
    have HLW := Lib.hid hlw
    have HZ := Lib.hid hz
    have HCS := Lib.hid hcs
    have HCS2 := Lib.hid hcs2
    have HBP := Lib.hid hbp
    have HTK := Lib.hid htk
    have HFL := Lib.hid hfl
    have HCN := Lib.hid hCn
    clear hargs hfin h hcell hval hC hlw hz hcs hcs2 hbp htk hfl hCn
    clear hmp hn1 hn4
    go_enter Tryz.func27, Tryz.ntmps27
    go_wp2_with fail
    refine HARGS.out.mono ?_
    rintro e w1 ⟨rfl, hk1⟩
    have HK1 := Lib.hid hk1
    clear hk1
    go_wp2_with fail
    refine (HFL.out w1).mono ?_
    rintro e w2 ⟨A2, c2, rfl, hO2, hk2⟩
    have hk3 := HK1.out.trans hk2
    have hl2 : ∀ y ∈ l, y < w2.heap.size := fun y hy => Nat.lt_of_lt_of_le (HLW.out y hy) hk3.size
    have hrow2 : IsI w2 l (.slice A2 m c2) (List.replicate m 0) := by
      have hOc' := hO2.own (by simp; omega)
      rw [List.length_replicate] at hOc'
      obtain ⟨g2, cg, e2, hcg, hg2, hg3, hO7⟩ := hOc'
      obtain ⟨rfl, rfl⟩ : A2 = some ⟨g2, 0, none⟩ ∧ c2 = cg := by injection e2 with e1 _ e3; exact ⟨e1, e3⟩
      exact Own.isI hO7 (fun h => by have := HLW.out _ h; have := HK1.out.size; omega) hcg (by simp) (fun i hi => rfl)
    have hstart : IsII (w2.alloc (.cells #[.slice A2 m c2] 22)) l (.slice (some ⟨w2.heap.size, 0, none⟩) 1 1) (abvF m (C.take 0)) := isL_new (xs := [List.replicate m 0]) hl2 rfl fun i hi => by
      obtain rfl : i = 0 := by simpa using hi
      exact hrow2
    have hk4 := hk3.alloc (.cells #[.slice A2 m c2] 22)
    have HK4 := Lib.hid hk4
    have HSTART := Lib.hid hstart
    clear hk4 hstart
    clear hO2 hk2 hk3 hl2 hrow2
    go_wp2_with fail
    go_loopg [7, 8] (cn + 1) (fun gh sv kv wr => ∃ (k : Nat) (A' : Option Addr) (q c' : Nat), cn + 1 ≤ k + gh ∧ k ≤ cn ∧ kv = .int .i64 (k : Int) ∧ sv = .slice A' q c' ∧ q = (abvF m (C.take k)).length ∧ IsII wr l (.slice A' q c') (abvF m (C.take k)) ∧ Keeps [] w wr)
    case atStart => exact ⟨0, _, 1, 1, by omega, by omega, rfl, rfl, rfl, HSTART.out, HK4.out⟩
    case round =>
      obtain ⟨k, A', q, c', hgh, hk, rfl, rfl, hq, hI, hkr⟩ := hrel
      generalize wr = wo at *
      have hlo : ∀ y ∈ l, y < wo.heap.size := fun y hy => Nat.lt_of_lt_of_le (HLW.out y hy) hkr.size
      obtain ⟨hb1, hb2⟩ := HTK.out k hk
      have HQ := Lib.hid hq
      have HI := Lib.hid hI
      have HKR := Lib.hid hkr
      have HLO := Lib.hid hlo
      clear hq hI hkr hlo
      by_cases hlt : k < cn
      · have hcm := getD_mem (d := []) (show k < C.length by rw [HCN.out]; exact hlt)
        have hcsm := HCS2.out _ hcm
        have hce2 : ∀ i, i < m → (0 ≤ (C.getD k []).getD i 0 ∧ (C.getD k []).getD i 0 ≤ 1048576) ∨ (C.getD k []).getD i 0 = 1099511627776 := fun i hi => by
          exact hcsm.el _ (getD_mem (d := 0) (show i < (C.getD k []).length by rw [hcsm.len]; exact hi))
        have hcl := hcsm.len
        obtain ⟨pc, epc, hpc0⟩ := (HCELL.out.keeps (HKR.out.nil l)).at_ hlt
        have hrow0 : IsI wo l (V k) (C.getD k []) := (HVAL.out k hlt).keeps (HKR.out.nil l)
        have htks : abvF m (C.take (k + 1)) = leastL (nextT (C.getD k []) (abvF m (C.take k)) m) := by
          rw [take_snocR (show k < C.length by rw [HCN.out]; exact hlt), abvF_snoc]
        have hnb := fun j => nextT_len (C.getD k []) (abvF m (C.take k)) j
        obtain ⟨R, hR⟩ : ∃ R, R = abvF m (C.take k) := ⟨_, rfl⟩
        have hq := HQ.out
        have hI := HI.out
        rw [← hR] at htks hb1 hb2 hnb hq hI
        obtain ⟨A9, c9, U, hv9, _, _, hrc9, hrv9⟩ := hI
        injection hv9 with e91 e92 e93
        subst e91; subst e93
        have hsn := nextT_succ (C.getD k []) R
        generalize C.getD k [] = c at *
        obtain ⟨Bc, dc, evc, _, _, hrc⟩ := hrow0.open
        rw [evc] at hpc0
        rw [hcl] at hpc0 hrc
        subst epc
        have HPC := Lib.hid hpc0
        generalize hRn : R.length = rn at *
        obtain rfl : q = rn := hq
        have HRV := Lib.hid hrv9
        have HRC9 := Lib.hid hrc9
        have HCL := Lib.hid hcl
        have HCE2 := Lib.hid hce2
        have HRC := Lib.hid hrc
        have HTKS := Lib.hid htks
        have HR := Lib.hid hR
        have HB2 := Lib.hid hb2
        have HNB := Lib.hid hnb
        have HSN := Lib.hid hsn
        have HRN := Lib.hid hRn
        clear hcl hce2 hrc htks hR hb2 hnb hsn hRn
        clear hrow0 evc hpc0 hcm hcsm hrv9 hrc9 e92
        go_wp2_with fail
        go_loopg [9, 10] (m + 1) (fun gh sv jv wr => ∃ (j : Nat) (A' : Option Addr) (q3 c' : Nat) (ys : List (List Int)), m + 1 ≤ j + gh ∧ j ≤ m ∧ jv = .int .i64 (j : Int) ∧ sv = .slice A' q3 c' ∧ q3 = ys.length ∧ ys = nextT c R j ∧ OwL IsI [] 22 wo.heap.size wr l (.slice A' q3 c') ys ∧ Keeps [] wo wr)
        case atStart => exact ⟨0, none, 0, 0, [], by omega, by omega, rfl, rfl, rfl, rfl, OwL.nil, Keeps.refl _ _⟩
        case round =>
          obtain ⟨j, A3, q3, c3, ys, hgh2, hj, rfl, rfl, hq3, hys, hO3, hk5⟩ := hrel
          have HK5 := Lib.hid hk5
          have HQ3 := Lib.hid hq3
          have HYS := Lib.hid hys
          have HO3 := Lib.hid hO3
          clear hq3 hys hO3
          clear hk5
          by_cases hltj : j < m
          · have hdj : decide ((j : Int) < (m : Int)) = true := by rw [decide_eq_true_iff]; omega
            obtain ⟨px, epx, hpx0⟩ := HRC.out.at_ hltj
            have hpx0 : wo.cell? (px.add j) = some (.int .i64 (c.getD j 0)) := hpx0
            have hcj := HCE2.out j hltj
            have hls := HSN.out j
            have hnj := HNB.out j
            subst epx
            generalize c.getD j 0 = x at *
            have HPX := Lib.hid hpx0
            have hjq : j * q ≤ 67108864 := Nat.le_trans (Nat.mul_le_mul (show j ≤ 4 by omega) hb1) (by decide)
            rw [← HYS.out, ← HQ3.out] at hnj
            have HLS := Lib.hid hls
            have HNJ := Lib.hid hnj
            have HJQ := Lib.hid hjq
            clear hls hnj hjq
            clear hpx0
            go_wp2_with fail
            go_loopg [9, 11] (q + 1) (fun gh sv iv wr => ∃ (i : Nat) (A' : Option Addr) (q4 c' : Nat) (zs : List (List Int)), q + 1 ≤ i + gh ∧ i ≤ q ∧ iv = .int .i64 (i : Int) ∧ sv = .slice A' q4 c' ∧ q4 = zs.length ∧ q4 ≤ q3 + i ∧ (x = 1099511627776 → i = 0) ∧ zs = ys ++ (R.take i).map (fun v => v.set j (max (v.getD j 0) (x + 1))) ∧ OwL IsI [] 22 wo.heap.size wr l (.slice A' q4 c') zs ∧ Keeps [] wo wr)
            case atStart => exact ⟨0, A3, q3, c3, ys, by omega, by omega, rfl, rfl, HQ3.out, by omega, fun _ => rfl, by simp, HO3.out, HK5.out⟩
            case round =>
              obtain ⟨i, A4, q4, c4, zs, hgh3, hi, rfl, rfl, hq4, hq4i, hxo, hzs, hO4, hk6⟩ := hrel
              have hpc := hk6.read HPC.out (by simp)
              have hpx := hk6.read HPX.out (by simp)
              by_cases hlti : i < q
              · have hdi : decide ((i : Int) < (q : Int)) = true := by rw [decide_eq_true_iff]; omega
                by_cases hxO : x = 1099511627776
                · subst hxO
                  have hi0 := hxo rfl
                  subst hi0
                  have hend : zs = nextT c R (j + 1) := by
                    rw [hzs, HLS.out, if_pos (show (1099511627776 : Int) = OM from rfl), HYS.out]; simp
                  have HK6 := Lib.hid hk6
                  have HQ4 := Lib.hid hq4
                  have HO4 := Lib.hid hO4
                  have HEND := Lib.hid hend
                  clear hq4 hO4 hend
                  clear hk6 hzs hxo
                  go_wp2_with fail
                  go_roundg (m - j)
                  case measure => omega
                  case rel => exact ⟨j + 1, A4, q4, c4, zs, by omega, by omega, by go_num, rfl, HQ4.out, HEND.out, HO4.out, HK6.out⟩
                · have hxb : (x != 1099511627776) = true := by simpa using hxO
                  have hcx : 0 ≤ x ∧ x ≤ 1048576 := by rcases hcj with h | h; exact h; exact absurd h hxO
                  have hw : IntKind.i64.wrap (x + 1) = x + 1 := IntWalk.i64_in _ (by omega)
                  obtain ⟨po, epo, hpo0⟩ := HRC9.out.at_ (show i < q from hlti)
                  have hpo := hk6.read hpo0 (by simp)
                  have hvi : IsI wr l (U i) (R.getD i []) := (HRV.out i hlti).keeps (hk6.nil l)
                  have hvm := getD_mem (d := []) (show i < R.length by rw [HRN.out]; exact hlti)
                  have hup := HB2.out _ hvm
                  have hts := take_snocR (show i < R.length by rw [HRN.out]; exact hlti)
                  generalize R.getD i [] = v at *
                  obtain ⟨Bv, dv, evv, _⟩ := hvi.open
                  have hvl := hup.len
                  rw [evv] at hpo hvi
                  rw [hvl] at hpo hvi
                  subst epo
                  have hcopy := copy_is hvi (by omega)
                  unfold CloPost at hcopy
                  have hz1 : zs ++ [v.set j (max (v.getD j 0) (x + 1))] = ys ++ (R.take (i + 1)).map (fun v => v.set j (max (v.getD j 0) (x + 1))) := by
                    rw [hzs, hts, List.map_append, List.append_assoc]; rfl
                  have hvj := hup.el _ (getD_mem (d := 0) (show j < v.length by omega))
                  have HK6 := Lib.hid hk6
                  have HUL := Lib.hid hvl
                  have HQ4 := Lib.hid hq4
                  have HO4 := Lib.hid hO4
                  have HCOPY := Lib.hid hcopy
                  have HZ1 := Lib.hid hz1
                  have HTS := Lib.hid hts
                  have HUP := Lib.hid hup
                  clear hq4 hO4 hcopy hz1 hts hup
                  clear hk6 hzs hxo evv hvi hpo0 hvm hvl
                  go_wp2_with fail
                  refine HCOPY.out.mono ?_
                  rintro e w6 ⟨A6, c6, rfl, hO6, hk7⟩
                  have hOc' := hO6.own (by rw [HUL.out]; omega)
                  rw [HUL.out] at hOc'
                  obtain ⟨g2, cg, e2, hcg, hg2, hg3, hO7⟩ := hOc'
                  obtain ⟨rfl, rfl⟩ : A6 = some ⟨g2, 0, none⟩ ∧ c6 = cg := by injection e2 with e1 _ e3; exact ⟨e1, e3⟩
                  have hk8 := HK6.out.trans hk7
                  have ho1 : w6.cell? ⟨g2, j, none⟩ = some (.int .i64 (v.getD j 0)) := by have := (hO7 j hltj).1; simpa using this
                  have ho2 : w6.frozen? ⟨g2, j, none⟩ = false := (hO7 j hltj).2
                  have hpc6 := hk8.read HPC.out (by simp)
                  have hpx6 := hk8.read HPX.out (by simp)
                  have hz5 := HK6.out.size
                  have hne : (Value.slice A4 q4 c4).ownBlock ≠ some g2 := fun e => by have := (HO4.out.lt e).2; omega
                  have hgl : g2 ∉ l := fun h => by have := HLO.out _ h; omega
                  have hst := fun y => (Keeps.refl [g2] w6).drew.setCell (p := ⟨g2, j, none⟩) (by simp) (.int .i64 y)
                  have hkw8 := fun y => hk8.step (hst y) (fun y hy => .inr (by rw [List.mem_singleton.1 hy]; omega))
                  have hO8 := fun y => OwL.keeps HO4.out ((hk7.nil [g2]).trans (hst y)) (fun y hy => by rw [List.mem_singleton.1 hy]; exact ⟨.inr hg2, hne⟩)
                  have hg2l : g2 ∉ (Value.slice A4 q4 c4).ownBlock.toList ++ l := fun h => by
                    rcases List.mem_append.1 h with h | h
                    · exact hne (by simpa using h)
                    · exact hgl h
                  have hnew := fun y => Own.isI (xs := v.set j y) ((hO7.drew).updInt hltj y) hg2l hcg (by rw [List.length_set]; exact HUL.out) (fun i hi => by
                    rw [getD_set _ _ _ _ (by rw [HUL.out]; exact hltj)]
                    unfold upd
                    by_cases e : i = j
                    · rw [if_pos e]
                    · rw [if_neg e])
                  rw [HUL.out]
                  generalize v.getD j 0 = vj at *
                  have hz8 := (hkw8 (max vj (x + 1))).size
                  have HO8 := Lib.hid hO8
                  have HNEW := Lib.hid hnew
                  have HKW8 := Lib.hid hkw8
                  clear hO8 hnew hkw8
                  clear hO6 hk7 hO7 hk8 hne hg2l e2 hpc hpx hgl hst hpo
                  go_wp2_with fail
                  go_still_tail 16, (by kernel_rfl)
                  change wpList _ _ _ _ _ w6.drew
                  go_wp2_with (at_builtin; go_loud (refine wpList_push sl_rowsi rfl _ _ rfl (w := w6.drew.setCell ⟨g2, j, none⟩ (.int .i64 (max vj (x + 1)))) (u := .slice (some ⟨g2, 0, none⟩) m c6) (y := v.set j (max vj (x + 1))) (v := .slice A4 q4 c4) (by rfl) (Eq.trans (b := Value.slice (some ⟨w6.heap.size, 0, none⟩) 1 1) (by rfl) (by simp)) (HO8.out _) (HNEW.out _) (m := q4 + 1) (by rw [← HQ4.out]) (by have := HNJ.out; have := HJQ.out; omega) hz8 (w0 := wo) (l0 := []) (Nat.le_refl _) (HKW8.out _) ?_; intro V' c'' w9 hown9 hg9 hk9))
                  have HOWN9 := Lib.hid hown9
                  have HK9 := Lib.hid hk9
                  clear hown9 hk9
                  clear hg9
                  go_roundg (q - i)
                  case measure => omega
                  case rel => exact ⟨i + 1, V', q4 + 1, c'', zs ++ [v.set j (max vj (x + 1))], by omega, by omega, by go_num, rfl, by simp [← HQ4.out], by omega, fun h => absurd h hxO, HZ1.out, HOWN9.out, HK9.out⟩
              · obtain rfl : i = q := by omega
                have hdi : decide ((i : Int) < (i : Int)) = false := by simp
                have hend : zs = nextT c R (j + 1) := by
                  rw [hzs, HLS.out, ← HYS.out, List.take_of_length_le (by rw [HRN.out]; exact Nat.le_refl _)]
                  by_cases hxO : x = OM
                  · have hi0 := hxo hxO
                    rw [if_pos hxO]
                    have : R = [] := List.eq_nil_of_length_eq_zero (by rw [HRN.out]; exact hi0)
                    rw [this]; simp
                  · rw [if_neg hxO]
                have HK6 := Lib.hid hk6
                have HQ4 := Lib.hid hq4
                have HO4 := Lib.hid hO4
                have HEND := Lib.hid hend
                clear hq4 hO4 hend
                clear hk6 hzs hxo
                go_wp2_with fail
                go_roundg (m - j)
                case measure => omega
                case rel => exact ⟨j + 1, A4, q4, c4, zs, by omega, by omega, by go_num, rfl, HQ4.out, HEND.out, HO4.out, HK6.out⟩
          · obtain rfl : j = m := by omega
            have hdj : decide ((j : Int) < (j : Int)) = false := by simp
            have hnj := HNB.out j
            have hjq : j * q ≤ 67108864 := Nat.le_trans (Nat.mul_le_mul hm4 hb1) (by decide)
            have hle : IsII wr l (.slice A3 q3 c3) (nextT c R j) := by rw [← HYS.out]; exact HO3.out.isL HLO.out
            have hk6 := HKR.out.trans HK5.out
            have hcall := rleast_is (n := j) (fun y hy => Nat.lt_of_lt_of_le (HLW.out y hy) hk6.size) hle (by omega) (fun x hx => by
              obtain ⟨v, hv, i, y, hi, _, rfl⟩ := mem_nextA.1 ((mem_nextT (fun v hv => (HB2.out v hv).len)).1 hx)
              rw [List.length_set, (HB2.out v hv).len]) (by omega)
            rw [← HTKS.out] at hcall
            have HK6 := Lib.hid hk6
            have HCALL := Lib.hid hcall
            clear hk6 hcall
            clear hle hnj
            go_wp2_with fail
            refine HCALL.out.mono ?_
            rintro e w7 ⟨hk7, A7, n7, c7, hn7, rfl, hI7⟩
            have hk8 := HK6.out.trans hk7
            have HK8 := Lib.hid hk8
            have HN7 := Lib.hid hn7
            have HI7 := Lib.hid hI7
            clear hk8 hn7 hI7
            clear hk7
            go_wp2_with fail
            go_roundg (cn - k)
            case measure => omega
            case rel => exact ⟨k + 1, A7, n7, c7, by omega, by omega, by go_num, rfl, HN7.out, HI7.out, HK8.out⟩
      · obtain rfl : k = cn := by omega
        have htc : C.take k = C := List.take_of_length_le (by rw [HCN.out]; exact Nat.le_refl _)
        have hq2 := HQ.out
        have hI2 := HI.out
        rw [htc] at hq2 hI2 hb1 hb2
        have hI3 := hI2
        obtain ⟨A9, c9, U, hv9, _, _, hrc9, hrv9⟩ := hI3
        injection hv9 with e91 e92 e93
        subst e91; subst e93
        obtain ⟨hf1, hf2⟩ := HFIN.out
        generalize abvF m C = R at *
        rw [← hq2] at hrc9 hrv9
        have hqb : q ≤ 16777216 := by rw [hq2]; exact hb1
        have HQ2 := Lib.hid hq2
        have HI2 := Lib.hid hI2
        have HB2 := Lib.hid hb2
        have HF1 := Lib.hid hf1
        have HF2 := Lib.hid hf2
        have HRC9 := Lib.hid hrc9
        have HRV9 := Lib.hid hrv9
        clear hq2 hI2 hb2 hf1 hf2 hrc9 hrv9
        clear htc e92
        go_wp2_with fail
        go_loopg [13] (q + 1) (fun gh iv wr => ∃ (i : Nat), q + 1 ≤ i + gh ∧ i ≤ q ∧ iv = .int .i64 (i : Int) ∧ (∀ j, j < i → vfB (R.getD j []) = true) ∧ Keeps [] wo wr)
        case atStart => exact ⟨0, by omega, by omega, rfl, fun i hi => by omega, Keeps.refl _ _⟩
        case round =>
          obtain ⟨i, hgh2, hi, rfl, hs, hk5⟩ := hrel
          have HS := Lib.hid hs
          clear hs
          by_cases hlti : i < q
          · obtain ⟨po, epo, hpo0⟩ := HRC9.out.at_ hlti
            have hpo := hk5.read hpo0 (by simp)
            have hvi : IsI wr l (U i) (R.getD i []) := (HRV9.out i hlti).keeps (hk5.nil l)
            have hvm := getD_mem (d := []) (show i < R.length by rw [← HQ2.out]; exact hlti)
            have hcall := rfinite_is hvi (by rw [(HB2.out _ hvm).len]; omega)
            obtain ⟨Bv, dv, evv, _⟩ := hvi.open
            rw [evv] at hpo hcall
            subst epo
            cases hv : vfB (R.getD i []) with
            | true =>
              rw [hv] at hcall
              have h0 : ∀ j, j < i + 1 → vfB (R.getD j []) = true := fun j hj => by
                by_cases e : j = i
                · rw [e]; exact hv
                · exact HS.out j (by omega)
              have HK5 := Lib.hid hk5
              have HCALL := Lib.hid hcall
              have H0 := Lib.hid h0
              clear hcall h0
              clear hk5 evv hvi hvm hv hpo0
              go_wp2_with fail
              refine HCALL.out.mono ?_
              rintro e w7 ⟨rfl, hk7⟩
              have hk8 := HK5.out.trans hk7
              have HK8 := Lib.hid hk8
              clear hk8
              clear hk7
              go_wp2_with fail
              go_roundg (q - i)
              case measure => omega
              case rel => exact ⟨i + 1, by omega, by omega, by go_num, H0.out, HK8.out⟩
            | false =>
              rw [hv] at hcall
              have hup := HF1.out _ hvm hv
              have HK5 := Lib.hid hk5
              have HCALL := Lib.hid hcall
              have HUP := Lib.hid hup
              clear hcall hup
              clear hk5 evv hvi hvm hv hpo0
              go_wp2_with fail
              refine HCALL.out.mono ?_
              rintro e w7 ⟨rfl, hk7⟩
              have hk8 := (HKR.out.trans HK5.out).trans hk7
              have HK8 := Lib.hid hk8
              clear hk8
              clear hk7
              go_wp2_with fail
              go_ret2
              exact ⟨HK8.out, none, 0, 0, by rw [HUP.out]; rfl, by rw [HUP.out]; first | rfl | skip, by rw [HUP.out]; exact IsL.nil⟩
          · obtain rfl : i = q := by omega
            have hup := HF2.out fun x hx => by
              refine ⟨by rw [(HB2.out x hx).len], ?_⟩
              obtain ⟨j, hj, e⟩ := mem_getD (d := []) hx
              rw [← e]; exact HS.out j (by rw [HQ2.out]; exact hj)
            have hk6 := HKR.out.trans hk5
            have hl2 := rlimited_is HQ2.out (IsII.new HI2.out hk5)
            rw [← hup] at hl2
            have HL2 := Lib.hid hl2
            have HK6 := Lib.hid hk6
            clear hl2 hk6
            clear hk5 hup
            go_wp2_with fail
            refine HL2.out.mono ?_
            rintro e w6 ⟨rfl, A6, n6, c6, hn6, rfl, hI6⟩
            have HN6 := Lib.hid hn6
            have HI6 := Lib.hid hI6
            clear hn6 hI6
            go_wp2_with fail
            go_ret2
            exact ⟨HK6.out, A6, n6, c6, HN6.out, rfl, HI6.out⟩
  · have ht : (z != 0) = true := by simpa using h0
    have hfin : up = (z, []) := by rw [hmp, if_pos h0]
    have HARGS := Lib.hid hargs
    have HFIN := Lib.hid hfin
    have H := Lib.hid h
    have HCELL := Lib.hid hcell
    have HVAL := Lib.hid hval
    have HC := Lib.hid hC
    have HLW := Lib.hid hlw
    have HZ := Lib.hid hz
    have H0 := Lib.hid h0
    clear hargs hfin h hcell hval hC hlw hz h0
    clear hmp
    go_enter Tryz.func27, Tryz.ntmps27
    go_wp2_with fail
    refine HARGS.out.mono ?_
    rintro e w1 ⟨rfl, hk1⟩
    have HK1 := Lib.hid hk1
    clear hk1
    go_wp2_with fail
    go_ret2
    exact ⟨HK1.out, none, 0, 0, by rw [HFIN.out]; rfl, by rw [HFIN.out]; first | rfl | skip, by rw [HFIN.out]; exact IsL.nil⟩
end Go.Proofs.YtnmkinaokjekjaaGreat

namespace Go.Proofs.YtnmkinaokjekjaaGreat
set_option linter.unusedVariables false
open Go.RowKit

abbrev RP := List (List Int) × List (List Int)
def IsPairR (w : World) (l : List Nat) (v : Value) (ps : List RP) : Prop :=
  ∃ (A : Option Addr) (c : Nat), v = .slice A ps.length c ∧ (0 < ps.length → ∃ a, A = some a ∧ a.block ∉ l ∧ ∀ i, i < ps.length → ∃ u v, w.cell? (a.add (i * 2)) = some u ∧ w.cell? ⟨(a.add (i * 2)).block, (a.add (i * 2)).off + 1, none⟩ = some v ∧ IsII w l u (ps.getD i ([], [])).1 ∧ IsII w l v (ps.getD i ([], [])).2)
theorem IsPairR.keeps {w w' : World} {l : List Nat} {v : Value} {ps : List RP} (h : IsPairR w l v ps) (k : Keeps l w w') : IsPairR w' l v ps := by
  obtain ⟨A, c, h1, h4⟩ := h
  refine ⟨A, c, h1, fun hn => ?_⟩
  obtain ⟨a, e, hb, hc⟩ := h4 hn
  refine ⟨a, e, hb, fun i hi => ?_⟩
  obtain ⟨u, v, g1, g2, g3, g4⟩ := hc i hi
  exact ⟨u, v, k.read g1 (by rw [block_of_add]; exact hb), k.read g2 (by show (a.add (i * 2)).block ∉ l; rw [block_of_add]; exact hb), Rok.keeps g3 k, Rok.keeps g4 k⟩
theorem IsPairR.at_ {w : World} {l : List Nat} {A : Option Addr} {n c : Nat} {ps : List RP} (h : IsPairR w l (.slice A n c) ps) {i : Nat} (hi : i < n) : ∃ a u v, A = some a ∧ a.block ∉ l ∧ w.cell? (a.add (i * 2)) = some u ∧ w.cell? ⟨(a.add (i * 2)).block, (a.add (i * 2)).off + 1, none⟩ = some v ∧ IsII w l u (ps.getD i ([], [])).1 ∧ IsII w l v (ps.getD i ([], [])).2 := by
  obtain ⟨A', c', h1, h4⟩ := h
  injection h1 with e1 e2 e3
  subst e1; subst e2
  obtain ⟨a, e, hb, hc⟩ := h4 (by omega)
  obtain ⟨u, v, g⟩ := hc i hi
  exact ⟨a, u, v, e, hb, g⟩
/-- A literal of pairs. -/
theorem IsPairR.lit {w : World} {l : List Nat} {us : Array Value} {t : TypeId} {ps : List RP} {n : Nat} (hl : ∀ y ∈ l, y < w.heap.size) (hn : n = ps.length) (hs : us.size = n * 2) (h : ∀ i, i < n → IsII w l (us.getD (i * 2) undef) (ps.getD i ([], [])).1 ∧ IsII w l (us.getD (i * 2 + 1) undef) (ps.getD i ([], [])).2) :
    IsPairR (w.alloc (.cells us t)) l (.slice (some ⟨w.heap.size, 0, none⟩) n n) ps := by
  subst hn
  refine ⟨_, ps.length, rfl, fun _ => ⟨_, rfl, (fun hm => by have := hl _ hm; simp at this), fun i hi => ?_⟩⟩
  have hk : Keeps l w (w.alloc (.cells us t)) := (Keeps.refl _ _).alloc _
  obtain ⟨h1, h2⟩ := h i hi
  have i1 : i * 2 < us.size := by omega
  have i2 : i * 2 + 1 < us.size := by omega
  refine ⟨us.getD (i * 2) undef, us.getD (i * 2 + 1) undef, ?_, ?_, Rok.keeps h1 hk, Rok.keeps h2 hk⟩
  · rw [addz, World.cell?_alloc_new]; simp [i1]
  · rw [addz]
    show (w.alloc (.cells us t)).cell? ⟨w.heap.size, i * 2 + 1, none⟩ = _
    rw [World.cell?_alloc_new]; simp [i2]
end Go.Proofs.YtnmkinaokjekjaaGreat

namespace Go.Proofs.YtnmkinaokjekjaaGreat
set_option linter.unusedVariables false
open Go.RowKit

def MRow (w : World) (l : List Nat) (A : Option Addr) (n : Nat) (L : List (List Int)) : Prop := ∀ i, i < n → ∃ a B c, A = some a ∧ w.cell? (a.add i) = some (.slice B (L.getD i []).length c) ∧ IsI w l (.slice B (L.getD i []).length c) (L.getD i [])
theorem IsII.mrow {w : World} {l : List Nat} {v : Value} {L : List (List Int)} (h : IsII w l v L) : ∃ A c, v = .slice A L.length c ∧ MRow w l A L.length L := by
  obtain ⟨A, c, V, rfl, _, _, hc, hv⟩ := h
  refine ⟨A, c, rfl, fun i hi => ?_⟩
  obtain ⟨a, rfl, hp⟩ := hc.at_ hi
  obtain ⟨B, c', e, _⟩ := (hv i hi).open
  rw [e] at hp
  exact ⟨a, B, c', rfl, hp, e ▸ hv i hi⟩
def narB (L : List (List Int)) : Bool := L.all (fun r => decide (r.length ≤ 20)) && decide (L.length ≤ 20)
theorem narB_true {L : List (List Int)} : narB L = true ↔ (∀ r ∈ L, r.length ≤ 20) ∧ L.length ≤ 20 := by
  unfold narB; rw [Bool.and_eq_true, List.all_eq_true, decide_eq_true_eq]; simp
set_option maxHeartbeats 400000 in
theorem narrow_is {w : World} {l : List Nat} {A : Option Addr} {n c : Nat} {L : List (List Int)} (h : IsII w l (.slice A n c) L) (hn : n = L.length) (hm : n ≤ maxLen) :
    Calls Tryz.prog 6 #[.slice A n c] w fun e w' => e = .returned (.bool (narB L)) ∧ w = w' := by
  obtain ⟨A', c', e, hr⟩ := h.mrow
  rw [← hn] at e hr
  obtain ⟨rfl, rfl⟩ : A = A' ∧ c = c' := by injection e with e1 _ e3; exact ⟨e1, e3⟩
  have hyes : (∀ i, i < n → (L.getD i []).length ≤ 20) → narB L = decide (n ≤ 20) := fun h => by
    unfold narB
    rw [← hn, List.all_eq_true.2 (fun r hr => by obtain ⟨i, hi, rfl⟩ := mem_getD (d := []) hr; exact decide_eq_true (h i (by omega))), Bool.true_and]
  have hno : ∀ i, i < n → ¬ (L.getD i []).length ≤ 20 → narB L = false := fun i hi h => by
    rw [← Bool.not_eq_true, narB_true]
    exact fun h2 => h (h2.1 _ (getD_mem (by omega)))
  have hmx : n ≤ 9223372036854775807 := by unfold maxLen at hm; omega
  generalize narB L = Z at *
  clear e
  have H := Lib.hid h
  have HN := Lib.hid hn
  have HR := Lib.hid hr
  have HYES := Lib.hid hyes
  have HNO := Lib.hid hno
  have HM := Lib.hid hm
  clear h hn hr hyes hno hm
  go_enter Tryz.func6, Tryz.ntmps6
  go_wp2_with fail
  go_loopg [6] (n + 1) (fun gh kv wr => ∃ k : Nat, n + 1 ≤ k + gh ∧ k ≤ n ∧ kv = .int .i64 (k : Int) ∧ (∀ i, i < k → (L.getD i []).length ≤ 20) ∧ w = wr)
  case atStart => exact ⟨0, by omega, by omega, rfl, fun i hi => by omega, rfl⟩
  case round =>
    obtain ⟨k, hgh, hk, rfl, hs, rfl⟩ := hrel
    by_cases hlt : k < n
    · obtain ⟨pa, B, cb, rfl, hpa, _⟩ := HR.out k hlt
      by_cases hl : (L.getD k []).length ≤ 20
      · have hs2 : ∀ i, i < k + 1 → (L.getD i []).length ≤ 20 := fun i hi => by
          by_cases e : i = k
          · rw [e]; exact hl
          · exact hs i (by omega)
        generalize (L.getD k []).length = m at *
        have hd : decide ((20 : Int) < (m : Int)) = false := decide_eq_false (by omega)
        have HS := Lib.hid hs
        have HS2 := Lib.hid hs2
        clear hs hs2
        go_wp2_with fail
        go_roundg (n - k)
        case measure => omega
        case rel => exact ⟨k + 1, by omega, by omega, by go_num, HS2.out, rfl⟩
      · have hz := HNO.out k hlt hl
        generalize (L.getD k []).length = m at *
        have hd : decide ((20 : Int) < (m : Int)) = true := decide_eq_true (by omega)
        have HS := Lib.hid hs
        have HZ := Lib.hid hz
        clear hs hz
        go_wp2_with fail
        go_ret
        exact ⟨ret_b HZ.out, rfl⟩
    · obtain rfl : k = n := by omega
      have hz := HYES.out hs
      have hd : decide ((k : Int) ≤ 20) = decide (k ≤ 20) := by
        by_cases e : k ≤ 20
        · rw [decide_eq_true e]; exact decide_eq_true (by omega)
        · rw [decide_eq_false e]; exact decide_eq_false (by omega)
      generalize decide (k ≤ 20) = q at *
      have HS := Lib.hid hs
      have HZ := Lib.hid hz
      clear hs hz
      go_wp2_with fail
      go_ret
      exact ⟨ret_b HZ.out, rfl⟩
end Go.Proofs.YtnmkinaokjekjaaGreat

namespace Go.Proofs.YtnmkinaokjekjaaGreat
set_option linter.unusedVariables false
open Go.RowKit

def Sm (R : List (List Int)) : Prop := R.length ≤ 256 ∧ ∀ x ∈ R, x.length ≤ 20
theorem Sm.nil : Sm [] := ⟨by simp, by simp⟩
theorem lim_sm {R : List (List Int)} (h : ∀ x ∈ R, x.length ≤ 20) : Sm (lim R).2 := by
  unfold lim
  split
  · exact Sm.nil
  · rename_i hn
    exact ⟨Nat.le_of_not_lt hn, h⟩
theorem maxP_sm (n : Int) {L : List (List Int)} (h : ∀ x ∈ L, x.length ≤ 20) : Sm (maxP n L).2 := by
  unfold maxP
  split
  · exact Sm.nil
  · exact lim_sm fun x hx => h x (great_sub L x hx)
theorem uniP_sm (n : Int) {a b : List (List Int)} (ha : ∀ x ∈ a, x.length ≤ 20) (hb : ∀ x ∈ b, x.length ≤ 20) : Sm (setP n a b (greatL (a ++ b))).2 := by
  unfold setP
  split
  · exact Sm.nil
  · exact lim_sm fun x hx => (List.mem_append.1 (great_sub _ x hx)).elim (ha x) (hb x)
theorem intP_sm (n : Int) {a b : List (List Int)} : Sm (setP n a b (greatL (prodL n.toNat a b))).2 := by
  unfold setP
  split
  · exact Sm.nil
  · have h := ckE_el (n := n) (a := a) (b := b) (by omega)
    refine lim_sm fun x hx => ?_
    obtain ⟨_, _, _, _, rfl⟩ := mem_prodL.1 (great_sub _ x hx)
    rw [minV_len]; have := h.1; omega
theorem beyB_of {n : Int} {C : List (List Int)} (hz : cornE n vfB C = 0) : n.toNat ≤ 4 ∧ BeyP covG turnB (List.replicate n.toNat OM) C n.toNat (SmV n.toNat 1048575) := by
  obtain ⟨⟨hn1, hn4⟩, hc12, hcs⟩ := cornE_zero.1 hz
  exact ⟨by omega, beyB (by omega) (by omega) (by omega) fun c hc => ⟨by have := (hcs c hc).1; omega, fun z hz => by have := (vfB_true.1 (hcs c hc).2).el z hz; omega⟩⟩
theorem beyA_of {n : Int} {C : List (List Int)} (hz : cornE n vvB C = 0) : n.toNat ≤ 4 ∧ BeyP vltB turnA (List.replicate n.toNat 0) C n.toNat (UpV n.toNat (1048576 + 1)) := by
  obtain ⟨⟨hn1, hn4⟩, hc12, hcs⟩ := cornE_zero.1 hz
  exact ⟨by omega, beyA (by omega) fun c hc => ⟨by have := (hcs c hc).1; omega, fun z hz => (vvB_true.1 (hcs c hc).2).el z hz⟩⟩
theorem bwP_sm (n : Int) (C : List (List Int)) : Sm (bwP n C).2 := by
  unfold bwP
  split
  · exact Sm.nil
  · rename_i h
    obtain ⟨h4, hb⟩ := beyB_of (Decidable.not_not.1 h)
    exact lim_sm fun x hx => by rw [(bey_P (belF_bey C hb) hb x hx).len]; omega
theorem abP_sm (n : Int) (C : List (List Int)) : Sm (abP n C).2 := by
  unfold abP
  split
  · exact Sm.nil
  · rename_i h
    split
    · exact Sm.nil
    · obtain ⟨h4, hb⟩ := beyA_of (Decidable.not_not.1 h)
      exact lim_sm fun x hx => by rw [(bey_P (abvF_bey C hb) hb x hx).len]; omega

theorem OutL.pair {l : List Nat} {out : List (List Int)} {w w' : World} {e : Ending} (h : OutL l out e w') (hk : Keeps [] w w') : PairR l (lim out).1 (lim out).2 w e w' := by
  unfold lim
  rcases h with ⟨h, rfl⟩ | ⟨h, A, m, c, hm, rfl, hI⟩
  · rw [if_pos h]; exact PairR.nil hk
  · rw [if_neg (by omega)]; exact ⟨hk, A, m, c, hm, rfl, hI⟩
theorem maximise2_is {w : World} {l : List Nat} {lv : Value} {L : List (List Int)} {n : Int} (hlw : ∀ y ∈ l, y < w.heap.size) (h : IsII w l lv L) (hn : L.length ≤ 1000000) (hL : ∀ x ∈ L, x.length ≤ 1000000) :
    Calls Tryz.prog 18 #[.int .i64 n, lv] w (PairR l (maxP n L).1 (maxP n L).2 w) := by
  refine (maximise_is hlw h (by omega) hL).mono ?_
  rintro e w' ⟨hk, ⟨h1, rfl⟩ | ⟨h1, out, ha, hm, ho⟩⟩
  · unfold maxP; rw [if_pos h1]; exact PairR.nil hk
  · have hz := (maxE_zero.1 h1)
    have e := great_eq (ordG (n := n.toNat) fun x hx => ⟨vvB_true.1 (hz.2 x hx).2, by have := (hz.2 x hx).1; omega⟩) ha hm
    unfold maxP; rw [if_neg (by omega), e]; exact ho.pair hk
theorem union2_is {w : World} {l : List Nat} {av bv : Value} {a b : List (List Int)} {n : Int} (hlw : ∀ y ∈ l, y < w.heap.size) (ha : IsII w l av a) (hn : a.length ≤ 1000000) (hL : ∀ x ∈ a, x.length ≤ 1000000) (hb : IsII w l bv b) (hm : b.length ≤ 1000000) (hM : ∀ x ∈ b, x.length ≤ 1000000) :
    Calls Tryz.prog 20 #[.int .i64 n, av, bv] w (PairR l (setP n a b (greatL (a ++ b))).1 (setP n a b (greatL (a ++ b))).2 w) := by
  refine (union_is hlw ha (by omega) hL hb (by omega) hM).mono ?_
  rintro e w' ⟨hk, ⟨h1, rfl⟩ | ⟨h1, out, ho, hm, hq⟩⟩
  · unfold setP; rw [if_pos h1]; exact PairR.nil hk
  · have hz := (ckE_el h1).2.2.2
    have e := great_eq (ordG (n := n.toNat) fun x hx => hz x (List.mem_append.1 hx)) ho hm
    unfold setP; rw [if_neg (by omega), e]; exact hq.pair hk
theorem intersect2_is {w : World} {l : List Nat} {av bv : Value} {a b : List (List Int)} {n : Int} (hlw : ∀ y ∈ l, y < w.heap.size) (ha : IsII w l av a) (hn : a.length ≤ 1000000) (hL : ∀ x ∈ a, x.length ≤ 1000000) (hb : IsII w l bv b) (hm : b.length ≤ 1000000) (hM : ∀ x ∈ b, x.length ≤ 1000000) :
    Calls Tryz.prog 22 #[.int .i64 n, av, bv] w (PairR l (setP n a b (greatL (prodL n.toNat a b))).1 (setP n a b (greatL (prodL n.toNat a b))).2 w) := by
  refine (intersect_is hlw ha (by omega) hL hb (by omega) hM).mono ?_
  rintro e w' ⟨hk, ⟨h1, rfl⟩ | ⟨h1, out, ho, hm, hq⟩⟩
  · unfold setP; rw [if_pos h1]; exact PairR.nil hk
  · have hz := (ckE_el h1).2.2.2
    have e := great_eq (ordG (n := n.toNat) fun x hx => (by obtain ⟨u, hu, v, hv, rfl⟩ := mem_prodL.1 hx; exact ⟨minV_val (hz u (.inl hu)).1 (hz v (.inr hv)).1 (hz u (.inl hu)).2 (hz v (.inr hv)).2, minV_len⟩)) ho hm
    unfold setP; rw [if_neg (by omega), e]; exact hq.pair hk
theorem below2_is {w : World} {l : List Nat} {cv : Value} {C : List (List Int)} {n : Int} (hl : ∀ y ∈ l, y < w.heap.size) (h : IsII w l cv C) (hn : C.length ≤ 1000000) (hC : ∀ x ∈ C, x.length ≤ 1000000) :
    Calls Tryz.prog 24 #[.int .i64 n, cv] w (PairR l (bwP n C).1 (bwP n C).2 w) := by
  refine (below_walk hl h (by omega) hC).mono ?_
  rintro e w' ⟨hk, ⟨h1, rfl⟩ | ⟨h1, out, hb, ho⟩⟩
  · unfold bwP; rw [if_pos h1]; exact PairR.nil hk
  · have e := bey_fun hb _ (belF_bey C (beyB_of h1).2)
    unfold bwP; rw [if_neg (by omega), ← e]; exact ho.pair hk
theorem above2_is {w : World} {l : List Nat} {cv : Value} {C : List (List Int)} {n : Int} (hl : ∀ y ∈ l, y < w.heap.size) (h : IsII w l cv C) (hn : C.length ≤ 1000000) (hC : ∀ x ∈ C, x.length ≤ 1000000) :
    Calls Tryz.prog 26 #[.int .i64 n, cv] w (PairR l (abP n C).1 (abP n C).2 w) := by
  refine (above_walk hl h (by omega) hC).mono ?_
  rintro e w' ⟨hk, ⟨h1, rfl⟩ | ⟨h1, out, hb, ho⟩⟩
  · unfold abP; rw [if_pos h1]; exact PairR.nil hk
  · have e := bey_fun hb _ (abvF_bey C (beyA_of h1).2)
    unfold abP; rw [if_neg (by omega), ← e]
    rcases ho with ⟨h2, rfl⟩ | ⟨h2, ho⟩
    · rw [if_pos h2]; exact PairR.nil hk
    · rw [if_neg (by omega)]; exact ho.pair hk
end Go.Proofs.YtnmkinaokjekjaaGreat

namespace Go.Proofs.YtnmkinaokjekjaaGreat
set_option linter.unusedVariables false
open Go.RowKit
theorem IsRow.isI {w : World} {a : Option Addr} {len cap : Nat} {zs : List Int} (h : IsRow .i64 w a len cap zs) : IsI w [] (.slice a len cap) (zs.take len) ∧ len = (zs.take len).length := by
  rcases h with ⟨rfl, rfl, rfl, rfl⟩ | ⟨x, rfl, h1, h2, h3, h4, _⟩
  · exact ⟨IsI.nil, rfl⟩
  · have hl : len = (zs.take len).length := by rw [List.length_take]; omega
    refine ⟨IsI.mk hl h1 (fun h => by cases h) fun hn => ⟨x, rfl, by simp, fun i hi => ?_⟩, hl⟩
    have := h4 i (by omega)
    rw [this]
    simp [List.getD_eq_getElem?_getD, List.getElem?_take, hi]
end Go.Proofs.YtnmkinaokjekjaaGreat

namespace Go.Proofs.YtnmkinaokjekjaaGreat
set_option linter.unusedVariables false
open Go.RowKit
def IsRows (w : World) (a : Option Addr) (len cap : Nat) (zs : List (List Int)) : Prop := IsII w [] (.slice a len cap) zs ∧ len = zs.length ∧ len ≤ maxLen
theorem IsRows.nil {w : World} : IsRows w none 0 0 [] := ⟨IsII.nil, rfl, Nat.zero_le _⟩
theorem IsRows.mk {w : World} {a : Addr} {len cap : Nat} {A : Nat → Option Addr} {L C : Nat → Nat} {Z : Nat → List Int} (hl : len ≤ cap) (hm : cap ≤ maxLen)
    (h : ∀ r, r < cap → w.cell? (a.add r) = some (.slice (A r) (L r) (C r)) ∧ L r ≤ C r ∧ C r ≤ maxLen ∧ (Z r).length = C r ∧ (∀ n ∈ Z r, (Lit.int .i64 n).wf = true) ∧ (A r = none → C r = 0) ∧
        ∀ a', A r = some a' → 0 ≤ a'.block ∧ ∀ c, c < C r → w.cell? (a'.add c) = some (.int .i64 ((Z r).getD c 0))) :
    ∃ zs, IsRows w (some a) len cap zs := by
  refine ⟨(List.range len).map fun r => (Z r).take (L r), ⟨some a, cap, fun r => .slice (A r) (L r) (C r), by simp, by simpa using hl, (fun h => by cases h), fun hn => ⟨a, rfl, by simp, fun i hi => ?_⟩, fun i hi => ?_⟩, by simp, by omega⟩
  · simp only [List.length_map, List.length_range] at hi
    exact (h i (by omega)).1
  · simp only [List.length_map, List.length_range] at hi
    obtain ⟨h1, h2, h3, h4, h5, h6, h7⟩ := h i (by omega)
    have e : ((List.range len).map fun r => (Z r).take (L r)).getD i [] = (Z i).take (L i) := by
      simp [List.getD_eq_getElem?_getD, hi]
    rw [e]
    have hll : L i = ((Z i).take (L i)).length := by rw [List.length_take]; omega
    refine IsI.mk hll h2 h6 fun hn => ?_
    cases ha : A i with
    | none => have := h6 ha; omega
    | some a' =>
      refine ⟨a', rfl, by simp, fun j hj => ?_⟩
      rw [(h7 a' ha).2 j (by omega)]
      simp [List.getD_eq_getElem?_getD, List.getElem?_take, hj]
end Go.Proofs.YtnmkinaokjekjaaGreat
