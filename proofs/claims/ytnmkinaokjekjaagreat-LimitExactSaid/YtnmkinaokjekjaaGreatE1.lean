/- The walks of the reference 08: dimension, fault, under. The walk of the reference 08's under. The walk of the reference 08's raise. The walk of the reference 08's Check. Plain law: the reference's complements of limits and corners, round by round. The walks of the reference 08's greatest, limited, Maximise, Has, Subset and Union. The walks of the reference 01's Min and of the reference 08's common. The walks of the reference 01's Finite and of the reference 08's Has, Subset, Union and Intersect. The walks of the reference 08's arguments and filled. -/
import Derived.Test.YtnmkinaokjekjaaGreatRVec
import Derived.Test.YtnmkinaokjekjaaGreatLim1
import Derived.Test.YtnmkinaokjekjaaGreatRaiseL
import Derived.Test.YtnmkinaokjekjaaGreatPutW
import Derived.Test.YtnmkinaokjekjaaGreatCloneR
import Derived.Test.YtnmkinaokjekjaaGreatChk
import Derived.Test.YtnmkinaokjekjaaGreatInter
import Derived.Test.YtnmkinaokjekjaaGreatBelow
import Derived.Test.YtnmkinaokjekjaaGreatMaxS
import Derived.StillTailTactics
namespace Go.Proofs.YtnmkinaokjekjaaGreat
set_option linter.unusedVariables false
open Go.RowKit

set_option maxHeartbeats 400000 in
theorem rdim_any (n : Int) (w : World) : Calls Tryz.prog 29 #[.int .i64 n] w fun e w' => e = .returned (.bool (dimB n 6)) ∧ w = w' := by
  by_cases h0 : 1 ≤ n
  · have d0 : decide (1 ≤ n) = true := decide_eq_true h0
    by_cases h1 : n ≤ 6
    · have d1 : decide (n ≤ 6) = true := decide_eq_true h1
      have hr : dimB n 6 = true := dimB_true.2 ⟨h0, h1⟩
      rw [hr]
      go_enter Tryz.func29, Tryz.ntmps29
      go_wp2_with fail
      go_ret
      exact ⟨rfl, rfl⟩
    · have d1 : decide (n ≤ 6) = false := decide_eq_false h1
      have hr : dimB n 6 = false := dimB_false.2 (fun h => h1 h.2)
      rw [hr]
      go_enter Tryz.func29, Tryz.ntmps29
      go_wp2_with fail
      go_ret
      exact ⟨rfl, rfl⟩
  · have d0 : decide (1 ≤ n) = false := decide_eq_false h0
    have hr : dimB n 6 = false := dimB_false.2 (fun h => h0 h.1)
    rw [hr]
    go_enter Tryz.func29, Tryz.ntmps29
    go_wp2_with fail
    go_ret
    exact ⟨rfl, rfl⟩

set_option maxHeartbeats 400000 in
theorem rfault_is {w : World} {l : List Nat} {vv : Value} {v : List Int} {n : Int} (hv : IsI w l vv v) (hm : v.length ≤ 1000000) :
    Calls Tryz.prog 30 #[.int .i64 n, vv] w (RetE (elE n vvB v) w) := by
  unfold RetE
  have hcall := rvalid_is hv hm
  have heq : elE n vvB v = if (v.length : Int) ≠ n then 3 else if vvB v = true then 0 else 2 := rfl
  obtain ⟨A, c, rfl, _⟩ := hv.open
  generalize vvB v = r at *
  generalize v.length = vn at *
  by_cases hl : (vn : Int) = n
  · have ht : ((vn : Int) != n) = false := by rw [hl]; simp
    rw [if_neg (by simpa using hl)] at heq
    cases r with
    | true =>
      rw [if_pos rfl] at heq
      have HCALL := Lib.hid hcall
      have HV := Lib.hid hv
      have HEQ := Lib.hid heq
      clear hcall hv heq
      clear hl
      go_enter Tryz.func30, Tryz.ntmps30
      go_wp2_with fail
      refine HCALL.out.mono ?_
      rintro e w1 ⟨rfl, hk⟩
      have HK := Lib.hid hk
      clear hk
      go_wp2_with fail
      go_ret
      exact ⟨ret_ii HEQ.out, HK.out⟩
    | false =>
      rw [if_neg (by simp)] at heq
      have HCALL := Lib.hid hcall
      have HV := Lib.hid hv
      have HEQ := Lib.hid heq
      clear hcall hv heq
      clear hl
      go_enter Tryz.func30, Tryz.ntmps30
      go_wp2_with fail
      refine HCALL.out.mono ?_
      rintro e w1 ⟨rfl, hk⟩
      have HK := Lib.hid hk
      clear hk
      go_wp2_with fail
      go_ret
      exact ⟨ret_ii HEQ.out, HK.out⟩
  · have ht : ((vn : Int) != n) = true := by simpa using hl
    rw [if_pos hl] at heq
    have HCALL := Lib.hid hcall
    have HV := Lib.hid hv
    have HEQ := Lib.hid heq
    clear hcall hv heq
    clear hl
    go_enter Tryz.func30, Tryz.ntmps30
    go_wp2_with fail
    go_ret
    exact ⟨ret_ii HEQ.out, Keeps.refl _ _⟩
end Go.Proofs.YtnmkinaokjekjaaGreat

namespace Go.Proofs.YtnmkinaokjekjaaGreat
set_option linter.unusedVariables false
open Go.RowKit

set_option maxHeartbeats 1000000 in
theorem runder_is {w : World} {l : List Nat} {lv vv : Value} {L : List (List Int)} {v : List Int} (h : IsII w l lv L) (hn : L.length ≤ 1000000000) (hL : ∀ x ∈ L, x.length ≤ 1000000) (hv : IsI w l vv v) (hm : v.length ≤ 1000000) :
    Calls Tryz.prog 44 #[lv, vv] w (RetB (undB L v) w) := by
  unfold RetB
  have heq : undB L v = L.any fun x => vleB v x := rfl
  obtain ⟨A0, c0, V, rfl, _, _, hcell, hval⟩ := h
  obtain ⟨B, d0, ev, _⟩ := hv.open
  rw [ev] at hv ⊢
  generalize hLn : L.length = m at *
  generalize hvn : v.length = vn at *
  have HCELL := Lib.hid hcell
  have HVAL := Lib.hid hval
  have HL := Lib.hid hL
  have HLN := Lib.hid hLn
  have HV := Lib.hid hv
  have HEQ := Lib.hid heq
  have HVN := Lib.hid hvn
  clear hcell hval hL hLn hv heq hvn
  clear ev
  go_enter Tryz.func44, Tryz.ntmps44
  go_wp2_with fail
  go_loopg [5] (m + 1) (fun gh kv wr => ∃ k : Nat, m + 1 ≤ k + gh ∧ k ≤ m ∧ kv = .int .i64 (k : Int) ∧ (∀ i, i < k → vleB v (L.getD i []) = false) ∧ Keeps [] w wr)
  case atStart => exact ⟨0, by omega, by omega, rfl, fun i hi => by omega, Keeps.refl _ _⟩
  case round =>
    obtain ⟨k, hgh, hk, rfl, hall, hkr⟩ := hrel
    have HALL := Lib.hid hall
    clear hall
    by_cases hlt : k < m
    · obtain ⟨pa, rfl, hpa⟩ := (HCELL.out.keeps (hkr.nil l)).at_ hlt
      have hx := (HVAL.out k hlt).keeps (hkr.nil l)
      have hxm := getD_mem (d := []) (show k < L.length by rw [HLN.out]; exact hlt)
      have hcall := rleq_is (IsI.new HV.out hkr) hx (by rw [HVN.out]; omega) (HL.out _ hxm)
      obtain ⟨Bx, dx, ex, _⟩ := hx.open
      rw [ex] at hpa hcall
      cases hq : vleB v (L.getD k []) with
      | true =>
        have hd : undB L v = true := by rw [HEQ.out, List.any_eq_true]; exact ⟨_, hxm, hq⟩
        rw [hq] at hcall
        have HKR := Lib.hid hkr
        have HCALL := Lib.hid hcall
        have HD := Lib.hid hd
        clear hcall hd
        clear hq hx ex hkr hxm
        go_wp2_with fail
        refine HCALL.out.mono ?_
        rintro e w1 ⟨rfl, hk1⟩
        have hk2 := HKR.out.trans hk1
        have HK2 := Lib.hid hk2
        clear hk2
        clear hk1
        go_wp2_with fail
        go_ret
        exact ⟨ret_b HD.out, HK2.out⟩
      | false =>
        have h0 : ∀ i, i < k + 1 → vleB v (L.getD i []) = false := fun i hi => by
          by_cases e : i = k
          · rw [e]; exact hq
          · exact HALL.out i (by omega)
        rw [hq] at hcall
        have HKR := Lib.hid hkr
        have HCALL := Lib.hid hcall
        have H0 := Lib.hid h0
        clear hcall h0
        clear hq hx ex hkr hxm
        go_wp2_with fail
        refine HCALL.out.mono ?_
        rintro e w1 ⟨rfl, hk1⟩
        have hk2 := HKR.out.trans hk1
        have HK2 := Lib.hid hk2
        clear hk2
        clear hk1
        go_wp2_with fail
        go_roundg (m - k)
        case measure => omega
        case rel => exact ⟨k + 1, by omega, by omega, by go_num, H0.out, HK2.out⟩
    · obtain rfl : k = m := by omega
      have hd : undB L v = false := by
        rw [HEQ.out, List.any_eq_false]
        intro x hx e
        obtain ⟨i, hi, e2⟩ := mem_getD (d := []) hx
        have := HALL.out i (by rw [← HLN.out]; exact hi)
        rw [e2] at this
        rw [this] at e; cases e
      have HKR := Lib.hid hkr
      have HD := Lib.hid hd
      clear hd
      clear hkr
      go_wp2_with fail
      go_ret
      exact ⟨ret_b HD.out, HKR.out⟩
end Go.Proofs.YtnmkinaokjekjaaGreat

namespace Go.Proofs.YtnmkinaokjekjaaGreat
set_option linter.unusedVariables false
open Go.RowKit

def RaisePost (l : List Nat) (L : List (List Int)) (v : List Int) (w : World) (e : Ending) (w' : World) : Prop := ∃ A n c, e = .returned (.slice A n c) ∧ IsII w' l (.slice A n c) (raiseL L v) ∧ Keeps [] w w'
theorem filter_snoc {f : List Int → Bool} {L : List (List Int)} {k : Nat} (hk : k < L.length) : (L.take (k + 1)).filter f = (L.take k).filter f ++ if f (L.getD k []) then [L.getD k []] else [] := by
  have e : L.take (k + 1) = L.take k ++ [L.getD k []] := by
    rw [List.take_succ_eq_append_getElem hk]
    simp [List.getD_eq_getElem?_getD, hk]
  rw [e, List.filter_append]
  congr 1
  simp only [List.filter_cons, List.filter_nil]
set_option maxRecDepth 100000 in
set_option maxHeartbeats 4000000 in
theorem raise_is {w : World} {l : List Nat} {lv vv : Value} {L : List (List Int)} {v : List Int} (hlw : ∀ x ∈ l, x < w.heap.size) (h : IsII w l lv L) (hn : L.length ≤ 100000000) (hL : ∀ x ∈ L, x.length ≤ 1000000) (hv : IsI w l vv v) (hm : v.length ≤ 1000000) :
    Calls Tryz.prog 65 #[lv, vv] w (RaisePost l L v w) := by
  unfold RaisePost
  have h' := h
  obtain ⟨A0, c0, V, rfl, _, _, hcell, hval⟩ := h'
  obtain ⟨B, d0, ev, _⟩ := hv.open
  rw [ev] at hv ⊢
  generalize hLn : L.length = m at *
  generalize hvn : v.length = vn at *
  have HCELL := Lib.hid hcell
  have HVAL := Lib.hid hval
  have HL := Lib.hid hL
  have HLN := Lib.hid hLn
  have HV := Lib.hid hv
  have HVN := Lib.hid hvn
  have H := Lib.hid h
  have HLW := Lib.hid hlw
  clear hcell hval hL hLn hv hvn h hlw
  clear ev
  go_enter Tryz.func65, Tryz.ntmps65
  go_wp2_with fail
  go_loopg [6] (m + 1) (fun gh kv wr => ∃ k : Nat, m + 1 ≤ k + gh ∧ k ≤ m ∧ kv = .int .i64 (k : Int) ∧ (∀ i, i < k → vleB v (L.getD i []) = false) ∧ Keeps [] w wr)
  case atStart => exact ⟨0, by omega, by omega, rfl, fun i hi => by omega, Keeps.refl _ _⟩
  case round =>
    obtain ⟨k, hgh, hk, rfl, hall, hkr⟩ := hrel
    have HALL := Lib.hid hall
    clear hall
    by_cases hlt : k < m
    · obtain ⟨pa, ea, hpa⟩ := (HCELL.out.keeps (hkr.nil l)).at_ hlt
      have hx := (HVAL.out k hlt).keeps (hkr.nil l)
      have hxm := getD_mem (d := []) (show k < L.length by rw [HLN.out]; exact hlt)
      have hcall := rleq_is (IsI.new HV.out hkr) hx (by rw [HVN.out]; omega) (HL.out _ hxm)
      obtain ⟨Bx, dx, ex, _⟩ := hx.open
      rw [ex] at hpa hcall
      subst ea
      cases hq : vleB v (L.getD k []) with
      | true =>
        have hd : raiseL L v = L := by unfold raiseL; rw [if_pos (List.any_eq_true.2 ⟨_, hxm, hq⟩)]
        rw [hq] at hcall
        have HKR := Lib.hid hkr
        have HCALL := Lib.hid hcall
        have HD := Lib.hid hd
        clear hcall hd
        clear hq hx ex hkr hxm
        go_wp2_with fail
        refine HCALL.out.mono ?_
        rintro e w1 ⟨rfl, hk1⟩
        have hk2 := HKR.out.trans hk1
        have HK2 := Lib.hid hk2
        clear hk2
        clear hk1
        go_wp2_with fail
        go_ret
        exact ⟨_, _, _, rfl, by rw [HD.out]; exact IsII.new H.out HK2.out, HK2.out⟩
      | false =>
        have h0 : ∀ i, i < k + 1 → vleB v (L.getD i []) = false := fun i hi => by
          by_cases e : i = k
          · rw [e]; exact hq
          · exact HALL.out i (by omega)
        rw [hq] at hcall
        have HKR := Lib.hid hkr
        have HCALL := Lib.hid hcall
        have H0 := Lib.hid h0
        clear hcall h0
        clear hq hx ex hkr hxm
        go_wp2_with fail
        refine HCALL.out.mono ?_
        rintro e w1 ⟨rfl, hk1⟩
        have hk2 := HKR.out.trans hk1
        have HK2 := Lib.hid hk2
        clear hk2
        clear hk1
        go_wp2_with fail
        go_roundg (m - k)
        case measure => omega
        case rel => exact ⟨k + 1, by omega, by omega, by go_num, H0.out, HK2.out⟩
    · obtain rfl : k = m := by omega
      have hd : raiseL L v = putL (L.filter fun x => !vleB x v) v := by
        unfold raiseL
        rw [if_neg]
        intro hc
        obtain ⟨x, hx, e⟩ := List.any_eq_true.1 hc
        obtain ⟨i, hi, e2⟩ := mem_getD (d := []) hx
        have := HALL.out i (by rw [← HLN.out]; exact hi)
        rw [e2] at this
        rw [this] at e; cases e
      have HKR := Lib.hid hkr
      have HD := Lib.hid hd
      clear hd
      clear hkr
      go_wp2_with fail
      go_loopg [5, 7] (k + 1) (fun gh sv jv wr => ∃ (j : Nat) (A' : Option Addr) (q c' : Nat) (ys : List (List Int)), k + 1 ≤ j + gh ∧ j ≤ k ∧ jv = .int .i64 (j : Int) ∧ sv = .slice A' q c' ∧ q = ys.length ∧ q ≤ j ∧ ys = (L.take j).filter (fun x => !vleB x v) ∧ OwL IsI [] 22 w.heap.size wr l (.slice A' q c') ys ∧ Keeps [] w wr)
      case atStart => exact ⟨0, none, 0, 0, [], by omega, by omega, rfl, rfl, rfl, by omega, rfl, OwL.nil, HKR.out⟩
      case round =>
        obtain ⟨j, A', q, c', ys, hgh2, hj, rfl, rfl, hq, hqj, hys, hO, hk3⟩ := hrel
        have HQ := Lib.hid hq
        have HYS := Lib.hid hys
        have HO := Lib.hid hO
        clear hq hys hO
        by_cases hltj : j < k
        · have hsn := filter_snoc (f := fun x => !vleB x v) (show j < L.length by rw [HLN.out]; exact hltj)
          obtain ⟨pa, ea, hpa⟩ := (HCELL.out.keeps (hk3.nil l)).at_ hltj
          have hx := HVAL.out j hltj
          have hxm := getD_mem (d := []) (show j < L.length by rw [HLN.out]; exact hltj)
          have hxl := HL.out _ hxm
          obtain ⟨Bx, dx, ex, _⟩ := (show IsI w l (V j) (L.getD j []) from hx).open
          rw [ex] at hpa hx
          subst ea
          have hcall := rleq_is (IsI.new hx hk3) (IsI.new HV.out hk3) hxl (by rw [HVN.out]; omega)
          cases hb : vleB (L.getD j []) v with
          | true =>
            rw [hb] at hcall hsn
            have HK3 := Lib.hid hk3
            have HCALL := Lib.hid hcall
            have HSN := Lib.hid hsn
            clear hcall hsn
            clear hb hx ex hk3 hxm
            go_wp2_with fail
            refine HCALL.out.mono ?_
            rintro e w1 ⟨rfl, hk1⟩
            have hk2 := HK3.out.trans hk1
            have hO2 := HO.out.new hk1
            have HK2 := Lib.hid hk2
            have HO2 := Lib.hid hO2
            clear hk2 hO2
            clear hk1
            go_wp2_with fail
            go_roundg (k - j)
            case measure => omega
            case rel => exact ⟨j + 1, A', q, c', ys, by omega, by omega, by go_num, rfl, HQ.out, by omega, by rw [HSN.out, ← HYS.out]; simp, HO2.out, HK2.out⟩
          | false =>
            rw [hb] at hcall hsn
            have HK3 := Lib.hid hk3
            have HCALL := Lib.hid hcall
            have HSN := Lib.hid hsn
            clear hcall hsn
            clear hb ex hk3 hxm
            have HX := Lib.hid hx
            clear hx
            go_wp2_with fail
            refine HCALL.out.mono ?_
            rintro e w1 ⟨rfl, hk1⟩
            have hk2 := HK3.out.trans hk1
            have hz2 := hk2.size
            have hO2 := HO.out.new hk1
            have hpa1 := hk1.read hpa (by simp)
            have hxi : IsI w1 ((Value.slice A' q c').ownBlock.toList ++ l) (.slice Bx (L.getD j []).length dx) (L.getD j []) := HO.out.putw (R := IsI) HX.out hk2 (Nat.le_refl _)
            have HK2 := Lib.hid hk2
            have HO2 := Lib.hid hO2
            have HXI := Lib.hid hxi
            clear hk2 hO2 hxi
            clear hk1 hpa
            go_wp2_with (at_builtin; refine wpList_push sl_rowsi rfl _ _ rfl (w := w1) (u := .slice Bx (L.getD j []).length dx) (y := L.getD j []) (v := .slice A' q c') rfl rfl HO2.out HXI.out (m := q + 1) (by rw [← HQ.out]) (by omega) hz2 (w0 := w) (l0 := []) (Nat.le_refl _) HK2.out ?_; intro V' c'' w6 hown6 hg6 hk6)
            have HOWN6 := Lib.hid hown6
            have HK6 := Lib.hid hk6
            clear hown6 hk6
            clear hg6
            go_roundg (k - j)
            case measure => omega
            case rel => exact ⟨j + 1, V', q + 1, c'', ys ++ [L.getD j []], by omega, by omega, by go_num, rfl, by simp [← HQ.out], by omega, by rw [HSN.out, ← HYS.out]; simp, HOWN6.out, HK6.out⟩
        · obtain rfl : j = k := by omega
          have htk : L.take j = L := List.take_of_length_le (by rw [HLN.out]; exact Nat.le_refl _)
          have hys := HYS.out
          rw [htk] at hys
          have hI : IsII wr l (.slice A' q c') ys := HO.out.isL HLW.out
          have hput := put_is (fun y hy => Nat.lt_of_lt_of_le (HLW.out y hy) hk3.size) hI (IsI.new HV.out hk3) (by rw [← HQ.out]; omega) (fun x hx => HL.out x (by rw [hys] at hx; exact (List.mem_filter.1 hx).1)) (by rw [HVN.out]; omega)
          unfold PutPost at hput
          rw [hys, ← HD.out] at hput
          have HK3 := Lib.hid hk3
          have HPUT := Lib.hid hput
          have HI := Lib.hid hI
          clear hput hI
          clear hk3
          go_wp2_with fail
          refine HPUT.out.mono ?_
          rintro e w7 ⟨A7, m7, c7, rfl, hI7, hk7⟩
          have hk8 := HK3.out.trans hk7
          have HI7 := Lib.hid hI7
          have HK8 := Lib.hid hk8
          clear hI7 hk8
          clear hk7
          go_wp2_with fail
          go_ret
          exact ⟨A7, m7, c7, rfl, HI7.out, HK8.out⟩
end Go.Proofs.YtnmkinaokjekjaaGreat

namespace Go.Proofs.YtnmkinaokjekjaaGreat
set_option linter.unusedVariables false
open Go.RowKit

theorem chk_el {n : Int} {L : List (List Int)} (h : ∀ i, i < L.length → ckAt n L i = 0) : (∀ x ∈ L, VVal x ∧ x.length = n.toNat) ∧ Asc L := by
  have h4 := fun i hi => ckAt_zero.1 (h i hi)
  refine ⟨fun x hx => ?_, asc_of_steps fun i hi h0 => (h4 i hi).2 h0⟩
  obtain ⟨i, hi, e⟩ := mem_getD (d := []) hx
  have := elE_zero.1 (h4 i hi).1
  rw [e] at this
  exact ⟨vvB_true.1 this.2, by have := this.1; omega⟩
theorem chk_no {n : Int} {L : List (List Int)} (h : ∀ i, i < L.length → ckAt n L i = 0) {j k : Nat} (hj : j < L.length) (hk : k < L.length) (hjk : j ≠ k) (hle : vleB (L.getD j []) (L.getD k []) = true) : (redF covG L).length ≠ L.length := by
  obtain ⟨hel, hasc⟩ := chk_el h
  intro hr
  have := (red_all hel (asc_nodup hasc)).1 hr _ (getD_mem (d := []) hj) _ (getD_mem (d := []) hk) hle
  rcases Nat.lt_or_gt_of_ne hjk with e | e
  · have hn := List.pairwise_iff_getElem.1 (asc_nodup hasc) j k hj hk e
    exact hn (by simpa [List.getD_eq_getElem?_getD, hj, hk] using this.symm)
  · have hn := List.pairwise_iff_getElem.1 (asc_nodup hasc) k j hk hj e
    exact hn (by simpa [List.getD_eq_getElem?_getD, hj, hk] using this)
theorem chk_yes {n : Int} {L : List (List Int)} (h : ∀ i, i < L.length → ckAt n L i = 0) (hle : ∀ j k, j < L.length → k < L.length → j ≠ k → vleB (L.getD j []) (L.getD k []) = false) : (redF covG L).length = L.length := by
  obtain ⟨hel, hasc⟩ := chk_el h
  refine (red_all hel (asc_nodup hasc)).2 fun x hx y hy e => ?_
  obtain ⟨j, hj, e1⟩ := mem_getD (d := []) hx
  obtain ⟨k, hk, e2⟩ := mem_getD (d := []) hy
  by_cases hjk : j = k
  · rw [← e1, ← e2, hjk]
  · have := hle j k hj hk hjk
    rw [e1, e2] at this
    rw [show vleB x y = true from e] at this
    cases this

set_option maxRecDepth 100000 in
set_option maxHeartbeats 8000000 in
theorem rcheck_is {w : World} {l : List Nat} {lv : Value} {L : List (List Int)} {n : Int} (h : IsII w l lv L) (hn : L.length ≤ 100000000) (hL : ∀ x ∈ L, x.length ≤ 1000000) :
    Calls Tryz.prog 12 #[.int .i64 n, lv] w (RetE (chkL n L) w) := by
  unfold RetE
  have hd := rdim_any n
  have h' := h
  obtain ⟨A0, c0, V, rfl, _, _, hcell, hval⟩ := h'
  have heq : chkL n L = if dimB n 6 = false then 2 else if 256 < L.length then 1 else if frst (ckAt n L) L.length ≠ 0 then frst (ckAt n L) L.length else if (redF covG L).length = L.length then 0 else 7 := rfl
  generalize hLn : L.length = m at *
  cases hq : dimB n 6 with
  | false =>
    rw [hq] at hd
    rw [hq, if_pos rfl] at heq
    have H := Lib.hid h
    have HCELL := Lib.hid hcell
    have HVAL := Lib.hid hval
    have HL := Lib.hid hL
    have HD := Lib.hid hd
    have HEQ := Lib.hid heq
    have HLN := Lib.hid hLn
    clear h hcell hval hL hd heq hLn
    clear hq
    go_enter Tryz.func12, Tryz.ntmps12
    go_wp2_with fail
    refine (HD.out _).mono ?_
    rintro e w' ⟨rfl, rfl⟩
    go_wp2_with fail
    go_ret
    exact ⟨ret_ii HEQ.out, Keeps.refl _ _⟩
  | true =>
    rw [hq] at hd
    rw [hq, if_neg (by simp)] at heq
    by_cases h256 : 256 < m
    · have d1 : decide ((256 : Int) < (m : Int)) = true := decide_eq_true (by omega)
      have d2 : decide (256 < m) = true := decide_eq_true h256
      rw [if_pos h256] at heq
      have H := Lib.hid h
      have HCELL := Lib.hid hcell
      have HVAL := Lib.hid hval
      have HL := Lib.hid hL
      have HD := Lib.hid hd
      have HEQ := Lib.hid heq
      have HLN := Lib.hid hLn
      clear h hcell hval hL hd heq hLn
      clear hq
      go_enter Tryz.func12, Tryz.ntmps12
      go_wp2_with fail
      refine (HD.out _).mono ?_
      rintro e w' ⟨rfl, rfl⟩
      go_wp2_with fail
      go_ret
      exact ⟨ret_ii HEQ.out, Keeps.refl _ _⟩
    · have d1 : decide ((256 : Int) < (m : Int)) = false := decide_eq_false (by omega)
      have d2 : decide (256 < m) = false := decide_eq_false h256
      rw [if_neg h256] at heq
      have H := Lib.hid h
      have HCELL := Lib.hid hcell
      have HVAL := Lib.hid hval
      have HL := Lib.hid hL
      have HD := Lib.hid hd
      have HEQ := Lib.hid heq
      have HLN := Lib.hid hLn
      clear h hcell hval hL hd heq hLn
      have HDM := Lib.hid hq
      clear hq
      go_enter Tryz.func12, Tryz.ntmps12
      go_wp2_with fail
      refine (HD.out _).mono ?_
      rintro e w' ⟨rfl, rfl⟩
      go_wp2_with fail
      go_loopg [5] (m + 1) (fun gh kv wr => ∃ (k : Nat), m + 1 ≤ k + gh ∧ k ≤ m ∧ kv = .int .i64 (k : Int) ∧ (∀ i, i < k → ckAt n L i = 0) ∧ Keeps [] w wr)
      case atStart => exact ⟨0, by omega, by omega, rfl, fun i hi => by omega, Keeps.refl _ _⟩
      case round =>
        obtain ⟨k, hgh, hk, rfl, hall, hkr⟩ := hrel
        have HALL := Lib.hid hall
        clear hall
        by_cases hlt : k < m
        · obtain ⟨pk, ek, hpk⟩ := (HCELL.out.keeps (hkr.nil l)).at_ hlt
          have hxl := HL.out _ (getD_mem (d := []) (show k < L.length by rw [HLN.out]; exact hlt))
          have hxi := (HVAL.out k hlt).keeps (hkr.nil l)
          have hcall := rfault_is (n := n) (show IsI wr l _ _ from hxi) hxl
          obtain ⟨Bk, dk, evk, _⟩ := (show IsI wr l (V k) (L.getD k []) from hxi).open
          rw [evk] at hpk hcall
          subst ek
          have hck : ckAt n L k = if elE n vvB (L.getD k []) ≠ 0 then elE n vvB (L.getD k []) else if 0 < k ∧ 0 ≤ cmpL (L.getD (k - 1) []) (L.getD k []) then 4 else 0 := rfl
          generalize elE n vvB (L.getD k []) = ez at *
          have HKR := Lib.hid hkr
          have HCALL := Lib.hid hcall
          have HCK := Lib.hid hck
          clear hcall hck
          clear hxi hkr hxl evk
          by_cases he0 : ez = 0
          · subst he0
            rw [if_neg (by simp)] at HCK
            go_wp2_with fail
            refine HCALL.out.mono ?_
            rintro e w5 ⟨rfl, hk5⟩
            have hK5 := HKR.out.trans hk5
            have HK5 := Lib.hid hK5
            clear hK5
            clear hk5 hpk
            by_cases hk0 : k = 0
            · have hd0 : decide ((0 : Int) < (k : Int)) = false := decide_eq_false (by omega)
              have h0 : ∀ i, i < k + 1 → ckAt n L i = 0 := fun i hi => by
                obtain rfl : i = k := by omega
                rw [HCK.out, if_neg (by omega)]
              have H0 := Lib.hid h0
              clear h0
              go_wp2_with fail
              go_quiet (fail)
              go_wp2_with fail
              go_roundg (m - k)
              case measure => omega
              case rel => exact ⟨k + 1, by omega, by omega, by go_num, H0.out, HK5.out.drewN _⟩
            · have hd0 : decide ((0 : Int) < (k : Int)) = true := decide_eq_true (by omega)
              have hLI5 := H.out.new HK5.out
              obtain ⟨A9, c9, V9, hv9, _, _, hc9, hr9⟩ := hLI5
              injection hv9 with e1 e2 e3
              subst e1; subst e3
              rw [HLN.out] at hc9 hr9
              obtain ⟨pa, epa, hpa2⟩ := hc9.at_ hlt
              obtain ⟨pb, epb, hpa1⟩ := hc9.at_ (show k - 1 < m by omega)
              obtain rfl : pa = pk := by injection epa with e; exact e.symm
              obtain rfl : pb = pa := by injection epb with e; exact e.symm
              have hx1 : IsI w5 l (V9 (k - 1)) (L.getD (k - 1) []) := hr9 (k - 1) (by omega)
              have hx2 : IsI w5 l (V9 k) (L.getD k []) := hr9 k hlt
              have hl1 := HL.out _ (getD_mem (d := []) (show k - 1 < L.length by rw [HLN.out]; omega))
              have hl2 := HL.out _ (getD_mem (d := []) (show k < L.length by rw [HLN.out]; omega))
              have hcc := fun W (kp : Keeps [] w5 W) => cmp_is (IsI.new hx1 kp) (IsI.new hx2 kp) hl1 hl2
              have hck := HCK.out
              generalize cmpL (L.getD (k - 1) []) (L.getD k []) = cm at *
              obtain ⟨B1, d1', ev1, _⟩ := hx1.open
              obtain ⟨B2, d2', ev2, _⟩ := hx2.open
              rw [ev1] at hpa1 hcc
              rw [ev2] at hpa2 hcc
              have hp1 : (1 : Int) ≤ (k : Int) := by omega
              have hp2 : (0 : Int) ≤ (k : Int) - 1 := by omega
              have hw3 : IntKind.i64.wrap ((k : Int) - 1) = (k : Int) - 1 := IntWalk.i64_in _ (by omega)
              have hw2 : ((k : Int) - 1).toNat = k - 1 := by omega
              have hlk : k - 1 < m := by omega
              have hp3 : (k : Int) - 1 < (m : Int) := by omega
              have hp4 : (k : Int) < (m : Int) := by omega
              have hp5 : 1 ≤ k := by omega
              have hkp : 0 < k := by omega
              have hdp : decide (0 < k) = true := decide_eq_true hkp
              have HCC := Lib.hid hcc
              have HCK := Lib.hid hck
              clear hcc hck
              clear hc9 hr9 hx1 hx2 hl1 hl2 ev1 ev2 e2
              by_cases hcm : 0 ≤ cm
              · have hd3 : decide ((0 : Int) ≤ cm) = true := decide_eq_true hcm
                have hfin : chkL n L = 4 := by
                  have h1 := HCK.out
                  rw [if_pos ⟨by omega, hcm⟩] at h1
                  have h2 := frst_hit HALL.out (by rw [h1]; omega) hlt
                  rw [HEQ.out, h2, h1, if_pos (by omega)]
                have HFIN := Lib.hid hfin
                have HCM := Lib.hid hcm
                clear hfin hcm
                go_wp2_with fail
                refine wp_quietk (l0 := []) (by kernel_rfl) (by kernel_rfl) ?_
                repeat ((with_reducible refine wpQuiet_step (fun K hK => ?_)); go_simp; first
                  | ((with_reducible refine hK _ ?_); clear hK K)
                  | (rw [if_neg (by intro h; cases h)]; (with_reducible refine hK _ ?_); clear hK K)
                  | (apply Exists.intro; refine ⟨fun W hW => ?_, hK _ ?_⟩
                     · first
                         | with_reducible exact Eq.refl _
                         | ((have hq1 := hW.read hpa1 (by simp); have hq2 := hW.read hpa2 (by simp)); (try go_simp); with_reducible first | done | exact Eq.refl _ | exact ⟨Eq.refl _, Eq.refl _⟩)
                         | ((refine (HCC.out W hW).mono ?_; rintro e w10 ⟨rfl, hk⟩; exact ⟨Eq.refl _, hW.trans (quiet_keeps hk)⟩))
                     clear hK K))
                with_reducible refine wpQuiet_nil ?_
                intro w9 hk9
                have hkk := HK5.out.trans hk9
                have HKK := Lib.hid hkk
                clear hkk
                clear hk9 hpa1 hpa2 hw3 hw2 hp2
                go_wp2_with fail
                go_ret
                exact ⟨ret_ii HFIN.out, HKK.out⟩
              · have hd3 : decide ((0 : Int) ≤ cm) = false := decide_eq_false hcm
                have h0 : ∀ i, i < k + 1 → ckAt n L i = 0 := fun i hi => by
                  by_cases e : i = k
                  · rw [e, HCK.out, if_neg (fun h => hcm h.2)]
                  · exact HALL.out i (by omega)
                have H0 := Lib.hid h0
                have HCM := Lib.hid hcm
                clear h0 hcm
                go_wp2_with fail
                refine wp_quietk (l0 := []) (by kernel_rfl) (by kernel_rfl) ?_
                repeat ((with_reducible refine wpQuiet_step (fun K hK => ?_)); go_simp; first
                  | ((with_reducible refine hK _ ?_); clear hK K)
                  | (rw [if_neg (by intro h; cases h)]; (with_reducible refine hK _ ?_); clear hK K)
                  | (apply Exists.intro; refine ⟨fun W hW => ?_, hK _ ?_⟩
                     · first
                         | with_reducible exact Eq.refl _
                         | ((have hq1 := hW.read hpa1 (by simp); have hq2 := hW.read hpa2 (by simp)); (try go_simp); with_reducible first | done | exact Eq.refl _ | exact ⟨Eq.refl _, Eq.refl _⟩)
                         | ((refine (HCC.out W hW).mono ?_; rintro e w10 ⟨rfl, hk⟩; exact ⟨Eq.refl _, hW.trans (quiet_keeps hk)⟩))
                     clear hK K))
                with_reducible refine wpQuiet_nil ?_
                intro w9 hk9
                have hkk := HK5.out.trans hk9
                have HKK := Lib.hid hkk
                clear hkk
                clear hk9 hpa1 hpa2 hw3 hw2 hp2
                go_wp2_with fail
                go_roundg (m - k)
                case measure => omega
                case rel => exact ⟨k + 1, by omega, by omega, by go_num, H0.out, HKK.out⟩
          · have hb : (ez != 0) = true := by simpa using he0
            have hfin : chkL n L = ez := by
              have h1 := HCK.out
              rw [if_pos he0] at h1
              have h2 := frst_hit HALL.out (by rw [h1]; exact he0) hlt
              rw [HEQ.out, h2, h1, if_pos he0]
            have HE0 := Lib.hid he0
            have HFIN := Lib.hid hfin
            clear he0 hfin
            go_wp2_with fail
            refine HCALL.out.mono ?_
            rintro e w5 ⟨rfl, hk5⟩
            have hkk := HKR.out.trans hk5
            have HKK := Lib.hid hkk
            clear hkk
            clear hk5 hpk
            go_wp2_with fail
            go_ret
            exact ⟨ret_ii HFIN.out, HKK.out⟩
        · obtain rfl : k = m := by omega
          have hfr : frst (ckAt n L) k = 0 := frst_zero.2 HALL.out
          have heq := HEQ.out
          rw [if_neg (by simpa using hfr)] at heq
          have HKR := Lib.hid hkr
          have HEQ := Lib.hid heq
          clear heq
          clear hfr hkr
          go_wp2_with fail
          go_loopg [7] (k + 1) (fun gh jv wr => ∃ (j : Nat), k + 1 ≤ j + gh ∧ j ≤ k ∧ jv = .int .i64 (j : Int) ∧ (∀ i, i < j → ∀ q, q < k → i ≠ q → vleB (L.getD i []) (L.getD q []) = false) ∧ Keeps [] w wr)
          case atStart => exact ⟨0, by omega, by omega, rfl, fun i hi => by omega, HKR.out⟩
          case round =>
            obtain ⟨j, hgh2, hj, rfl, hno, hkr2⟩ := hrel
            have HKR2 := Lib.hid hkr2
            have HNO := Lib.hid hno
            clear hno
            clear hkr2
            by_cases hltj : j < k
            · go_wp2_with fail
              go_loopg [8] (k + 1) (fun gh qv wr => ∃ (q : Nat), k + 1 ≤ q + gh ∧ q ≤ k ∧ qv = .int .i64 (q : Int) ∧ (∀ i, i < q → j ≠ i → vleB (L.getD j []) (L.getD i []) = false) ∧ Keeps [] w wr)
              case atStart => exact ⟨0, by omega, by omega, rfl, fun i hi => by omega, HKR2.out⟩
              case round =>
                obtain ⟨q, hgh3, hq, rfl, hnq, hkr3⟩ := hrel
                have HNQ := Lib.hid hnq
                clear hnq
                by_cases hltq : q < k
                · by_cases hjq : j = q
                  · have hd0 : ((j : Int) != (q : Int)) = false := by rw [hjq]; simp
                    have h0 : ∀ i, i < q + 1 → j ≠ i → vleB (L.getD j []) (L.getD i []) = false := fun i hi hji => HNQ.out i (by omega) hji
                    have HKR3 := Lib.hid hkr3
                    have hjp : (j : Int) < (k : Int) := by omega
                    have H0 := Lib.hid h0
                    have HJQ := Lib.hid hjq
                    clear h0 hjq
                    clear hkr3
                    go_wp2_with fail
                    go_quiet (fail)
                    go_wp2_with fail
                    go_roundg (k - q)
                    case measure => omega
                    case rel => exact ⟨q + 1, by omega, by omega, by go_num, H0.out, HKR3.out.drewN _⟩
                  · have hd0 : ((j : Int) != (q : Int)) = true := by
                      have : (j : Int) ≠ (q : Int) := by omega
                      simpa using this
                    have hLI5 := H.out.new hkr3
                    obtain ⟨A9, c9, V9, hv9, _, _, hc9, hr9⟩ := hLI5
                    injection hv9 with e1 e2 e3
                    subst e1; subst e3
                    rw [HLN.out] at hc9 hr9
                    obtain ⟨pa, ea, hpa1⟩ := hc9.at_ hltj
                    obtain ⟨pb, epb, hpa2⟩ := hc9.at_ hltq
                    subst ea
                    injection epb with epb
                    subst epb
                    have hx1 : IsI wr l (V9 j) (L.getD j []) := hr9 j hltj
                    have hx2 : IsI wr l (V9 q) (L.getD q []) := hr9 q hltq
                    have hl1 := HL.out _ (getD_mem (d := []) (show j < L.length by rw [HLN.out]; omega))
                    have hl2 := HL.out _ (getD_mem (d := []) (show q < L.length by rw [HLN.out]; omega))
                    have hcc := fun W (kp : Keeps [] wr W) => rleq_is (IsI.new hx1 kp) (IsI.new hx2 kp) hl1 hl2
                    obtain ⟨B1, d1', ev1, _⟩ := hx1.open
                    obtain ⟨B2, d2', ev2, _⟩ := hx2.open
                    rw [ev1] at hpa1 hcc
                    rw [ev2] at hpa2 hcc
                    have HKR3 := Lib.hid hkr3
                    have hp1 : (j : Int) < (k : Int) := by omega
                    have hp2 : (q : Int) < (k : Int) := by omega
                    cases hb : vleB (L.getD j []) (L.getD q []) with
                    | true =>
                      have hfin : chkL n L = 7 := by
                        rw [HEQ.out, if_neg]
                        have := chk_no (n := n) (L := L) (fun i hi => HALL.out i (by rw [← HLN.out]; exact hi)) (by rw [HLN.out]; exact hltj) (by rw [HLN.out]; exact hltq) hjq hb
                        rwa [HLN.out] at this
                      rw [hb] at hcc
                      have HCC := Lib.hid hcc
                      have HFIN := Lib.hid hfin
                      have HJQ := Lib.hid hjq
                      clear hcc hfin hjq
                      clear hb hc9 hr9 hx1 hx2 hl1 hl2 ev1 ev2 e2 hkr3
                      go_wp2_with fail
                      refine wp_quietk (l0 := []) (by kernel_rfl) (by kernel_rfl) ?_
                      repeat ((with_reducible refine wpQuiet_step (fun K hK => ?_)); go_simp; first
                        | ((with_reducible refine hK _ ?_); clear hK K)
                        | (rw [if_neg (by intro h; cases h)]; (with_reducible refine hK _ ?_); clear hK K)
                        | (apply Exists.intro; refine ⟨fun W hW => ?_, hK _ ?_⟩
                           · first
                               | with_reducible exact Eq.refl _
                               | ((have hq1 := hW.read hpa1 (by simp); have hq2 := hW.read hpa2 (by simp)); (try go_simp); with_reducible first | done | exact Eq.refl _ | exact ⟨Eq.refl _, Eq.refl _⟩)
                               | ((refine (HCC.out W hW).mono ?_; rintro e w10 ⟨rfl, hk⟩; exact ⟨Eq.refl _, hW.trans hk⟩))
                           clear hK K))
                      with_reducible refine wpQuiet_nil ?_
                      intro w9 hk9
                      have hkk := HKR3.out.trans hk9
                      have HKK := Lib.hid hkk
                      clear hkk
                      clear hk9 hpa1 hpa2
                      go_wp2_with fail
                      go_ret
                      exact ⟨ret_ii HFIN.out, HKK.out⟩
                    | false =>
                      have h0 : ∀ i, i < q + 1 → j ≠ i → vleB (L.getD j []) (L.getD i []) = false := fun i hi hji => by
                        by_cases e : i = q
                        · rw [e]; exact hb
                        · exact HNQ.out i (by omega) hji
                      rw [hb] at hcc
                      have HCC := Lib.hid hcc
                      have H0 := Lib.hid h0
                      have HJQ := Lib.hid hjq
                      clear hcc h0 hjq
                      clear hb hc9 hr9 hx1 hx2 hl1 hl2 ev1 ev2 e2 hkr3
                      go_wp2_with fail
                      refine wp_quietk (l0 := []) (by kernel_rfl) (by kernel_rfl) ?_
                      repeat ((with_reducible refine wpQuiet_step (fun K hK => ?_)); go_simp; first
                        | ((with_reducible refine hK _ ?_); clear hK K)
                        | (rw [if_neg (by intro h; cases h)]; (with_reducible refine hK _ ?_); clear hK K)
                        | (apply Exists.intro; refine ⟨fun W hW => ?_, hK _ ?_⟩
                           · first
                               | with_reducible exact Eq.refl _
                               | ((have hq1 := hW.read hpa1 (by simp); have hq2 := hW.read hpa2 (by simp)); (try go_simp); with_reducible first | done | exact Eq.refl _ | exact ⟨Eq.refl _, Eq.refl _⟩)
                               | ((refine (HCC.out W hW).mono ?_; rintro e w10 ⟨rfl, hk⟩; exact ⟨Eq.refl _, hW.trans hk⟩))
                           clear hK K))
                      with_reducible refine wpQuiet_nil ?_
                      intro w9 hk9
                      have hkk := HKR3.out.trans hk9
                      have HKK := Lib.hid hkk
                      clear hkk
                      clear hk9 hpa1 hpa2
                      go_wp2_with fail
                      go_roundg (k - q)
                      case measure => omega
                      case rel => exact ⟨q + 1, by omega, by omega, by go_num, H0.out, HKK.out⟩
                · obtain rfl : q = k := by omega
                  have h0 : ∀ i, i < j + 1 → ∀ p, p < q → i ≠ p → vleB (L.getD i []) (L.getD p []) = false := fun i hi p hp hip => by
                    by_cases e : i = j
                    · subst e; exact HNQ.out p hp hip
                    · exact HNO.out i (by omega) p hp hip
                  have HKR3 := Lib.hid hkr3
                  have H0 := Lib.hid h0
                  clear h0
                  clear hkr3
                  go_wp2_with fail
                  go_roundg (q - j)
                  case measure => omega
                  case rel => exact ⟨j + 1, by omega, by omega, by go_num, H0.out, HKR3.out⟩
            · obtain rfl : j = k := by omega
              have hfin : chkL n L = 0 := by
                rw [HEQ.out, if_pos]
                have := chk_yes (n := n) (L := L) (fun i hi => HALL.out i (by rw [← HLN.out]; exact hi)) (fun i q hi hq hiq => HNO.out i (by rw [← HLN.out]; exact hi) q (by rw [← HLN.out]; exact hq) hiq)
                rwa [HLN.out] at this
              have HFIN := Lib.hid hfin
              clear hfin
              go_wp2_with fail
              go_ret
              exact ⟨ret_ii HFIN.out, HKR2.out⟩
end Go.Proofs.YtnmkinaokjekjaaGreat

namespace Go.Proofs.YtnmkinaokjekjaaGreat
set_option linter.unusedVariables false
open Go.RowKit

theorem bey_fun {cov : List Int → List Int → Bool} {turn : Int → Int → Option Int} {b : List Int} {C out : List (List Int)} (h : Bey cov turn b C out) : ∀ out', Bey cov turn b C out' → out = out' := by
  induction h with
  | nil =>
    intro out' h'
    generalize hC : ([] : List (List Int)) = C at h'
    cases h' with
    | nil => rfl
    | snoc h1 h2 h3 => simp at hC
  | @snoc C out out1 c h1 h2 h3 ih =>
    intro out' h'
    generalize hC : C ++ [c] = C' at h'
    cases h' with
    | nil => simp at hC
    | @snoc C2 out2 _ c2 g1 g2 g3 =>
      obtain ⟨rfl, e⟩ := List.append_inj' hC rfl
      injection e with e
      subst e
      rw [ih _ g1] at h3
      exact asc_ext h2 g2 fun x => (h3 x).trans (g3 x).symm

/-! Below. -/
def belF (n : Nat) (C : List (List Int)) : List (List Int) := C.foldl (fun out c => greatL (nextA turnB c out)) [List.replicate n OM]
theorem belF_snoc (n : Nat) (C : List (List Int)) (c : List Int) : belF n (C ++ [c]) = greatL (nextA turnB c (belF n C)) := by simp [belF, List.foldl_append]
theorem belF_bey {n : Nat} {P : List Int → Prop} : ∀ (C : List (List Int)), BeyP covG turnB (List.replicate n OM) C n P → Bey covG turnB (List.replicate n OM) C (belF n C) := by
  intro C
  rw [← List.reverse_reverse C]
  induction C.reverse with
  | nil => intro _; exact .nil
  | cons c C ih =>
    rw [List.reverse_cons]
    intro hp
    have hp' := hp.sub (C' := C.reverse) fun c hc => by simp at hc ⊢; exact .inl hc
    have hb := ih hp'
    have hP := bey_P hb hp'
    have hN := hp.next (c := c) (by simp) hP
    rw [belF_snoc]
    exact .snoc hb (great_inv _).1 fun x => ((great_inv _).2 x).trans (redF_mem (hp.ord _ hN))

def lessT (n : Nat) (c : List Int) (k : Nat) : List (List Int) := (List.range k).filterMap fun i => if 0 < c.getD i 0 then some ((List.replicate n OM).set i (c.getD i 0 - 1)) else none
theorem lessT_succ (n : Nat) (c : List Int) (k : Nat) : lessT n c (k + 1) = lessT n c k ++ if 0 < c.getD k 0 then [(List.replicate n OM).set k (c.getD k 0 - 1)] else [] := by
  unfold lessT
  rw [List.range_succ, List.filterMap_append]
  congr 1
  by_cases h : 0 < c.getD k 0 <;> simp only [List.filterMap_cons, List.filterMap_nil, h, if_true, if_false]
theorem lessT_len (n : Nat) (c : List Int) (k : Nat) : (lessT n c k).length ≤ k := by
  have := List.length_filterMap_le (fun i => if 0 < c.getD i 0 then some ((List.replicate n OM).set i (c.getD i 0 - 1)) else none) (List.range k)
  simpa [lessT] using this
theorem mem_lessT {n : Nat} {c x : List Int} {k : Nat} : x ∈ lessT n c k ↔ ∃ i, i < k ∧ 0 < c.getD i 0 ∧ x = (List.replicate n OM).set i (c.getD i 0 - 1) := by
  unfold lessT
  rw [List.mem_filterMap]
  constructor
  · rintro ⟨i, hi, e⟩
    by_cases h : 0 < c.getD i 0
    · rw [if_pos h] at e
      injection e with e
      exact ⟨i, List.mem_range.1 hi, h, e.symm⟩
    · rw [if_neg h] at e; cases e
  · rintro ⟨i, hi, h, rfl⟩
    exact ⟨i, List.mem_range.2 hi, by rw [if_pos h]⟩
theorem filterMap_same {α β : Type} {f g : α → Option β} : ∀ {l : List α}, (∀ x ∈ l, f x = g x) → l.filterMap f = l.filterMap g
  | [], _ => rfl
  | x :: l, h => by
    rw [List.filterMap_cons, List.filterMap_cons, h x (by simp), filterMap_same (l := l) fun y hy => h y (by simp [hy])]
theorem minV_set {n k : Nat} {v : List Int} {y : Int} (hv : v.length = n) (hx : ∀ x ∈ v, x ≤ OM) (hk : k < n) : minV n v ((List.replicate n OM).set k y) = v.set k (min (v.getD k 0) y) := by
  refine eq_of_getD (by rw [minV_len, List.length_set, hv]) fun i hi => ?_
  rw [minV_len] at hi
  rw [minV_at hi, getD_set _ _ _ _ (by simp; exact hk), getD_set _ _ _ _ (by omega)]
  by_cases e : i = k
  · rw [if_pos e, if_pos e, e]
  · rw [if_neg e, if_neg e]
    have h1 := hx _ (getD_mem (d := 0) (show i < v.length by omega))
    have h2 : (List.replicate n OM).getD i 0 = OM := by simp [List.getD_eq_getElem?_getD, hi]
    rw [h2]; omega
theorem prod_less {n : Nat} {c : List Int} : ∀ {out : List (List Int)}, (∀ v ∈ out, v.length = n ∧ ∀ x ∈ v, x ≤ OM) → prodL n out (lessT n c n) = nextA turnB c out
  | [], _ => rfl
  | v :: out, h => by
    have ih := prod_less (c := c) (out := out) fun u hu => h u (by simp [hu])
    obtain ⟨hv, hx⟩ := h v (by simp)
    unfold prodL nextA at *
    rw [List.flatMap_cons, List.flatMap_cons, ih]
    congr 1
    unfold lessT nextV
    rw [List.map_filterMap, hv]
    refine filterMap_same fun k hk => ?_
    rw [List.mem_range] at hk
    unfold turnB
    by_cases h : 0 < c.getD k 0
    · rw [if_pos h, if_pos h]; simp only [Option.map_some]; rw [minV_set hv hx hk]
    · rw [if_neg h, if_neg h]; rfl
theorem lessT_val {n : Nat} {c x : List Int} {k : Nat} (hk : k ≤ n) (hn : n ≤ 6) (hc : ∀ i, i < n → 0 ≤ c.getD i 0 ∧ c.getD i 0 ≤ 1048576) (h : x ∈ lessT n c k) : VVal x ∧ x.length = n := by
  obtain ⟨i, hi, h0, rfl⟩ := mem_lessT.1 h
  refine ⟨⟨by simp; exact hn, fun y hy => ?_⟩, by simp⟩
  unfold VEl
  have := hc i (by omega)
  rcases List.mem_or_eq_of_mem_set hy with e | e
  · right; rw [List.eq_of_mem_replicate e]; rfl
  · left; omega

def lim (R : List (List Int)) : Int × List (List Int) := if 256 < R.length then (1, []) else (0, R)
def bwP (n : Int) (C : List (List Int)) : Int × List (List Int) := if cornE n vfB C ≠ 0 then (cornE n vfB C, []) else lim (belF n.toNat C)

/-! Above. -/
def badB (L : List (List Int)) (x : List Int) : Bool := L.any fun y => !decide (x = y) && pleB y x
def leastF (l L : List (List Int)) : List (List Int) := L.foldl (fun out x => if badB l x = true then out else putL out x) []
def leastL (l : List (List Int)) : List (List Int) := leastF l l
theorem leastF_snoc (l L : List (List Int)) (x : List Int) : leastF l (L ++ [x]) = if badB l x = true then leastF l L else putL (leastF l L) x := by simp [leastF, List.foldl_append]
theorem leastF_inv (l : List (List Int)) : ∀ L, Asc (leastF l L) ∧ (∀ x, x ∈ leastF l L ↔ x ∈ L ∧ badB l x = false) ∧ (leastF l L).length ≤ L.length := by
  intro L
  rw [← List.reverse_reverse L]
  induction L.reverse with
  | nil => exact ⟨List.Pairwise.nil, fun x => by simp [leastF], by simp [leastF]⟩
  | cons v L ih =>
    rw [List.reverse_cons, leastF_snoc]
    obtain ⟨h1, h2, h3⟩ := ih
    cases hb : badB l v with
    | true =>
      rw [if_pos rfl]
      refine ⟨h1, fun x => (h2 x).trans ⟨fun h => ⟨by simp [h.1], h.2⟩, fun h => ⟨?_, h.2⟩⟩, by simp at h3 ⊢; omega⟩
      rcases List.mem_append.1 h.1 with e | e
      · exact e
      · rw [List.mem_singleton.1 e, hb] at h; cases h.2
    | false =>
      rw [if_neg (by simp)]
      refine ⟨putL_asc h1, fun x => ?_, Nat.le_trans putL_len (by simp at h3 ⊢; omega)⟩
      rw [mem_putL, h2, List.mem_append, List.mem_singleton]
      constructor
      · rintro (h | h)
        · exact ⟨.inr h, by rw [h]; exact hb⟩
        · exact ⟨.inl h.1, h.2⟩
      · rintro ⟨h | h, e⟩
        · exact .inr ⟨h, e⟩
        · exact .inl h
theorem least_mem {n : Nat} {l : List (List Int)} (hl : ∀ x ∈ l, x.length = n) {x : List Int} : x ∈ leastL l ↔ MaxOf vltB l x := by
  rw [leastL, (leastF_inv l l).2.1 x]
  unfold MaxOf
  refine and_congr_right fun hx => ?_
  unfold badB
  rw [List.any_eq_false]
  refine forall_congr' fun y => forall_congr' fun hy => ?_
  rw [ple_vlt ((hl y hy).trans (hl x hx).symm)]
  by_cases e : x = y
  · subst e; simp
  · have e2 : ¬ y = x := fun h => e h.symm
    simp [e, e2]
def nextR (n : Nat) (c : List Int) (out : List (List Int)) : List (List Int) := (List.range n).flatMap fun k => if c.getD k 0 = OM then [] else out.map fun v => v.set k (max (v.getD k 0) (c.getD k 0 + 1))
def nextT (c : List Int) (out : List (List Int)) (k : Nat) : List (List Int) := (List.range k).flatMap fun k => if c.getD k 0 = OM then [] else out.map fun v => v.set k (max (v.getD k 0) (c.getD k 0 + 1))
theorem nextT_succ (c : List Int) (out : List (List Int)) (k : Nat) : nextT c out (k + 1) = nextT c out k ++ if c.getD k 0 = OM then [] else out.map fun v => v.set k (max (v.getD k 0) (c.getD k 0 + 1)) := by
  unfold nextT
  rw [List.range_succ, List.flatMap_append]
  simp only [List.flatMap_cons, List.flatMap_nil, List.append_nil]
theorem nextT_len (c : List Int) (out : List (List Int)) : ∀ k, (nextT c out k).length ≤ k * out.length
  | 0 => by simp [nextT]
  | k + 1 => by
    have ih := nextT_len c out k
    rw [nextT_succ, List.length_append, Nat.succ_mul]
    split
    · simp; omega
    · rw [List.length_map]; omega
theorem mem_nextT {n : Nat} {c x : List Int} {out : List (List Int)} (ho : ∀ v ∈ out, v.length = n) : x ∈ nextT c out n ↔ x ∈ nextA turnA c out := by
  rw [mem_nextA]
  unfold nextT turnA
  rw [List.mem_flatMap]
  constructor
  · rintro ⟨k, hk, h⟩
    rw [List.mem_range] at hk
    by_cases e : c.getD k 0 = OM
    · rw [if_pos e] at h; cases h
    · rw [if_neg e] at h
      obtain ⟨v, hv, e2⟩ := List.mem_map.1 h
      exact ⟨v, hv, k, _, by rw [ho v hv]; exact hk, by rw [if_neg e], e2.symm⟩
  · rintro ⟨v, hv, i, y, hi, ht, rfl⟩
    rw [ho v hv] at hi
    refine ⟨i, List.mem_range.2 hi, ?_⟩
    by_cases e : c.getD i 0 = OM
    · rw [if_pos e] at ht; cases ht
    · rw [if_neg e] at ht ⊢
      injection ht with ht
      exact List.mem_map.2 ⟨v, hv, by rw [ht]⟩
def abvF (n : Nat) (C : List (List Int)) : List (List Int) := C.foldl (fun out c => leastL (nextT c out n)) [List.replicate n 0]
theorem abvF_snoc (n : Nat) (C : List (List Int)) (c : List Int) : abvF n (C ++ [c]) = leastL (nextT c (abvF n C) n) := by simp [abvF, List.foldl_append]
theorem maxOf_same {cov : List Int → List Int → Bool} {l l' : List (List Int)} (h : ∀ x, x ∈ l ↔ x ∈ l') (x : List Int) : MaxOf cov l x ↔ MaxOf cov l' x :=
  and_congr (h x) (forall_congr' fun y => imp_congr_left (h y))
theorem abvF_bey {n : Nat} {P : List Int → Prop} : ∀ (C : List (List Int)), BeyP vltB turnA (List.replicate n 0) C n P → Bey vltB turnA (List.replicate n 0) C (abvF n C) := by
  intro C
  rw [← List.reverse_reverse C]
  induction C.reverse with
  | nil => intro _; exact .nil
  | cons c C ih =>
    rw [List.reverse_cons]
    intro hp
    have hp' := hp.sub (C' := C.reverse) fun c hc => by simp at hc ⊢; exact .inl hc
    have hb := ih hp'
    have hP := bey_P hb hp'
    have hN := hp.next (c := c) (by simp) hP
    have hl : ∀ v ∈ abvF n C.reverse, v.length = n := fun v hv => hp.len v (hP v hv)
    have hm := fun x => mem_nextT (c := c) (x := x) hl
    rw [abvF_snoc]
    exact .snoc hb (leastF_inv _ _).1 fun x => (least_mem (n := n) fun x hx => hp.len x (hN x ((hm x).1 hx))).trans (maxOf_same hm x)
def abP (n : Int) (C : List (List Int)) : Int × List (List Int) := if cornE n vvB C ≠ 0 then (cornE n vvB C, []) else if eachL n vfB (abvF n.toNat C) ≠ 0 then (1, []) else lim (abvF n.toNat C)
end Go.Proofs.YtnmkinaokjekjaaGreat

namespace Go.Proofs.YtnmkinaokjekjaaGreat
set_option linter.unusedVariables false
open Go.RowKit

theorem great_sub : ∀ (l : List (List Int)), ∀ x ∈ greatL l, x ∈ l := by
  intro l
  rw [← List.reverse_reverse l]
  induction l.reverse with
  | nil => intro x hx; simp [greatL] at hx
  | cons v l ih =>
    rw [List.reverse_cons, great_snoc]
    intro x hx
    have hx := mem_raise.1 hx
    unfold redS at hx
    split at hx
    · exact List.mem_append.2 (.inl (ih x hx))
    · rcases List.mem_append.1 hx with h | h
      · exact List.mem_append.2 (.inl (ih x (List.mem_filter.1 h).1))
      · exact List.mem_append.2 (.inr h)

def RowsP (l : List Nat) (R : List (List Int)) (w : World) (e : Ending) (w' : World) : Prop := Keeps [] w w' ∧ ∃ A n c, n = R.length ∧ e = .returned (.slice A n c) ∧ IsII w' l (.slice A n c) R
def PairR (l : List Nat) (z : Int) (R : List (List Int)) (w : World) (e : Ending) (w' : World) : Prop := Keeps [] w w' ∧ ∃ A n c, n = R.length ∧ e = .returned (.tuple #[.slice A n c, .int .i64 z]) ∧ IsII w' l (.slice A n c) R
theorem PairR.nil {l : List Nat} {z : Int} {w w' : World} (hk : Keeps [] w w') : PairR l z [] w (.returned (.tuple #[.slice none 0 0, .int .i64 z])) w' := ⟨hk, none, 0, 0, rfl, rfl, IsL.nil⟩
theorem take_snocR {xs : List (List Int)} {k : Nat} (hk : k < xs.length) : xs.take (k + 1) = xs.take k ++ [xs.getD k []] := by
  rw [List.take_succ_eq_append_getElem hk]
  simp [List.getD_eq_getElem?_getD, hk]

set_option maxHeartbeats 1000000 in
theorem rgreatest_is {w : World} {l : List Nat} {lv : Value} {L : List (List Int)} (hlw : ∀ x ∈ l, x < w.heap.size) (h : IsII w l lv L) (hn : L.length ≤ 100000000) (hL : ∀ x ∈ L, x.length ≤ 1000000) :
    Calls Tryz.prog 32 #[lv] w (RowsP l (greatL L) w) := by
  unfold RowsP
  have h' := h
  obtain ⟨A0, c0, V, rfl, _, _, hcell, hval⟩ := h'
  generalize hLn : L.length = m at *
  have HCELL := Lib.hid hcell
  have HVAL := Lib.hid hval
  have HL := Lib.hid hL
  have HLN := Lib.hid hLn
  have H := Lib.hid h
  have HLW := Lib.hid hlw
  clear hcell hval hL hLn h hlw
  go_enter Tryz.func32, Tryz.ntmps32
  go_wp2_with fail
  go_loopg [3, 4] (m + 1) (fun gh sv kv wr => ∃ (k : Nat) (A' : Option Addr) (q c' : Nat), m + 1 ≤ k + gh ∧ k ≤ m ∧ kv = .int .i64 (k : Int) ∧ sv = .slice A' q c' ∧ q = (greatL (L.take k)).length ∧ IsII wr l (.slice A' q c') (greatL (L.take k)) ∧ Keeps [] w wr)
  case atStart => exact ⟨0, none, 0, 0, by omega, by omega, rfl, rfl, by simp [greatL], (IsL.nil : IsII w l (.slice none 0 0) []), Keeps.refl _ _⟩
  case round =>
    obtain ⟨k, A', q, c', hgh, hk, rfl, rfl, hq, hI, hkr⟩ := hrel
    by_cases hlt : k < m
    · obtain ⟨pa, ea, hpa⟩ := (HCELL.out.keeps (hkr.nil l)).at_ hlt
      have hx := (HVAL.out k hlt).keeps (hkr.nil l)
      have hxm := getD_mem (d := []) (show k < L.length by rw [HLN.out]; exact hlt)
      have hle : (greatL (L.take k)).length ≤ 100000000 := Nat.le_trans (great_len _) (by rw [List.length_take, HLN.out]; omega)
      have hcall := raise_is (fun y hy => Nat.lt_of_lt_of_le (HLW.out y hy) hkr.size) hI hle (fun x hx => HL.out x (List.mem_of_mem_take (great_sub _ x hx))) (show IsI wr l _ _ from hx) (HL.out _ hxm)
      unfold RaisePost at hcall
      have ht := take_snocR (show k < L.length by rw [HLN.out]; exact hlt)
      rw [← great_snoc, ← ht] at hcall
      obtain ⟨Bx, dx, ex, _⟩ := (show IsI wr l (V k) (L.getD k []) from hx).open
      rw [ex] at hpa hcall
      subst ea
      have HKR := Lib.hid hkr
      have HCALL := Lib.hid hcall
      clear hcall
      clear hx ex hkr hxm hI hq hle ht
      go_wp2_with fail
      refine HCALL.out.mono ?_
      rintro e w1 ⟨A1, n1, c1, rfl, hI1, hk1⟩
      have hk2 := HKR.out.trans hk1
      have hn1 : n1 = (greatL (L.take (k + 1))).length := by obtain ⟨_, _, _, e, _⟩ := hI1; injection e
      have HK2 := Lib.hid hk2
      have HI1 := Lib.hid hI1
      have HN1 := Lib.hid hn1
      clear hk2 hI1 hn1
      clear hk1
      go_wp2_with fail
      go_roundg (m - k)
      case measure => omega
      case rel => exact ⟨k + 1, A1, n1, c1, by omega, by omega, by go_num, rfl, HN1.out, HI1.out, HK2.out⟩
    · obtain rfl : k = m := by omega
      have ht : L.take k = L := List.take_of_length_le (by rw [HLN.out]; exact Nat.le_refl _)
      rw [ht] at hq hI
      have HKR := Lib.hid hkr
      have HQ := Lib.hid hq
      have HI := Lib.hid hI
      clear hq hI
      clear hkr
      go_wp2_with fail
      go_ret
      exact ⟨HKR.out, A', q, c', HQ.out, rfl, HI.out⟩

set_option maxHeartbeats 400000 in
theorem rlimited_any (A : Option Addr) (n c : Nat) (w : World) : Calls Tryz.prog 31 #[.slice A n c] w (LtdPost A n c w) := by
  unfold LtdPost
  by_cases h : 256 < n
  · have d1 : decide ((256 : Int) < (n : Int)) = true := decide_eq_true (by omega)
    have d2 : decide (256 < n) = true := decide_eq_true h
    rw [if_pos h]
    go_enter Tryz.func31, Tryz.ntmps31
    go_wp2_with fail
    go_ret2
    exact ⟨rfl, rfl⟩
  · have d1 : decide ((256 : Int) < (n : Int)) = false := decide_eq_false (by omega)
    have d2 : decide (256 < n) = false := decide_eq_false h
    rw [if_neg h]
    go_enter Tryz.func31, Tryz.ntmps31
    go_wp2_with fail
    go_ret2
    exact ⟨rfl, rfl⟩
/-- limited, of a list that is read. -/
theorem rlimited_is {w : World} {l : List Nat} {A : Option Addr} {n c : Nat} {R : List (List Int)} (hn : n = R.length) (h : IsII w l (.slice A n c) R) : Calls Tryz.prog 31 #[.slice A n c] w (fun e w' => w = w' ∧ ∃ A1 n1 c1, n1 = (lim R).2.length ∧ e = .returned (.tuple #[.slice A1 n1 c1, .int .i64 (lim R).1]) ∧ IsII w l (.slice A1 n1 c1) (lim R).2) := by
  refine (rlimited_any A n c w).mono ?_
  rintro e w' ⟨he, rfl⟩
  refine ⟨rfl, ?_⟩
  unfold lim
  by_cases h256 : 256 < n
  · rw [if_pos h256] at he
    rw [if_pos (by omega)]
    exact ⟨none, 0, 0, rfl, he, IsL.nil⟩
  · rw [if_neg h256] at he
    rw [if_neg (by omega)]
    exact ⟨A, n, c, hn, he, h⟩

def maxP (n : Int) (L : List (List Int)) : Int × List (List Int) := if maxE n L ≠ 0 then (maxE n L, []) else lim (greatL L)
set_option maxRecDepth 100000 in
set_option maxHeartbeats 2000000 in
theorem rmaximise_is {w : World} {l : List Nat} {lv : Value} {L : List (List Int)} {n : Int} (hlw : ∀ y ∈ l, y < w.heap.size) (h : IsII w l lv L) (hn : L.length ≤ 100000000) (hL : ∀ x ∈ L, x.length ≤ 1000000) :
    Calls Tryz.prog 10 #[.int .i64 n, lv] w (PairR l (maxP n L).1 (maxP n L).2 w) := by
  unfold PairR
  have hd := rdim_any n
  have h' := h
  obtain ⟨A0, c0, V, rfl, _, _, hcell, hval⟩ := h'
  have heq : maxE n L = if dimB n 6 = false then 2 else eachL n vvB L := rfl
  have hel : eachL n vvB L = frst (fun i => elE n vvB (L.getD i [])) L.length := rfl
  have hmp : maxP n L = if maxE n L ≠ 0 then (maxE n L, []) else lim (greatL L) := rfl
  generalize maxP n L = mp at *
  have hg := rgreatest_is hlw h hn hL
  generalize hLn : L.length = m at *
  cases hq : dimB n 6 with
  | false =>
    rw [hq] at hd
    rw [hq, if_pos rfl] at heq
    rw [heq, if_pos (by decide)] at hmp
    subst hmp
    have H := Lib.hid h
    have HCELL := Lib.hid hcell
    have HVAL := Lib.hid hval
    have HL := Lib.hid hL
    have HLW := Lib.hid hlw
    have HD := Lib.hid hd
    have HEQ := Lib.hid heq
    have HLN := Lib.hid hLn
    have HEL := Lib.hid hel
    have HG := Lib.hid hg
    clear h hcell hval hL hlw hd heq hLn hel hg
    clear hq
    go_enter Tryz.func10, Tryz.ntmps10
    go_wp2_with fail
    refine (HD.out _).mono ?_
    rintro e w' ⟨rfl, rfl⟩
    go_wp2_with fail
    go_ret2
    exact ⟨Keeps.refl _ _, none, 0, 0, rfl, rfl, IsL.nil⟩
  | true =>
    rw [hq] at hd
    rw [hq, if_neg (by simp)] at heq
    rw [heq] at hmp
    have HMP := Lib.hid hmp
    have H := Lib.hid h
    have HCELL := Lib.hid hcell
    have HVAL := Lib.hid hval
    have HL := Lib.hid hL
    have HLW := Lib.hid hlw
    have HD := Lib.hid hd
    have HEQ := Lib.hid heq
    have HLN := Lib.hid hLn
    have HEL := Lib.hid hel
    have HG := Lib.hid hg
    clear h hcell hval hL hlw hd heq hLn hel hg
    clear hq hmp
    go_enter Tryz.func10, Tryz.ntmps10
    go_wp2_with fail
    refine (HD.out _).mono ?_
    rintro e w' ⟨rfl, rfl⟩
    go_wp2_with fail
    go_loopg [6] (m + 1) (fun gh kv wr => ∃ (k : Nat), m + 1 ≤ k + gh ∧ k ≤ m ∧ kv = .int .i64 (k : Int) ∧ (∀ i, i < k → elE n vvB (L.getD i []) = 0) ∧ Keeps [] w wr)
    case atStart => exact ⟨0, by omega, by omega, rfl, fun i hi => by omega, Keeps.refl _ _⟩
    case round =>
      obtain ⟨k, hgh, hk, rfl, hall, hkr⟩ := hrel
      have HALL := Lib.hid hall
      clear hall
      by_cases hlt : k < m
      · obtain ⟨pk, ek, hpk⟩ := (HCELL.out.keeps (hkr.nil l)).at_ hlt
        have hxl := HL.out _ (getD_mem (d := []) (show k < L.length by rw [HLN.out]; exact hlt))
        have hxi := (HVAL.out k hlt).keeps (hkr.nil l)
        have hcall := rfault_is (n := n) (show IsI wr l _ _ from hxi) hxl
        obtain ⟨Bk, dk, evk, _⟩ := (show IsI wr l (V k) (L.getD k []) from hxi).open
        rw [evk] at hpk hcall
        subst ek
        by_cases he0 : elE n vvB (L.getD k []) = 0
        · rw [he0] at hcall
          have h0 : ∀ i, i < k + 1 → elE n vvB (L.getD i []) = 0 := fun i hi => by
            by_cases e : i = k
            · rw [e]; exact he0
            · exact HALL.out i (by omega)
          have HKR := Lib.hid hkr
          have HCALL := Lib.hid hcall
          have H0 := Lib.hid h0
          clear hcall h0
          clear hxi hkr hxl evk he0
          go_wp2_with fail
          refine HCALL.out.mono ?_
          rintro e w5 ⟨rfl, hk5⟩
          have hK5 := HKR.out.trans hk5
          have HK5 := Lib.hid hK5
          clear hK5
          clear hk5 hpk
          go_wp2_with fail
          go_roundg (m - k)
          case measure => omega
          case rel => exact ⟨k + 1, by omega, by omega, by go_num, H0.out, HK5.out⟩
        · have hh := frst_hit (f := fun i => elE n vvB (L.getD i [])) HALL.out he0 hlt
          have hh := HEL.out.trans hh
          generalize elE n vvB (L.getD k []) = ez at *
          have hb : (ez != 0) = true := by simpa using he0
          have hfin : mp = (ez, []) := by rw [HMP.out, hh, if_pos he0]
          have HKR := Lib.hid hkr
          have HCALL := Lib.hid hcall
          have HE0 := Lib.hid he0
          have HH := Lib.hid hh
          have HFIN := Lib.hid hfin
          clear hcall he0 hh hfin
          clear hxi hkr hxl evk
          go_wp2_with fail
          refine HCALL.out.mono ?_
          rintro e w5 ⟨rfl, hk5⟩
          have hK5 := HKR.out.trans hk5
          have HK5 := Lib.hid hK5
          clear hK5
          clear hk5 hpk
          go_wp2_with fail
          go_ret2
          exact ⟨HK5.out, none, 0, 0, by rw [HFIN.out]; rfl, by rw [HFIN.out]; first | rfl | skip, by rw [HFIN.out]; exact IsL.nil⟩
      · obtain rfl : k = m := by omega
        have h0 : eachL n vvB L = 0 := by rw [HEL.out]; exact frst_zero.2 HALL.out
        have hfin : mp = lim (greatL L) := by rw [HMP.out, h0, if_neg (by simp)]
        have hg := rgreatest_is (fun y hy => Nat.lt_of_lt_of_le (HLW.out y hy) hkr.size) (H.out.new hkr) (by rw [HLN.out]; exact hn) HL.out
        subst hfin
        have HKR := Lib.hid hkr
        have HG2 := Lib.hid hg
        clear hkr hg h0
        go_wp2_with fail
        refine HG2.out.mono ?_
        rintro e w1 ⟨hk1, A1, n1, c1, hn1, rfl, hI1⟩
        have hk2 := HKR.out.trans hk1
        have hl2 := rlimited_is hn1 hI1
        have HK2 := Lib.hid hk2
        have HL2 := Lib.hid hl2
        clear hk2 hl2
        clear hk1 hn1 hI1
        go_wp2_with fail
        refine HL2.out.mono ?_
        rintro e w2 ⟨rfl, A2, n2, c2, hn2, rfl, hI2⟩
        have HN2 := Lib.hid hn2
        have HI2 := Lib.hid hI2
        clear hn2 hI2
        go_wp2_with fail
        go_ret2
        exact ⟨HK2.out, A2, n2, c2, HN2.out, rfl, HI2.out⟩
end Go.Proofs.YtnmkinaokjekjaaGreat

namespace Go.Proofs.YtnmkinaokjekjaaGreat
set_option linter.unusedVariables false
open Go.RowKit

set_option maxHeartbeats 400000 in
theorem rfault2_is {w : World} {l : List Nat} {av bv : Value} {a b : List Int} {n : Nat} (ha : IsI w l av a) (hb : IsI w l bv b) (hva : VVal a) (hvb : VVal b) (hla : a.length = n) (hlb : b.length = n) :
    Calls Tryz.prog 97 #[av, bv] w (RetE 0 w) := by
  unfold RetE
  have hn6 : n ≤ 6 := by rw [← hla]; exact hva.few
  have hv1 := rvalid_is ha (by omega)
  have hv2 := fun W (k : Keeps [] w W) => rvalid_is (hb.new k) (by omega)
  rw [vvB_true.2 hva] at hv1
  rw [vvB_true.2 hvb] at hv2
  obtain ⟨A, c, rfl, _⟩ := ha.open
  obtain ⟨B, d, rfl, _⟩ := hb.open
  rw [hla] at hv1 ⊢
  rw [hlb] at hv2 ⊢
  have HV1 := Lib.hid hv1
  have HV2 := Lib.hid hv2
  have HA := Lib.hid ha
  have HB := Lib.hid hb
  have HLA := Lib.hid hla
  have HLB := Lib.hid hlb
  clear hv1 hv2 ha hb hla hlb
  clear hva hvb
  go_enter Tryz.func97, Tryz.ntmps97
  go_wp2_with fail
  refine HV1.out.mono ?_
  rintro e w1 ⟨rfl, hk1⟩
  have HK1 := Lib.hid hk1
  clear hk1
  go_wp2_with fail
  refine (HV2.out w1 HK1.out).mono ?_
  rintro e w2 ⟨rfl, hk2⟩
  have hk := HK1.out.trans hk2
  have HK := Lib.hid hk
  clear hk
  clear hk2
  go_wp2_with fail
  go_ret
  exact ⟨rfl, HK.out⟩
theorem minV_snoc {n k : Nat} {a b : List Int} : (minV n a b).take k = (List.range (min k n)).map fun i => min (a.getD i 0) (b.getD i 0) := by
  unfold minV
  rw [← List.map_take]
  congr 1
  apply List.ext_getElem
  · simp
  · intro i h1 h2; simp
def Min2Post (l : List Nat) (n : Nat) (z : List Int) (w : World) (e : Ending) (w' : World) : Prop := ∃ A c, e = .returned (.tuple #[.slice A n c, .int .i64 0]) ∧ IsI w' l (.slice A n c) z ∧ Keeps [] w w'
set_option maxRecDepth 100000 in
set_option maxHeartbeats 2000000 in
theorem rmin_is {w : World} {l : List Nat} {av bv : Value} {a b : List Int} {n : Nat} (hlw : ∀ y ∈ l, y < w.heap.size) (ha : IsI w l av a) (hb : IsI w l bv b) (hva : VVal a) (hvb : VVal b) (hla : a.length = n) (hlb : b.length = n) :
    Calls Tryz.prog 86 #[av, bv] w (Min2Post l n (minV n a b) w) := by
  unfold Min2Post
  have hf := rfault2_is ha hb hva hvb hla hlb
  have hn6 : n ≤ 6 := by rw [← hla]; exact hva.few
  obtain ⟨A, c, rfl, _, _, hca⟩ := ha.open
  obtain ⟨B, d, rfl, _, _, hcb⟩ := hb.open
  rw [hla] at hf hca ⊢
  rw [hlb] at hf hcb ⊢
  have HF := Lib.hid hf
  have HCA := Lib.hid hca
  have HCB := Lib.hid hcb
  have HLA := Lib.hid hla
  have HLB := Lib.hid hlb
  have HLW := Lib.hid hlw
  clear hf hca hcb hla hlb hlw
  clear hva hvb ha hb
  go_enter Tryz.func86, Tryz.ntmps86
  go_wp2_with fail
  refine HF.out.mono ?_
  rintro e w1 ⟨rfl, hk1⟩
  have HK1 := Lib.hid hk1
  clear hk1
  go_wp2_with fail
  go_loopg [7, 8] (n + 1) (fun gh sv kv wr => ∃ (k : Nat) (A' : Option Addr) (c' : Nat) (ys : List Int), n + 1 ≤ k + gh ∧ k ≤ n ∧ kv = .int .i64 (k : Int) ∧ sv = .slice A' k c' ∧ k = ys.length ∧ ys = (minV n a b).take k ∧ OwL IsN 0 3 w.heap.size wr l (.slice A' k c') ys ∧ Keeps [] w wr)
  case atStart => exact ⟨0, none, 0, [], by omega, by omega, rfl, rfl, rfl, by simp, OwL.nil, HK1.out⟩
  case round =>
    obtain ⟨k, A', c', ys, hgh, hk, rfl, rfl, hky, hys, hO, hkr⟩ := hrel
    by_cases hlt : k < n
    · obtain ⟨pa, rfl, hpa0⟩ := HCA.out.at_ hlt
      obtain ⟨pb, rfl, hpb0⟩ := HCB.out.at_ hlt
      have hpw : w.cell? (pa.add k) = some (.int .i64 (a.getD k 0)) ∧ w.cell? (pb.add k) = some (.int .i64 (b.getD k 0)) := ⟨hpa0, hpb0⟩
      have hpa := hkr.read hpw.1 (by simp)
      have hpb := hkr.read hpw.2 (by simp)
      have HPW := Lib.hid hpw
      clear hpa0 hpb0 hpw
      have hsn : (minV n a b).take (k + 1) = (minV n a b).take k ++ [min (a.getD k 0) (b.getD k 0)] := by
        rw [List.take_succ_eq_append_getElem (by rw [minV_len]; exact hlt)]
        congr 2
        have := minV_at (a := a) (b := b) hlt
        rw [← this]
        simp [List.getD_eq_getElem?_getD, minV_len, hlt]
      rw [← hys] at hsn
      generalize a.getD k 0 = x at *
      generalize b.getD k 0 = y at *
      have hO3 : OwL IsN 0 3 w.heap.size wr.drew l (.slice A' k c') ys := hO.new ((Keeps.refl _ _).drew)
      have hk3 : Keeps [] w wr.drew := hkr.drew
      have hz := hk3.size
      have HSN := Lib.hid hsn
      have HKY := Lib.hid hky
      have HYS := Lib.hid hys
      have HO3 := Lib.hid hO3
      have HK3 := Lib.hid hk3
      clear hsn hky hys hO3 hk3
      clear hO hkr
      have hpa1 := ((Keeps.refl [] wr).drew).read hpa (by simp)
      have hpb1 := ((Keeps.refl [] wr).drew).read hpb (by simp)
      have hpa2 := (((Keeps.refl [] wr).alloc (.cells #[.int .i64 (min x y)] 3)).drew).read hpa (by simp)
      have hpb2 := (((Keeps.refl [] wr).alloc (.cells #[.int .i64 (min x y)] 3)).drew).read hpb (by simp)
      clear hpa hpb
      go_upto_region 8 with fail
      go_region_held3 (fun W => W.cell? (pa.add k) = some (.int .i64 x) ∧ W.cell? (pb.add k) = some (.int .i64 y)) (first | exact ⟨hpa1, hpb1⟩ | exact ⟨hpa2, hpb2⟩ | exact f4 | go_keep) (first
        | (refine step_push sl_int rfl (.tmp 21) (.tmp 31) rfl (w := wr.drew) (v := .slice A' k c') (u := .int .i64 (min x y)) (y := min x y) (by first | (simp [Act.eval]; done) | (simp only [Act.eval, Act.put]; simp; done) | simp [Act.eval, Act.put]) (by first | (simp [Act.eval]; done) | (simp only [Act.eval, Act.put]; simp; done) | simp [Act.eval, Act.put]) HO3.out rfl (m := k + 1) (by rw [← HKY.out]) (by omega) hz (w0 := w) (l0 := []) (Nat.le_refl _) HK3.out ?_; intro V' c'' w4 hown hg4 hk4; have f4 : w4.cell? (pa.add k) = some (.int .i64 x) ∧ w4.cell? (pb.add k) = some (.int .i64 y) := ⟨hk4.read HPW.out.1 (by simp), hk4.read HPW.out.2 (by simp)⟩))
      all_goals
       have HOWN := Lib.hid hown
       have HK4 := Lib.hid hk4
       clear hown hk4
       clear f4 hg4 hpa1 hpb1 hpa2 hpb2
       go_wp2_with fail
       go_roundg (n - k)
       case measure => omega
       case rel => exact ⟨k + 1, V', c'', ys ++ [min x y], by omega, by omega, by go_num, rfl, by simp [← HKY.out], HSN.out.symm, HOWN.out, HK4.out⟩
    · obtain rfl : k = n := by omega
      have ht : (minV k a b).take k = minV k a b := List.take_of_length_le (by rw [minV_len]; exact Nat.le_refl _)
      rw [ht] at hys
      have hI : IsI wr l (.slice A' k c') ys := hO.isL HLW.out
      rw [hys] at hI
      have HKR := Lib.hid hkr
      have HI := Lib.hid hI
      have HYS := Lib.hid hys
      have HKY := Lib.hid hky
      clear hI hys hky
      clear hO hkr ht
      go_wp2_with fail
      go_ret2
      exact ⟨A', c', rfl, HI.out, HKR.out⟩

theorem common_len {n : Nat} {a b : List (List Int)} {k j : Nat} {x : List Int} (hk : k < a.length) : (prodL n (a.take k) b ++ (b.take j).map fun y => minV n x y).length ≤ a.length * b.length := by
  rw [List.length_append, len_prodL, List.length_map, List.length_take, List.length_take]
  have h1 : min k a.length = k := by omega
  rw [h1]
  have h2 : (k + 1) * b.length ≤ a.length * b.length := Nat.mul_le_mul_right _ hk
  rw [Nat.succ_mul] at h2
  omega
set_option maxRecDepth 100000 in
set_option maxHeartbeats 4000000 in
theorem rcommon_is {w : World} {l : List Nat} {av bv : Value} {a b : List (List Int)} {n : Nat} (hlw : ∀ y ∈ l, y < w.heap.size) (ha : IsII w l av a) (hb : IsII w l bv b) (hn : a.length ≤ 100000000) (hm : b.length ≤ 100000000) (hab : a.length * b.length ≤ 100000000)
    (hel : ∀ x, x ∈ a ∨ x ∈ b → VVal x ∧ x.length = n) :
    Calls Tryz.prog 52 #[av, bv] w (RowsP l (greatL (prodL n a b)) w) := by
  unfold RowsP
  have egm := enters_of Tryz.func86 (by kernel_rfl) rfl
  have ha' := ha
  obtain ⟨A0, c0, V, rfl, _, _, hca, hva⟩ := ha'
  have hb' := hb
  obtain ⟨B0, d0, U, rfl, _, _, hcb, hvb⟩ := hb'
  have hcl := fun k j x (hk : k < a.length) => common_len (n := n) (b := b) (j := j) (x := x) hk
  generalize han : a.length = an at *
  generalize hbn : b.length = bn at *
  have HLW := Lib.hid hlw
  have HA := Lib.hid ha
  have HB := Lib.hid hb
  have HEL := Lib.hid hel
  have HCA := Lib.hid hca
  have HVA := Lib.hid hva
  have HCB := Lib.hid hcb
  have HVB := Lib.hid hvb
  have HAN := Lib.hid han
  have HBN := Lib.hid hbn
  have HCL := Lib.hid hcl
  clear hlw ha hb hel hca hva hcb hvb han hbn hcl
  go_enter Tryz.func52, Tryz.ntmps52
  go_wp2_with fail
  go_loopg [5, 6] (an + 1) (fun gh sv kv wr => ∃ (k : Nat) (A' : Option Addr) (q c' : Nat), an + 1 ≤ k + gh ∧ k ≤ an ∧ kv = .int .i64 (k : Int) ∧ sv = .slice A' q c' ∧ q = (greatL (prodL n (a.take k) b)).length ∧ IsII wr l (.slice A' q c') (greatL (prodL n (a.take k) b)) ∧ Keeps [] w wr)
  case atStart => exact ⟨0, none, 0, 0, by omega, by omega, rfl, rfl, by simp [greatL, prodL], (IsL.nil : IsII w l (.slice none 0 0) []), Keeps.refl _ _⟩
  case round =>
    obtain ⟨k, A', q, c', hgh, hk, rfl, rfl, hq, hI, hkr⟩ := hrel
    have HQ := Lib.hid hq
    have HI := Lib.hid hI
    have HKR := Lib.hid hkr
    clear hq hI hkr
    by_cases hlt : k < an
    · have hcl2 := fun j => HCL.out k j (a.getD k []) hlt
      have hxm := getD_mem (d := []) (show k < a.length by rw [HAN.out]; exact hlt)
      have hxe := HEL.out _ (.inl hxm)
      have HCL2 := Lib.hid hcl2
      have HXE := Lib.hid hxe
      clear hcl2 hxe
      clear hxm
      go_wp2_with fail
      go_loopg [5, 7] (bn + 1) (fun gh sv jv wr => ∃ (j : Nat) (A' : Option Addr) (q c' : Nat), bn + 1 ≤ j + gh ∧ j ≤ bn ∧ jv = .int .i64 (j : Int) ∧ sv = .slice A' q c' ∧ q = (greatL (prodL n (a.take k) b ++ (b.take j).map fun y => minV n (a.getD k []) y)).length ∧ IsII wr l (.slice A' q c') (greatL (prodL n (a.take k) b ++ (b.take j).map fun y => minV n (a.getD k []) y)) ∧ Keeps [] w wr)
      case atStart => exact ⟨0, A', q, c', by omega, by omega, rfl, rfl, by simpa using HQ.out, by simpa using HI.out, HKR.out⟩
      case round =>
        obtain ⟨j, A2, q2, c2, hgh2, hj, rfl, rfl, hq2, hI2, hk2⟩ := hrel
        by_cases hltj : j < bn
        · obtain ⟨pa, rfl, hpa⟩ := (HCA.out.keeps (hk2.nil l)).at_ hlt
          obtain ⟨pb, rfl, hpb⟩ := (HCB.out.keeps (hk2.nil l)).at_ hltj
          have hx : IsI wr l (V k) (a.getD k []) := (HVA.out k hlt).keeps (hk2.nil l)
          have hy : IsI wr l (U j) (b.getD j []) := (HVB.out j hltj).keeps (hk2.nil l)
          have hym := getD_mem (d := []) (show j < b.length by rw [HBN.out]; exact hltj)
          have hye := HEL.out _ (.inr hym)
          have hle := Nat.le_trans (great_len _) (HCL2.out j)
          have hsub := fun x hx => great_sub (prodL n (a.take k) b ++ (b.take j).map fun y => minV n (a.getD k []) y) x hx
          have hxe := HXE.out
          have hlen : ∀ x ∈ greatL (prodL n (a.take k) b ++ (b.take j).map fun y => minV n (a.getD k []) y), x.length ≤ 1000000 := fun x hx => by
            have hn6 : n ≤ 6 := by rw [← hxe.2]; exact hxe.1.few
            have : x.length = n := by
              rcases List.mem_append.1 (hsub x hx) with h | h
              · obtain ⟨_, _, _, _, e⟩ := mem_prodL.1 h; rw [e, minV_len]
              · obtain ⟨_, _, e⟩ := List.mem_map.1 h; rw [← e, minV_len]
            omega
          have hts : greatL (prodL n (a.take k) b ++ (b.take (j + 1)).map fun y => minV n (a.getD k []) y) = raiseL (greatL (prodL n (a.take k) b ++ (b.take j).map fun y => minV n (a.getD k []) y)) (minV n (a.getD k []) (b.getD j [])) := by
            rw [take_snocR (show j < b.length by rw [HBN.out]; exact hltj), List.map_append, ← List.append_assoc]
            exact great_snoc _ _
          have hmin := fun W (kp : Keeps [] wr W) => rmin_is (fun y hy => Nat.lt_of_lt_of_le (HLW.out y hy) (Nat.le_trans hk2.size kp.size)) (IsI.new hx kp) (IsI.new hy kp) hxe.1 hye.1 hxe.2 hye.2
          have hmn : (minV n (a.getD k []) (b.getD j [])).length = n := minV_len
          have hn6 : n ≤ 6 := by rw [← hxe.2]; exact hxe.1.few
          have hrs := fun W u (kp : Keeps [] wr W) (hu : IsI W l u (minV n (a.getD k []) (b.getD j []))) => raise_is (fun y hy => Nat.lt_of_lt_of_le (HLW.out y hy) (Nat.le_trans hk2.size kp.size)) (IsII.new hI2 kp) (by omega) hlen hu (by omega)
          unfold RaisePost at hrs
          obtain ⟨gj, hgj⟩ : ∃ g, g = greatL (prodL n (a.take k) b ++ (b.take (j + 1)).map fun y => minV n (a.getD k []) y) := ⟨_, rfl⟩
          rw [← hts, ← hgj] at hrs
          obtain ⟨Bx, dx, ex, _⟩ := hx.open
          obtain ⟨By, dy, ey, _⟩ := hy.open
          rw [hxe.2] at ex
          rw [hye.2] at ey
          rw [ex] at hpa
          rw [ey] at hpb
          rw [ex, ey] at hmin
          generalize minV n (a.getD k []) (b.getD j []) = mv at *
          have HK2 := Lib.hid hk2
          haveI kbr : KB [] wr w := ⟨hk2⟩
          have HMIN := Lib.hid hmin
          have HRS := Lib.hid hrs
          have HQ2 := Lib.hid hq2
          have HI2 := Lib.hid hI2
          have HLE := Lib.hid hle
          have HSUB := Lib.hid hsub
          have HLEN := Lib.hid hlen
          have HTS := Lib.hid hts
          have HYE := Lib.hid hye
          have HN6 := Lib.hid hn6
          have HMN := Lib.hid hmn
          have HGJ := Lib.hid hgj
          clear hmin hrs hq2 hI2 hle hsub hlen hts hye hn6 hmn hgj
          clear hx hy ex ey hxe hym hk2
          go_upto_region 8 with fail
          go_region_held3 (fun W => W.cell? (pa.add k) = some (.slice Bx n dx) ∧ W.cell? (pb.add j) = some (.slice By n dy)) (exact ⟨cell_now (a := wr) [] hpa (by simp), cell_now (a := wr) [] hpb (by simp)⟩) (first
            | (refine step_callw 86 #[.tmp 26, .tmp 30] #[22, 22] rfl egm (HMIN.out _ (kf [] wr _)) (by first | rfl | (simp [Region.wanted, yielded]; done) | simp [Region.wanted, yielded, Act.put]) (by first | (simp [Act.eval]; done) | (simp only [Act.eval, Act.put]; simp; done) | simp [Act.eval, Act.put]) ?_; rintro e w5 ⟨Am, cm, rfl, hIm, hk5⟩; refine ⟨_, rfl, ?_⟩; haveI kb5 : KB [] w5 _ := ⟨hk5⟩))
          all_goals
            have hkf : Keeps [] wr w5 := kf [] wr w5
            have hr := HRS.out w5 _ hkf hIm
            have hk6 := HK2.out.trans hkf
            have HR := Lib.hid hr
            have HK6 := Lib.hid hk6
            clear hr hk6
            clear hk5 hkf hIm hpa hpb
            go_wp2_with fail
            refine HR.out.mono ?_
            rintro e w7 ⟨A7, n7, c7, rfl, hI7, hk7⟩
            have hk8 := HK6.out.trans hk7
            have hn7 : n7 = gj.length := by obtain ⟨_, _, _, e, _⟩ := hI7; injection e
            have HK8 := Lib.hid hk8
            have HI7 := Lib.hid hI7
            have HN7 := Lib.hid hn7
            clear hk8 hI7 hn7
            clear hk7
            go_wp2_with fail
            go_roundg (bn - j)
            case measure => omega
            case rel => exact ⟨j + 1, A7, n7, c7, by omega, by omega, by go_num, rfl, by rw [← HGJ.out]; exact HN7.out, by rw [← HGJ.out]; exact HI7.out, HK8.out⟩
        · obtain rfl : j = bn := by omega
          have htb : b.take j = b := List.take_of_length_le (by rw [HBN.out]; exact Nat.le_refl _)
          have hts : prodL n (a.take (k + 1)) b = prodL n (a.take k) b ++ b.map fun y => minV n (a.getD k []) y := by
            rw [take_snocR (show k < a.length by rw [HAN.out]; exact hlt), prodL_snoc]
          rw [htb, ← hts] at hq2 hI2
          have HK2 := Lib.hid hk2
          have HQ2 := Lib.hid hq2
          have HI2 := Lib.hid hI2
          clear hq2 hI2
          clear hk2 hts htb
          go_wp2_with fail
          go_roundg (an - k)
          case measure => omega
          case rel => exact ⟨k + 1, A2, q2, c2, by omega, by omega, by go_num, rfl, HQ2.out, HI2.out, HK2.out⟩
    · obtain rfl : k = an := by omega
      have hta : a.take k = a := List.take_of_length_le (by rw [HAN.out]; exact Nat.le_refl _)
      have hq2 := HQ.out
      have hI2 := HI.out
      rw [hta] at hq2 hI2
      have HQ2 := Lib.hid hq2
      have HI2 := Lib.hid hI2
      clear hq2 hI2
      clear hta
      go_wp2_with fail
      go_ret
      exact ⟨HKR.out, A', q, c', HQ2.out, rfl, HI2.out⟩
end Go.Proofs.YtnmkinaokjekjaaGreat

namespace Go.Proofs.YtnmkinaokjekjaaGreat
set_option linter.unusedVariables false
open Go.RowKit

set_option maxHeartbeats 400000 in
theorem rfinite_is {w : World} {l : List Nat} {av : Value} {a : List Int} (ha : IsI w l av a) (hn : a.length ≤ 1000000) : Calls Tryz.prog 47 #[av] w (RetB (vfB a) w) := by
  unfold RetB
  obtain ⟨A, c, rfl, _, _, h1⟩ := ha.open
  have hval := rvalid_is ha hn
  generalize hnn : a.length = n at *
  have H1 := Lib.hid h1
  have HNN := Lib.hid hnn
  have HA := Lib.hid ha
  have HVAL := Lib.hid hval
  clear h1 hnn ha hval
  go_enter Tryz.func47, Tryz.ntmps47
  go_wp2_with fail
  go_loopg [3] (n + 1) (fun gh iv wr => ∃ k : Nat, n + 1 ≤ k + gh ∧ k ≤ n ∧ iv = .int .i64 (k : Int) ∧ (∀ i, i < k → a.getD i 0 ≠ 1099511627776) ∧ w = wr)
  case atStart => exact ⟨0, by omega, by omega, rfl, fun i hi => by omega, rfl⟩
  case round =>
    obtain ⟨k, hgh, hk, rfl, hs, rfl⟩ := hrel
    have HS := Lib.hid hs
    clear hs
    by_cases hlt : k < n
    · obtain ⟨p, rfl, hp⟩ := H1.out.at_ hlt
      have hmem : a.getD k 0 ∈ a := getD_mem (by rw [HNN.out]; exact hlt)
      generalize hx : a.getD k 0 = x at *
      by_cases hq : x = 1099511627776
      · have hqb : (x == 1099511627776) = true := by simpa using hq
        have hd : vfB a = false := by
          rw [← Bool.not_eq_true, vfB_true]
          intro h
          have := (h.el x hmem).2
          omega
        have HMEM := Lib.hid hmem
        have HX := Lib.hid hx
        have HQ := Lib.hid hq
        have HD := Lib.hid hd
        clear hmem hx hq hd
        go_wp2_with fail
        go_ret
        exact ⟨ret_b HD.out, Keeps.refl _ _⟩
      · have hqb : (x == 1099511627776) = false := by simpa using hq
        have HMEM := Lib.hid hmem
        have HX := Lib.hid hx
        have HQ := Lib.hid hq
        clear hmem hx hq
        go_wp2_with fail
        go_roundg (n - k)
        case measure => omega
        case rel => exact ⟨k + 1, by omega, by omega, by go_num, fun i hi => by
          by_cases e : i = k
          · rw [e, HX.out]; exact HQ.out
          · exact HS.out i (by omega), rfl⟩
    · obtain rfl : k = n := by omega
      have hd : vfB a = vvB a := by
        rw [Bool.eq_iff_iff, vfB_true, vvB_true]
        refine ⟨fun h => h.val, fun h => ⟨h.few, fun x hx => ?_⟩⟩
        rcases h.el x hx with h | h
        · exact h
        · obtain ⟨i, hi, e⟩ := mem_getD (d := 0) hx
          exact absurd (e.trans h) (HS.out i (by rw [← HNN.out]; exact hi))
      have hval := HVAL.out
      rw [← hd] at hval
      have HVAL := Lib.hid hval
      clear hval
      clear hd
      go_wp2_with fail
      refine HVAL.out.mono ?_
      rintro e w1 ⟨rfl, hk1⟩
      have HK1 := Lib.hid hk1
      clear hk1
      go_wp2_with fail
      go_ret
      exact ⟨rfl, HK1.out⟩

set_option maxHeartbeats 2000000 in
theorem rhas_is {w : World} {l : List Nat} {lv vv : Value} {L : List (List Int)} {v : List Int} {n : Int} (h : IsII w l lv L) (hn : L.length ≤ 100000000) (hL : ∀ x ∈ L, x.length ≤ 1000000) (hv : IsI w l vv v) (hm : v.length ≤ 1000000) :
    Calls Tryz.prog 17 #[.int .i64 n, lv, vv] w (RetB (hasB n L v) w) := by
  unfold RetB
  have hck := rcheck_is (n := n) h hn hL
  have hfi := fun W (k : Keeps [] w W) => rfinite_is (hv.new k) hm
  have hwi := fun W (k : Keeps [] w W) => runder_is (h.new k) (by omega) hL (hv.new k) hm
  have hB : hasB n L v = (decide (chkL n L = 0) && decide ((v.length : Int) = n) && vfB v && undB L v) := rfl
  rw [hB]
  have h' := h
  obtain ⟨A0, c0, V, rfl, _⟩ := h'
  have hv' := hv
  obtain ⟨B0, d0, rfl, _⟩ := hv'.open
  clear hv' hB
  generalize chkL n L = z at *
  generalize hvn : v.length = vn at *
  generalize vfB v = r1 at *
  generalize undB L v = r2 at *
  generalize hLn : L.length = m at *
  have H := Lib.hid h
  have HL := Lib.hid hL
  have HV := Lib.hid hv
  have HCK := Lib.hid hck
  have HFI := Lib.hid hfi
  have HWI := Lib.hid hwi
  have HVN := Lib.hid hvn
  have HLN := Lib.hid hLn
  clear h hL hv hck hfi hwi hvn hLn
  by_cases hz : z = 0
  · subst hz
    by_cases hl : (vn : Int) = n
    · have ht : ((vn : Int) != n) = false := by rw [hl]; simp
      have hd : decide ((vn : Int) = n) = true := decide_eq_true hl
      rw [hd]
      have HL := Lib.hid hl
      clear hl
      cases r1 with
      | false =>
        go_enter Tryz.func17, Tryz.ntmps17
        go_wp2_with fail
        refine HCK.out.mono ?_
        rintro e w1 ⟨rfl, hk1⟩
        have HK1 := Lib.hid hk1
        clear hk1
        go_wp2_with fail
        refine (HFI.out w1 HK1.out).mono ?_
        rintro e w2 ⟨rfl, hk2⟩
        have hk := HK1.out.trans hk2
        have HK := Lib.hid hk
        clear hk
        clear hk2
        go_wp2_with fail
        go_ret
        exact ⟨by simp, HK.out⟩
      | true =>
        go_enter Tryz.func17, Tryz.ntmps17
        go_wp2_with fail
        refine HCK.out.mono ?_
        rintro e w1 ⟨rfl, hk1⟩
        have HK1 := Lib.hid hk1
        clear hk1
        go_wp2_with fail
        refine (HFI.out w1 HK1.out).mono ?_
        rintro e w2 ⟨rfl, hk2⟩
        have hk := HK1.out.trans hk2
        have HK := Lib.hid hk
        clear hk
        clear hk2
        go_wp2_with fail
        refine (HWI.out w2 HK.out).mono ?_
        rintro e w3 ⟨rfl, hk3⟩
        have hk4 := HK.out.trans hk3
        have HK4 := Lib.hid hk4
        clear hk4
        clear hk3
        go_wp2_with fail
        go_ret
        exact ⟨by simp, HK4.out⟩
    · have ht : ((vn : Int) != n) = true := by simpa using hl
      have hd : decide ((vn : Int) = n) = false := decide_eq_false hl
      rw [hd]
      have HL := Lib.hid hl
      clear hl
      go_enter Tryz.func17, Tryz.ntmps17
      go_wp2_with fail
      refine HCK.out.mono ?_
      rintro e w1 ⟨rfl, hk1⟩
      have HK1 := Lib.hid hk1
      clear hk1
      go_wp2_with fail
      go_ret
      exact ⟨by simp, HK1.out⟩
  · have ht : (z != 0) = true := by simpa using hz
    have hd : decide (z = 0) = false := decide_eq_false hz
    rw [hd]
    have HZ := Lib.hid hz
    clear hz
    go_enter Tryz.func17, Tryz.ntmps17
    go_wp2_with fail
    refine HCK.out.mono ?_
    rintro e w1 ⟨rfl, hk1⟩
    have HK1 := Lib.hid hk1
    clear hk1
    go_wp2_with fail
    go_ret
    exact ⟨by simp, HK1.out⟩

set_option maxRecDepth 100000 in
set_option maxHeartbeats 2000000 in
theorem rsubset_is {w : World} {l : List Nat} {av bv : Value} {a b : List (List Int)} {n : Int} (ha : IsII w l av a) (hn : a.length ≤ 100000000) (hL : ∀ x ∈ a, x.length ≤ 1000000) (hb : IsII w l bv b) (hm : b.length ≤ 100000000) (hM : ∀ x ∈ b, x.length ≤ 1000000) :
    Calls Tryz.prog 14 #[.int .i64 n, av, bv] w (RetB (subB n a b) w) := by
  unfold RetB
  have hc1 := rcheck_is (n := n) ha hn hL
  have hc2 := fun W (k : Keeps [] w W) => rcheck_is (n := n) (hb.new k) hm hM
  have hB : subB n a b = (decide (ckE n a b = 0) && a.all fun v => undB b v) := rfl
  have hcE : ckE n a b = if chkL n a ≠ 0 then chkL n a else chkL n b := rfl
  have ha' := ha
  obtain ⟨A0, c0, V, rfl, _, _, hca, hva⟩ := ha'
  have hb' := hb
  obtain ⟨B0, d0, U, rfl, _⟩ := hb'
  have hbv := hb
  clear hb
  generalize chkL n a = z at *
  generalize chkL n b = z2 at *
  generalize han : a.length = an at *
  generalize hbn : b.length = bn at *
  by_cases h0 : z = 0
  · subst h0
    rw [if_neg (by simp)] at hcE
    rw [hcE] at hB
    by_cases h2 : z2 = 0
    · subst h2
      rw [decide_eq_true rfl, Bool.true_and] at hB
      have HB := Lib.hid hB
      have HC1 := Lib.hid hc1
      have HC2 := Lib.hid hc2
      have HL := Lib.hid hL
      have HM := Lib.hid hM
      have HBV := Lib.hid hbv
      have HCA := Lib.hid hca
      have HVA := Lib.hid hva
      have HAN := Lib.hid han
      have HBN := Lib.hid hbn
      clear hB hc1 hc2 hL hM hbv hca hva han hbn
      clear hcE
      go_enter Tryz.func14, Tryz.ntmps14
      go_wp2_with fail
      refine HC1.out.mono ?_
      rintro e w1 ⟨rfl, hk1⟩
      have HK1 := Lib.hid hk1
      clear hk1
      go_wp2_with fail
      refine (HC2.out w1 HK1.out).mono ?_
      rintro e w2 ⟨rfl, hk2⟩
      have hk := HK1.out.trans hk2
      have HK := Lib.hid hk
      clear hk
      clear hk2
      go_wp2_with fail
      go_loopg [7] (an + 1) (fun gh iv wr => ∃ k : Nat, an + 1 ≤ k + gh ∧ k ≤ an ∧ iv = .int .i64 (k : Int) ∧ (∀ i, i < k → undB b (a.getD i []) = true) ∧ Keeps [] w wr)
      case atStart => exact ⟨0, by omega, by omega, rfl, fun i hi => by omega, HK.out⟩
      case round =>
        obtain ⟨k, hgh, hk, rfl, hs, hkr⟩ := hrel
        have HS := Lib.hid hs
        clear hs
        by_cases hlt : k < an
        · obtain ⟨p, rfl, hp⟩ := (HCA.out.keeps (hkr.nil l)).at_ hlt
          have hx : IsI wr l (V k) (a.getD k []) := (HVA.out k hlt).keeps (hkr.nil l)
          have hxm := getD_mem (d := []) (show k < a.length by rw [HAN.out]; exact hlt)
          have hcall := runder_is (HBV.out.new hkr) (by rw [HBN.out]; omega) HM.out hx (HL.out _ hxm)
          obtain ⟨Bx, dx, ex, _⟩ := hx.open
          rw [ex] at hp hcall
          cases hq : undB b (a.getD k []) with
          | true =>
            rw [hq] at hcall
            have h0 : ∀ i, i < k + 1 → undB b (a.getD i []) = true := fun i hi => by
              by_cases e : i = k
              · rw [e]; exact hq
              · exact HS.out i (by omega)
            have HKR := Lib.hid hkr
            have HCALL := Lib.hid hcall
            have H0 := Lib.hid h0
            clear hcall h0
            clear hkr hx ex hq hxm
            go_wp2_with fail
            refine HCALL.out.mono ?_
            rintro e w3 ⟨rfl, hk3⟩
            have hk4 := HKR.out.trans hk3
            have HK4 := Lib.hid hk4
            clear hk4
            clear hk3
            go_wp2_with fail
            go_roundg (an - k)
            case measure => omega
            case rel => exact ⟨k + 1, by omega, by omega, by go_num, H0.out, HK4.out⟩
          | false =>
            have hd : subB n a b = false := by
              rw [HB.out, List.all_eq_false]; exact ⟨_, hxm, by rw [hq]; simp⟩
            rw [hq] at hcall
            have HKR := Lib.hid hkr
            have HCALL := Lib.hid hcall
            have HD := Lib.hid hd
            clear hcall hd
            clear hkr hx ex hq hxm
            go_wp2_with fail
            refine HCALL.out.mono ?_
            rintro e w3 ⟨rfl, hk3⟩
            have hk4 := HKR.out.trans hk3
            have HK4 := Lib.hid hk4
            clear hk4
            clear hk3
            go_wp2_with fail
            go_ret
            exact ⟨ret_b HD.out, HK4.out⟩
        · obtain rfl : k = an := by omega
          have hd : subB n a b = true := by
            rw [HB.out, List.all_eq_true]
            intro x hx
            obtain ⟨i, hi, e⟩ := mem_getD (d := []) hx
            rw [← e]; exact HS.out i (by rw [← HAN.out]; exact hi)
          have HKR := Lib.hid hkr
          have HD := Lib.hid hd
          clear hd
          clear hkr
          go_wp2_with fail
          go_ret
          exact ⟨ret_b HD.out, HKR.out⟩
    · have ht : (z2 != 0) = true := by simpa using h2
      rw [decide_eq_false h2, Bool.false_and] at hB
      have HB := Lib.hid hB
      have HC1 := Lib.hid hc1
      have HC2 := Lib.hid hc2
      have H2 := Lib.hid h2
      have HBV := Lib.hid hbv
      have HCA := Lib.hid hca
      have HVA := Lib.hid hva
      have HL := Lib.hid hL
      have HM := Lib.hid hM
      clear hB hc1 hc2 h2 hbv hca hva hL hM
      clear hcE
      go_enter Tryz.func14, Tryz.ntmps14
      go_wp2_with fail
      refine HC1.out.mono ?_
      rintro e w1 ⟨rfl, hk1⟩
      have HK1 := Lib.hid hk1
      clear hk1
      go_wp2_with fail
      refine (HC2.out w1 HK1.out).mono ?_
      rintro e w2 ⟨rfl, hk2⟩
      have hk := HK1.out.trans hk2
      have HK := Lib.hid hk
      clear hk
      clear hk2
      go_wp2_with fail
      go_ret
      exact ⟨ret_b HB.out, HK.out⟩
  · have ht : (z != 0) = true := by simpa using h0
    rw [if_pos h0] at hcE
    rw [hcE, decide_eq_false h0, Bool.false_and] at hB
    have HB := Lib.hid hB
    have HC1 := Lib.hid hc1
    have HC2 := Lib.hid hc2
    have H0 := Lib.hid h0
    have HBV := Lib.hid hbv
    have HCA := Lib.hid hca
    have HVA := Lib.hid hva
    have HL := Lib.hid hL
    have HM := Lib.hid hM
    clear hB hc1 hc2 h0 hbv hca hva hL hM
    clear hcE
    go_enter Tryz.func14, Tryz.ntmps14
    go_wp2_with fail
    refine HC1.out.mono ?_
    rintro e w1 ⟨rfl, hk1⟩
    have HK1 := Lib.hid hk1
    clear hk1
    go_wp2_with fail
    go_ret
    exact ⟨ret_b HB.out, HK1.out⟩

def setP (n : Int) (a b R : List (List Int)) : Int × List (List Int) := if ckE n a b ≠ 0 then (ckE n a b, []) else lim R
set_option maxRecDepth 100000 in
set_option maxHeartbeats 4000000 in
theorem runion_is {w : World} {l : List Nat} {av bv : Value} {a b : List (List Int)} {n : Int} (hlw : ∀ y ∈ l, y < w.heap.size) (ha : IsII w l av a) (hn : a.length ≤ 10000000) (hL : ∀ x ∈ a, x.length ≤ 1000000) (hb : IsII w l bv b) (hm : b.length ≤ 10000000) (hM : ∀ x ∈ b, x.length ≤ 1000000) :
    Calls Tryz.prog 21 #[.int .i64 n, av, bv] w (PairR l (setP n a b (greatL (a ++ b))).1 (setP n a b (greatL (a ++ b))).2 w) := by
  unfold PairR
  have hcE : ckE n a b = if chkL n a ≠ 0 then chkL n a else chkL n b := rfl
  have hc1 := rcheck_is (n := n) ha (by omega) hL
  have hc2 := fun W (k : Keeps [] w W) => rcheck_is (n := n) (hb.new k) (by omega) hM
  have hel := fun h => ckE_el (n := n) (a := a) (b := b) h
  have hmp : setP n a b (greatL (a ++ b)) = if ckE n a b ≠ 0 then (ckE n a b, []) else lim (greatL (a ++ b)) := rfl
  generalize setP n a b (greatL (a ++ b)) = up at *
  have ha' := ha
  obtain ⟨A0, c0, V, rfl, _⟩ := ha'
  have hb' := hb
  obtain ⟨B0, d0, U, rfl, _⟩ := hb'
  generalize chkL n a = z at *
  generalize chkL n b = z2 at *
  by_cases h0 : z = 0
  · subst h0
    rw [if_neg (by simp)] at hcE
    rw [hcE] at hmp hel
    by_cases h2 : z2 = 0
    · subst h2
      have hfin : up = lim (greatL (a ++ b)) := by rw [hmp, if_neg (by simp)]
      have hel := hel rfl
      clear hmp hcE
      obtain ⟨hr6, f1, f2, hel⟩ := hel
      have hsm : ∀ x ∈ a ++ b, x.length ≤ 1000000 := fun x hx => by have := (hel x (List.mem_append.1 hx)).1.few; omega
      have hgr := fun W (k : Keeps [] w W) lv (hI : IsII W l lv (a ++ b)) => rgreatest_is (fun y hy => Nat.lt_of_lt_of_le (hlw y hy) k.size) hI (by rw [List.length_append]; omega) hsm
      generalize han : a.length = an at *
      generalize hbn : b.length = bn at *
      have HC1 := Lib.hid hc1
      have HC2 := Lib.hid hc2
      have HFIN := Lib.hid hfin
      have HA := Lib.hid ha
      have HB := Lib.hid hb
      have HL := Lib.hid hL
      have HM := Lib.hid hM
      have HEL := Lib.hid hel
      have HSM := Lib.hid hsm
      have HGR := Lib.hid hgr
      have HLW := Lib.hid hlw
      have HAN := Lib.hid han
      have HBN := Lib.hid hbn
      clear hc1 hc2 hfin ha hb hL hM hel hsm hgr hlw han hbn
      go_enter Tryz.func21, Tryz.ntmps21
      go_wp2_with fail
      refine HC1.out.mono ?_
      rintro e w1 ⟨rfl, hk1⟩
      have HK1 := Lib.hid hk1
      clear hk1
      go_wp2_with fail
      refine (HC2.out w1 HK1.out).mono ?_
      rintro e w2 ⟨rfl, hk2⟩
      have hk := HK1.out.trans hk2
      have hA2 : IsII w2 ([] ++ l) (.slice A0 an c0) a := HA.out.new hk
      have hB2 : IsII w2 l (.slice B0 bn d0) b := HB.out.new hk
      have hnil : OwL IsI [] 22 w2.heap.size w2 l (.slice none 0 0) [] := OwL.nil
      have HK := Lib.hid hk
      have HA2 := Lib.hid hA2
      have HB2 := Lib.hid hB2
      have HNIL := Lib.hid hnil
      clear hk hA2 hB2 hnil
      clear hk2
      go_wp2_with (first
        | (have _t := hown1; at_builtin; go_loud (refine wpList_join (R := IsI) (d := []) (v := .slice V1 an k1) (u := .slice B0 bn d0) (l := l) sl_rowsi rfl _ _ rfl (by rfl) (by rfl) hown1 (hown1.putw (R := IsL IsI []) HB2.out hk3 (Nat.le_refl _)) (m := an + bn) (by rw [List.nil_append, HAN.out, HBN.out]) (by omega) hk3.size (w0 := w2) (l0 := []) (Nat.le_refl _) hk3 ?_; intro V2 k2 w4 hown2 hg2 hk4))
        | (at_builtin; go_loud (refine wpList_join (R := IsI) (d := []) (v := .slice none 0 0) (u := .slice A0 an c0) (l := l) sl_rowsi rfl _ _ rfl (by rfl) (by rfl) HNIL.out HA2.out (m := an) (by rw [HAN.out]; simp) (by omega) (Nat.le_refl _) (w0 := w2) (l0 := []) (Nat.le_refl _) (Keeps.refl _ _) ?_; intro V1 k1 w3 hown1 hg1 hk3)))
      have hk3' := HK.out.trans hk4
      have hI := hown2.isL (fun y hy => Nat.lt_of_lt_of_le (HLW.out y hy) HK.out.size)
      rw [List.nil_append] at hI
      have hg := HGR.out w4 hk3' _ hI
      have HK3 := Lib.hid hk3'
      have HG := Lib.hid hg
      clear hk3' hk4 hk3 hown1 hown2 hg1 hg2 hI hg
      go_wp2_with fail
      refine HG.out.mono ?_
      rintro e w5 ⟨hk5, A5, n5, c5, hn5, rfl, hI5⟩
      have hk6 := HK3.out.trans hk5
      have hl2 := rlimited_is hn5 hI5
      have HK6 := Lib.hid hk6
      have HL2 := Lib.hid hl2
      clear hk6 hl2
      clear hk5 hn5 hI5
      go_wp2_with fail
      refine HL2.out.mono ?_
      rintro e w6 ⟨rfl, A6, n6, c6, hn6, rfl, hI6⟩
      rw [← HFIN.out] at hn6 hI6
      have hz6 : (lim (greatL (a ++ b))).1 = up.1 := by rw [HFIN.out]
      have HN6 := Lib.hid hn6
      have HI6 := Lib.hid hI6
      have HZ6 := Lib.hid hz6
      clear hn6 hI6 hz6
      go_wp2_with fail
      go_ret2
      exact ⟨HK6.out, A6, n6, c6, HN6.out, by rw [← HZ6.out]; first | rfl | skip, HI6.out⟩
    · have ht : (z2 != 0) = true := by simpa using h2
      have hfin : up = (z2, []) := by rw [hmp, if_pos h2]
      have HC1 := Lib.hid hc1
      have HC2 := Lib.hid hc2
      have H2 := Lib.hid h2
      have HFIN := Lib.hid hfin
      have HA := Lib.hid ha
      have HB := Lib.hid hb
      have HL := Lib.hid hL
      have HM := Lib.hid hM
      clear hc1 hc2 h2 hfin ha hb hL hM
      clear hmp hcE hel
      go_enter Tryz.func21, Tryz.ntmps21
      go_wp2_with fail
      refine HC1.out.mono ?_
      rintro e w1 ⟨rfl, hk1⟩
      have HK1 := Lib.hid hk1
      clear hk1
      go_wp2_with fail
      refine (HC2.out w1 HK1.out).mono ?_
      rintro e w2 ⟨rfl, hk2⟩
      have hk := HK1.out.trans hk2
      have HK := Lib.hid hk
      clear hk
      clear hk2
      go_wp2_with fail
      go_ret2
      exact ⟨HK.out, none, 0, 0, by rw [HFIN.out]; rfl, by rw [HFIN.out]; first | rfl | skip, by rw [HFIN.out]; exact IsL.nil⟩
  · have ht : (z != 0) = true := by simpa using h0
    rw [if_pos h0] at hcE
    rw [hcE] at hmp hel
    have hfin : up = (z, []) := by rw [hmp, if_pos h0]
    have HC1 := Lib.hid hc1
    have HC2 := Lib.hid hc2
    have H0 := Lib.hid h0
    have HFIN := Lib.hid hfin
    have HA := Lib.hid ha
    have HB := Lib.hid hb
    have HL := Lib.hid hL
    have HM := Lib.hid hM
    clear hc1 hc2 h0 hfin ha hb hL hM
    clear hmp hcE hel
    go_enter Tryz.func21, Tryz.ntmps21
    go_wp2_with fail
    refine HC1.out.mono ?_
    rintro e w1 ⟨rfl, hk1⟩
    have HK1 := Lib.hid hk1
    clear hk1
    go_wp2_with fail
    go_ret2
    exact ⟨HK1.out, none, 0, 0, by rw [HFIN.out]; rfl, by rw [HFIN.out]; first | rfl | skip, by rw [HFIN.out]; exact IsL.nil⟩
set_option maxRecDepth 100000 in
set_option maxHeartbeats 4000000 in
theorem rintersect_is {w : World} {l : List Nat} {av bv : Value} {a b : List (List Int)} {n : Int} (hlw : ∀ y ∈ l, y < w.heap.size) (ha : IsII w l av a) (hn : a.length ≤ 10000000) (hL : ∀ x ∈ a, x.length ≤ 1000000) (hb : IsII w l bv b) (hm : b.length ≤ 10000000) (hM : ∀ x ∈ b, x.length ≤ 1000000) :
    Calls Tryz.prog 23 #[.int .i64 n, av, bv] w (PairR l (setP n a b (greatL (prodL n.toNat a b))).1 (setP n a b (greatL (prodL n.toNat a b))).2 w) := by
  unfold PairR
  have hcE : ckE n a b = if chkL n a ≠ 0 then chkL n a else chkL n b := rfl
  have hc1 := rcheck_is (n := n) ha (by omega) hL
  have hc2 := fun W (k : Keeps [] w W) => rcheck_is (n := n) (hb.new k) (by omega) hM
  have hel := fun h => ckE_el (n := n) (a := a) (b := b) h
  have hmp : setP n a b (greatL (prodL n.toNat a b)) = if ckE n a b ≠ 0 then (ckE n a b, []) else lim (greatL (prodL n.toNat a b)) := rfl
  generalize setP n a b (greatL (prodL n.toNat a b)) = up at *
  have ha' := ha
  obtain ⟨A0, c0, V, rfl, _⟩ := ha'
  have hb' := hb
  obtain ⟨B0, d0, U, rfl, _⟩ := hb'
  generalize chkL n a = z at *
  generalize chkL n b = z2 at *
  by_cases h0 : z = 0
  · subst h0
    rw [if_neg (by simp)] at hcE
    rw [hcE] at hmp hel
    by_cases h2 : z2 = 0
    · subst h2
      have hfin : up = lim (greatL (prodL n.toNat a b)) := by rw [hmp, if_neg (by simp)]
      have hel := hel rfl
      clear hmp hcE
      obtain ⟨hr6, f1, f2, hel⟩ := hel
      have hgr := fun W (k : Keeps [] w W) => rcommon_is (n := n.toNat) (fun y hy => Nat.lt_of_lt_of_le (hlw y hy) k.size) (ha.new k) (hb.new k) (by omega) (by omega) (Nat.le_trans (Nat.mul_le_mul f1 f2) (by decide)) hel
      generalize han : a.length = an at *
      generalize hbn : b.length = bn at *
      have HC1 := Lib.hid hc1
      have HC2 := Lib.hid hc2
      have HFIN := Lib.hid hfin
      have HA := Lib.hid ha
      have HB := Lib.hid hb
      have HL := Lib.hid hL
      have HM := Lib.hid hM
      have HEL := Lib.hid hel
      have HGR := Lib.hid hgr
      have HLW := Lib.hid hlw
      have HAN := Lib.hid han
      have HBN := Lib.hid hbn
      clear hc1 hc2 hfin ha hb hL hM hel hgr hlw han hbn
      go_enter Tryz.func23, Tryz.ntmps23
      go_wp2_with fail
      refine HC1.out.mono ?_
      rintro e w1 ⟨rfl, hk1⟩
      have HK1 := Lib.hid hk1
      clear hk1
      go_wp2_with fail
      refine (HC2.out w1 HK1.out).mono ?_
      rintro e w2 ⟨rfl, hk2⟩
      have hk3 := HK1.out.trans hk2
      have hg := HGR.out w2 hk3
      have HK3 := Lib.hid hk3
      have HG := Lib.hid hg
      clear hk3 hg
      clear hk2
      go_wp2_with fail
      refine HG.out.mono ?_
      rintro e w5 ⟨hk5, A5, n5, c5, hn5, rfl, hI5⟩
      have hk6 := HK3.out.trans hk5
      have hl2 := rlimited_is hn5 hI5
      have HK6 := Lib.hid hk6
      have HL2 := Lib.hid hl2
      clear hk6 hl2
      clear hk5 hn5 hI5
      go_wp2_with fail
      refine HL2.out.mono ?_
      rintro e w6 ⟨rfl, A6, n6, c6, hn6, rfl, hI6⟩
      rw [← HFIN.out] at hn6 hI6
      have hz6 : (lim (greatL (prodL n.toNat a b))).1 = up.1 := by rw [HFIN.out]
      have HN6 := Lib.hid hn6
      have HI6 := Lib.hid hI6
      have HZ6 := Lib.hid hz6
      clear hn6 hI6 hz6
      go_wp2_with fail
      go_ret2
      exact ⟨HK6.out, A6, n6, c6, HN6.out, by rw [← HZ6.out]; first | rfl | skip, HI6.out⟩
    · have ht : (z2 != 0) = true := by simpa using h2
      have hfin : up = (z2, []) := by rw [hmp, if_pos h2]
      have HC1 := Lib.hid hc1
      have HC2 := Lib.hid hc2
      have H2 := Lib.hid h2
      have HFIN := Lib.hid hfin
      have HA := Lib.hid ha
      have HB := Lib.hid hb
      have HL := Lib.hid hL
      have HM := Lib.hid hM
      clear hc1 hc2 h2 hfin ha hb hL hM
      clear hmp hcE hel
      go_enter Tryz.func23, Tryz.ntmps23
      go_wp2_with fail
      refine HC1.out.mono ?_
      rintro e w1 ⟨rfl, hk1⟩
      have HK1 := Lib.hid hk1
      clear hk1
      go_wp2_with fail
      refine (HC2.out w1 HK1.out).mono ?_
      rintro e w2 ⟨rfl, hk2⟩
      have hk := HK1.out.trans hk2
      have HK := Lib.hid hk
      clear hk
      clear hk2
      go_wp2_with fail
      go_ret2
      exact ⟨HK.out, none, 0, 0, by rw [HFIN.out]; rfl, by rw [HFIN.out]; first | rfl | skip, by rw [HFIN.out]; exact IsL.nil⟩
  · have ht : (z != 0) = true := by simpa using h0
    rw [if_pos h0] at hcE
    rw [hcE] at hmp hel
    have hfin : up = (z, []) := by rw [hmp, if_pos h0]
    have HC1 := Lib.hid hc1
    have HC2 := Lib.hid hc2
    have H0 := Lib.hid h0
    have HFIN := Lib.hid hfin
    have HA := Lib.hid ha
    have HB := Lib.hid hb
    have HL := Lib.hid hL
    have HM := Lib.hid hM
    clear hc1 hc2 h0 hfin ha hb hL hM
    clear hmp hcE hel
    go_enter Tryz.func23, Tryz.ntmps23
    go_wp2_with fail
    refine HC1.out.mono ?_
    rintro e w1 ⟨rfl, hk1⟩
    have HK1 := Lib.hid hk1
    clear hk1
    go_wp2_with fail
    go_ret2
    exact ⟨HK1.out, none, 0, 0, by rw [HFIN.out]; rfl, by rw [HFIN.out]; first | rfl | skip, by rw [HFIN.out]; exact IsL.nil⟩
end Go.Proofs.YtnmkinaokjekjaaGreat

namespace Go.Proofs.YtnmkinaokjekjaaGreat
set_option linter.unusedVariables false
open Go.RowKit

set_option maxRecDepth 100000 in
set_option maxHeartbeats 2000000 in
theorem rargsV_is {w : World} {l : List Nat} {lv : Value} {L : List (List Int)} {n : Int} (h : IsII w l lv L) (hn : L.length ≤ 100000000) (hL : ∀ x ∈ L, x.length ≤ 1000000) :
    Calls Tryz.prog 58 #[.int .i64 n, lv, .bool false] w (RetE (cornE n vvB L) w) := by
  unfold RetE
  have h' := h
  obtain ⟨A0, c0, V, rfl, _, _, hcell, hval⟩ := h'
  have heq : cornE n vvB L = if dimB n 4 = false then 2 else if 12 < L.length then 1 else eachL n vvB L := rfl
  have hel : eachL n vvB L = frst (fun i => elE n vvB (L.getD i [])) L.length := rfl
  generalize hLn : L.length = m at *
  by_cases hn1 : n < 1
  · have d1 : decide (n < 1) = true := decide_eq_true hn1
    rw [if_pos (dimB_false.2 (by omega))] at heq
    have H := Lib.hid h
    have HCELL := Lib.hid hcell
    have HVAL := Lib.hid hval
    have HL := Lib.hid hL
    have HEQ := Lib.hid heq
    have HLN := Lib.hid hLn
    clear h hcell hval hL heq hLn
    go_enter Tryz.func58, Tryz.ntmps58
    go_wp2_with fail
    go_ret
    exact ⟨ret_ii HEQ.out, Keeps.refl _ _⟩
  have d1 : decide (n < 1) = false := decide_eq_false hn1
  by_cases hn4 : 4 < n
  · have d2 : decide (4 < n) = true := decide_eq_true hn4
    rw [if_pos (dimB_false.2 (by omega))] at heq
    have H := Lib.hid h
    have HCELL := Lib.hid hcell
    have HVAL := Lib.hid hval
    have HL := Lib.hid hL
    have HEQ := Lib.hid heq
    have HLN := Lib.hid hLn
    clear h hcell hval hL heq hLn
    go_enter Tryz.func58, Tryz.ntmps58
    go_wp2_with fail
    go_ret
    exact ⟨ret_ii HEQ.out, Keeps.refl _ _⟩
  have d2 : decide (4 < n) = false := decide_eq_false hn4
  rw [if_neg (by rw [dimB_true.2 ⟨by omega, by omega⟩]; simp)] at heq
  by_cases h12 : 12 < m
  · have d3 : decide ((12 : Int) < (m : Int)) = true := decide_eq_true (by omega)
    have d4 : decide (12 < m) = true := decide_eq_true h12
    rw [if_pos h12] at heq
    have H := Lib.hid h
    have HCELL := Lib.hid hcell
    have HVAL := Lib.hid hval
    have HL := Lib.hid hL
    have HEQ := Lib.hid heq
    have HLN := Lib.hid hLn
    clear h hcell hval hL heq hLn
    go_enter Tryz.func58, Tryz.ntmps58
    go_wp2_with fail
    go_ret
    exact ⟨ret_ii HEQ.out, Keeps.refl _ _⟩
  have d3 : decide ((12 : Int) < (m : Int)) = false := decide_eq_false (by omega)
  have d4 : decide (12 < m) = false := decide_eq_false h12
  rw [if_neg h12, hel] at heq
  clear hel
  have H := Lib.hid h
  have HCELL := Lib.hid hcell
  have HVAL := Lib.hid hval
  have HL := Lib.hid hL
  have HEQ := Lib.hid heq
  have HLN := Lib.hid hLn
  clear h hcell hval hL heq hLn
  go_enter Tryz.func58, Tryz.ntmps58
  go_wp2_with fail
  go_loopg [7] (m + 1) (fun gh kv wr => ∃ (k : Nat), m + 1 ≤ k + gh ∧ k ≤ m ∧ kv = .int .i64 (k : Int) ∧ (∀ i, i < k → elE n vvB (L.getD i []) = 0) ∧ Keeps [] w wr)
  case atStart => exact ⟨0, by omega, by omega, rfl, fun i hi => by omega, Keeps.refl _ _⟩
  case round =>
    obtain ⟨k, hgh, hk, rfl, hall, hkr⟩ := hrel
    have HALL := Lib.hid hall
    clear hall
    by_cases hlt : k < m
    · obtain ⟨pk, ek, hpk⟩ := (HCELL.out.keeps (hkr.nil l)).at_ hlt
      have hxl := HL.out _ (getD_mem (d := []) (show k < L.length by rw [HLN.out]; exact hlt))
      have hxi := (HVAL.out k hlt).keeps (hkr.nil l)
      have hcall := rfault_is (n := n) (show IsI wr l _ _ from hxi) hxl
      have hfin := fun W (kp : Keeps [] wr W) => rfinite_is (IsI.new (show IsI wr l _ _ from hxi) kp) hxl
      obtain ⟨Bk, dk, evk, _⟩ := (show IsI wr l (V k) (L.getD k []) from hxi).open
      rw [evk] at hpk hcall hfin
      subst ek
      have hsn : ∀ q, elE n vvB (L.getD k []) = q → (q = 0 → ∀ i, i < k + 1 → elE n vvB (L.getD i []) = 0) ∧ (q ≠ 0 → cornE n vvB L = q) := fun q hq => ⟨fun h0 i hi => by
        by_cases e : i = k
        · rw [e, hq]; exact h0
        · exact HALL.out i (by omega), fun h0 => by
        rw [HEQ.out, frst_hit (f := fun i => elE n vvB (L.getD i [])) HALL.out (by rw [hq]; exact h0) hlt]; exact hq⟩
      have hrel2 : elE n vfB (L.getD k []) = if elE n vvB (L.getD k []) ≠ 0 then elE n vvB (L.getD k []) else if vfB (L.getD k []) = true then 0 else 2 := by
        unfold elE
        by_cases hn : ((L.getD k []).length : Int) ≠ n
        · rw [if_pos hn, if_pos hn, if_pos (by decide)]
        · rw [if_neg hn, if_neg hn]
          cases hv : vvB (L.getD k []) with
          | true => simp
          | false =>
            have hf : vfB (L.getD k []) = false := by
              rw [← Bool.not_eq_true]
              intro hf
              rw [vvB_true.2 (vfB_true.1 hf).val] at hv
              cases hv
            rw [hf]
            simp
      clear hrel2
      generalize elE n vvB (L.getD k []) = ez at *
      generalize vfB (L.getD k []) = fz at *
      have HKR := Lib.hid hkr
      have HCALL := Lib.hid hcall
      have HFIN := Lib.hid hfin
      have HSN := Lib.hid hsn
      clear hcall hfin hsn
      clear hxi hkr hxl evk
      by_cases he0 : ez = 0
      · subst he0
        have h0 := (HSN.out 0 rfl).1 rfl
        have H0 := Lib.hid h0
        clear h0
        go_wp2_with fail
        refine HCALL.out.mono ?_
        rintro e w5 ⟨rfl, hk5⟩
        have hK5 := HKR.out.trans hk5
        have HK5 := Lib.hid hK5
        clear hK5
        clear hk5 hpk
        go_wp2_with fail
        go_roundg (m - k)
        case measure => omega
        case rel => exact ⟨k + 1, by omega, by omega, by go_num, H0.out, HK5.out⟩
      · have hb : (ez != 0) = true := by simpa using he0
        have hq := HSN.out ez rfl
        have hd := hq.2 he0
        have HE0 := Lib.hid he0
        have HD := Lib.hid hd
        clear he0 hd
        clear hq
        go_wp2_with fail
        refine HCALL.out.mono ?_
        rintro e w5 ⟨rfl, hk5⟩
        have hK5 := HKR.out.trans hk5
        have HK5 := Lib.hid hK5
        clear hK5
        clear hk5 hpk
        go_wp2_with fail
        go_ret
        exact ⟨ret_ii HD.out, HK5.out⟩
    · obtain rfl : k = m := by omega
      have hd : cornE n vvB L = 0 := by rw [HEQ.out]; exact frst_zero.2 HALL.out
      have HKR := Lib.hid hkr
      have HD := Lib.hid hd
      clear hd
      clear hkr
      go_wp2_with fail
      go_ret
      exact ⟨ret_ii HD.out, HKR.out⟩
set_option maxRecDepth 100000 in
set_option maxHeartbeats 2000000 in
theorem rargsF_is {w : World} {l : List Nat} {lv : Value} {L : List (List Int)} {n : Int} (h : IsII w l lv L) (hn : L.length ≤ 100000000) (hL : ∀ x ∈ L, x.length ≤ 1000000) :
    Calls Tryz.prog 58 #[.int .i64 n, lv, .bool true] w (RetE (cornE n vfB L) w) := by
  unfold RetE
  have h' := h
  obtain ⟨A0, c0, V, rfl, _, _, hcell, hval⟩ := h'
  have heq : cornE n vfB L = if dimB n 4 = false then 2 else if 12 < L.length then 1 else eachL n vfB L := rfl
  have hel : eachL n vfB L = frst (fun i => elE n vfB (L.getD i [])) L.length := rfl
  generalize hLn : L.length = m at *
  by_cases hn1 : n < 1
  · have d1 : decide (n < 1) = true := decide_eq_true hn1
    rw [if_pos (dimB_false.2 (by omega))] at heq
    have H := Lib.hid h
    have HCELL := Lib.hid hcell
    have HVAL := Lib.hid hval
    have HL := Lib.hid hL
    have HEQ := Lib.hid heq
    have HLN := Lib.hid hLn
    clear h hcell hval hL heq hLn
    go_enter Tryz.func58, Tryz.ntmps58
    go_wp2_with fail
    go_ret
    exact ⟨ret_ii HEQ.out, Keeps.refl _ _⟩
  have d1 : decide (n < 1) = false := decide_eq_false hn1
  by_cases hn4 : 4 < n
  · have d2 : decide (4 < n) = true := decide_eq_true hn4
    rw [if_pos (dimB_false.2 (by omega))] at heq
    have H := Lib.hid h
    have HCELL := Lib.hid hcell
    have HVAL := Lib.hid hval
    have HL := Lib.hid hL
    have HEQ := Lib.hid heq
    have HLN := Lib.hid hLn
    clear h hcell hval hL heq hLn
    go_enter Tryz.func58, Tryz.ntmps58
    go_wp2_with fail
    go_ret
    exact ⟨ret_ii HEQ.out, Keeps.refl _ _⟩
  have d2 : decide (4 < n) = false := decide_eq_false hn4
  rw [if_neg (by rw [dimB_true.2 ⟨by omega, by omega⟩]; simp)] at heq
  by_cases h12 : 12 < m
  · have d3 : decide ((12 : Int) < (m : Int)) = true := decide_eq_true (by omega)
    have d4 : decide (12 < m) = true := decide_eq_true h12
    rw [if_pos h12] at heq
    have H := Lib.hid h
    have HCELL := Lib.hid hcell
    have HVAL := Lib.hid hval
    have HL := Lib.hid hL
    have HEQ := Lib.hid heq
    have HLN := Lib.hid hLn
    clear h hcell hval hL heq hLn
    go_enter Tryz.func58, Tryz.ntmps58
    go_wp2_with fail
    go_ret
    exact ⟨ret_ii HEQ.out, Keeps.refl _ _⟩
  have d3 : decide ((12 : Int) < (m : Int)) = false := decide_eq_false (by omega)
  have d4 : decide (12 < m) = false := decide_eq_false h12
  rw [if_neg h12, hel] at heq
  clear hel
  have H := Lib.hid h
  have HCELL := Lib.hid hcell
  have HVAL := Lib.hid hval
  have HL := Lib.hid hL
  have HEQ := Lib.hid heq
  have HLN := Lib.hid hLn
  clear h hcell hval hL heq hLn
  go_enter Tryz.func58, Tryz.ntmps58
  go_wp2_with fail
  go_loopg [7] (m + 1) (fun gh kv wr => ∃ (k : Nat), m + 1 ≤ k + gh ∧ k ≤ m ∧ kv = .int .i64 (k : Int) ∧ (∀ i, i < k → elE n vfB (L.getD i []) = 0) ∧ Keeps [] w wr)
  case atStart => exact ⟨0, by omega, by omega, rfl, fun i hi => by omega, Keeps.refl _ _⟩
  case round =>
    obtain ⟨k, hgh, hk, rfl, hall, hkr⟩ := hrel
    have HALL := Lib.hid hall
    clear hall
    by_cases hlt : k < m
    · obtain ⟨pk, ek, hpk⟩ := (HCELL.out.keeps (hkr.nil l)).at_ hlt
      have hxl := HL.out _ (getD_mem (d := []) (show k < L.length by rw [HLN.out]; exact hlt))
      have hxi := (HVAL.out k hlt).keeps (hkr.nil l)
      have hcall := rfault_is (n := n) (show IsI wr l _ _ from hxi) hxl
      have hfin := fun W (kp : Keeps [] wr W) => rfinite_is (IsI.new (show IsI wr l _ _ from hxi) kp) hxl
      obtain ⟨Bk, dk, evk, _⟩ := (show IsI wr l (V k) (L.getD k []) from hxi).open
      rw [evk] at hpk hcall hfin
      subst ek
      have hsn : ∀ q, elE n vfB (L.getD k []) = q → (q = 0 → ∀ i, i < k + 1 → elE n vfB (L.getD i []) = 0) ∧ (q ≠ 0 → cornE n vfB L = q) := fun q hq => ⟨fun h0 i hi => by
        by_cases e : i = k
        · rw [e, hq]; exact h0
        · exact HALL.out i (by omega), fun h0 => by
        rw [HEQ.out, frst_hit (f := fun i => elE n vfB (L.getD i [])) HALL.out (by rw [hq]; exact h0) hlt]; exact hq⟩
      have hrel2 : elE n vfB (L.getD k []) = if elE n vvB (L.getD k []) ≠ 0 then elE n vvB (L.getD k []) else if vfB (L.getD k []) = true then 0 else 2 := by
        unfold elE
        by_cases hn : ((L.getD k []).length : Int) ≠ n
        · rw [if_pos hn, if_pos hn, if_pos (by decide)]
        · rw [if_neg hn, if_neg hn]
          cases hv : vvB (L.getD k []) with
          | true => simp
          | false =>
            have hf : vfB (L.getD k []) = false := by
              rw [← Bool.not_eq_true]
              intro hf
              rw [vvB_true.2 (vfB_true.1 hf).val] at hv
              cases hv
            rw [hf]
            simp
      rw [hrel2] at hsn; clear hrel2
      generalize elE n vvB (L.getD k []) = ez at *
      generalize vfB (L.getD k []) = fz at *
      have HKR := Lib.hid hkr
      have HCALL := Lib.hid hcall
      have HFIN := Lib.hid hfin
      have HSN := Lib.hid hsn
      clear hcall hfin hsn
      clear hxi hkr hxl evk
      by_cases he0 : ez = 0
      · subst he0
        rw [if_neg (by simp)] at HSN
        cases fz with
        | true =>
          have h0 := (HSN.out 0 (by simp)).1 rfl
          have H0 := Lib.hid h0
          clear h0
          go_wp2_with fail
          refine HCALL.out.mono ?_
          rintro e w5 ⟨rfl, hk5⟩
          have hpk5 := hk5.read hpk (by simp)
          have hc := HFIN.out w5 hk5
          have hK5 := HKR.out.trans hk5
          have HK5 := Lib.hid hK5
          have HC := Lib.hid hc
          clear hK5 hc
          clear hk5 hpk
          go_wp2_with fail
          refine HC.out.mono ?_
          rintro e w6 ⟨rfl, hk6⟩
          have hK6 := HK5.out.trans hk6
          have HK6 := Lib.hid hK6
          clear hK6
          clear hk6 hpk5
          go_wp2_with fail
          go_roundg (m - k)
          case measure => omega
          case rel => exact ⟨k + 1, by omega, by omega, by go_num, H0.out, HK6.out⟩
        | false =>
          have hd := (HSN.out 2 (by simp)).2 (by decide)
          have HD := Lib.hid hd
          clear hd
          go_wp2_with fail
          refine HCALL.out.mono ?_
          rintro e w5 ⟨rfl, hk5⟩
          have hpk5 := hk5.read hpk (by simp)
          have hc := HFIN.out w5 hk5
          have hK5 := HKR.out.trans hk5
          have HK5 := Lib.hid hK5
          have HC := Lib.hid hc
          clear hK5 hc
          clear hk5 hpk
          go_wp2_with fail
          refine HC.out.mono ?_
          rintro e w6 ⟨rfl, hk6⟩
          have hK6 := HK5.out.trans hk6
          have HK6 := Lib.hid hK6
          clear hK6
          clear hk6 hpk5
          go_wp2_with fail
          go_ret
          exact ⟨ret_ii HD.out, HK6.out⟩
      · have hb : (ez != 0) = true := by simpa using he0
        have hq := HSN.out ez (if_pos he0)
        have hd := hq.2 he0
        have HE0 := Lib.hid he0
        have HD := Lib.hid hd
        clear he0 hd
        clear hq
        go_wp2_with fail
        refine HCALL.out.mono ?_
        rintro e w5 ⟨rfl, hk5⟩
        have hK5 := HKR.out.trans hk5
        have HK5 := Lib.hid hK5
        clear hK5
        clear hk5 hpk
        go_wp2_with fail
        go_ret
        exact ⟨ret_ii HD.out, HK5.out⟩
    · obtain rfl : k = m := by omega
      have hd : cornE n vfB L = 0 := by rw [HEQ.out]; exact frst_zero.2 HALL.out
      have HKR := Lib.hid hkr
      have HD := Lib.hid hd
      clear hd
      clear hkr
      go_wp2_with fail
      go_ret
      exact ⟨ret_ii HD.out, HKR.out⟩

def FilPost (m : Nat) (x : Int) (w : World) (e : Ending) (w' : World) : Prop := ∃ A c, e = .returned (.slice A m c) ∧ OwL IsN 0 3 w.heap.size w' [] (.slice A m c) (List.replicate m x) ∧ Keeps [] w w'
set_option maxHeartbeats 1000000 in
theorem rfilled_is (m : Nat) (x : Int) (w : World) (hm : m ≤ 1000000) : Calls Tryz.prog 59 #[.int .i64 (m : Int), .int .i64 x] w (FilPost m x w) := by
  unfold FilPost
  go_enter Tryz.func59, Tryz.ntmps59
  go_wp2_with fail
  go_loopg [5, 6] (m + 1) (fun gh sv kv wr => ∃ (k : Nat) (A' : Option Addr) (c' : Nat) (ys : List Int), m + 1 ≤ k + gh ∧ k ≤ m ∧ kv = .int .i64 (k : Int) ∧ sv = .slice A' k c' ∧ ys = List.replicate k x ∧ OwL IsN 0 3 w.heap.size wr [] (.slice A' k c') ys ∧ Keeps [] w wr)
  case atStart => exact ⟨0, none, 0, [], by omega, by omega, rfl, rfl, rfl, OwL.nil, Keeps.refl _ _⟩
  case round =>
    obtain ⟨k, A', c', ys, hgh, hk, rfl, rfl, hys, hO, hkr⟩ := hrel
    by_cases hlt : k < m
    · have hd : decide ((k : Int) < (m : Int)) = true := by rw [decide_eq_true_iff]; omega
      have hky : ys.length = k := by rw [hys]; simp
      have hz := hkr.size
      have HKR := Lib.hid hkr
      have HYS := Lib.hid hys
      have HKY := Lib.hid hky
      have HO := Lib.hid hO
      clear hys hky hO
      clear hkr
      go_wp2_with (at_builtin; (refine wpList_push sl_int rfl _ _ rfl (w := wr) (v := .slice A' k c') (u := .int .i64 x) (y := x) (by rfl) (by rfl) HO.out rfl (m := k + 1) (by rw [HKY.out]) (by omega) hz (w0 := w) (l0 := []) (Nat.le_refl _) HKR.out ?_; intro V' c'' w4 hown hg4 hk4))
      have HOWN := Lib.hid hown
      have HK4 := Lib.hid hk4
      clear hown hk4
      clear hg4
      go_roundg (m - k)
      case measure => omega
      case rel => exact ⟨k + 1, V', c'', ys ++ [x], by omega, by omega, by go_num, rfl, by rw [HYS.out, List.replicate_succ'], HOWN.out, HK4.out⟩
    · obtain rfl : k = m := by omega
      have hd : decide ((k : Int) < (k : Int)) = false := by simp
      have HKR := Lib.hid hkr
      have HYS := Lib.hid hys
      have HO := Lib.hid hO
      clear hys hO
      clear hkr
      go_wp2_with fail
      go_ret
      exact ⟨A', c', rfl, by rw [← HYS.out]; exact HO.out, HKR.out⟩
end Go.Proofs.YtnmkinaokjekjaaGreat
