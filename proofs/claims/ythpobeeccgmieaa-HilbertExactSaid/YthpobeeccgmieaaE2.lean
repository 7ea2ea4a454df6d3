/- The reference's minimal solutions: what its loops compute. The walk of the reference's solutions. hilbert's Minimal and Free at every input: what they return, and the error. The reference's Minimal and Free at every input. hilbert's Split at every input: what it returns, and the error. The walk of the reference's split. The reference's Split at every input. Plain law: what Minimal, Free and Split return is determined, and small. A slice of numbers that came in, as a list. A slice of slices of numbers that came in, as a list of lists. The walk of the law's narrow. -/
import Derived.Test.YthpobeeccgmieaaHil
import Derived.Test.YthpobeeccgmieaaSplit
import Derived.Test.YthpobeeccgmieaaE1
import Derived.Test.YthpobeeccgmieaaPutL
import Derived.Test.YthpobeeccgmieaaHLaw
import Derived.Test.YthpobeeccgmieaaQuietK
import Derived.Deep.RegionHeld3
import Derived.Test.YthpobeeccgmieaaSplitH
import Derived.Test.YthpobeeccgmieaaSubV
import Derived.StillTailTactics
import Derived.Test.YthpobeeccgmieaaSplS
import Derived.Test.YthpobeeccgmieaaRep
import Derived.Deep.Matrix
import Derived.Test.YthpobeeccgmieaaNow
import Derived.Test.YthpobeeccgmieaaMat
namespace Go.Proofs.Ythpobeeccgmieaa
set_option linter.unusedVariables false
open Go.RowKit

def cntV : Nat → Nat → Nat
  | 0, _ => 1
  | n + 1, s => ((List.range (s + 1)).map fun x => cntV n (s - x)).sum
theorem rvecs_cnt : ∀ (n s : Nat), (rvecs n s).length = cntV n s
  | 0, s => rfl
  | n + 1, s => by
    simp only [rvecs, cntV, List.length_flatMap, List.length_map]
    congr 1
    exact List.map_congr_left fun x _ => rvecs_cnt n (s - x)
set_option maxRecDepth 100000 in
theorem cntV_le : ∀ n, n < 7 → ∀ s, s < 11 → cntV n s ≤ 8008 := by decide
theorem rvecs_len2 {n s : Nat} (hn : n ≤ 6) (hs : s ≤ 10) : (rvecs n s).length ≤ 8008 := by
  rw [rvecs_cnt]; exact cntV_le n (by omega) s (by omega)

def takeB (P : List Int → Bool) (fr : Bool) (n : Nat) (v : List Int) : Bool := P v && !(fr && decide (v = List.replicate n 0))
def leastP (F : List (List Int)) (i : Nat) : Prop := ∀ k, k < F.length → k ≠ i → pleB (F.getD k []) (F.getD i []) = false
structure OutI (F out : List (List Int)) (i : Nat) : Prop where
  asc : Asc out
  mem : ∀ x, x ∈ out ↔ ∃ j, j < i ∧ leastP F j ∧ F.getD j [] = x
  len : out.length ≤ i
theorem OutI.nil {F : List (List Int)} : OutI F [] 0 := ⟨List.Pairwise.nil, by simp, Nat.le_refl _⟩
theorem OutI.skip {F out : List (List Int)} {i : Nat} (h : OutI F out i) (hn : ¬ leastP F i) : OutI F out (i + 1) := by
  refine ⟨h.asc, fun x => (h.mem x).trans ⟨fun ⟨j, hj, h1, h2⟩ => ⟨j, by omega, h1, h2⟩, fun ⟨j, hj, h1, h2⟩ => ⟨j, ?_, h1, h2⟩⟩, by have := h.len; omega⟩
  have : j ≠ i := fun e => hn (e ▸ h1)
  omega
theorem OutI.put {F out : List (List Int)} {i : Nat} (h : OutI F out i) (hn : leastP F i) : OutI F (putL out (F.getD i [])) (i + 1) := by
  refine ⟨putL_asc h.asc, fun x => mem_putL.trans ?_, by have := h.len; have := putL_len (L := out) (v := F.getD i []); omega⟩
  rw [h.mem]
  constructor
  · rintro (rfl | ⟨j, hj, h1, h2⟩)
    · exact ⟨i, by omega, hn, rfl⟩
    · exact ⟨j, by omega, h1, h2⟩
  · rintro ⟨j, hj, h1, h2⟩
    by_cases e : j = i
    · subst e; exact .inl h2.symm
    · exact .inr ⟨j, by omega, h1, h2⟩
theorem getD_inj {F : List (List Int)} (hF : F.Nodup) {i j : Nat} (hi : i < F.length) (hj : j < F.length) (h : F.getD i [] = F.getD j []) : i = j := by
  rw [List.getD_eq_getElem?_getD, List.getD_eq_getElem?_getD, List.getElem?_eq_getElem hi, List.getElem?_eq_getElem hj] at h
  exact (List.getElem_inj hF).1 h
theorem isum_rep {x : List Int} {n : Nat} (hl : x.length = n) (h : ∀ y ∈ x, 0 ≤ y) : isum x = 0 ↔ x = List.replicate n 0 := by
  rw [isum_zero h]
  constructor
  · intro hz
    refine List.ext_getElem (by simp [hl]) fun i h1 h2 => ?_
    have := hz i h1
    rw [List.getD_eq_getElem?_getD, List.getElem?_eq_getElem h1] at this
    simpa using this
  · rintro rfl i hi
    simp [List.getD_eq_getElem?_getD] at hi ⊢
    simp [hi]
theorem OutI.fin {P P' : List Int → Bool} {k hi : Nat} {fr : Bool} {out : List (List Int)} (hPP : ∀ x ∈ rvecs (k + 1) hi, P' x = P x) {F : List (List Int)} (hF : F = (rvecs (k + 1) hi).filter (takeB P' fr (k + 1))) (h : OutI F out F.length) :
    MinQ P k (if fr = true then 1 else 0) hi out := by
  have hnd : F.Nodup := by rw [hF]; exact (rvecs_nodup _ _).filter _
  have hmem : ∀ x, x ∈ F ↔ Solv P k (if fr = true then 1 else 0) hi x := fun x => by
    rw [hF, List.mem_filter]
    constructor
    · rintro ⟨h1, h2⟩
      obtain ⟨g1, g2, g3⟩ := mem_rvecs.1 h1
      unfold takeB at h2
      rw [Bool.and_eq_true, hPP x h1, Bool.not_eq_true'] at h2
      refine ⟨g1, g2, ?_, g3, h2.1⟩
      have h0 := (isum_ge g2).1
      cases fr with
      | false => simpa using h0
      | true =>
        have h3 : ¬ x = List.replicate (k + 1) 0 := by simpa using h2.2
        rw [← isum_rep g1 g2] at h3
        simp; omega
    · intro hx
      have h1 : x ∈ rvecs (k + 1) hi := mem_rvecs.2 ⟨hx.len, hx.pos, hx.le⟩
      refine ⟨h1, ?_⟩
      unfold takeB
      rw [hPP x h1, hx.sol]
      cases fr with
      | false => rfl
      | true =>
        have h3 := hx.ge
        have h4 : ¬ x = List.replicate (k + 1) 0 := by
          rw [← isum_rep hx.len hx.pos]
          simp at h3; omega
        simp [h4]
  refine ⟨h.asc, fun x => (h.mem x).trans ?_⟩
  constructor
  · rintro ⟨j, hj, h1, rfl⟩
    refine ⟨(hmem _).1 (getD_mem hj), fun y hy hle => ?_⟩
    obtain ⟨q, hq, rfl⟩ := mem_getD (d := []) ((hmem y).2 hy)
    by_cases e : q = j
    · rw [e]
    · have h2 := h1 q hq e
      rw [pleB_true.2 (fun i hi => hle.le i hi)] at h2
      cases h2
  · rintro ⟨hx, hmin⟩
    obtain ⟨j, hj, rfl⟩ := mem_getD (d := []) ((hmem x).2 hx)
    refine ⟨j, hj, fun q hq hne => ?_, rfl⟩
    rw [← Bool.not_eq_true]
    intro hp
    have hs := (hmem _).1 (getD_mem (d := []) hq)
    have := hmin _ hs ⟨hs.len.trans hx.len.symm, pleB_true.1 hp⟩
    exact hne (getD_inj hnd hq hj this)
end Go.Proofs.Ythpobeeccgmieaa

namespace Go.Proofs.Ythpobeeccgmieaa
set_option linter.unusedVariables false
open Go.RowKit



def RSolPost (lx : List Nat) (Q : List (List Int) → Prop) (w : World) (e : Ending) (w' : World) : Prop :=
  ∃ V m c ys, m = ys.length ∧ e = .returned (.slice V m c) ∧ Q ys ∧ IsII w' lx (.slice V m c) ys ∧ Keeps [] w w'
set_option maxRecDepth 100000 in
set_option maxHeartbeats 4000000 in
theorem rsols_is {w : World} {l : List Nat} {av bv : Value} {A : List (List Int)} {b : List Int} {r n hi lo : Nat} (fr : Bool) (hlo : lo = if fr = true then 1 else 0) (hA : IsII w l av A) (hb : IsI w l bv b) (hS : Sys A r n) (hbl : b.length = r) (hbr : rngB b = true) (hhi : hi ≤ 10) {lx : List Nat} (hlx : ∀ y ∈ lx, y < w.heap.size) :
    Calls Try.prog 40 #[av, bv, .int .i64 (hi : Int), .bool fr] w (RSolPost lx (MinQ (solB A b) (n - 1) lo hi) w) := by
  unfold RSolPost
  have hr6 := hS.r6
  have hn6 := hS.n6
  have hr1 := hS.mat.r1.1
  have hn1 := hS.mat.c1.1
  have hr1i : (0 : Int) < (r : Int) := by omega
  have hr1n : 0 < r := by omega
  have hr1l : (0 : Int) ≤ (r : Int) := by omega
  have hsb := hS.b.2.2
  have hPP : ∀ x ∈ rvecs n hi, solvesB A b x = solB A b x := fun x hx => by
    obtain ⟨h1, h2, h3⟩ := mem_rvecs.1 hx
    rw [Bool.eq_iff_iff, solvesB_of hS hbl hbr]
    exact ⟨fun h => h.2.2, fun h => ⟨h1, vval_small (M := 10) (by omega) h2 (by omega) (by omega), h⟩⟩
  have hfin : ∀ F out, F = (rvecs n hi).filter (takeB (solvesB A b) fr n) → OutI F out F.length → MinQ (solB A b) (n - 1) lo hi out := by
    rw [hlo]
    obtain ⟨k0, rfl⟩ : ∃ k0, n = k0 + 1 := ⟨n - 1, by omega⟩
    exact fun F out hF h => OutI.fin hPP hF h
  have hsolv := fun W xv (x : List Int) (k : Keeps [] w W) (hx : IsI W [] xv x) (hxl : x.length = n) => rsolves_is (l := []) (Rok.weak (hA.new k) (by simp) : IsII W [] av A) (Rok.weak (hb.new k) (by simp) : IsI W [] bv b) hx (by rw [hS.mat.rows]; omega) (fun x hx => by rw [hS.mat.len x hx]; omega) (by omega) (by omega)
  have hvecs := rvectors_is n hi w lx hn6 hhi hlx
  have hvl := rvecs_len2 hn6 hhi
  have hve : ∀ v ∈ rvecs n hi, v.length = n := fun v hv => (mem_rvecs.1 hv).1
  have hA' := hA
  obtain ⟨VA, cA, rfl, hrA⟩ := hA'.mrow
  obtain ⟨VB, cB, rfl, _⟩ := hb.open
  rw [hS.mat.rows] at hrA hsolv hA ⊢
  obtain ⟨p0, B0, c0, rfl, hp0, _⟩ := hrA 0 (by omega)
  have hz : p0.add 0 = p0 := by simp [Addr.add]
  rw [hz, hsb] at hp0
  rw [hbl] at hsolv hb ⊢
  clear hlo
  generalize hall : rvecs n hi = all at *
  have HA := Lib.hid hA
  have HB := Lib.hid hb
  have HS := Lib.hid hS
  have HBL := Lib.hid hbl
  have HBR := Lib.hid hbr
  have HLX := Lib.hid hlx
  have HPP := Lib.hid hPP
  have HFIN := Lib.hid hfin
  have HSOLV := Lib.hid hsolv
  have HVECS := Lib.hid hvecs
  have HVL := Lib.hid hvl
  have HVE := Lib.hid hve
  have HRA := Lib.hid hrA
  have HALL := Lib.hid hall
  have HSB := Lib.hid hsb
  have HA' := Lib.hid hA'
  clear hA hb hS hbl hbr hlx hPP hfin hsolv hvecs hvl hve hrA hall hsb hA'
  go_enter Try.func40, Try.ntmps40
  go_wp2_with fail
  refine HVECS.out.mono ?_
  rintro e w2 ⟨V2, m2, c2, hm2, rfl, hI2, hk2⟩
  have hp02 := hk2.read hp0 (by simp)
  obtain ⟨V2', c2', e2, hr2⟩ := hI2.mrow
  rw [← hm2] at e2 hr2
  obtain ⟨rfl, rfl⟩ : V2 = V2' ∧ c2 = c2' := by injection e2 with e1 _ e3; exact ⟨e1, e3⟩
  have halll : m2 ≤ 8008 := by have := HVL.out; omega
  have hz2 := hk2.size
  have hlx2 : ∀ y ∈ lx, y < w2.heap.size := fun y hy => Nat.lt_of_lt_of_le (HLX.out y hy) hz2
  have HI2 := Lib.hid hI2
  have HK2 := Lib.hid hk2
  have HR2 := Lib.hid hr2
  have HM2 := Lib.hid hm2
  have HLX2 := Lib.hid hlx2
  clear hI2 hk2 hr2 hm2 hlx2
  clear e2 hp0
  go_wp2_with fail
  go_loopg [10, 11] (m2 + 1) (fun gh ov iv wr => ∃ (i : Nat) (V3 : Option Addr) (m3 c3 : Nat), m2 + 1 ≤ i + gh ∧ i ≤ m2 ∧ iv = .int .i64 (i : Int) ∧ ov = .slice V3 m3 c3 ∧ m3 = ((all.take i).filter (takeB (solvesB A b) fr n)).length ∧ m3 ≤ i ∧ OwL IsI [] 22 w2.heap.size wr lx (.slice V3 m3 c3) ((all.take i).filter (takeB (solvesB A b) fr n)) ∧ Keeps [] w2 wr)
  case atStart => exact ⟨0, none, 0, 0, by omega, by omega, rfl, rfl, rfl, by omega, OwL.nil, Keeps.refl _ _⟩
  case round =>
    obtain ⟨i, V3, m3, c3, hgh, hi2, rfl, rfl, hm3, hm3i, hO3, hkr3⟩ := hrel
    have hzr3 := hkr3.size
    by_cases hlt : i < m2
    · obtain ⟨pa, Bi, ci, rfl, hpa0, hIi0⟩ := HR2.out i hlt
      have hpa := hkr3.read hpa0 (by simp)
      have hp0r := hkr3.read hp02 (by simp)
      have hil : i < all.length := by rw [← HM2.out]; exact hlt
      have hvl := HVE.out _ (getD_mem (d := []) hil)
      have htake : (all.take (i + 1)).filter (takeB (solvesB A b) fr n) = (all.take i).filter (takeB (solvesB A b) fr n) ++ if takeB (solvesB A b) fr n (all.getD i []) = true then [all.getD i []] else [] := by
        rw [List.take_succ_eq_append_getElem hil, List.filter_append, List.getD_eq_getElem?_getD, List.getElem?_eq_getElem hil]
        simp [List.filter_cons]
      rw [hvl] at hpa hIi0
      have hvI : IsI wr ((Value.slice V3 m3 c3).ownBlock.toList ++ lx) (.slice Bi n ci) (all.getD i []) := by
        have h1 : IsI w2 ((Value.slice V3 m3 c3).ownBlock.toList ++ lx) (.slice Bi n ci) (all.getD i []) := Rok.weak hIi0 (fun y hy => by
          rcases List.mem_append.1 hy with h | h
          · exact .inr (hO3.blocks y h).1
          · exact .inl h)
        exact h1.new hkr3
      have hv0 : IsI wr [] (.slice Bi n ci) (all.getD i []) := Rok.weak hvI (by simp)
      generalize hvd : all.getD i [] = v at *
      have hsv := fun W (hW : Keeps [] wr W) => HSOLV.out W (.slice Bi n ci) v ((HK2.out.trans hkr3).trans hW) (hv0.new hW) hvl
      clear hpa0 hIi0
      cases hs : solvesB A b v with
      | false =>
        have ht : takeB (solvesB A b) fr n v = false := by unfold takeB; rw [hs]; rfl
        rw [hs] at hsv
        have HM3 := Lib.hid hm3
        have HM3I := Lib.hid hm3i
        have HO3 := Lib.hid hO3
        have HKR3 := Lib.hid hkr3
        have HIL := Lib.hid hil
        have HVL := Lib.hid hvl
        have HTAKE := Lib.hid htake
        have HVI := Lib.hid hvI
        have HV0 := Lib.hid hv0
        have HVD := Lib.hid hvd
        have HSV := Lib.hid hsv
        have HS := Lib.hid hs
        have HT := Lib.hid ht
        clear hm3 hm3i hO3 hkr3 hil hvl htake hvI hv0 hvd hsv hs ht
        go_upto_region 6 with fail
        refine wp_quietk (l0 := []) (by kernel_rfl) (by kernel_rfl) ?_
        repeat ((with_reducible refine wpQuiet_step (fun K hK => ?_)); go_simp; first
          | ((with_reducible refine hK _ ?_); clear hK K)
          | (rw [if_neg (by intro h; cases h)]; (with_reducible refine hK _ ?_); clear hK K)
          | (apply Exists.intro; refine ⟨fun W hW => ?_, hK _ ?_⟩
             · first
                 | with_reducible exact Eq.refl _
                 | ((have hq1 := hW.read hpa (by simp); have hq2 := hW.read hp0r (by simp)); (try go_simp); with_reducible first | done | exact Eq.refl _ | exact ⟨Eq.refl _, Eq.refl _⟩)
                 | ((refine (HSV.out W hW).mono ?_; rintro e w10 ⟨rfl, hk⟩; exact ⟨Eq.refl _, hW.trans hk⟩))
             clear hK K))
        with_reducible refine wpQuiet_nil ?_
        intro w9 hk9
        have hk29 := HKR3.out.trans hk9
        have htk := HTAKE.out
        rw [if_neg (by rw [HT.out]; exact Bool.false_ne_true)] at htk
        rw [List.append_nil] at htk
        have hOn : OwL IsI [] 22 w2.heap.size w9 lx (.slice V3 m3 c3) ((all.take i).filter (takeB (solvesB A b) fr n)) := HO3.out.new hk9
        have HK29 := Lib.hid hk29
        have HTK := Lib.hid htk
        have HON := Lib.hid hOn
        clear hk29 htk hOn
        clear hk9 hpa hp0r
        go_wp2_with fail
        go_roundg (m2 - i)
        case measure => omega
        case rel => exact ⟨i + 1, V3, m3, c3, by omega, by omega, by go_num, rfl, by rw [HTK.out]; exact HM3.out, by have := HM3I.out; omega, by rw [HTK.out]; exact HON.out, HK29.out⟩
      | true =>
        rw [hs] at hsv
        cases hfr : fr with
        | false =>
          subst hfr
          have ht : takeB (solvesB A b) false n v = true := by unfold takeB; rw [hs]; rfl
          have HM3 := Lib.hid hm3
          have HM3I := Lib.hid hm3i
          have HO3 := Lib.hid hO3
          have HKR3 := Lib.hid hkr3
          have HIL := Lib.hid hil
          have HVL := Lib.hid hvl
          have HTAKE := Lib.hid htake
          have HVI := Lib.hid hvI
          have HV0 := Lib.hid hv0
          have HVD := Lib.hid hvd
          have HSV := Lib.hid hsv
          have HS := Lib.hid hs
          have HT := Lib.hid ht
          clear hm3 hm3i hO3 hkr3 hil hvl htake hvI hv0 hvd hsv hs ht
          go_upto_region 6 with fail
          refine wp_quietk (l0 := []) (by kernel_rfl) (by kernel_rfl) ?_
          repeat ((with_reducible refine wpQuiet_step (fun K hK => ?_)); go_simp; first
            | ((with_reducible refine hK _ ?_); clear hK K)
            | (rw [if_neg (by intro h; cases h)]; (with_reducible refine hK _ ?_); clear hK K)
            | (apply Exists.intro; refine ⟨fun W hW => ?_, hK _ ?_⟩
               · first
                   | with_reducible exact Eq.refl _
                   | ((have hq1 := hW.read hpa (by simp); have hq2 := hW.read hp0r (by simp)); (try go_simp); with_reducible first | done | exact Eq.refl _ | exact ⟨Eq.refl _, Eq.refl _⟩)
                   | ((refine (HSV.out W hW).mono ?_; rintro e w10 ⟨rfl, hk⟩; exact ⟨Eq.refl _, hW.trans hk⟩))
               clear hK K))
          with_reducible refine wpQuiet_nil ?_
          intro w9 hk9
          have hOn : OwL IsI [] 22 w2.heap.size w9 lx (.slice V3 m3 c3) ((all.take i).filter (takeB (solvesB A b) false n)) := HO3.out.new hk9
          have hvn : IsI w9 ((Value.slice V3 m3 c3).ownBlock.toList ++ lx) (.slice Bi n ci) v := HVI.out.new hk9
          have hz9 : w2.heap.size ≤ w9.heap.size := Nat.le_trans HKR3.out.size hk9.size
          have hpa9 := hk9.read hpa (by simp)
          have hk29 := HKR3.out.trans hk9
          have htk := HTAKE.out
          rw [if_pos HT.out] at htk
          have HON := Lib.hid hOn
          have HVN := Lib.hid hvn
          have HK29 := Lib.hid hk29
          have HTK := Lib.hid htk
          clear hOn hvn hk29 htk
          clear hk9 hpa hp0r
          go_wp2_with (at_builtin; refine wpList_pushg sl_rowsi rfl _ _ rfl (w := w9) (u := .slice Bi n ci) (y := v) (v := .slice V3 m3 c3) rfl rfl HON.out HVN.out (m := m3 + 1) (by rw [← HM3.out]) (by have := halll; have := HM3I.out; omega) hz9 ?_; intro V6 c6 w6 hown6 hg6 hb6)
          have hk66 : Keeps [] w2 w6 := HK29.out.step hg6 (fun y hy => .inr (HON.out.blocks y hy).1)
          have HOWN6 := Lib.hid hown6
          have HK66 := Lib.hid hk66
          clear hown6 hk66
          clear hg6 hb6
          go_roundg (m2 - i)
          case measure => omega
          case rel => exact ⟨i + 1, V6, m3 + 1, c6, by omega, by omega, by go_num, rfl, by rw [HTK.out, List.length_append, ← HM3.out]; rfl, by have := HM3I.out; omega, by rw [HTK.out]; exact HOWN6.out, HK66.out⟩
        | true =>
          subst hfr
          have ezer := enters_of Try.func42 (by kernel_rfl) rfl
          have esam := enters_of Try.func27 (by kernel_rfl) rfl
          have esol := enters_of Try.func18 (by kernel_rfl) rfl
          have hsame := fun W zv (hW : Keeps [] wr W) (hz : IsI W [] zv (List.replicate n 0)) => same_is (hv0.new hW) hz (by rw [hvl]; omega) (by simp; omega)
          cases hz0 : decide (v = List.replicate n 0) with
          | true =>
            rw [hz0] at hsame
            have ht : takeB (solvesB A b) true n v = false := by unfold takeB; rw [hs, hz0]; rfl
            have HM3 := Lib.hid hm3
            have HM3I := Lib.hid hm3i
            have HO3 := Lib.hid hO3
            have HKR3 := Lib.hid hkr3
            have HIL := Lib.hid hil
            have HVL := Lib.hid hvl
            have HTAKE := Lib.hid htake
            have HVI := Lib.hid hvI
            have HV0 := Lib.hid hv0
            have HVD := Lib.hid hvd
            have HSV := Lib.hid hsv
            have HS := Lib.hid hs
            have HT := Lib.hid ht
            have HSAME := Lib.hid hsame
            have HZ0 := Lib.hid hz0
            clear hm3 hm3i hO3 hkr3 hil hvl htake hvI hv0 hvd hsv hs ht hsame hz0
            go_upto_region 6 with fail
            haveI kb0 : KB [] wr wr := ⟨Keeps.refl _ _⟩
            clear kb0
            go_region_held3 (fun W => W.cell? (pa.add i) = some (.slice Bi n ci) ∧ W.cell? p0 = some (.slice B0 n c0)) (exact ⟨cell_now (a := wr) [] hpa (by simp), cell_now (a := wr) [] hp0r (by simp)⟩) (first
              | (have _t := hIz; refine step_callw 27 #[.tmp 41, .tmp 46] #[22, 22] rfl esam (HSAME.out wZ _ (kf [] wr wZ) hIz) (by first | rfl | (simp [Region.wanted, yielded]; done) | simp [Region.wanted, yielded, Act.put]) (by first | (simp [Act.eval]; done) | (simp only [Act.eval, Act.put]; simp; done) | simp [Act.eval, Act.put]) ?_; rintro e w9 ⟨rfl, hqq⟩; refine ⟨_, rfl, ?_⟩; have hk9 : Keeps [] wr w9 := (by obtain ⟨qq, rfl⟩ := hqq; exact (kf [] wr wZ).drewN qq); clear hqq; haveI kb9 : KB [] w9 wr := ⟨hk9⟩)
              | (have _t := hkS; refine step_callw 42 #[.tmp 45] #[3] rfl ezer (zeros_is _ n (by omega)) (by first | rfl | (simp [Region.wanted, yielded]; done) | simp [Region.wanted, yielded, Act.put]) (by first | (simp [Act.eval]; done) | (simp only [Act.eval, Act.put]; simp; done) | simp [Act.eval, Act.put]) ?_; rintro e wZ ⟨gz, rfl, hIz0, hkZ⟩; refine ⟨_, rfl, ?_⟩; have hIz := hIz0 [] (by simp); haveI kbZ : KB [] wZ _ := ⟨hkZ⟩)
              | (refine step_callw 18 #[.tmp 28, .tmp 29, .tmp 33] #[23, 22, 22] rfl esol (HSV.out _ (kf [] wr _)) (by first | rfl | (simp [Region.wanted, yielded]; done) | simp [Region.wanted, yielded, Act.put]) (by first | (simp [Act.eval]; done) | (simp only [Act.eval, Act.put]; simp; done) | simp [Act.eval, Act.put]) ?_; rintro e wS ⟨rfl, hkS⟩; refine ⟨_, rfl, ?_⟩; haveI kbS : KB [] wS _ := ⟨hkS⟩))
            all_goals
              have hk29 := HKR3.out.trans hk9
              have htk := HTAKE.out
              rw [if_neg (by rw [HT.out]; exact Bool.false_ne_true)] at htk
              rw [List.append_nil] at htk
              have hOn : OwL IsI [] 22 w2.heap.size w9 lx (.slice V3 m3 c3) ((all.take i).filter (takeB (solvesB A b) true n)) := HO3.out.new hk9
              have HK29 := Lib.hid hk29
              have HTK := Lib.hid htk
              have HON := Lib.hid hOn
              clear hk29 htk hOn
              clear hk9 hpa hp0r
              go_wp2_with fail
              go_roundg (m2 - i)
              case measure => omega
              case rel => exact ⟨i + 1, V3, m3, c3, by omega, by omega, by go_num, rfl, by rw [HTK.out]; exact HM3.out, by have := HM3I.out; omega, by rw [HTK.out]; exact HON.out, HK29.out⟩
          | false =>
            rw [hz0] at hsame
            have ht : takeB (solvesB A b) true n v = true := by unfold takeB; rw [hs, hz0]; rfl
            have HM3 := Lib.hid hm3
            have HM3I := Lib.hid hm3i
            have HO3 := Lib.hid hO3
            have HKR3 := Lib.hid hkr3
            have HIL := Lib.hid hil
            have HVL := Lib.hid hvl
            have HTAKE := Lib.hid htake
            have HVI := Lib.hid hvI
            have HV0 := Lib.hid hv0
            have HVD := Lib.hid hvd
            have HSV := Lib.hid hsv
            have HS := Lib.hid hs
            have HT := Lib.hid ht
            have HSAME := Lib.hid hsame
            have HZ0 := Lib.hid hz0
            clear hm3 hm3i hO3 hkr3 hil hvl htake hvI hv0 hvd hsv hs ht hsame hz0
            go_upto_region 6 with fail
            haveI kb0 : KB [] wr wr := ⟨Keeps.refl _ _⟩
            clear kb0
            go_region_held3 (fun W => W.cell? (pa.add i) = some (.slice Bi n ci) ∧ W.cell? p0 = some (.slice B0 n c0)) (exact ⟨cell_now (a := wr) [] hpa (by simp), cell_now (a := wr) [] hp0r (by simp)⟩) (first
              | (have _t := hIz; refine step_callw 27 #[.tmp 41, .tmp 46] #[22, 22] rfl esam (HSAME.out wZ _ (kf [] wr wZ) hIz) (by first | rfl | (simp [Region.wanted, yielded]; done) | simp [Region.wanted, yielded, Act.put]) (by first | (simp [Act.eval]; done) | (simp only [Act.eval, Act.put]; simp; done) | simp [Act.eval, Act.put]) ?_; rintro e w9 ⟨rfl, hqq⟩; refine ⟨_, rfl, ?_⟩; have hk9 : Keeps [] wr w9 := (by obtain ⟨qq, rfl⟩ := hqq; exact (kf [] wr wZ).drewN qq); clear hqq; haveI kb9 : KB [] w9 wr := ⟨hk9⟩)
              | (have _t := hkS; refine step_callw 42 #[.tmp 45] #[3] rfl ezer (zeros_is _ n (by omega)) (by first | rfl | (simp [Region.wanted, yielded]; done) | simp [Region.wanted, yielded, Act.put]) (by first | (simp [Act.eval]; done) | (simp only [Act.eval, Act.put]; simp; done) | simp [Act.eval, Act.put]) ?_; rintro e wZ ⟨gz, rfl, hIz0, hkZ⟩; refine ⟨_, rfl, ?_⟩; have hIz := hIz0 [] (by simp); haveI kbZ : KB [] wZ _ := ⟨hkZ⟩)
              | (refine step_callw 18 #[.tmp 28, .tmp 29, .tmp 33] #[23, 22, 22] rfl esol (HSV.out _ (kf [] wr _)) (by first | rfl | (simp [Region.wanted, yielded]; done) | simp [Region.wanted, yielded, Act.put]) (by first | (simp [Act.eval]; done) | (simp only [Act.eval, Act.put]; simp; done) | simp [Act.eval, Act.put]) ?_; rintro e wS ⟨rfl, hkS⟩; refine ⟨_, rfl, ?_⟩; haveI kbS : KB [] wS _ := ⟨hkS⟩))
            all_goals
              have hOn : OwL IsI [] 22 w2.heap.size w9 lx (.slice V3 m3 c3) ((all.take i).filter (takeB (solvesB A b) true n)) := HO3.out.new hk9
              have hvn : IsI w9 ((Value.slice V3 m3 c3).ownBlock.toList ++ lx) (.slice Bi n ci) v := HVI.out.new hk9
              have hz9 : w2.heap.size ≤ w9.heap.size := Nat.le_trans HKR3.out.size hk9.size
              have hpa9 := hk9.read hpa (by simp)
              have hk29 := HKR3.out.trans hk9
              have htk := HTAKE.out
              rw [if_pos HT.out] at htk
              have HON := Lib.hid hOn
              have HVN := Lib.hid hvn
              have HK29 := Lib.hid hk29
              have HTK := Lib.hid htk
              clear hOn hvn hk29 htk
              clear hk9 hpa hp0r
              go_wp2_with (at_builtin; refine wpList_pushg sl_rowsi rfl _ _ rfl (w := w9) (u := .slice Bi n ci) (y := v) (v := .slice V3 m3 c3) rfl rfl HON.out HVN.out (m := m3 + 1) (by rw [← HM3.out]) (by have := halll; have := HM3I.out; omega) hz9 ?_; intro V6 c6 w6 hown6 hg6 hb6)
              have hk66 : Keeps [] w2 w6 := HK29.out.step hg6 (fun y hy => .inr (HON.out.blocks y hy).1)
              have HOWN6 := Lib.hid hown6
              have HK66 := Lib.hid hk66
              clear hown6 hk66
              clear hg6 hb6
              go_roundg (m2 - i)
              case measure => omega
              case rel => exact ⟨i + 1, V6, m3 + 1, c6, by omega, by omega, by go_num, rfl, by rw [HTK.out, List.length_append, ← HM3.out]; rfl, by have := HM3I.out; omega, by rw [HTK.out]; exact HOWN6.out, HK66.out⟩
    · obtain rfl : i = m2 := by omega
      have hfull : all.take i = all := List.take_of_length_le (by rw [← HM2.out]; exact Nat.le_refl _)
      rw [hfull] at hm3 hO3
      have hI3 : IsII wr lx (.slice V3 m3 c3) (all.filter (takeB (solvesB A b) fr n)) := hO3.isL HLX2.out
      have hkw3 : Keeps [] w wr := HK2.out.trans hkr3
      have hFl : ∀ v ∈ all.filter (takeB (solvesB A b) fr n), v.length = n := fun v hv => HVE.out v (List.mem_filter.1 hv).1
      have hfin2 := fun out => HFIN.out _ out rfl
      have h8 : m3 ≤ 8008 := by omega
      have hlx3 : ∀ y ∈ lx, y < wr.heap.size := fun y hy => Nat.lt_of_lt_of_le (HLX2.out y hy) hzr3
      clear hO3 hfull hkr3 hm3i hzr3
      generalize all.filter (takeB (solvesB A b) fr n) = F at *
      obtain ⟨V3', c3', e3, hr3⟩ := hI3.mrow
      rw [← hm3] at e3 hr3
      obtain ⟨rfl, rfl⟩ : V3 = V3' ∧ c3 = c3' := by injection e3 with e1 _ e3; exact ⟨e1, e3⟩
      clear e3
      generalize wr = w3 at *
      have HI3 := Lib.hid hI3
      have HKW3 := Lib.hid hkw3
      have HFL := Lib.hid hFl
      have HFIN2 := Lib.hid hfin2
      have HR3 := Lib.hid hr3
      have HM3 := Lib.hid hm3
      have HLX3 := Lib.hid hlx3
      clear hI3 hkw3 hFl hfin2 hr3 hm3 hlx3
      go_wp2_with fail
      go_loopg [12, 13] (m3 + 1) (fun gh ov jv wr => ∃ (j : Nat) (V : Option Addr) (m c : Nat) (out : List (List Int)), m3 + 1 ≤ j + gh ∧ j ≤ m3 ∧ jv = .int .i64 (j : Int) ∧ ov = .slice V m c ∧ m = out.length ∧ OutI F out j ∧ IsII wr lx (.slice V m c) out ∧ Keeps [] w3 wr)
      case atStart => exact ⟨0, none, 0, 0, [], by omega, by omega, rfl, rfl, rfl, OutI.nil, IsL.nil, Keeps.refl _ _⟩
      case round =>
        obtain ⟨j, V, m, c, out, hgh3, hj, rfl, rfl, hm, hO, hI, hkr⟩ := hrel
        have hml : m ≤ 8008 := by have := hO.len; omega
        by_cases hlt3 : j < m3
        · generalize wr = wo at *
          obtain ⟨pj, Bj, cj, rfl, hpj0, hIj0⟩ := HR3.out j hlt3
          have hjl : j < F.length := by rw [← HM3.out]; exact hlt3
          have hvj := HFL.out _ (getD_mem (d := []) hjl)
          rw [hvj] at hpj0 hIj0
          have hpj := hkr.read hpj0 (by simp)
          have hIj := hIj0.new hkr
          have hlxo : ∀ y ∈ lx, y < wo.heap.size := fun y hy => Nat.lt_of_lt_of_le (HLX3.out y hy) hkr.size
          have hput := fun W (hW : Keeps [] wo W) => put_is (fun y hy => Nat.lt_of_lt_of_le (hlxo y hy) hW.size) (hI.new hW) (hIj.new hW) (by rw [← hm]; omega) (fun x hx => by
            obtain ⟨t, ht, _, rfl⟩ := (hO.mem x).1 hx
            rw [HFL.out _ (getD_mem (d := []) (show t < F.length by omega))]; omega) (by omega)
          generalize hvd : F.getD j [] = v at *
          clear hpj0 hIj0
          have HM := Lib.hid hm
          have HO := Lib.hid hO
          have HI := Lib.hid hI
          have HKR := Lib.hid hkr
          have HJL := Lib.hid hjl
          have HVJ := Lib.hid hvj
          have HIJ := Lib.hid hIj
          have HLXO := Lib.hid hlxo
          have HPUT := Lib.hid hput
          have HVD := Lib.hid hvd
          clear hm hO hI hkr hjl hvj hIj hlxo hput hvd
          go_wp2_with fail
          go_loopg [14, 15] (m3 + 1) (fun gh lv kv wr => ∃ (k : Nat) (q : Bool), m3 + 1 ≤ k + gh ∧ k ≤ m3 ∧ kv = .int .i64 (k : Int) ∧ lv = .bool q ∧ (q = true ↔ ∀ t, t < k → t ≠ j → pleB (F.getD t []) v = false) ∧ Keeps [] wo wr)
          case atStart => exact ⟨0, true, by omega, by omega, rfl, rfl, by simp, Keeps.refl _ _⟩
          case round =>
            obtain ⟨k, q, hgh4, hk, rfl, rfl, hq, hkr4⟩ := hrel
            by_cases hlt4 : k < m3
            · have hpj4 := hkr4.read hpj (by simp)
              obtain ⟨pk, Bk, ck, e, hpk0, hIk0⟩ := HR3.out k hlt4
              obtain rfl : pk = pj := by injection e with e; exact e.symm
              have hkl : k < F.length := by rw [← HM3.out]; exact hlt4
              have hvk := HFL.out _ (getD_mem (d := []) hkl)
              have hk34 := HKR.out.trans hkr4
              have hpk := hk34.read hpk0 (by simp)
              have hleq := fun W (hW : Keeps [] wr W) => rleq2_is (hIk0.new (hk34.trans hW)) (HIJ.out.new (hkr4.trans hW)) (by rw [hvk, HVJ.out]; exact Nat.le_refl _) (by rw [HVJ.out]; omega)
              rw [hvk] at hpk hleq
              clear e hpk0 hIk0
              by_cases hjk : j = k
              · subst hjk
                have hd : ((j : Int) != (j : Int)) = false := by simp
                have hq2 : q = true ↔ ∀ t, t < j + 1 → t ≠ j → pleB (F.getD t []) v = false := hq.trans ⟨fun h t ht hne => h t (by omega) hne, fun h t ht hne => h t (by omega) hne⟩
                have HQ := Lib.hid hq
                have HQ2 := Lib.hid hq2
                have HKR4 := Lib.hid hkr4
                have HLEQ := Lib.hid hleq
                have HK34 := Lib.hid hk34
                have HVK := Lib.hid hvk
                have HKL := Lib.hid hkl
                clear hq hq2 hkr4 hleq hk34 hvk hkl
                go_upto_region 16 with fail
                refine wp_quietk (l0 := []) (by kernel_rfl) (by kernel_rfl) ?_
                repeat ((with_reducible refine wpQuiet_step (fun K hK => ?_)); go_simp; first
                  | ((with_reducible refine hK _ ?_); clear hK K)
                  | (rw [if_neg (by intro h; cases h)]; (with_reducible refine hK _ ?_); clear hK K)
                  | (apply Exists.intro; refine ⟨fun W hW => ?_, hK _ ?_⟩
                     · first
                         | with_reducible exact Eq.refl _
                         | (skip; (try go_simp); with_reducible first | done | exact Eq.refl _ | exact ⟨Eq.refl _, Eq.refl _⟩)
                         | (fail)
                     clear hK K))
                with_reducible refine wpQuiet_nil ?_
                intro w9 hk9
                have hk49 := HKR4.out.trans hk9
                have HK49 := Lib.hid hk49
                clear hk49
                clear hk9
                go_wp2_with fail
                go_roundg (m3 - j)
                case measure => omega
                case rel => exact ⟨j + 1, q, by omega, by omega, by go_num, rfl, HQ2.out, HK49.out⟩
              · have hd : ((j : Int) != (k : Int)) = true := by
                  have : (j : Int) ≠ (k : Int) := by omega
                  simpa using this
                cases hp : pleB (F.getD k []) v with
                | false =>
                  have hq2 : q = true ↔ ∀ t, t < k + 1 → t ≠ j → pleB (F.getD t []) v = false := hq.trans ⟨fun h t ht hne => by
                    by_cases e : t = k
                    · rw [e]; exact hp
                    · exact h t (by omega) hne, fun h t ht hne => h t (by omega) hne⟩
                  rw [hp] at hleq
                  have HQ := Lib.hid hq
                  have HQ2 := Lib.hid hq2
                  have HKR4 := Lib.hid hkr4
                  have HLEQ := Lib.hid hleq
                  have HK34 := Lib.hid hk34
                  have HVK := Lib.hid hvk
                  have HKL := Lib.hid hkl
                  have HP := Lib.hid hp
                  clear hq hq2 hkr4 hleq hk34 hvk hkl hp
                  go_upto_region 16 with fail
                  refine wp_quietk (l0 := []) (by kernel_rfl) (by kernel_rfl) ?_
                  repeat ((with_reducible refine wpQuiet_step (fun K hK => ?_)); go_simp; first
                    | ((with_reducible refine hK _ ?_); clear hK K)
                    | (rw [if_neg (by intro h; cases h)]; (with_reducible refine hK _ ?_); clear hK K)
                    | (apply Exists.intro; refine ⟨fun W hW => ?_, hK _ ?_⟩
                       · first
                           | with_reducible exact Eq.refl _
                           | ((have hq1 := hW.read hpj4 (by simp); have hq2 := hW.read hpk (by simp)); (try go_simp); with_reducible first | done | exact Eq.refl _ | exact ⟨Eq.refl _, Eq.refl _⟩)
                           | ((refine (HLEQ.out W hW).mono ?_; rintro e w10 ⟨rfl, hk⟩; exact ⟨Eq.refl _, hW.trans hk⟩))
                       clear hK K))
                  with_reducible refine wpQuiet_nil ?_
                  intro w9 hk9
                  have hk49 := HKR4.out.trans hk9
                  have HK49 := Lib.hid hk49
                  clear hk49
                  clear hk9
                  go_wp2_with fail
                  go_roundg (m3 - k)
                  case measure => omega
                  case rel => exact ⟨k + 1, q, by omega, by omega, by go_num, rfl, HQ2.out, HK49.out⟩
                | true =>
                  have hq2 : false = true ↔ ∀ t, t < k + 1 → t ≠ j → pleB (F.getD t []) v = false := ⟨fun h => Bool.noConfusion h, fun h => by
                    have := h k (by omega) (fun e => hjk e.symm)
                    rw [hp] at this; cases this⟩
                  rw [hp] at hleq
                  have HQ := Lib.hid hq
                  have HQ2 := Lib.hid hq2
                  have HKR4 := Lib.hid hkr4
                  have HLEQ := Lib.hid hleq
                  have HK34 := Lib.hid hk34
                  have HVK := Lib.hid hvk
                  have HKL := Lib.hid hkl
                  have HP := Lib.hid hp
                  clear hq hq2 hkr4 hleq hk34 hvk hkl hp
                  go_upto_region 16 with fail
                  refine wp_quietk (l0 := []) (by kernel_rfl) (by kernel_rfl) ?_
                  repeat ((with_reducible refine wpQuiet_step (fun K hK => ?_)); go_simp; first
                    | ((with_reducible refine hK _ ?_); clear hK K)
                    | (rw [if_neg (by intro h; cases h)]; (with_reducible refine hK _ ?_); clear hK K)
                    | (apply Exists.intro; refine ⟨fun W hW => ?_, hK _ ?_⟩
                       · first
                           | with_reducible exact Eq.refl _
                           | ((have hq1 := hW.read hpj4 (by simp); have hq2 := hW.read hpk (by simp)); (try go_simp); with_reducible first | done | exact Eq.refl _ | exact ⟨Eq.refl _, Eq.refl _⟩)
                           | ((refine (HLEQ.out W hW).mono ?_; rintro e w10 ⟨rfl, hk⟩; exact ⟨Eq.refl _, hW.trans hk⟩))
                       clear hK K))
                  with_reducible refine wpQuiet_nil ?_
                  intro w9 hk9
                  have hk49 := HKR4.out.trans hk9
                  have HK49 := Lib.hid hk49
                  clear hk49
                  clear hk9
                  go_wp2_with fail
                  go_roundg (m3 - k)
                  case measure => omega
                  case rel => exact ⟨k + 1, false, by omega, by omega, by go_num, rfl, HQ2.out, HK49.out⟩
            · obtain rfl : k = m3 := by omega
              have hleast : q = true ↔ leastP F j := hq.trans (by unfold leastP; rw [HVD.out, ← HM3.out])
              have hk34 := HKR.out.trans hkr4
              have hpj4 := hkr4.read hpj (by simp)
              cases q with
              | true =>
                have hO2 := HO.out.put (hleast.1 rfl)
                rw [HVD.out] at hO2
                have hput2 := HPUT.out wr hkr4
                have HLEAST := Lib.hid hleast
                have HQ := Lib.hid hq
                have HKR4 := Lib.hid hkr4
                have HK34 := Lib.hid hk34
                have HPUT2 := Lib.hid hput2
                have HO2 := Lib.hid hO2
                clear hleast hq hkr4 hk34 hput2 hO2
                go_wp2_with fail
                refine HPUT2.out.mono ?_
                rintro e w6 ⟨V6, m6, c6, rfl, hI6, hk6⟩
                obtain ⟨V6', c6', e6, _⟩ := hI6.mrow
                have hm6 : m6 = (putL out v).length := by injection e6
                have hk36 := HK34.out.trans hk6
                have HI6 := Lib.hid hI6
                have HM6 := Lib.hid hm6
                have HK36 := Lib.hid hk36
                clear hI6 hm6 hk36
                clear e6 hk6
                go_wp2_with fail
                go_roundg (k - j)
                case measure => omega
                case rel => exact ⟨j + 1, V6, m6, c6, _, by omega, by omega, by go_num, rfl, HM6.out, HO2.out, HI6.out, HK36.out⟩
              | false =>
                have hO2 := HO.out.skip (fun h => by have := hleast.2 h; cases this)
                have hI2 := HI.out.new hkr4
                have HLEAST := Lib.hid hleast
                have HQ := Lib.hid hq
                have HKR4 := Lib.hid hkr4
                have HK34 := Lib.hid hk34
                have HO2 := Lib.hid hO2
                have HI2 := Lib.hid hI2
                clear hleast hq hkr4 hk34 hO2 hI2
                go_wp2_with fail
                go_roundg (k - j)
                case measure => omega
                case rel => exact ⟨j + 1, V, m, c, out, by omega, by omega, by go_num, rfl, HM.out, HO2.out, HI2.out, HK34.out⟩
        · obtain rfl : j = m3 := by omega
          have hQ := HFIN2.out out (by rw [← HM3.out]; exact hO)
          have hkf := HKW3.out.trans hkr
          have HM := Lib.hid hm
          have HO := Lib.hid hO
          have HI := Lib.hid hI
          have HKR := Lib.hid hkr
          have HQ := Lib.hid hQ
          have HKF := Lib.hid hkf
          clear hm hO hI hkr hQ hkf
          go_wp2_with fail
          go_ret
          exact ⟨V, m, c, out, HM.out, rfl, HQ.out, HI.out, HKF.out⟩
end Go.Proofs.Ythpobeeccgmieaa

namespace Go.Proofs.Ythpobeeccgmieaa
set_option linter.unusedVariables false
open Go.RowKit

def TwoPost (lx : List Nat) (z : Int) (Q : List (List Int) → Prop) (w : World) (e : Ending) (w' : World) : Prop :=
  ∃ V m c ys, m = ys.length ∧ e = .returned (.tuple #[.slice V m c, .int .i64 z]) ∧ (z = 0 → Q ys) ∧ (z ≠ 0 → ys = []) ∧ IsII w' lx (.slice V m c) ys ∧ Keeps [] w w'
theorem TwoPost.err {lx : List Nat} {z : Int} {Q : List (List Int) → Prop} {w w' : World} {e : Ending} (h : e = .returned (.tuple #[.slice none 0 0, .int .i64 z])) (hz : z ≠ 0) (k : Keeps [] w w') : TwoPost lx z Q w e w' :=
  ⟨none, 0, 0, [], rfl, h, fun e => absurd e hz, fun _ => rfl, IsL.nil, k⟩
theorem RowsPost.two {lx : List Nat} {Q : List (List Int) → Prop} {w w' : World} {e : Ending} (h : RowsPost lx Q w e w') (hl : ∀ y ∈ lx, y < w.heap.size) : TwoPost lx 0 Q w e w' := by
  obtain ⟨V, m, c, ys, hm, he, hq, hO, hk⟩ := h
  exact ⟨V, m, c, ys, hm, he, fun _ => hq, fun h => absurd rfl h, hO.isL hl, hk⟩
def minE (A : List (List Int)) (b : List Int) (n : Int) : Int := if chkE A b = 0 then sumE n else chkE A b
def freE (A : List (List Int)) (n : Int) : Int := if shB A = true then sumE n else 10
def mQ (A : List (List Int)) (b : List Int) (lo : Nat) (n : Int) : List (List Int) → Prop := MinQ (solB A b) ((A.getD 0 []).length - 1) lo n.toNat
theorem sumE_zero {n : Int} : sumE n = 0 ↔ 0 ≤ n ∧ n ≤ 10 := by
  unfold sumE; split <;> simp_all
theorem sumE_ne {n : Int} (h : ¬ (0 ≤ n ∧ n ≤ 10)) : sumE n = 2 := by
  unfold sumE; rw [if_neg h]

set_option maxHeartbeats 1000000 in
theorem Minimal_two {w : World} {l : List Nat} {av bv : Value} {A : List (List Int)} {b : List Int} (n : Int) (hA : IsII w l av A) (hb : IsI w l bv b) (hn : A.length ≤ 1000000) (hr : ∀ r ∈ A, r.length ≤ 1000000) (hbl : b.length ≤ 1000000) {lx : List Nat} (hlx : ∀ y ∈ lx, y < w.heap.size) :
    Calls Try.prog 19 #[av, bv, .int .i64 n] w (TwoPost lx (minE A b n) (mQ A b 0 n) w) := by
  by_cases hc : chkE A b = 0
  · by_cases hs : 0 ≤ n ∧ n ≤ 10
    · obtain ⟨h1, h2, h3⟩ := chkE_zero.1 hc
      obtain ⟨hi, rfl⟩ : ∃ hi : Nat, n = (hi : Int) := ⟨n.toNat, by omega⟩
      have hz : minE A b (hi : Int) = 0 := by unfold minE; rw [if_pos hc, sumE_zero.2 hs]
      rw [hz]
      exact (Minimal_ok (hi := hi) hA hb (shB_true.1 h1) h2 h3 (by omega) hlx).mono fun e w' h => RowsPost.two h hlx
    · have hz : minE A b n = 2 := by unfold minE; rw [if_pos hc, sumE_ne hs]
      rw [hz]
      suffices h : Calls Try.prog 19 #[av, bv, .int .i64 n] w (ErrPost 2 w) from h.mono fun e w' h => TwoPost.err h.1 (by decide) h.2
      unfold ErrPost
      have hchk := check_is hA hb hn hr hbl
      rw [hc] at hchk
      have hsum := fun W => sum_any n W
      rw [sumE_ne hs] at hsum
      obtain ⟨VA, cA, rfl, _⟩ := hA.mrow
      obtain ⟨VB, cB, rfl, _⟩ := hb.open
      generalize A.length = m at *
      generalize b.length = q at *
      have HA := Lib.hid hA
      have HB := Lib.hid hb
      have HCHK := Lib.hid hchk
      have HSUM := Lib.hid hsum
      have HR := Lib.hid hr
      have HLX := Lib.hid hlx
      have HS := Lib.hid hs
      have HC := Lib.hid hc
      have HZ := Lib.hid hz
      clear hA hb hchk hsum hr hlx hs hc hz
      go_enter Try.func19, Try.ntmps19
      go_wp2_with fail
      refine HCHK.out.mono ?_
      rintro e w1 ⟨rfl, hk1⟩
      go_wp2_with fail
      refine (HSUM.out w1).mono ?_
      rintro e w2 ⟨rfl, hk2⟩
      go_wp2_with fail
      go_ret2
      exact ⟨rfl, hk1.trans hk2⟩
  · have hz : minE A b n = chkE A b := by unfold minE; rw [if_neg hc]
    rw [hz]
    suffices h : Calls Try.prog 19 #[av, bv, .int .i64 n] w (ErrPost (chkE A b) w) from h.mono fun e w' h => TwoPost.err h.1 hc h.2
    unfold ErrPost
    have hchk := check_is hA hb hn hr hbl
    obtain ⟨VA, cA, rfl, _⟩ := hA.mrow
    obtain ⟨VB, cB, rfl, _⟩ := hb.open
    generalize chkE A b = z at *
    have hd : (z != 0) = true := by simpa using hc
    generalize A.length = m at *
    generalize b.length = q at *
    have HA := Lib.hid hA
    have HB := Lib.hid hb
    have HCHK := Lib.hid hchk
    have HR := Lib.hid hr
    have HLX := Lib.hid hlx
    have HC := Lib.hid hc
    have HZ := Lib.hid hz
    clear hA hb hchk hr hlx hc hz
    go_enter Try.func19, Try.ntmps19
    go_wp2_with fail
    refine HCHK.out.mono ?_
    rintro e w1 ⟨rfl, hk1⟩
    go_wp2_with fail
    go_ret2
    exact ⟨rfl, hk1⟩

set_option maxHeartbeats 1000000 in
theorem Free_two {w : World} {l : List Nat} {av : Value} {A : List (List Int)} (n : Int) (hA : IsII w l av A) (hn : A.length ≤ 1000000) (hr : ∀ r ∈ A, r.length ≤ 1000000) {lx : List Nat} (hlx : ∀ y ∈ lx, y < w.heap.size) :
    Calls Try.prog 22 #[av, .int .i64 n] w (TwoPost lx (freE A n) (mQ A (List.replicate A.length 0) 1 n) w) := by
  by_cases hc : shB A = true
  · by_cases hs : 0 ≤ n ∧ n ≤ 10
    · obtain ⟨hi, rfl⟩ : ∃ hi : Nat, n = (hi : Int) := ⟨n.toNat, by omega⟩
      have hz : freE A (hi : Int) = 0 := by unfold freE; rw [if_pos hc, sumE_zero.2 hs]
      rw [hz]
      exact (Free_ok (hi := hi) hA (shB_true.1 hc) (by omega) hlx).mono fun e w' h => RowsPost.two h hlx
    · have hz : freE A n = 2 := by unfold freE; rw [if_pos hc, sumE_ne hs]
      rw [hz]
      suffices h : Calls Try.prog 22 #[av, .int .i64 n] w (ErrPost 2 w) from h.mono fun e w' h => TwoPost.err h.1 (by decide) h.2
      unfold ErrPost
      have hsh := shape_is hA hn hr
      rw [if_pos hc] at hsh
      have hsum := fun W => sum_any n W
      rw [sumE_ne hs] at hsum
      obtain ⟨VA, cA, rfl, _⟩ := hA.mrow
      generalize A.length = m at *
      have HA := Lib.hid hA
      have HSH := Lib.hid hsh
      have HSUM := Lib.hid hsum
      have HR := Lib.hid hr
      have HLX := Lib.hid hlx
      have HS := Lib.hid hs
      have HC := Lib.hid hc
      have HZ := Lib.hid hz
      clear hA hsh hsum hr hlx hs hc hz
      go_enter Try.func22, Try.ntmps22
      go_wp2_with fail
      refine HSH.out.mono ?_
      rintro e w1 ⟨rfl, hk1⟩
      go_wp2_with fail
      refine (HSUM.out w1).mono ?_
      rintro e w2 ⟨rfl, hk2⟩
      go_wp2_with fail
      go_ret2
      exact ⟨rfl, hk1.trans hk2⟩
  · have hz : freE A n = 10 := by unfold freE; rw [if_neg hc]
    rw [hz]
    suffices h : Calls Try.prog 22 #[av, .int .i64 n] w (ErrPost 10 w) from h.mono fun e w' h => TwoPost.err h.1 (by decide) h.2
    unfold ErrPost
    have hsh := shape_is hA hn hr
    rw [if_neg hc] at hsh
    obtain ⟨VA, cA, rfl, _⟩ := hA.mrow
    generalize A.length = m at *
    have HA := Lib.hid hA
    have HSH := Lib.hid hsh
    have HR := Lib.hid hr
    have HLX := Lib.hid hlx
    have HC := Lib.hid hc
    have HZ := Lib.hid hz
    clear hA hsh hr hlx hc hz
    go_enter Try.func22, Try.ntmps22
    go_wp2_with fail
    refine HSH.out.mono ?_
    rintro e w1 ⟨rfl, hk1⟩
    go_wp2_with fail
    go_ret2
    exact ⟨rfl, hk1⟩
end Go.Proofs.Ythpobeeccgmieaa

namespace Go.Proofs.Ythpobeeccgmieaa
set_option linter.unusedVariables false
open Go.RowKit

theorem rngB_zero (r : Nat) : rngB (List.replicate r 0) = true := by
  unfold rngB
  rw [List.all_eq_true]
  intro x hx
  rw [(List.mem_replicate.1 hx).2]; decide
theorem RSolPost.two {lx : List Nat} {Q : List (List Int) → Prop} {w w1 w' : World} {V : Option Addr} {m c : Nat} {ys : List (List Int)} (hm : m = ys.length) (hq : Q ys) (hI : IsII w' lx (.slice V m c) ys) (hk : Keeps [] w w') : TwoPost lx 0 Q w (.returned (.tuple #[.slice V m c, .int .i64 0])) w' :=
  ⟨V, m, c, ys, hm, rfl, fun _ => hq, fun h => absurd rfl h, hI, hk⟩

set_option maxHeartbeats 1000000 in
theorem rMinimal_two {w : World} {l : List Nat} {av bv : Value} {A : List (List Int)} {b : List Int} (n : Int) (hA : IsII w l av A) (hb : IsI w l bv b) (hn : A.length ≤ 1000000) (hr : ∀ r ∈ A, r.length ≤ 1000000) (hbl : b.length ≤ 1000000) {lx : List Nat} (hlx : ∀ y ∈ lx, y < w.heap.size) :
    Calls Try.prog 20 #[av, bv, .int .i64 n] w (TwoPost lx (minE A b n) (mQ A b 0 n) w) := by
  have hchk := rcheck_is hA hb hn hr hbl
  by_cases hc : chkE A b = 0
  · rw [hc] at hchk
    by_cases hs : 0 ≤ n ∧ n ≤ 10
    · obtain ⟨h1, h2, h3⟩ := chkE_zero.1 hc
      obtain ⟨hi, rfl⟩ : ∃ hi : Nat, n = (hi : Int) := ⟨n.toNat, by omega⟩
      have hz : minE A b (hi : Int) = 0 := by unfold minE; rw [if_pos hc, sumE_zero.2 hs]
      rw [hz]
      have hsol := fun W (k : Keeps [] w W) => rsols_is (hi := hi) (lo := 0) false rfl (hA.new k) (hb.new k) (shB_true.1 h1) h2 h3 (by omega) (fun y hy => Nat.lt_of_lt_of_le (hlx y hy) k.size)
      have d1 : decide ((hi : Int) < 0) = false := decide_eq_false (by omega)
      have d2 : decide ((10 : Int) < (hi : Int)) = false := decide_eq_false (by omega)
      unfold TwoPost
      rw [show mQ A b 0 (hi : Int) = MinQ (solB A b) ((A.getD 0 []).length - 1) 0 hi from rfl]
      obtain ⟨VA, cA, rfl, _⟩ := hA.mrow
      obtain ⟨VB, cB, rfl, _⟩ := hb.open
      generalize MinQ (solB A b) ((A.getD 0 []).length - 1) 0 hi = QQ at *
      generalize A.length = m at *
      generalize b.length = q at *
      have HA := Lib.hid hA
      have HB := Lib.hid hb
      have HCHK := Lib.hid hchk
      have HSOL := Lib.hid hsol
      have HR := Lib.hid hr
      have HLX := Lib.hid hlx
      have HS := Lib.hid hs
      have HC := Lib.hid hc
      have HZ := Lib.hid hz
      have H1 := Lib.hid h1
      have H2 := Lib.hid h2
      have H3 := Lib.hid h3
      clear hA hb hchk hsol hr hlx hs hc hz h1 h2 h3
      go_enter Try.func20, Try.ntmps20
      go_wp2_with fail
      refine HCHK.out.mono ?_
      rintro e w1 ⟨rfl, hk1⟩
      have hso := HSOL.out w1 hk1
      have HK1 := Lib.hid hk1
      have HSO := Lib.hid hso
      clear hk1 hso
      go_wp2_with fail
      refine HSO.out.mono ?_
      rintro e w2 ⟨V, m2, c, ys, hml, rfl, hq, hI, hk2⟩
      have hk3 := HK1.out.trans hk2
      have HML := Lib.hid hml
      have HQ := Lib.hid hq
      have HI := Lib.hid hI
      have HK3 := Lib.hid hk3
      clear hml hq hI hk3
      go_wp2_with fail
      go_ret2
      exact ⟨V, m2, c, ys, HML.out, rfl, fun _ => HQ.out, fun h => absurd rfl h, HI.out, HK3.out⟩
    · have hz : minE A b n = 2 := by unfold minE; rw [if_pos hc, sumE_ne hs]
      rw [hz]
      suffices h : Calls Try.prog 20 #[av, bv, .int .i64 n] w (ErrPost 2 w) from h.mono fun e w' h => TwoPost.err h.1 (by decide) h.2
      unfold ErrPost
      obtain ⟨VA, cA, rfl, _⟩ := hA.mrow
      obtain ⟨VB, cB, rfl, _⟩ := hb.open
      generalize A.length = m at *
      generalize b.length = q at *
      by_cases hs1 : n < 0
      · have d1 : decide (n < 0) = true := decide_eq_true hs1
        have HA := Lib.hid hA
        have HB := Lib.hid hb
        have HCHK := Lib.hid hchk
        have HR := Lib.hid hr
        have HLX := Lib.hid hlx
        have HS := Lib.hid hs
        have HC := Lib.hid hc
        have HZ := Lib.hid hz
        have HS1 := Lib.hid hs1
        clear hA hb hchk hr hlx hs hc hz hs1
        go_enter Try.func20, Try.ntmps20
        go_wp2_with fail
        refine HCHK.out.mono ?_
        rintro e w1 ⟨rfl, hk1⟩
        go_wp2_with fail
        go_ret2
        exact ⟨rfl, hk1⟩
      · have d1 : decide (n < 0) = false := decide_eq_false hs1
        have d2 : decide ((10 : Int) < n) = true := decide_eq_true (by omega)
        have HA := Lib.hid hA
        have HB := Lib.hid hb
        have HCHK := Lib.hid hchk
        have HR := Lib.hid hr
        have HLX := Lib.hid hlx
        have HS := Lib.hid hs
        have HC := Lib.hid hc
        have HZ := Lib.hid hz
        have HS1 := Lib.hid hs1
        clear hA hb hchk hr hlx hs hc hz hs1
        go_enter Try.func20, Try.ntmps20
        go_wp2_with fail
        refine HCHK.out.mono ?_
        rintro e w1 ⟨rfl, hk1⟩
        go_wp2_with fail
        go_ret2
        exact ⟨rfl, hk1⟩
  · have hz : minE A b n = chkE A b := by unfold minE; rw [if_neg hc]
    rw [hz]
    suffices h : Calls Try.prog 20 #[av, bv, .int .i64 n] w (ErrPost (chkE A b) w) from h.mono fun e w' h => TwoPost.err h.1 hc h.2
    unfold ErrPost
    obtain ⟨VA, cA, rfl, _⟩ := hA.mrow
    obtain ⟨VB, cB, rfl, _⟩ := hb.open
    generalize chkE A b = z at *
    have hd : (z != 0) = true := by simpa using hc
    generalize A.length = m at *
    generalize b.length = q at *
    have HA := Lib.hid hA
    have HB := Lib.hid hb
    have HCHK := Lib.hid hchk
    have HR := Lib.hid hr
    have HLX := Lib.hid hlx
    have HC := Lib.hid hc
    have HZ := Lib.hid hz
    clear hA hb hchk hr hlx hc hz
    go_enter Try.func20, Try.ntmps20
    go_wp2_with fail
    refine HCHK.out.mono ?_
    rintro e w1 ⟨rfl, hk1⟩
    go_wp2_with fail
    go_ret2
    exact ⟨rfl, hk1⟩

set_option maxHeartbeats 1000000 in
theorem rFree_two {w : World} {l : List Nat} {av : Value} {A : List (List Int)} (n : Int) (hA : IsII w l av A) (hn : A.length ≤ 1000000) (hr : ∀ r ∈ A, r.length ≤ 1000000) {lx : List Nat} (hlx : ∀ y ∈ lx, y < w.heap.size) :
    Calls Try.prog 23 #[av, .int .i64 n] w (TwoPost lx (freE A n) (mQ A (List.replicate A.length 0) 1 n) w) := by
  have hsh := rshape_is hA hn hr
  by_cases hc : shB A = true
  · rw [hc] at hsh
    by_cases hs : 0 ≤ n ∧ n ≤ 10
    · obtain ⟨hi, rfl⟩ : ∃ hi : Nat, n = (hi : Int) := ⟨n.toNat, by omega⟩
      have hz : freE A (hi : Int) = 0 := by unfold freE; rw [if_pos hc, sumE_zero.2 hs]
      rw [hz]
      have hzer := fun W => zeros_is W A.length hn
      have hsol := fun W bv (k : Keeps [] w W) (hb : IsI W [] bv (List.replicate A.length 0)) => rsols_is (hi := hi) (lo := 1) true rfl (Rok.weak (hA.new k) (by simp) : IsII W [] av A) hb (shB_true.1 hc) (by simp) (rngB_zero _) (by omega) (fun y hy => Nat.lt_of_lt_of_le (hlx y hy) k.size)
      have d1 : decide ((hi : Int) < 0) = false := decide_eq_false (by omega)
      have d2 : decide ((10 : Int) < (hi : Int)) = false := decide_eq_false (by omega)
      unfold TwoPost
      rw [show mQ A (List.replicate A.length 0) 1 (hi : Int) = MinQ (solB A (List.replicate A.length 0)) ((A.getD 0 []).length - 1) 1 hi from rfl]
      obtain ⟨VA, cA, rfl, _⟩ := hA.mrow
      generalize MinQ (solB A (List.replicate A.length 0)) ((A.getD 0 []).length - 1) 1 hi = QQ at *
      generalize A.length = m at *
      have HA := Lib.hid hA
      have HSH := Lib.hid hsh
      have HSOL := Lib.hid hsol
      have HZER := Lib.hid hzer
      have HR := Lib.hid hr
      have HLX := Lib.hid hlx
      have HS := Lib.hid hs
      have HC := Lib.hid hc
      have HZ := Lib.hid hz
      clear hA hsh hsol hzer hr hlx hs hc hz
      go_enter Try.func23, Try.ntmps23
      go_wp2_with fail
      refine HSH.out.mono ?_
      rintro e w1 ⟨rfl, hk1⟩
      go_wp2_with fail
      refine (HZER.out w1).mono ?_
      rintro e w3 ⟨g, rfl, hI3, hk3⟩
      have hk13 := hk1.trans hk3
      have hso := HSOL.out w3 _ hk13 (hI3 [] (by simp))
      have HK13 := Lib.hid hk13
      have HSO := Lib.hid hso
      clear hk13 hso
      clear hk1 hI3 hk3
      go_wp2_with fail
      refine HSO.out.mono ?_
      rintro e w2 ⟨V, m2, c, ys, hml, rfl, hq, hI, hk2⟩
      have hk3 := HK13.out.trans hk2
      have HML := Lib.hid hml
      have HQ := Lib.hid hq
      have HI := Lib.hid hI
      have HK3 := Lib.hid hk3
      clear hml hq hI hk3
      go_wp2_with fail
      go_ret2
      exact ⟨V, m2, c, ys, HML.out, rfl, fun _ => HQ.out, fun h => absurd rfl h, HI.out, HK3.out⟩
    · have hz : freE A n = 2 := by unfold freE; rw [if_pos hc, sumE_ne hs]
      rw [hz]
      suffices h : Calls Try.prog 23 #[av, .int .i64 n] w (ErrPost 2 w) from h.mono fun e w' h => TwoPost.err h.1 (by decide) h.2
      unfold ErrPost
      obtain ⟨VA, cA, rfl, _⟩ := hA.mrow
      generalize A.length = m at *
      by_cases hs1 : n < 0
      · have d1 : decide (n < 0) = true := decide_eq_true hs1
        have HA := Lib.hid hA
        have HSH := Lib.hid hsh
        have HR := Lib.hid hr
        have HLX := Lib.hid hlx
        have HS := Lib.hid hs
        have HC := Lib.hid hc
        have HZ := Lib.hid hz
        have HS1 := Lib.hid hs1
        clear hA hsh hr hlx hs hc hz hs1
        go_enter Try.func23, Try.ntmps23
        go_wp2_with fail
        refine HSH.out.mono ?_
        rintro e w1 ⟨rfl, hk1⟩
        go_wp2_with fail
        go_ret2
        exact ⟨rfl, hk1⟩
      · have d1 : decide (n < 0) = false := decide_eq_false hs1
        have d2 : decide ((10 : Int) < n) = true := decide_eq_true (by omega)
        have HA := Lib.hid hA
        have HSH := Lib.hid hsh
        have HR := Lib.hid hr
        have HLX := Lib.hid hlx
        have HS := Lib.hid hs
        have HC := Lib.hid hc
        have HZ := Lib.hid hz
        have HS1 := Lib.hid hs1
        clear hA hsh hr hlx hs hc hz hs1
        go_enter Try.func23, Try.ntmps23
        go_wp2_with fail
        refine HSH.out.mono ?_
        rintro e w1 ⟨rfl, hk1⟩
        go_wp2_with fail
        go_ret2
        exact ⟨rfl, hk1⟩
  · have hz : freE A n = 10 := by unfold freE; rw [if_neg hc]
    rw [hz]
    suffices h : Calls Try.prog 23 #[av, .int .i64 n] w (ErrPost 10 w) from h.mono fun e w' h => TwoPost.err h.1 (by decide) h.2
    unfold ErrPost
    rw [Bool.not_eq_true] at hc
    rw [hc] at hsh
    obtain ⟨VA, cA, rfl, _⟩ := hA.mrow
    generalize A.length = m at *
    have HA := Lib.hid hA
    have HSH := Lib.hid hsh
    have HR := Lib.hid hr
    have HLX := Lib.hid hlx
    have HC := Lib.hid hc
    have HZ := Lib.hid hz
    clear hA hsh hr hlx hc hz
    go_enter Try.func23, Try.ntmps23
    go_wp2_with fail
    refine HSH.out.mono ?_
    rintro e w1 ⟨rfl, hk1⟩
    go_wp2_with fail
    go_ret2
    exact ⟨rfl, hk1⟩
end Go.Proofs.Ythpobeeccgmieaa

namespace Go.Proofs.Ythpobeeccgmieaa
set_option linter.unusedVariables false
open Go.RowKit

def smallB (x : List Int) : Bool := x.all (fun y => decide (0 ≤ y)) && decide (isum x ≤ 10)
theorem smallB_true {x : List Int} : smallB x = true ↔ (∀ y ∈ x, 0 ≤ y) ∧ isum x ≤ 10 := by
  unfold smallB
  rw [Bool.and_eq_true, decide_eq_true_eq, List.all_eq_true]
  simp
def sclE (A : List (List Int)) (x : List Int) : Int := if shB A = true then (if x.length = (A.getD 0 []).length then (if smallB x = true then (if solB A (List.replicate A.length 0) x = true then 0 else 11) else 2) else 3) else 10
def sQ (A : List (List Int)) (x : List Int) : List (List Int) → Prop := SplQ (solB A (List.replicate A.length 0)) ((A.getD 0 []).length - 1) x
/-- What the loops of Split have seen. -/
structure SumI (x : List Int) (k : Nat) (s : Int) : Prop where
  sm : s = isum (x.take k)
  pos : ∀ i, i < k → 0 ≤ x.getD i 0
  ge : 0 ≤ s
  le : s ≤ 10
theorem SumI.nil {x : List Int} : SumI x 0 0 := ⟨by simp [isum], by omega, by omega, by omega⟩
theorem SumI.step {x : List Int} {k : Nat} {s : Int} (h : SumI x k s) (hk : k < x.length) (h0 : 0 ≤ x.getD k 0) (h1 : s + x.getD k 0 ≤ 10) : SumI x (k + 1) (s + x.getD k 0) :=
  ⟨by rw [isum_take hk, ← h.sm], fun i hi => by
    by_cases e : i = k
    · rw [e]; exact h0
    · exact h.pos i (by omega), by have := h.ge; omega, h1⟩
theorem SumI.fin {x : List Int} {k : Nat} {s : Int} (h : SumI x k s) (hk : x.length = k) : smallB x = true := by
  rw [smallB_true]
  refine ⟨fun y hy => ?_, ?_⟩
  · obtain ⟨i, hi, rfl⟩ := mem_getD (d := 0) hy
    exact h.pos i (by omega)
  · have := h.sm
    rw [List.take_of_length_le (by omega)] at this
    rw [← this]; exact h.le
theorem SumI.bad {x : List Int} {k : Nat} {s : Int} (h : SumI x k s) (hk : k < x.length) (h0 : ¬ (0 ≤ x.getD k 0 ∧ s + x.getD k 0 ≤ 10)) : smallB x = false := by
  rw [← Bool.not_eq_true, smallB_true]
  rintro ⟨h1, h2⟩
  refine h0 ⟨h1 _ (getD_mem hk), ?_⟩
  have h3 := isum_take_le h1 (k + 1)
  rw [isum_take hk, ← h.sm] at h3
  omega

set_option maxRecDepth 100000 in
set_option maxHeartbeats 2000000 in
theorem Split_two {w : World} {l : List Nat} {av xv : Value} {A : List (List Int)} {x : List Int} (hA : IsII w l av A) (hx : IsI w l xv x) (hn : A.length ≤ 1000000) (hr : ∀ r ∈ A, r.length ≤ 1000000) (hxn : x.length ≤ 1000000) {lx : List Nat} (hlx : ∀ y ∈ lx, y < w.heap.size) :
    Calls Try.prog 24 #[av, xv] w (TwoPost lx (sclE A x) (sQ A x) w) := by
  by_cases hc : shB A = true
  · have hS := shB_true.1 hc
    by_cases hl : x.length = (A.getD 0 []).length
    · by_cases hs : smallB x = true
      · obtain ⟨h1, h2⟩ := smallB_true.1 hs
        by_cases hso : solB A (List.replicate A.length 0) x = true
        · have hz : sclE A x = 0 := by unfold sclE; rw [if_pos hc, if_pos hl, if_pos hs, if_pos hso]
          rw [hz]
          exact (Split_ok hA hx hS hl h1 h2 hso hlx).mono fun e w' h => RowsPost.two h hlx
        · have hz : sclE A x = 11 := by unfold sclE; rw [if_pos hc, if_pos hl, if_pos hs, if_neg hso]
          rw [hz]
          suffices h : Calls Try.prog 24 #[av, xv] w (ErrPost 11 w) from h.mono fun e w' h => TwoPost.err h.1 (by decide) h.2
          unfold ErrPost
          have hsh := shape_is hA hn hr
          rw [if_pos hc] at hsh
          have hr1 := hS.mat.r1.1
          have hr6 := hS.r6
          have hn6 := hS.n6
          have hfx : VFin x := vval_small (M := 10) (by omega) h1 h2 (by omega)
          have hA0 : ∀ W, Keeps [] w W → IsII W [] av A := fun W k => Rok.weak (hA.new k) (by simp)
          have hx0 : ∀ W, Keeps [] w W → IsI W [] xv x := fun W k => Rok.weak (hx.new k) (by simp)
          have htk : ∀ k s, k < x.length → SumI x k s → 0 ≤ x.getD k 0 ∧ s + x.getD k 0 ≤ 10 := fun k s hk h => Classical.byContradiction fun hn => by rw [h.bad hk hn] at hs; cases hs
          have hsolve := fun W bv (k : Keeps [] w W) (hb : IsI W [] bv (List.replicate A.length 0)) => solves_is (hA0 W k) hb (hx0 W k) hS.mat (by simp; omega) hl (fun y hy => by have := hfx.el y hy; omega) (by simp)
          rw [Bool.not_eq_true] at hso
          rw [hso] at hsolve
          obtain ⟨VA, cA, rfl, hrA⟩ := hA.mrow
          obtain ⟨C, cx, rfl, _, _, hcx⟩ := hx.open
          obtain ⟨p0, B0, c0, rfl, hp0, _⟩ := hrA 0 (by omega)
          have hz0 : p0.add 0 = p0 := by simp [Addr.add]
          rw [hz0, ← hl] at hp0
          have hp1 : ∀ W, Keeps [] w W → W.cell? p0 = some (.slice B0 x.length c0) := fun W k => k.read hp0 (by simp)
          have hstp : ∀ k s, k < x.length → SumI x k s → SumI x (k + 1) (s + x.getD k 0) := fun k s hk h => h.step hk (htk k s hk h).1 (htk k s hk h).2
          have hmk := fun W => run_make_n sl_int A.length (by omega) W
          generalize A.length = r at *
          generalize x.length = n at *
          have HA := Lib.hid hA
          have HX := Lib.hid hx
          have HS := Lib.hid hS
          have HSH := Lib.hid hsh
          have HS := Lib.hid hs
          have HSOLVE := Lib.hid hsolve
          have HA0 := Lib.hid hA0
          have HX0 := Lib.hid hx0
          have HTK := Lib.hid htk
          have HSTP := Lib.hid hstp
          have HC := Lib.hid hc
          have HL := Lib.hid hl
          have HP0 := Lib.hid hp0
          have HP1 := Lib.hid hp1
          have HCX := Lib.hid hcx
          have H1 := Lib.hid h1
          have H2 := Lib.hid h2
          have HSO := Lib.hid hso
          have HFX := Lib.hid hfx
          have HR := Lib.hid hr
          have HLX := Lib.hid hlx
          have HRA := Lib.hid hrA
          have HZ := Lib.hid hz
          clear hA hx hS hsh hs hsolve hA0 hx0 htk hstp hc hl hp0 hp1 hcx h1 h2 hso hfx hr hlx hrA hz
          go_enter Try.func24, Try.ntmps24
          go_wp2_with fail
          refine HSH.out.mono ?_
          rintro e w1 ⟨rfl, hk1⟩
          have hpw := HP1.out w1 hk1
          have hcx1 := HCX.out.keeps (hk1.nil l)
          have HK1 := Lib.hid hk1
          have HCX1 := Lib.hid hcx1
          clear hk1 hcx1
          go_wp2_with fail
          go_loopg [7, 26] (n + 1) (fun gh rv kv wr => ∃ (k : Nat) (s : Int), n + 1 ≤ k + gh ∧ k ≤ n ∧ kv = .int .i64 (k : Int) ∧ rv = .int .i64 (10 - s) ∧ SumI x k s ∧ w1 = wr)
          case atStart => exact ⟨0, 0, by omega, by omega, rfl, rfl, SumI.nil, rfl⟩
          case round =>
            obtain ⟨k, s, hgh, hk, rfl, rfl, hs, rfl⟩ := hrel
            by_cases hlt : k < n
            · obtain ⟨pb, rfl, hpb⟩ := HCX1.out.at_ hlt
              obtain ⟨h2, h3⟩ := HTK.out k s hlt hs
              have h4 := hs.ge
              have h5 := HSTP.out k s hlt hs
              generalize hxk : x.getD k 0 = y at *
              have d1 : decide (y < 0) = false := decide_eq_false (by omega)
              have d2 : decide (10 - s < y) = false := decide_eq_false (by omega)
              have HS := Lib.hid hs
              have H5 := Lib.hid h5
              have HXK := Lib.hid hxk
              clear hs h5 hxk
              go_wp2_with fail
              go_roundg (n - k)
              case measure => omega
              case rel => exact ⟨k + 1, s + y, by omega, by omega, by go_num, by congr 1; omega, H5.out, rfl⟩
            · obtain rfl : k = n := by omega
              have hO := own_made w1 (.int .i64 0) rfl r 3
              have hk0 : Keeps [] w1 (w1.alloc (.cells (madeCells (Value.int .i64 0).cells r) 3)) := (Keeps.refl _ _).alloc _
              have hI : IsI (w1.alloc (.cells (madeCells (Value.int .i64 0).cells r) 3)) [] (.slice (some ⟨w1.heap.size, 0, none⟩) r r) (List.replicate r 0) := Own.isI (f := fun _ => 0) hO (by simp) (Nat.le_refl _) (by simp) (fun i hi => by simp [List.getD_eq_getElem?_getD, hi])
              have hk2 := HK1.out.trans hk0
              have hsv := HSOLVE.out _ _ hk2 hI
              change Calls Try.prog 36 _ (w1.alloc (.cells (madeCells #[Value.int .i64 0] r) 3)) _ at hsv
              have HS := Lib.hid hs
              have HSV := Lib.hid hsv
              have HK2 := Lib.hid hk2
              clear hs hsv hk2
              clear hO hI hk0
              go_wp2_with fail
              refine HSV.out.mono ?_
              rintro e w2 ⟨rfl, hk3⟩
              go_wp2_with fail
              go_ret2
              exact ⟨rfl, HK2.out.trans hk3⟩
      · have hz : sclE A x = 2 := by unfold sclE; rw [if_pos hc, if_pos hl, if_neg hs]
        rw [hz]
        suffices h : Calls Try.prog 24 #[av, xv] w (ErrPost 2 w) from h.mono fun e w' h => TwoPost.err h.1 (by decide) h.2
        unfold ErrPost
        have hsh := shape_is hA hn hr
        rw [if_pos hc] at hsh
        have hr1 := hS.mat.r1.1
        have hr6 := hS.r6
        have hn6 := hS.n6
        obtain ⟨VA, cA, rfl, hrA⟩ := hA.mrow
        obtain ⟨C, cx, rfl, _, _, hcx⟩ := hx.open
        obtain ⟨p0, B0, c0, rfl, hp0, _⟩ := hrA 0 (by omega)
        have hz0 : p0.add 0 = p0 := by simp [Addr.add]
        rw [hz0, ← hl] at hp0
        have hp1 : ∀ W, Keeps [] w W → W.cell? p0 = some (.slice B0 x.length c0) := fun W k => k.read hp0 (by simp)
        have hstp : ∀ k s, k < x.length → SumI x k s → 0 ≤ x.getD k 0 → s + x.getD k 0 ≤ 10 → SumI x (k + 1) (s + x.getD k 0) := fun k s hk h => h.step hk
        have hend : ∀ s, ¬ SumI x x.length s := fun s h => hs (h.fin rfl)
        have hn6' : x.length ≤ 6 := by omega
        generalize A.length = r at *
        generalize x.length = n at *
        have HA := Lib.hid hA
        have HX := Lib.hid hx
        have HS := Lib.hid hS
        have HSH := Lib.hid hsh
        have HS := Lib.hid hs
        have HSTP := Lib.hid hstp
        have HEND := Lib.hid hend
        have HC := Lib.hid hc
        have HL := Lib.hid hl
        have HP0 := Lib.hid hp0
        have HP1 := Lib.hid hp1
        have HCX := Lib.hid hcx
        have HR := Lib.hid hr
        have HLX := Lib.hid hlx
        have HRA := Lib.hid hrA
        have HZ := Lib.hid hz
        clear hA hx hS hsh hs hstp hend hc hl hp0 hp1 hcx hr hlx hrA hz
        go_enter Try.func24, Try.ntmps24
        go_wp2_with fail
        refine HSH.out.mono ?_
        rintro e w1 ⟨rfl, hk1⟩
        have hpw := HP1.out w1 hk1
        have hcx1 := HCX.out.keeps (hk1.nil l)
        have HK1 := Lib.hid hk1
        have HCX1 := Lib.hid hcx1
        clear hk1 hcx1
        go_wp2_with fail
        go_loopg [7, 26] (n + 1) (fun gh rv kv wr => ∃ (k : Nat) (s : Int), n + 1 ≤ k + gh ∧ k ≤ n ∧ kv = .int .i64 (k : Int) ∧ rv = .int .i64 (10 - s) ∧ SumI x k s ∧ w1 = wr)
        case atStart => exact ⟨0, 0, by omega, by omega, rfl, rfl, SumI.nil, rfl⟩
        case round =>
          obtain ⟨k, s, hgh, hk, rfl, rfl, hs, rfl⟩ := hrel
          by_cases hlt : k < n
          · obtain ⟨pb, rfl, hpb⟩ := HCX1.out.at_ hlt
            have h4 := hs.ge
            have h6 := hs.le
            have h5 := HSTP.out k s hlt hs
            generalize hxk : x.getD k 0 = y at *
            by_cases hy0 : y < 0
            · have d1 : decide (y < 0) = true := decide_eq_true hy0
              have HS := Lib.hid hs
              have H5 := Lib.hid h5
              have HXK := Lib.hid hxk
              clear hs h5 hxk
              go_wp2_with fail
              go_ret2
              exact ⟨rfl, HK1.out⟩
            · have d1 : decide (y < 0) = false := decide_eq_false hy0
              by_cases hy1 : 10 - s < y
              · have d2 : decide (10 - s < y) = true := decide_eq_true hy1
                have HS := Lib.hid hs
                have H5 := Lib.hid h5
                have HXK := Lib.hid hxk
                clear hs h5 hxk
                go_wp2_with fail
                go_ret2
                exact ⟨rfl, HK1.out⟩
              · have d2 : decide (10 - s < y) = false := decide_eq_false hy1
                have h7 := h5 (by omega) (by omega)
                have hy2 : s + y ≤ 10 := by omega
                have HS := Lib.hid hs
                have H5 := Lib.hid h5
                have HXK := Lib.hid hxk
                have H7 := Lib.hid h7
                clear hs h5 hxk h7
                go_wp2_with fail
                go_roundg (n - k)
                case measure => omega
                case rel => exact ⟨k + 1, s + y, by omega, by omega, by go_num, by congr 1; omega, H7.out, rfl⟩
          · obtain rfl : k = n := by omega
            exact absurd hs (HEND.out s)
    · have hz : sclE A x = 3 := by unfold sclE; rw [if_pos hc, if_neg hl]
      rw [hz]
      suffices h : Calls Try.prog 24 #[av, xv] w (ErrPost 3 w) from h.mono fun e w' h => TwoPost.err h.1 (by decide) h.2
      unfold ErrPost
      have hsh := shape_is hA hn hr
      rw [if_pos hc] at hsh
      have hr1 := hS.mat.r1.1
      have hr6 := hS.r6
      have hn6 := hS.n6
      obtain ⟨VA, cA, rfl, hrA⟩ := hA.mrow
      obtain ⟨C, cx, rfl, _⟩ := hx.open
      obtain ⟨p0, B0, c0, rfl, hp0, _⟩ := hrA 0 (by omega)
      have hz0 : p0.add 0 = p0 := by simp [Addr.add]
      rw [hz0] at hp0
      have hp1 : ∀ W, Keeps [] w W → W.cell? p0 = some (.slice B0 (A.getD 0 []).length c0) := fun W k => k.read hp0 (by simp)
      generalize (A.getD 0 []).length = n at *
      generalize A.length = r at *
      generalize x.length = q at *
      have hdd : ((q : Int) != (n : Int)) = true := by
        have : (q : Int) ≠ (n : Int) := by omega
        simpa using this
      have HA := Lib.hid hA
      have HX := Lib.hid hx
      have HS := Lib.hid hS
      have HSH := Lib.hid hsh
      have HC := Lib.hid hc
      have HL := Lib.hid hl
      have HP0 := Lib.hid hp0
      have HP1 := Lib.hid hp1
      have HR := Lib.hid hr
      have HLX := Lib.hid hlx
      have HRA := Lib.hid hrA
      have HZ := Lib.hid hz
      clear hA hx hS hsh hc hl hp0 hp1 hr hlx hrA hz
      go_enter Try.func24, Try.ntmps24
      go_wp2_with fail
      refine HSH.out.mono ?_
      rintro e w1 ⟨rfl, hk1⟩
      have hpw := HP1.out w1 hk1
      go_wp2_with fail
      go_ret2
      exact ⟨rfl, hk1⟩
  · have hz : sclE A x = 10 := by unfold sclE; rw [if_neg hc]
    rw [hz]
    suffices h : Calls Try.prog 24 #[av, xv] w (ErrPost 10 w) from h.mono fun e w' h => TwoPost.err h.1 (by decide) h.2
    unfold ErrPost
    have hsh := shape_is hA hn hr
    rw [if_neg hc] at hsh
    obtain ⟨VA, cA, rfl, _⟩ := hA.mrow
    obtain ⟨C, cx, rfl, _⟩ := hx.open
    generalize A.length = r at *
    generalize x.length = q at *
    have HA := Lib.hid hA
    have HX := Lib.hid hx
    have HSH := Lib.hid hsh
    have HC := Lib.hid hc
    have HR := Lib.hid hr
    have HLX := Lib.hid hlx
    have HZ := Lib.hid hz
    clear hA hx hsh hc hr hlx hz
    go_enter Try.func24, Try.ntmps24
    go_wp2_with fail
    refine HSH.out.mono ?_
    rintro e w1 ⟨rfl, hk1⟩
    go_wp2_with fail
    go_ret2
    exact ⟨rfl, hk1⟩
end Go.Proofs.Ythpobeeccgmieaa

namespace Go.Proofs.Ythpobeeccgmieaa
set_option linter.unusedVariables false
open Go.RowKit

set_option maxRecDepth 100000 in
set_option maxHeartbeats 2000000 in
theorem rsplit_zero {n : Nat} {lx : List Nat} {L : List (List Int)} {x : List Int} {w : World} {lv xv : Value} (hL : IsII w lx lv L) (hx : IsI w lx xv x) (hFi : VFin x) (hxl : x.length = n) (h0 : isum x = 0) :
    Calls Try.prog 44 #[lv, xv] w (SplPost lx (some []) w) := by
  have hn6 : n ≤ 6 := by have := hFi.few; omega
  have hxz : decide (x = List.replicate n 0) = true := decide_eq_true ((isum_rep hxl fun y hy => (hFi.el y hy).1).1 h0)
  have hzer := zeros_is w n (by omega)
  have hsame := fun W zv (k : Keeps [] w W) (hz : IsI W [] zv (List.replicate n 0)) => same_is (Rok.weak (hx.new k) (by simp) : IsI W [] xv x) hz (by omega) (by simp; omega)
  rw [hxz] at hsame
  obtain ⟨A, c, rfl, _⟩ := hx.open
  obtain ⟨B, c', rfl, _⟩ := hL.mrow
  rw [hxl] at hsame ⊢
  generalize L.length = m at *
  unfold SplPost
  have HZER := Lib.hid hzer
  have HSAME := Lib.hid hsame
  have HL := Lib.hid hL
  have HX := Lib.hid hx
  have HFI := Lib.hid hFi
  have HXL := Lib.hid hxl
  have H0 := Lib.hid h0
  have HXZ := Lib.hid hxz
  clear hzer hsame hL hx hFi hxl h0 hxz
  go_enter Try.func44, Try.ntmps44
  go_wp2_with fail
  refine HZER.out.mono ?_
  rintro e w1 ⟨g, rfl, hI, hk1⟩
  have hs := HSAME.out w1 _ hk1 (hI [] (by simp))
  have HS := Lib.hid hs
  have HK1 := Lib.hid hk1
  have HI := Lib.hid hI
  clear hs hk1 hI
  go_wp2_with fail
  refine HS.out.mono ?_
  rintro e w2 ⟨rfl, qq, rfl⟩
  go_wp2_with fail
  go_ret2
  exact ⟨none, 0, 0, rfl, rfl, OwL.nil, HK1.out.drewN qq⟩

set_option maxRecDepth 100000 in
set_option maxHeartbeats 4000000 in
theorem rsplit_is {n : Nat} (hn : 1 ≤ n) (lx : List Nat) : ∀ (f : Nat) (L : List (List Int)) (x : List Int) (w : World) (lv xv : Value), IsII w lx lv L → IsI w lx xv x → SpL n L → VFin x → x.length = n → isum x ≤ f → f ≤ 10 → L.length ≤ 100000000 → (∀ y ∈ lx, y < w.heap.size) →
    Calls Try.prog 44 #[lv, xv] w (SplPost lx (splitF f L x) w) := by
  intro f
  induction f with
  | zero =>
    intro L x w lv xv hL hx hSp hFi hxl hfs hf10 hLl hlx
    have h0 : isum x = 0 := by have := (isum_ge fun y hy => (hFi.el y hy).1).1; omega
    rw [splitF_zero h0]
    exact rsplit_zero hL hx hFi hxl h0
  | succ f ih =>
    intro L x w lv xv hL hx hSp hFi hxl hfs hf10 hLl hlx
    by_cases h0 : isum x = 0
    · rw [splitF_zero h0]
      exact rsplit_zero hL hx hFi hxl h0
    · rw [splitF_succ h0]
      have hn6 : n ≤ 6 := by have := hFi.few; omega
      have hxz : decide (x = List.replicate n 0) = false := decide_eq_false fun e => h0 ((isum_rep hxl fun y hy => (hFi.el y hy).1).2 e)
      have hzer := zeros_is w n (by omega)
      have hsame := fun W zv (k : Keeps [] w W) (hz : IsI W [] zv (List.replicate n 0)) => same_is (Rok.weak (hx.new k) (by simp) : IsI W [] xv x) hz (by omega) (by simp; omega)
      rw [hxz] at hsame
      have hxI : ∀ W, Keeps [] w W → IsI W lx xv x := fun W k => hx.new k
      have hLI : ∀ W, Keeps [] w W → IsII W lx lv L := fun W k => hL.new k
      have hcopy := fun W (k : Keeps [] w W) => copy_is (hx.new k) (by omega)
      unfold CloPost at hcopy
      have hxr : ∀ i, i < n → 0 ≤ x.getD i 0 ∧ x.getD i 0 ≤ 1048576 := fun i hi => hFi.el _ (getD_mem (by omega))
      obtain ⟨A, c, rfl, _⟩ := hx.open
      have hLm := hL.mrow
      obtain ⟨B, c', rfl, hrow⟩ := hLm
      have hsl := fun k hk => slice_from (P := Try.prog) sl_rowsi (show IsL IsI [] w lx (.slice B L.length c') L from hL) k hk
      have hdrop : ∀ k, k < L.length → splitG (splitF f) (L.drop k) x = if pleB (L.getD k []) x = true then optP (L.getD k []) (splitG (splitF f) (L.drop (k + 1)) x) (splitF f (L.drop k) (subV n x (L.getD k []))) else splitG (splitF f) (L.drop (k + 1)) x := fun k hk => by
        rw [splitG_drop hk, hxl]
      have hend : splitG (splitF f) (L.drop L.length) x = none := splitG_end (Nat.le_refl _)
      have hel : ∀ k, k < L.length → VFin (L.getD k []) ∧ (L.getD k []).length = n ∧ 1 ≤ isum (L.getD k []) := fun k hk => ⟨hSp.fin _ (getD_mem hk), hSp.len _ (getD_mem hk), hSp.pos _ (getD_mem hk)⟩
      have hdl : ∀ k, (L.drop k).length = L.length - k := fun k => List.length_drop
      have hst : splitG (splitF f) (L.drop 0) x = splitG (splitF f) L x := by rw [List.drop_zero]
      rw [hxl] at hsame hxI hcopy ⊢
      generalize hm : L.length = m at *
      generalize hres : splitG (splitF f) L x = res at *
      have HZER := Lib.hid hzer
      have HSAME := Lib.hid hsame
      have HCOPY := Lib.hid hcopy
      have HL := Lib.hid hL
      have HX := Lib.hid hx
      have HSP := Lib.hid hSp
      have HFI := Lib.hid hFi
      have HFS := Lib.hid hfs
      have H0 := Lib.hid h0
      have IH := Lib.hid ih
      have HXI := Lib.hid hxI
      have HLI := Lib.hid hLI
      have HROW := Lib.hid hrow
      have HSL := Lib.hid hsl
      have HDROP := Lib.hid hdrop
      have HEND := Lib.hid hend
      have HEL := Lib.hid hel
      have HDL := Lib.hid hdl
      have HST := Lib.hid hst
      have HM := Lib.hid hm
      have HRES := Lib.hid hres
      have HLX := Lib.hid hlx
      have HXR := Lib.hid hxr
      have HXZ := Lib.hid hxz
      have HXL := Lib.hid hxl
      clear hzer hsame hcopy hL hx hSp hFi hfs h0 ih hxI hLI hrow hsl hdrop hend hel hdl hst hm hres hlx hxr hxz hxl
      go_enter Try.func44, Try.ntmps44
      go_wp2_with fail
      refine HZER.out.mono ?_
      rintro e w1 ⟨gz, rfl, hI, hk1⟩
      have hs := HSAME.out w1 _ hk1 (hI [] (by simp))
      have HS := Lib.hid hs
      have HK1 := Lib.hid hk1
      have HI := Lib.hid hI
      clear hs hk1 hI
      go_wp2_with fail
      refine HS.out.mono ?_
      rintro e w1' ⟨rfl, qq, hw1⟩
      have hk1' : Keeps [] w w1' := by rw [hw1]; exact HK1.out.drewN qq
      clear hw1
      have HK1' := Lib.hid hk1'
      clear hk1'
      go_wp2_with fail
      go_loopg [6] (m + 1) (fun gh kv wr => ∃ k : Nat, m + 1 ≤ k + gh ∧ k ≤ m ∧ kv = .int .i64 (k : Int) ∧ splitG (splitF f) (L.drop k) x = res ∧ Keeps [] w wr)
      case atStart => exact ⟨0, by omega, by omega, rfl, HST.out, HK1'.out⟩
      case round =>
        obtain ⟨k, hgh, hk, rfl, hs, hkr⟩ := hrel
        generalize wr = wo at *
        by_cases hlt : k < m
        · obtain ⟨pa, Bk, ck, rfl, hpa, hIk⟩ := (HROW.out.new hkr) k hlt
          obtain ⟨hvf, hvl, hvp⟩ := HEL.out k hlt
          rw [HDROP.out k hlt] at hs
          rw [hvl] at hpa hIk
          obtain ⟨B2, hsl2, hdrp⟩ := HSL.out k (by omega)
          have hvr : ∀ i, i < n → 0 ≤ (L.getD k []).getD i 0 ∧ (L.getD k []).getD i 0 ≤ 1048576 := fun i hi => hvf.el _ (getD_mem (by omega))
          have hleq := rleq2_is hIk (HXI.out wo hkr) (by rw [hvl, HXL.out]; exact Nat.le_refl _) (by rw [HXL.out]; omega)
          have hrw : ∀ W l', IsII W l' (.slice (some pa) m c') L → ∃ Bq cq, W.cell? (pa.add k) = some (.slice Bq n cq) ∧ IsI W l' (.slice Bq n cq) (L.getD k []) := fun W l' h => by
            obtain ⟨A1, c1, e1, h1⟩ := h.mrow
            rw [HM.out] at e1 h1
            obtain ⟨pb, Bq, cq, e2, h2, h3⟩ := h1 k hlt
            rw [e2] at e1
            injection e1 with e1 _ _
            injection e1 with e1
            subst e1
            rw [hvl] at h2 h3
            exact ⟨Bq, cq, h2, h3⟩
          generalize hv : L.getD k [] = v at *
          cases hp : pleB v x with
          | false =>
            rw [hp] at hs hleq
            simp only [Bool.false_eq_true, if_false] at hs
            have HLEQ := Lib.hid hleq
            have HKR := Lib.hid hkr
            have HS := Lib.hid hs
            have HIK := Lib.hid hIk
            have HVF := Lib.hid hvf
            have HVL := Lib.hid hvl
            have HVP := Lib.hid hvp
            have HV := Lib.hid hv
            have HP := Lib.hid hp
            have HDRP := Lib.hid hdrp
            have HVR := Lib.hid hvr
            have HRW := Lib.hid hrw
            clear hleq hkr hs hIk hvf hvl hvp hv hp hdrp hvr hrw
            go_wp2_with fail
            refine HLEQ.out.mono ?_
            rintro e w2 ⟨rfl, hk2⟩
            go_wp2_with fail
            go_roundg (m - k)
            case measure => omega
            case rel => exact ⟨k + 1, by omega, by omega, by go_num, HS.out, HKR.out.trans hk2⟩
          | true =>
            rw [hp] at hs hleq
            simp only [if_true] at hs
            have hsf := sub_fin HFI.out hvf HXL.out hvl hp
            have hss := isum_sub HXL.out hvl
            have hrec := fun W lv2 xv2 (h1 : IsII W lx lv2 (L.drop k)) (h2 : IsI W lx xv2 (subV n x v)) (h3 : Keeps [] w W) => IH.out (L.drop k) (subV n x v) W lv2 xv2 h1 h2 (HSP.out.drop k) hsf subV_len (by have := HFS.out; omega) (by omega) (by rw [HDL.out]; omega) (fun y hy => Nat.lt_of_lt_of_le (HLX.out y hy) h3.size)
            have hslen : ∀ zs, splitF f (L.drop k) (subV n x v) = some zs → (zs.length : Int) ≤ 10 := fun zs hz => by
              have := splitF_len f _ _ zs (HSP.out.drop k) hsf subV_len hz
              have := HFS.out
              omega
            have HLEQ := Lib.hid hleq
            have HKR := Lib.hid hkr
            have HS := Lib.hid hs
            have HIK := Lib.hid hIk
            have HVF := Lib.hid hvf
            have HVL := Lib.hid hvl
            have HVP := Lib.hid hvp
            have HV := Lib.hid hv
            have HP := Lib.hid hp
            have HDRP := Lib.hid hdrp
            have HVR := Lib.hid hvr
            have HRW := Lib.hid hrw
            have HSF := Lib.hid hsf
            have HSS := Lib.hid hss
            have HREC := Lib.hid hrec
            have HSLEN := Lib.hid hslen
            clear hleq hkr hs hIk hvf hvl hvp hv hp hdrp hvr hrw hsf hss hrec hslen
            go_wp2_with fail
            refine HLEQ.out.mono ?_
            rintro e w2 ⟨rfl, hk2⟩
            have hk3 := HKR.out.trans hk2
            have hcp := HCOPY.out w2 hk3
            have hpa2 := hk2.read hpa (by simp)
            have HK3 := Lib.hid hk3
            have HCP := Lib.hid hcp
            clear hk3 hcp
            clear hk2
            go_wp2_with fail
            refine HCP.out.mono ?_
            rintro e w3 ⟨Ac, cc, rfl, hOc, hk4⟩
            have hOc' := hOc.own (by rw [HXL.out]; omega)
            rw [HXL.out] at hOc'
            obtain ⟨g2, cg, e2, hcg, hg2, hg3, hO3⟩ := hOc'
            obtain ⟨rfl, rfl⟩ : Ac = some ⟨g2, 0, none⟩ ∧ cc = cg := by injection e2 with e1 _ e3; exact ⟨e1, e3⟩
            have hk5 := HK3.out.trans hk4
            have hz2 := HK3.out.size
            have hpa3 := hk4.read hpa2 (by simp)
            have hL3 : IsII w3 [g2] (.slice (some pa) m c') L := by
              have h1 : IsII w2 [g2] (.slice (some pa) m c') L := Rok.weak (HLI.out w2 HK3.out) (fun y hy => .inr (by rw [List.mem_singleton.1 hy]; exact hg2))
              exact h1.new hk4
            have hg2l : g2 ∉ lx := fun h => by have := HLX.out _ h; omega
            have HK5 := Lib.hid hk5
            have HO3 := Lib.hid hO3
            have HL3 := Lib.hid hL3
            have HG2L := Lib.hid hg2l
            clear hk5 hO3 hL3 hg2l
            clear hOc e2 hk4
            go_wp2_with fail
            go_loopg [8] (n + 1) (fun gh iv wr => ∃ i : Nat, n + 1 ≤ i + gh ∧ i ≤ n ∧ iv = .int .i64 (i : Int) ∧ Own wr g2 n (fun q => .int .i64 (if q < i then x.getD q 0 - v.getD q 0 else x.getD q 0)) ∧ Keeps [g2] w3 wr)
            case atStart => exact ⟨0, by omega, by omega, rfl, HO3.out.congr fun q hq => by simp, Keeps.refl _ _⟩
            case round =>
              obtain ⟨i, hgh2, hi, rfl, hOi, hki⟩ := hrel
              by_cases hlt2 : i < n
              · obtain ⟨Bq, cq, hpq, hIq⟩ := HRW.out wr [] (Rok.weak (Rok.keeps HL3.out hki) (by simp))
                obtain ⟨Bq', cq', eq, _, _, hcq⟩ := hIq.open
                rw [HVL.out] at eq hcq
                injection eq with eq1 _ eq2
                subst eq1; subst eq2
                obtain ⟨aa, rfl, haa⟩ := hcq.at_ hlt2
                have ho1 : wr.cell? ⟨g2, i, none⟩ = some (.int .i64 (x.getD i 0)) := by have := (hOi i hlt2).1; simpa using this
                have ho2 : wr.frozen? ⟨g2, i, none⟩ = false := (hOi i hlt2).2
                have hr1 := HXR.out i hlt2
                have hr2 := HVR.out i hlt2
                generalize hxe : x.getD i 0 = xx at *
                generalize hye : v.getD i 0 = yy at *
                have hw2 : IntKind.i64.wrap (xx - yy) = xx - yy := IntWalk.i64_in _ (by omega)
                have HXE := Lib.hid hxe
                have HYE := Lib.hid hye
                have HOI := Lib.hid hOi
                have HKI := Lib.hid hki
                have HIQ := Lib.hid hIq
                have HCQ := Lib.hid hcq
                clear hxe hye hOi hki hIq hcq
                go_wp2_with fail
                go_still_tail 13, (by kernel_rfl)
                change wpList _ _ _ _ _ wr.drew
                go_wp2_with fail
                go_roundg (n - i)
                case measure => omega
                case rel =>
                  refine ⟨i + 1, by omega, by omega, by go_num, ?_, HKI.out.drew.setCell (by simp) _⟩
                  refine ((HOI.out.drew).updInt hlt2 (xx - yy)).congr fun q hq => ?_
                  show Value.int .i64 _ = Value.int .i64 _
                  congr 1
                  by_cases e : q = i
                  · subst e; rw [upd_same, if_pos (by omega), HXE.out, HYE.out]
                  · rw [upd_ne _ _ e]
                    by_cases e2 : q < i
                    · rw [if_pos e2, if_pos (by omega)]
                    · rw [if_neg e2, if_neg (by omega)]
              · obtain rfl : i = n := by omega
                have hIr : IsI wr lx (.slice (some ⟨g2, 0, none⟩) i cc) (subV i x v) := Own.isI hOi HG2L.out hcg subV_len (fun q hq => by rw [subV_at hq, if_pos hq])
                have hk6 : Keeps [] w wr := HK5.out.step hki (fun y hy => .inr (by rw [List.mem_singleton.1 hy]; omega))
                have hrc := HREC.out wr _ _ (Rok.keeps HDRP.out (hk6.nil _)) hIr hk6
                cases ho : splitF f (L.drop k) (subV i x v) with
                | none =>
                  have hs := HS.out
                  clear HS
                  rw [ho] at hs hrc
                  simp only [optP] at hs
                  unfold SplPost at hrc
                  have HS := Lib.hid hs
                  have HRC := Lib.hid hrc
                  have HO := Lib.hid ho
                  have HK6 := Lib.hid hk6
                  have HIR := Lib.hid hIr
                  have HKI := Lib.hid hki
                  have HOI := Lib.hid hOi
                  clear hs hrc ho hk6 hIr hki hOi
                  go_wp2_with fail
                  refine HRC.out.mono ?_
                  rintro e w7 ⟨rfl, hk7⟩
                  go_wp2_with fail
                  go_roundg (m - k)
                  case measure => omega
                  case rel => exact ⟨k + 1, by omega, by omega, by go_num, HS.out, HK6.out.trans hk7⟩
                | some ys =>
                  have hs := HS.out
                  clear HS
                  rw [ho] at hs hrc
                  simp only [optP] at hs
                  unfold SplPost at hrc
                  subst hs
                  have hyl := HSLEN.out ys ho
                  have HRC := Lib.hid hrc
                  have HO := Lib.hid ho
                  have HK6 := Lib.hid hk6
                  have HIR := Lib.hid hIr
                  have HKI := Lib.hid hki
                  have HOI := Lib.hid hOi
                  clear hrc ho hk6 hIr hki hOi
                  go_wp2_with fail
                  refine HRC.out.mono ?_
                  rintro e w7 ⟨V4, m4, c4, hm4, rfl, hO4, hk7⟩
                  have hk8 := HK6.out.trans hk7
                  have hlx7 : ∀ y ∈ lx, y < w7.heap.size := fun y hy => Nat.lt_of_lt_of_le (HLX.out y hy) hk8.size
                  obtain ⟨Bq, cq, hpq, hIq⟩ := HRW.out w7 lx (HLI.out w7 hk8)
                  have hlit : OwL IsI [] 22 w7.heap.size (w7.alloc (.cells #[.slice Bq i cq] 22)) lx (.slice (some ⟨w7.heap.size, 0, none⟩) 1 1) [v] := OwL.made1 hIq
                  have hka : Keeps [] w7 (w7.alloc (.cells #[.slice Bq i cq] 22)) := (Keeps.refl _ _).alloc _
                  have hI4 : IsII w7 lx (.slice V4 m4 c4) ys := hO4.isL (fun y hy => Nat.lt_of_lt_of_le (HLX.out y hy) HK6.out.size)
                  have hrowJ : IsL IsI [] (w7.alloc (.cells #[.slice Bq i cq] 22)) ((Value.slice (some ⟨w7.heap.size, 0, none⟩) 1 1).ownBlock.toList ++ lx) (.slice V4 m4 c4) ys := by
                    have h1 : IsII w7 ((Value.slice (some ⟨w7.heap.size, 0, none⟩) 1 1).ownBlock.toList ++ lx) (.slice V4 m4 c4) ys := Rok.weak hI4 (fun y hy => by
                      rcases List.mem_append.1 hy with h | h
                      · exact .inr (by simp [Value.ownBlock] at h; omega)
                      · exact .inl h)
                    exact h1.new hka
                  have hm4i : m4 ≤ 10 := by omega
                  have hzz := hk8.size
                  have HK8 := Lib.hid hk8
                  have HLX7 := Lib.hid hlx7
                  have HIQ := Lib.hid hIq
                  have HLIT := Lib.hid hlit
                  have HKA := Lib.hid hka
                  have HROWJ := Lib.hid hrowJ
                  have HI4 := Lib.hid hI4
                  have HM4 := Lib.hid hm4
                  clear hk8 hlx7 hIq hlit hka hrowJ hI4 hm4
                  clear hO4 hk7
                  go_wp2_with (at_builtin; refine wpList_join sl_rowsi rfl _ _ rfl rfl rfl HLIT.out HROWJ.out (m := m4 + 1) (by rw [HM4.out]; simp; omega) (by omega) HKA.out.size (w0 := w7) (l0 := []) (Nat.le_refl _) HKA.out ?_; intro V5 c5 w8 hown5 hg5 hk9)
                  have hown6 := hown5.low hzz
                  have hk10 := HK8.out.trans hk9
                  have HOWN6 := Lib.hid hown6
                  have HK10 := Lib.hid hk10
                  clear hown6 hk10
                  clear hown5 hg5 hk9
                  go_wp2_with fail
                  go_ret2
                  exact ⟨V5, m4 + 1, c5, by rw [HM4.out]; rfl, rfl, HOWN6.out, HK10.out⟩
        · obtain rfl : k = m := by omega
          have hres : none = res := by rw [← hs, HEND.out]
          subst hres
          have HS := Lib.hid hs
          have HKR := Lib.hid hkr
          clear hs hkr
          go_wp2_with fail
          go_ret2
          exact ⟨rfl, HKR.out⟩
end Go.Proofs.Ythpobeeccgmieaa

namespace Go.Proofs.Ythpobeeccgmieaa
set_option linter.unusedVariables false
open Go.RowKit

def rsQ (A : List (List Int)) (x : List Int) (ys : List (List Int)) : Prop := ∃ L, MinQ (solB A (List.replicate A.length 0)) ((A.getD 0 []).length - 1) 1 (isum x).toNat L ∧ ys = (splitF 10 L x).getD []
theorem err_intro {lx : List Nat} {z z0 : Int} {Q : List (List Int) → Prop} {w w' : World} (hz : z = z0) (h0 : z0 ≠ 0) (hk : Keeps [] w w') : TwoPost lx z Q w (.returned (.tuple #[.slice none 0 0, .int .i64 z0])) w' := by
  subst hz; exact TwoPost.err rfl h0 hk
/-- What the reference's loop has seen. -/
structure SumR (x : List Int) (k : Nat) (s : Int) : Prop where
  sm : s = isum (x.take k)
  el : ∀ i, i < k → 0 ≤ x.getD i 0 ∧ x.getD i 0 ≤ 10
  ge : 0 ≤ s
  le : s ≤ 10 * (k : Int)
theorem SumR.nil {x : List Int} : SumR x 0 0 := ⟨by simp [isum], by omega, by omega, by omega⟩
theorem SumR.step {x : List Int} {k : Nat} {s : Int} (h : SumR x k s) (hk : k < x.length) (h0 : 0 ≤ x.getD k 0) (h1 : x.getD k 0 ≤ 10) : SumR x (k + 1) (s + x.getD k 0) :=
  ⟨by rw [isum_take hk, ← h.sm], fun i hi => by
    by_cases e : i = k
    · rw [e]; exact ⟨h0, h1⟩
    · exact h.el i (by omega), by have := h.ge; omega, by have := h.le; omega⟩
theorem SumR.all {x : List Int} {k : Nat} {s : Int} (h : SumR x k s) (hk : x.length = k) : s = isum x ∧ (∀ y ∈ x, 0 ≤ y) ∧ (smallB x = true ↔ s ≤ 10) := by
  have h1 : s = isum x := by
    have := h.sm
    rwa [List.take_of_length_le (by omega)] at this
  have h2 : ∀ y ∈ x, 0 ≤ y := fun y hy => by
    obtain ⟨i, hi, rfl⟩ := mem_getD (d := 0) hy
    exact (h.el i (by omega)).1
  refine ⟨h1, h2, ?_⟩
  rw [smallB_true, h1]
  exact ⟨fun h => h.2, fun h => ⟨h2, h⟩⟩
theorem small_el {x : List Int} (h : smallB x = true) {k : Nat} (hk : k < x.length) : 0 ≤ x.getD k 0 ∧ x.getD k 0 ≤ 10 := by
  obtain ⟨h1, h2⟩ := smallB_true.1 h
  have h3 := (isum_ge h1).2 _ (getD_mem (d := 0) hk)
  exact ⟨h1 _ (getD_mem hk), by omega⟩

set_option maxRecDepth 100000 in
set_option maxHeartbeats 2000000 in
theorem rSplit_two {w : World} {l : List Nat} {av xv : Value} {A : List (List Int)} {x : List Int} (hA : IsII w l av A) (hx : IsI w l xv x) (hn : A.length ≤ 1000000) (hr : ∀ r ∈ A, r.length ≤ 1000000) (hxn : x.length ≤ 1000000) {lx : List Nat} (hlx : ∀ y ∈ lx, y < w.heap.size) (hll : ∀ y ∈ lx, y ∈ l) :
    Calls Try.prog 25 #[av, xv] w (TwoPost lx (sclE A x) (rsQ A x) w) := by
  have hsh := rshape_is hA hn hr
  by_cases hc : shB A = true
  · rw [hc] at hsh
    have hS := shB_true.1 hc
    have hr1 := hS.mat.r1.1
    have hr1i : (0 : Int) < (A.length : Int) := by omega
    have hr6 := hS.r6
    have hn6 := hS.n6
    have hn1 := hS.mat.c1.1
    by_cases hl : x.length = (A.getD 0 []).length
    · have hz2 : smallB x = false → sclE A x = 2 := fun h => by unfold sclE; rw [if_pos hc, if_pos hl, if_neg (by rw [h]; exact Bool.false_ne_true)]
      have hz11 : smallB x = true → solB A (List.replicate A.length 0) x = false → sclE A x = 11 := fun h h' => by unfold sclE; rw [if_pos hc, if_pos hl, if_pos h, if_neg (by rw [h']; exact Bool.false_ne_true)]
      have hz0 : smallB x = true → solB A (List.replicate A.length 0) x = true → sclE A x = 0 := fun h h' => by unfold sclE; rw [if_pos hc, if_pos hl, if_pos h, if_pos h']
      have hel : smallB x = true → ∀ k, k < x.length → 0 ≤ x.getD k 0 ∧ x.getD k 0 ≤ 10 := fun h k hk => small_el h hk
      have hsb : smallB x = true → solvesB A (List.replicate A.length 0) x = solB A (List.replicate A.length 0) x := fun h => by
        obtain ⟨h1, h2⟩ := smallB_true.1 h
        rw [Bool.eq_iff_iff, solvesB_of hS (by simp) (rngB_zero _)]
        exact ⟨fun h => h.2.2, fun h => ⟨hl, vval_small (M := 10) (by omega) h1 h2 (by omega), h⟩⟩
      have hzer := fun W => zeros_is W A.length hn
      have hA0 : ∀ W, Keeps [] w W → IsII W [] av A := fun W k => Rok.weak (hA.new k) (by simp)
      have hx0 : ∀ W, Keeps [] w W → IsI W lx xv x := fun W k => Rok.weak (hx.new k) (fun y hy => .inl (hll y hy))
      have hsv := fun W bv (k : Keeps [] w W) (hb : IsI W [] bv (List.replicate A.length 0)) => rsolves_is (hA0 W k) hb (Rok.weak (hx0 W k) (by simp)) hn hr (by simp; omega) hxn
      have hsol := fun (hi : Nat) W bv (hhi : hi ≤ 10) (k : Keeps [] w W) (hb : IsI W [] bv (List.replicate A.length 0)) => rsols_is (hi := hi) (lo := 1) true rfl (hA0 W k) hb hS (by simp) (rngB_zero _) hhi (fun y hy => Nat.lt_of_lt_of_le (hlx y hy) k.size)
      have hspl := fun (hi : Nat) W lv L (hs : smallB x = true) (hhi : hi ≤ 10) (hM : MinQ (solB A (List.replicate A.length 0)) ((A.getD 0 []).length - 1) 1 hi L) (k : Keeps [] w W) (hL : IsII W lx lv L) => by
        obtain ⟨h1, h2⟩ := smallB_true.1 hs
        have hsp : SpL (A.getD 0 []).length L := ⟨fun v hv => by
            have h3 := ((hM.2 v).1 hv).1
            exact vval_small (M := 10) (by have := h3.len; omega) h3.pos (by have := h3.le; omega) (by omega), fun v hv => by have := ((hM.2 v).1 hv).1.len; omega, fun v hv => ((hM.2 v).1 hv).1.ge⟩
        have hLl : L.length ≤ 8008 := by
          have h4 := asc_len (L := rvecs (A.getD 0 []).length hi) hM.1 fun v hv => by
            have h3 := ((hM.2 v).1 hv).1
            exact mem_rvecs.2 ⟨by have := h3.len; omega, h3.pos, h3.le⟩
          exact Nat.le_trans h4 (rvecs_len2 hn6 hhi)
        exact rsplit_is hn1 lx 10 L x W lv xv hL (hx0 W k) hsp (vval_small (M := 10) (by omega) h1 h2 (by omega)) hl h2 (by omega) (by omega) (fun y hy => Nat.lt_of_lt_of_le (hlx y hy) k.size)
      unfold TwoPost
      have hQ : ∀ L ys, MinQ (solB A (List.replicate A.length 0)) ((A.getD 0 []).length - 1) 1 (isum x).toNat L → ys = (splitF 10 L x).getD [] → rsQ A x ys := fun L ys h h' => ⟨L, h, h'⟩
      generalize rsQ A x = QQ at *
      generalize sclE A x = z at *
      obtain ⟨VA, cA, rfl, hrA⟩ := hA.mrow
      obtain ⟨C, cx, rfl, _, _, hcx⟩ := hx.open
      obtain ⟨p0, B0, c0, rfl, hp0, _⟩ := hrA 0 (by omega)
      have hz00 : p0.add 0 = p0 := by simp [Addr.add]
      rw [hz00, ← hl] at hp0
      have hp1 : ∀ W, Keeps [] w W → W.cell? p0 = some (.slice B0 x.length c0) := fun W k => k.read hp0 (by simp)
      have hbad : ∀ k, k < x.length → ¬ (0 ≤ x.getD k 0 ∧ x.getD k 0 ≤ 10) → z = 2 := fun k hk h => hz2 (by rw [← Bool.not_eq_true]; exact fun e => h (hel e k hk))
      have hall : ∀ s, SumR x x.length s → s = isum x ∧ (∀ y ∈ x, 0 ≤ y) ∧ (smallB x = true ↔ s ≤ 10) := fun s h => h.all rfl
      have hstp : ∀ k s, k < x.length → SumR x k s → 0 ≤ x.getD k 0 → x.getD k 0 ≤ 10 → SumR x (k + 1) (s + x.getD k 0) := fun k s hk h => h.step hk
      have hn6' : x.length ≤ 6 := by omega
      clear hS
      generalize solB A (List.replicate A.length 0) = P at *
      generalize (A.getD 0 []).length = nn at *
      generalize A.length = r at *
      generalize x.length = n at *
      have HSH := Lib.hid hsh
      have HA := Lib.hid hA
      have HX := Lib.hid hx
      have HC := Lib.hid hc
      have HL := Lib.hid hl
      have HZ2 := Lib.hid hz2
      have HZ11 := Lib.hid hz11
      have HZ0 := Lib.hid hz0
      have HEL := Lib.hid hel
      have HSB := Lib.hid hsb
      have HZER := Lib.hid hzer
      have HA0 := Lib.hid hA0
      have HX0 := Lib.hid hx0
      have HSV := Lib.hid hsv
      have HSOL := Lib.hid hsol
      have HSPL := Lib.hid hspl
      have HP0 := Lib.hid hp0
      have HP1 := Lib.hid hp1
      have HBAD := Lib.hid hbad
      have HALL := Lib.hid hall
      have HSTP := Lib.hid hstp
      have HCX := Lib.hid hcx
      have HR := Lib.hid hr
      have HLX := Lib.hid hlx
      have HLL := Lib.hid hll
      have HRA := Lib.hid hrA
      have HQ := Lib.hid hQ
      clear hsh hA hx hc hl hz2 hz11 hz0 hel hsb hzer hA0 hx0 hsv hsol hspl hp0 hp1 hbad hall hstp hcx hr hlx hll hrA hQ
      go_enter Try.func25, Try.ntmps25
      go_wp2_with fail
      refine HSH.out.mono ?_
      rintro e w1 ⟨rfl, hk1⟩
      have hpw := HP1.out w1 hk1
      have hcx1 := HCX.out.keeps (hk1.nil l)
      have HK1 := Lib.hid hk1
      have HCX1 := Lib.hid hcx1
      clear hk1 hcx1
      go_wp2_with fail
      go_loopg [6, 7] (n + 1) (fun gh sv kv wr => ∃ (k : Nat) (s : Int), n + 1 ≤ k + gh ∧ k ≤ n ∧ kv = .int .i64 (k : Int) ∧ sv = .int .i64 s ∧ SumR x k s ∧ w1 = wr)
      case atStart => exact ⟨0, 0, by omega, by omega, rfl, rfl, SumR.nil, rfl⟩
      case round =>
        obtain ⟨k, s, hgh, hk, rfl, rfl, hs, rfl⟩ := hrel
        have h4 := hs.ge
        have h6 := hs.le
        by_cases hlt : k < n
        · obtain ⟨pb, rfl, hpb⟩ := HCX1.out.at_ hlt
          have h5 := HSTP.out k s hlt hs
          have hb := HBAD.out k hlt
          generalize hxk : x.getD k 0 = y at *
          by_cases hy0 : y < 0
          · have d1 : decide (y < 0) = true := decide_eq_true hy0
            have hz := hb (by omega)
            have HS := Lib.hid hs
            have H5 := Lib.hid h5
            have HXK := Lib.hid hxk
            have HB := Lib.hid hb
            have HZ := Lib.hid hz
            clear hs h5 hxk hb hz
            go_wp2_with fail
            go_ret2
            exact err_intro HZ.out (by decide) HK1.out
          · have d1 : decide (y < 0) = false := decide_eq_false hy0
            by_cases hy1 : 10 < y
            · have d2 : decide (10 < y) = true := decide_eq_true hy1
              have hz := hb (by omega)
              have HS := Lib.hid hs
              have H5 := Lib.hid h5
              have HXK := Lib.hid hxk
              have HB := Lib.hid hb
              have HZ := Lib.hid hz
              clear hs h5 hxk hb hz
              go_wp2_with fail
              go_ret2
              exact err_intro HZ.out (by decide) HK1.out
            · have d2 : decide (10 < y) = false := decide_eq_false hy1
              have h7 := h5 (by omega) (by omega)
              have hw : IntKind.i64.wrap (s + y) = s + y := IntWalk.i64_in _ (by omega)
              have HS := Lib.hid hs
              have H5 := Lib.hid h5
              have HXK := Lib.hid hxk
              have H7 := Lib.hid h7
              have HB := Lib.hid hb
              clear hs h5 hxk h7 hb
              go_wp2_with fail
              go_roundg (n - k)
              case measure => omega
              case rel => exact ⟨k + 1, s + y, by omega, by omega, by go_num, rfl, H7.out, rfl⟩
        · obtain rfl : k = n := by omega
          obtain ⟨hsx, hpos, hsm⟩ := HALL.out s hs
          by_cases h10 : 10 < s
          · have d1 : decide (10 < s) = true := decide_eq_true h10
            have hz := HZ2.out (by rw [← Bool.not_eq_true, hsm]; omega)
            have HS := Lib.hid hs
            have HSX := Lib.hid hsx
            have HPOS := Lib.hid hpos
            have HSM := Lib.hid hsm
            have HZ := Lib.hid hz
            clear hs hsx hpos hsm hz
            go_wp2_with fail
            go_ret2
            exact err_intro HZ.out (by decide) HK1.out
          · have d1 : decide (10 < s) = false := decide_eq_false h10
            have hsmt := hsm.2 (by omega)
            have hsb := HSB.out hsmt
            obtain ⟨hi, rfl⟩ : ∃ hi : Nat, s = (hi : Int) := ⟨s.toNat, by omega⟩
            have hhi : hi ≤ 10 := by omega
            have hpw2 := fun W (k : Keeps [] w W) => HP1.out W k
            have hsxn : (isum x).toNat = hi := by rw [← hsx]; rfl
            have hzr1 := HZER.out w1
            have HS := Lib.hid hs
            have HSX := Lib.hid hsx
            have HPOS := Lib.hid hpos
            have HSM := Lib.hid hsm
            have HSMT := Lib.hid hsmt
            have HSB := Lib.hid hsb
            have HSXN := Lib.hid hsxn
            have HZR1 := Lib.hid hzr1
            clear hs hsx hpos hsm hsmt hsb hsxn hzr1
            go_wp2_with fail
            refine HZR1.out.mono ?_
            rintro e w2 ⟨g2, rfl, hI2, hk2⟩
            have hk3 := HK1.out.trans hk2
            have hsv2 := HSV.out w2 _ hk3 (hI2 [] (by simp))
            rw [HSB.out] at hsv2
            have HK3 := Lib.hid hk3
            have HSV2 := Lib.hid hsv2
            have HI2 := Lib.hid hI2
            clear hk3 hsv2 hI2
            clear hk2
            cases hP : P x with
            | false =>
              have hz := HZ11.out HSMT.out hP
              have hsv3 := HSV2.out
              rw [hP] at hsv3
              have HZ := Lib.hid hz
              have HSV3 := Lib.hid hsv3
              have HP := Lib.hid hP
              clear hz hsv3 hP
              go_wp2_with fail
              refine HSV3.out.mono ?_
              rintro e w3 ⟨rfl, hk4⟩
              go_wp2_with fail
              go_ret2
              exact err_intro HZ.out (by decide) (HK3.out.trans hk4)
            | true =>
              have hz := HZ0.out HSMT.out hP
              have hsv3 := HSV2.out
              rw [hP] at hsv3
              have HZ := Lib.hid hz
              have HSV3 := Lib.hid hsv3
              have HP := Lib.hid hP
              clear hz hsv3 hP
              go_wp2_with fail
              refine HSV3.out.mono ?_
              rintro e w3 ⟨rfl, hk4⟩
              have hk5 := HK3.out.trans hk4
              have hzr2 := HZER.out w3
              have HK5 := Lib.hid hk5
              have HZR2 := Lib.hid hzr2
              clear hk5 hzr2
              clear hk4
              go_wp2_with fail
              refine HZR2.out.mono ?_
              rintro e w4 ⟨g4, rfl, hI4, hk6⟩
              have hk7 := HK5.out.trans hk6
              have hso := HSOL.out hi w4 _ hhi hk7 (hI4 [] (by simp))
              have HK7 := Lib.hid hk7
              have HSO := Lib.hid hso
              have HI4 := Lib.hid hI4
              clear hk7 hso hI4
              clear hk6
              go_wp2_with fail
              refine HSO.out.mono ?_
              rintro e w5 ⟨V5, m5, c5, L, hm5, rfl, hq5, hI5, hk8⟩
              have hk9 := HK7.out.trans hk8
              have hsp := HSPL.out hi w5 _ L HSMT.out hhi hq5 hk9 hI5
              have hQ2 := fun ys => HQ.out L ys (by rw [HSXN.out]; exact hq5)
              have HK9 := Lib.hid hk9
              have HQ5 := Lib.hid hq5
              have HI5 := Lib.hid hI5
              have HM5 := Lib.hid hm5
              have HQ2 := Lib.hid hQ2
              clear hk9 hq5 hI5 hm5 hQ2
              clear hk8
              cases ho : splitF 10 L x with
              | none =>
                rw [ho] at hsp
                unfold SplPost at hsp
                have HSP := Lib.hid hsp
                have HO := Lib.hid ho
                clear hsp ho
                go_wp2_with fail
                refine HSP.out.mono ?_
                rintro e w6 ⟨rfl, hk10⟩
                go_wp2_with fail
                go_ret2
                exact ⟨none, 0, 0, [], rfl, by rw [HZ.out]; rfl, fun _ => HQ2.out [] (by rw [HO.out]; rfl), fun _ => rfl, IsL.nil, HK9.out.trans hk10⟩
              | some ys =>
                rw [ho] at hsp
                unfold SplPost at hsp
                have HSP := Lib.hid hsp
                have HO := Lib.hid ho
                clear hsp ho
                go_wp2_with fail
                refine HSP.out.mono ?_
                rintro e w6 ⟨V6, m6, c6, hm6, rfl, hO6, hk10⟩
                have hk11 := HK9.out.trans hk10
                have hI6 : IsII w6 lx (.slice V6 m6 c6) ys := hO6.isL (fun y hy => Nat.lt_of_lt_of_le (HLX.out y hy) HK9.out.size)
                have HK11 := Lib.hid hk11
                have HI6 := Lib.hid hI6
                have HM6 := Lib.hid hm6
                clear hk11 hI6 hm6
                clear hO6 hk10
                go_wp2_with fail
                go_ret2
                exact ⟨V6, m6, c6, ys, HM6.out, by rw [HZ.out]; rfl, fun _ => HQ2.out ys (by rw [HO.out]; rfl), fun h => absurd HZ.out h, HI6.out, HK11.out⟩
    · have hz : sclE A x = 3 := by unfold sclE; rw [if_pos hc, if_neg hl]
      rw [hz]
      suffices h : Calls Try.prog 25 #[av, xv] w (ErrPost 3 w) from h.mono fun e w' h => TwoPost.err h.1 (by decide) h.2
      unfold ErrPost
      obtain ⟨VA, cA, rfl, hrA⟩ := hA.mrow
      obtain ⟨C, cx, rfl, _⟩ := hx.open
      obtain ⟨p0, B0, c0, rfl, hp0, _⟩ := hrA 0 (by omega)
      have hz0 : p0.add 0 = p0 := by simp [Addr.add]
      rw [hz0] at hp0
      have hp1 : ∀ W, Keeps [] w W → W.cell? p0 = some (.slice B0 (A.getD 0 []).length c0) := fun W k => k.read hp0 (by simp)
      generalize (A.getD 0 []).length = n at *
      generalize A.length = r at *
      generalize x.length = q at *
      have hdd : ((q : Int) != (n : Int)) = true := by
        have : (q : Int) ≠ (n : Int) := by omega
        simpa using this
      have HA := Lib.hid hA
      have HX := Lib.hid hx
      have HS := Lib.hid hS
      have HSH := Lib.hid hsh
      have HC := Lib.hid hc
      have HL := Lib.hid hl
      have HP0 := Lib.hid hp0
      have HP1 := Lib.hid hp1
      have HR := Lib.hid hr
      have HLX := Lib.hid hlx
      have HRA := Lib.hid hrA
      have HZ := Lib.hid hz
      have HLL := Lib.hid hll
      clear hA hx hS hsh hc hl hp0 hp1 hr hlx hrA hz hll
      go_enter Try.func25, Try.ntmps25
      go_wp2_with fail
      refine HSH.out.mono ?_
      rintro e w1 ⟨rfl, hk1⟩
      have hpw := HP1.out w1 hk1
      go_wp2_with fail
      go_ret2
      exact ⟨rfl, hk1⟩
  · have hz : sclE A x = 10 := by unfold sclE; rw [if_neg hc]
    rw [hz]
    suffices h : Calls Try.prog 25 #[av, xv] w (ErrPost 10 w) from h.mono fun e w' h => TwoPost.err h.1 (by decide) h.2
    unfold ErrPost
    rw [Bool.not_eq_true] at hc
    rw [hc] at hsh
    obtain ⟨VA, cA, rfl, _⟩ := hA.mrow
    obtain ⟨C, cx, rfl, _⟩ := hx.open
    generalize A.length = r at *
    generalize x.length = q at *
    have HA := Lib.hid hA
    have HX := Lib.hid hx
    have HSH := Lib.hid hsh
    have HC := Lib.hid hc
    have HR := Lib.hid hr
    have HLX := Lib.hid hlx
    have HZ := Lib.hid hz
    have HLL := Lib.hid hll
    clear hA hx hsh hc hr hlx hz hll
    go_enter Try.func25, Try.ntmps25
    go_wp2_with fail
    refine HSH.out.mono ?_
    rintro e w1 ⟨rfl, hk1⟩
    go_wp2_with fail
    go_ret2
    exact ⟨rfl, hk1⟩
end Go.Proofs.Ythpobeeccgmieaa

namespace Go.Proofs.Ythpobeeccgmieaa
set_option linter.unusedVariables false
open Go.RowKit

structure Fix (z : Int) (Q Q' : List (List Int) → Prop) : Prop where
  uniq : z = 0 → ∀ ys zs, Q ys → Q' zs → zs = ys
  small : z = 0 → ∀ ys, Q ys → ys.length ≤ 1000000 ∧ ∀ x ∈ ys, x.length ≤ 1000000
theorem Fix.use {z : Int} {Q Q' : List (List Int) → Prop} (h : Fix z Q Q') {ys zs : List (List Int)} (h1 : z = 0 → Q ys) (h2 : z ≠ 0 → ys = []) (h3 : z = 0 → Q' zs) (h4 : z ≠ 0 → zs = []) : zs = ys ∧ ys.length ≤ 1000000 ∧ ∀ x ∈ ys, x.length ≤ 1000000 := by
  by_cases hz : z = 0
  · have := h.small hz ys (h1 hz)
    exact ⟨h.uniq hz ys zs (h1 hz) (h3 hz), this.1, this.2⟩
  · rw [h2 hz, h4 hz]; simp
theorem minQ_same {P : List Int → Bool} {k lo hi : Nat} {a b : List (List Int)} (ha : MinQ P k lo hi a) (hb : MinQ P k lo hi b) : b = a := asc_ext hb.1 ha.1 fun x => (hb.2 x).trans (ha.2 x).symm
theorem minQ_small {P : List Int → Bool} {k lo hi : Nat} {ys : List (List Int)} (hk : k + 1 ≤ 6) (hh : hi ≤ 10) (h : MinQ P k lo hi ys) : ys.length ≤ 1000000 ∧ ∀ x ∈ ys, x.length ≤ 1000000 := by
  have h1 := asc_len (L := rvecs (k + 1) hi) h.1 fun v hv => by
    have h3 := ((h.2 v).1 hv).1
    exact mem_rvecs.2 ⟨h3.len, h3.pos, h3.le⟩
  have h2 := rvecs_len2 hk hh
  exact ⟨by omega, fun x hx => by have := ((h.2 x).1 hx).1.len; omega⟩
theorem mq_fix {A : List (List Int)} {b : List Int} {lo : Nat} {n z : Int} (h : z = 0 → shB A = true ∧ 0 ≤ n ∧ n ≤ 10) : Fix z (mQ A b lo n) (mQ A b lo n) := by
  refine ⟨fun _ ys zs h1 h2 => minQ_same h1 h2, fun hz ys hy => ?_⟩
  obtain ⟨h1, h2, h3⟩ := h hz
  have hS := shB_true.1 h1
  have := hS.n6
  have := hS.mat.c1.1
  exact minQ_small (by omega) (by omega) hy
theorem min_fix (A : List (List Int)) (b : List Int) (n : Int) : Fix (minE A b n) (mQ A b 0 n) (mQ A b 0 n) := mq_fix fun h => by
  unfold minE at h
  by_cases hc : chkE A b = 0
  · rw [if_pos hc] at h
    exact ⟨(chkE_zero.1 hc).1, sumE_zero.1 h⟩
  · rw [if_neg hc] at h; exact absurd h hc
theorem fre_fix (A : List (List Int)) (n : Int) : Fix (freE A n) (mQ A (List.replicate A.length 0) 1 n) (mQ A (List.replicate A.length 0) 1 n) := mq_fix fun h => by
  unfold freE at h
  by_cases hc : shB A = true
  · rw [if_pos hc] at h
    exact ⟨hc, sumE_zero.1 h⟩
  · rw [if_neg hc] at h; cases h

theorem pleB_isum {v x : List Int} (hl : v.length = x.length) (h : pleB v x = true) : isum v ≤ isum x := (vle_isum ⟨hl, pleB_true.1 h⟩).1
theorem splitG_filter {n s : Nat} {rec : List (List Int) → List Int → Option (List (List Int))} {x : List Int} (hxl : x.length = n) (hx : VFin x) (hs : isum x ≤ s)
    (hr : ∀ l y, (∀ v ∈ l, v.length = n ∧ VFin v) → y.length = n → VFin y → isum y ≤ s → rec (l.filter fun v => decide (isum v ≤ (s : Int))) y = rec l y) :
    ∀ l, (∀ v ∈ l, v.length = n ∧ VFin v) → splitG rec (l.filter fun v => decide (isum v ≤ (s : Int))) x = splitG rec l x
  | [], _ => rfl
  | v :: t, hl => by
    have ih := splitG_filter hxl hx hs hr t fun u hu => hl u (by simp [hu])
    obtain ⟨h1, h2⟩ := hl v (by simp)
    by_cases hp : pleB v x = true
    · have h3 := pleB_isum (h1.trans hxl.symm) hp
      have hd : decide (isum v ≤ (s : Int)) = true := decide_eq_true (by omega)
      have h4 := isum_sub hxl h1
      have h5 := (isum_ge fun y hy => (h2.el y hy).1).1
      have hrec := hr (v :: t) (subV n x v) hl subV_len (sub_fin hx h2 hxl h1 hp) (by omega)
      rw [List.filter_cons, if_pos hd] at hrec ⊢
      simp only [splitG, if_pos hp]
      rw [hxl, hrec, ih]
    · by_cases hd : decide (isum v ≤ (s : Int)) = true
      · rw [List.filter_cons, if_pos hd]
        simp only [splitG, if_neg hp]
        exact ih
      · rw [List.filter_cons, if_neg hd]
        simp only [splitG, if_neg hp]
        exact ih
theorem splitF_filter {n s : Nat} : ∀ (f : Nat) (l : List (List Int)) (x : List Int), (∀ v ∈ l, v.length = n ∧ VFin v) → x.length = n → VFin x → isum x ≤ s → splitF f (l.filter fun v => decide (isum v ≤ (s : Int))) x = splitF f l x
  | 0, l, x, _, _, _, _ => rfl
  | f + 1, l, x, hl, hxl, hx, hs => by
    simp only [splitF]
    split
    · rfl
    · exact splitG_filter hxl hx hs (fun l y h1 h2 h3 h4 => splitF_filter f l y h1 h2 h3 h4) l hl
theorem minQ_filter {P : List Int → Bool} {k s : Nat} {L L' : List (List Int)} (hs : s ≤ 10) (h : MinQ P k 1 10 L) (h' : MinQ P k 1 s L') : L' = L.filter fun v => decide (isum v ≤ (s : Int)) := by
  refine asc_ext h'.1 (h.1.sublist List.filter_sublist) fun x => (h'.2 x).trans ?_
  rw [List.mem_filter, h.2 x]
  constructor
  · rintro ⟨h1, h2⟩
    refine ⟨⟨⟨h1.len, h1.pos, h1.ge, by have := h1.le; omega, h1.sol⟩, fun y hy hle => ?_⟩, decide_eq_true h1.le⟩
    have := (vle_isum hle).1
    exact h2 y ⟨hy.len, hy.pos, hy.ge, by have := h1.le; omega, hy.sol⟩ hle
  · rintro ⟨⟨h1, h2⟩, h3⟩
    refine ⟨⟨h1.len, h1.pos, h1.ge, of_decide_eq_true h3, h1.sol⟩, fun y hy hle => ?_⟩
    exact h2 y ⟨hy.len, hy.pos, hy.ge, by have := hy.le; omega, hy.sol⟩ hle
theorem spl_fix (A : List (List Int)) (x : List Int) : Fix (sclE A x) (sQ A x) (rsQ A x) := by
  have key : sclE A x = 0 → shB A = true ∧ x.length = (A.getD 0 []).length ∧ smallB x = true := fun h => by
    unfold sclE at h
    by_cases h1 : shB A = true
    · rw [if_pos h1] at h
      by_cases h2 : x.length = (A.getD 0 []).length
      · rw [if_pos h2] at h
        by_cases h3 : smallB x = true
        · exact ⟨h1, h2, h3⟩
        · rw [if_neg h3] at h; cases h
      · rw [if_neg h2] at h; cases h
    · rw [if_neg h1] at h; cases h
  constructor
  · rintro hz ys zs ⟨L, hL, rfl⟩ ⟨L', hL', rfl⟩
    obtain ⟨h1, h2, h3⟩ := key hz
    obtain ⟨h4, h5⟩ := smallB_true.1 h3
    have hS := shB_true.1 h1
    have hn6 := hS.n6
    have hn1 := hS.mat.c1.1
    have h0 := (isum_ge h4).1
    have hle : (isum x).toNat ≤ 10 := by omega
    have e := minQ_filter hle hL hL'
    rw [e, splitF_filter (n := (A.getD 0 []).length) (s := (isum x).toNat) 10 L x (fun v hv => by
      have h6 := ((hL.2 v).1 hv).1
      exact ⟨by have := h6.len; omega, vval_small (M := 10) (by have := h6.len; omega) h6.pos (by have := h6.le; omega) (by omega)⟩) h2 (vval_small (M := 10) (by omega) h4 h5 (by omega)) (by omega)]
  · rintro hz ys ⟨L, hL, rfl⟩
    obtain ⟨h1, h2, h3⟩ := key hz
    obtain ⟨h4, h5⟩ := smallB_true.1 h3
    have hS := shB_true.1 h1
    have hn6 := hS.n6
    have hn1 := hS.mat.c1.1
    have hfx : VFin x := vval_small (M := 10) (by omega) h4 h5 (by omega)
    have hsp := (minQ_spl (by omega) hL).1
    cases ho : splitF 10 L x with
    | none => simp
    | some ys =>
      have g1 := splitF_len 10 L x ys hsp hfx (by omega) ho
      have g2 := splitF_sound 10 L x ys hsp hL.1 hfx (by omega) ho
      refine ⟨?_, fun v hv => ?_⟩
      · show ys.length ≤ 1000000
        omega
      · have g3 := hsp.len v (g2.mem v hv)
        omega
end Go.Proofs.Ythpobeeccgmieaa

namespace Go.Proofs.Ythpobeeccgmieaa
set_option linter.unusedVariables false
open Go.RowKit
theorem IsRow.isI {w : World} {a : Option Addr} {len cap : Nat} {zs : List Int} (h : IsRow .i64 w a len cap zs) : IsI w [] (.slice a len cap) (zs.take len) ∧ len = (zs.take len).length := by
  rcases h with ⟨rfl, rfl, rfl, rfl⟩ | ⟨x, rfl, h1, h2, h3, h4, _⟩
  · exact ⟨IsI.nil, rfl⟩
  · have hl : len = (zs.take len).length := by rw [List.length_take]; omega
    refine ⟨IsI.mk hl h1 (fun h => by cases h) fun hn => ⟨x, rfl, by simp, fun i hi => ?_⟩, hl⟩
    have := h4 i (by omega)
    rw [this]
    simp [List.getD_eq_getElem?_getD, List.getElem?_take, hi]
end Go.Proofs.Ythpobeeccgmieaa

namespace Go.Proofs.Ythpobeeccgmieaa
set_option linter.unusedVariables false
open Go.RowKit
def IsRows (w : World) (a : Option Addr) (len cap : Nat) (zs : List (List Int)) : Prop := IsII w [] (.slice a len cap) zs ∧ len = zs.length ∧ len ≤ maxLen
theorem IsRows.nil {w : World} : IsRows w none 0 0 [] := ⟨IsII.nil, rfl, Nat.zero_le _⟩
theorem IsRows.mk {w : World} {a : Addr} {len cap : Nat} {A : Nat → Option Addr} {L C : Nat → Nat} {Z : Nat → List Int} (hl : len ≤ cap) (hm : cap ≤ maxLen)
    (h : ∀ r, r < cap → w.cell? (a.add r) = some (.slice (A r) (L r) (C r)) ∧ L r ≤ C r ∧ C r ≤ maxLen ∧ (Z r).length = C r ∧ (∀ n ∈ Z r, (Lit.int .i64 n).wf = true) ∧ (A r = none → C r = 0) ∧
        ∀ a', A r = some a' → 0 ≤ a'.block ∧ ∀ c, c < C r → w.cell? (a'.add c) = some (.int .i64 ((Z r).getD c 0))) :
    ∃ zs, IsRows w (some a) len cap zs := by
  refine ⟨(List.range len).map fun r => (Z r).take (L r), ⟨some a, cap, fun r => .slice (A r) (L r) (C r), by simp, by simpa using hl, (fun h => by cases h), fun hn => ⟨a, rfl, by simp, fun i hi => ?_⟩, fun i hi => ?_⟩, by simp, by omega⟩
  · simp only [List.length_map, List.length_range] at hi
    exact (h i (by omega)).1
  · simp only [List.length_map, List.length_range] at hi
    obtain ⟨h1, h2, h3, h4, h5, h6, h7⟩ := h i (by omega)
    have e : ((List.range len).map fun r => (Z r).take (L r)).getD i [] = (Z i).take (L i) := by
      simp [List.getD_eq_getElem?_getD, hi]
    rw [e]
    have hll : L i = ((Z i).take (L i)).length := by rw [List.length_take]; omega
    refine IsI.mk hll h2 h6 fun hn => ?_
    cases ha : A i with
    | none => have := h6 ha; omega
    | some a' =>
      refine ⟨a', rfl, by simp, fun j hj => ?_⟩
      rw [(h7 a' ha).2 j (by omega)]
      simp [List.getD_eq_getElem?_getD, List.getElem?_take, hj]
end Go.Proofs.Ythpobeeccgmieaa

namespace Go.Proofs.Ythpobeeccgmieaa
set_option linter.unusedVariables false
open Go.RowKit

def narB (L : List (List Int)) : Bool := L.all (fun r => decide (r.length ≤ 20)) && decide (L.length ≤ 20)
theorem narB_true {L : List (List Int)} : narB L = true ↔ (∀ r ∈ L, r.length ≤ 20) ∧ L.length ≤ 20 := by
  unfold narB; rw [Bool.and_eq_true, List.all_eq_true, decide_eq_true_eq]; simp
set_option maxHeartbeats 400000 in
theorem narrow_is {w : World} {l : List Nat} {A : Option Addr} {n c : Nat} {L : List (List Int)} (h : IsII w l (.slice A n c) L) (hn : n = L.length) (hm : n ≤ maxLen) :
    Calls Try.prog 10 #[.slice A n c] w fun e w' => e = .returned (.bool (narB L)) ∧ w = w' := by
  obtain ⟨A', c', e, hr⟩ := h.mrow
  rw [← hn] at e hr
  obtain ⟨rfl, rfl⟩ : A = A' ∧ c = c' := by injection e with e1 _ e3; exact ⟨e1, e3⟩
  have hyes : (∀ i, i < n → (L.getD i []).length ≤ 20) → narB L = decide (n ≤ 20) := fun h => by
    unfold narB
    rw [← hn, List.all_eq_true.2 (fun r hr => by obtain ⟨i, hi, rfl⟩ := mem_getD (d := []) hr; exact decide_eq_true (h i (by omega))), Bool.true_and]
  have hno : ∀ i, i < n → ¬ (L.getD i []).length ≤ 20 → narB L = false := fun i hi h => by
    rw [← Bool.not_eq_true, narB_true]
    exact fun h2 => h (h2.1 _ (getD_mem (by omega)))
  have hmx : n ≤ 9223372036854775807 := by unfold maxLen at hm; omega
  generalize narB L = Z at *
  clear e
  have H := Lib.hid h
  have HN := Lib.hid hn
  have HR := Lib.hid hr
  have HYES := Lib.hid hyes
  have HNO := Lib.hid hno
  have HM := Lib.hid hm
  clear h hn hr hyes hno hm
  go_enter Try.func10, Try.ntmps10
  go_wp2_with fail
  go_loopg [6] (n + 1) (fun gh kv wr => ∃ k : Nat, n + 1 ≤ k + gh ∧ k ≤ n ∧ kv = .int .i64 (k : Int) ∧ (∀ i, i < k → (L.getD i []).length ≤ 20) ∧ w = wr)
  case atStart => exact ⟨0, by omega, by omega, rfl, fun i hi => by omega, rfl⟩
  case round =>
    obtain ⟨k, hgh, hk, rfl, hs, rfl⟩ := hrel
    by_cases hlt : k < n
    · obtain ⟨pa, B, cb, rfl, hpa, _⟩ := HR.out k hlt
      by_cases hl : (L.getD k []).length ≤ 20
      · have hs2 : ∀ i, i < k + 1 → (L.getD i []).length ≤ 20 := fun i hi => by
          by_cases e : i = k
          · rw [e]; exact hl
          · exact hs i (by omega)
        generalize (L.getD k []).length = m at *
        have hd : decide ((20 : Int) < (m : Int)) = false := decide_eq_false (by omega)
        have HS := Lib.hid hs
        have HS2 := Lib.hid hs2
        clear hs hs2
        go_wp2_with fail
        go_roundg (n - k)
        case measure => omega
        case rel => exact ⟨k + 1, by omega, by omega, by go_num, HS2.out, rfl⟩
      · have hz := HNO.out k hlt hl
        generalize (L.getD k []).length = m at *
        have hd : decide ((20 : Int) < (m : Int)) = true := decide_eq_true (by omega)
        have HS := Lib.hid hs
        have HZ := Lib.hid hz
        clear hs hz
        go_wp2_with fail
        go_ret
        exact ⟨ret_b HZ.out, rfl⟩
    · obtain rfl : k = n := by omega
      have hz := HYES.out hs
      have hd : decide ((k : Int) ≤ 20) = decide (k ≤ 20) := by
        by_cases e : k ≤ 20
        · rw [decide_eq_true e]; exact decide_eq_true (by omega)
        · rw [decide_eq_false e]; exact decide_eq_false (by omega)
      generalize decide (k ≤ 20) = q at *
      have HS := Lib.hid hs
      have HZ := Lib.hid hz
      clear hs hz
      go_wp2_with fail
      go_ret
      exact ⟨ret_b HZ.out, rfl⟩
end Go.Proofs.Ythpobeeccgmieaa
