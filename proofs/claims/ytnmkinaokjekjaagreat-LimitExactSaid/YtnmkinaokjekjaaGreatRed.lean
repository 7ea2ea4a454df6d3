/- The walks of limit's side: the relation that it is told, and what is needed of a list. -/
import Derived.Test.YtnmkinaokjekjaaGreatVecF
import Derived.Test.YtnmkinaokjekjaaGreatVCmp
import Derived.Test.YtnmkinaokjekjaaGreatCloneR
import Derived.Test.YtnmkinaokjekjaaGreatBeyL
import Derived.Test.YtnmkinaokjekjaaGreatStep
import Derived.Deep.RegionHeld3
namespace Go.Proofs.YtnmkinaokjekjaaGreat
set_option linter.unusedVariables false
open Go.RowKit

/-- Function gc tells of two vectors that are as P says what cov says. -/
def CovF (gc : Nat) (cov : List Int → List Int → Bool) (P : List Int → Prop) : Prop := ∀ (W : World) (l : List Nat) (u u' : Value) (x y : List Int), P x → P y → IsI W l u x → IsI W l u' y → Calls Tryz.prog gc #[u, u'] W (RetB (cov x y) W)

set_option maxHeartbeats 400000 in
theorem greatest1_is {w : World} {l : List Nat} {av bv : Value} {a b : List Int} (ha : IsI w l av a) (hb : IsI w l bv b) (hn : a.length ≤ 1000000) (hm : b.length ≤ 1000000) : Calls Tryz.prog 67 #[av, bv] w (RetB (covG a b) w) := by
  unfold RetB
  have hc := leq_is hb ha hm hn
  obtain ⟨A, c, rfl, _⟩ := ha.open
  obtain ⟨B, c', rfl, _⟩ := hb.open
  unfold covG
  generalize vleB b a = r at *
  have HC := Lib.hid hc
  have HA := Lib.hid ha
  have HB := Lib.hid hb
  clear hc ha hb
  go_enter Tryz.func67, Tryz.ntmps67
  go_wp2_with fail
  refine HC.out.mono ?_
  rintro e w1 ⟨rfl, hk⟩
  have HK := Lib.hid hk
  clear hk
  go_wp2_with fail
  go_ret
  exact ⟨rfl, HK.out⟩
theorem covF_G : CovF 67 covG (fun x => x.length ≤ 1000000) := fun W l u u' x y hx hy hu hu' => greatest1_is hu hu' hx hy
theorem covF_A (n : Nat) (hn : n ≤ 1000000) : CovF 60 vltB (fun x => x.length = n) := fun W l u u' x y hx hy hu hu' => by
  rw [ple_vlt (hx.trans hy.symm)]
  exact above1_is hu hu' (Nat.le_of_eq (hx.trans hy.symm)) (by omega)
theorem covF_L : CovF 68 vleB (fun x => x.length ≤ 1000000) := fun W l u u' x y hx hy hu hu' => leq_is hu hu' hx hy

set_option maxHeartbeats 400000 in
theorem reduced1_is {w : World} {l : List Nat} {uv vv : Value} {x v : List Int} {gc sb vc : Nat} {cov : List Int → List Int → Bool} {P : List Int → Prop} (hc : CovF gc cov P) (eg : ∀ args w, (callFunc gc args).run Tryz.prog w = .ok (.enter gc args) w) (h1 : w.cell? ⟨sb, 1, none⟩ = some (.func (.func gc) #[] #[])) (h2 : w.cell? ⟨vc, 0, none⟩ = some vv) (hu : IsI w l uv x) (hv : IsI w l vv v) (hx : P x) (hy : P v) :
    Calls Tryz.prog 72 #[uv, .pointer (some ⟨sb, 0, none⟩), .pointer (some ⟨vc, 0, none⟩)] w (RetB (cov x v) w) := by
  unfold RetB
  have hcall := hc w l _ _ x v hx hy hu hv
  obtain ⟨A, c, rfl, _⟩ := hu.open
  obtain ⟨B, c', rfl, _⟩ := hv.open
  generalize (cov x v) = r at *
  have HCALL := Lib.hid hcall
  have HU := Lib.hid hu
  have HV := Lib.hid hv
  have HC := Lib.hid hc
  clear hcall hu hv hc
  go_enter Tryz.func72, Tryz.ntmps72
  go_wp2_with (go_at_fn gc; refine HCALL.out.mono ?_; rintro e w1 ⟨rfl, hk⟩)
  have HK := Lib.hid hk
  clear hk
  go_ret
  exact ⟨rfl, HK.out⟩
set_option maxHeartbeats 400000 in
theorem reduced2_is {w : World} {l : List Nat} {uv vv : Value} {x v : List Int} {gc sb vc : Nat} {cov : List Int → List Int → Bool} {P : List Int → Prop} (hc : CovF gc cov P) (eg : ∀ args w, (callFunc gc args).run Tryz.prog w = .ok (.enter gc args) w) (h1 : w.cell? ⟨sb, 1, none⟩ = some (.func (.func gc) #[] #[])) (h2 : w.cell? ⟨vc, 0, none⟩ = some vv) (hu : IsI w l uv x) (hv : IsI w l vv v) (hx : P x) (hy : P v) :
    Calls Tryz.prog 74 #[uv, .pointer (some ⟨sb, 0, none⟩), .pointer (some ⟨vc, 0, none⟩)] w (RetB (cov v x) w) := by
  unfold RetB
  have hcall := hc w l _ _ v x hy hx hv hu
  obtain ⟨A, c, rfl, _⟩ := hu.open
  obtain ⟨B, c', rfl, _⟩ := hv.open
  generalize (cov v x) = r at *
  have HCALL := Lib.hid hcall
  have HU := Lib.hid hu
  have HV := Lib.hid hv
  have HC := Lib.hid hc
  clear hcall hu hv hc
  go_enter Tryz.func74, Tryz.ntmps74
  go_wp2_with (go_at_fn gc; refine HCALL.out.mono ?_; rintro e w1 ⟨rfl, hk⟩)
  have HK := Lib.hid hk
  clear hk
  go_ret
  exact ⟨rfl, HK.out⟩

/-- What is needed of a list, ascending, in the call's own memory. -/
def RedPost (l : List Nat) (cov : List Int → List Int → Bool) (L : List (List Int)) (w : World) (e : Ending) (w' : World) : Prop :=
  ∃ A n c ys, n = (ys : List (List Int)).length ∧ e = .returned (.slice A n c) ∧ Asc ys ∧ (∀ x, x ∈ ys ↔ MaxOf cov L x) ∧ OwL IsI [] 22 w.heap.size w' l (.slice A n c) ys ∧ Keeps [] w w'

theorem redS_len {cov : List Int → List Int → Bool} {out : List (List Int)} {v : List Int} : (redS cov out v).length ≤ out.length + 1 := by
  unfold redS
  split
  · omega
  · have := List.length_filter_le (fun x => !cov v x) out
    simp only [List.length_append, List.length_singleton]; omega

set_option maxRecDepth 100000 in
set_option maxHeartbeats 4000000 in
theorem reduced_is {w : World} {l : List Nat} {lv : Value} {L : List (List Int)} {gr gc : Nat} {cov : List Int → List Int → Bool} {P : List Int → Prop} (hl : ∀ y ∈ l, y < w.heap.size) (hcov : CovF gc cov P) (egc : ∀ args w, (callFunc gc args).run Tryz.prog w = .ok (.enter gc args) w) (ho : OrdOn cov L) (hP : ∀ x ∈ L, P x ∧ x.length ≤ 1000000) (h : IsII w l lv L) (hn : L.length ≤ 100000000) :
    Calls Tryz.prog 37 #[.agg #[.func (.func gr) #[] #[], .func (.func gc) #[] #[]], lv] w (RedPost l cov L w) := by
  unfold RedPost
  obtain ⟨A0, c0, V, rfl, _, _, hcell, hval⟩ := h
  have hal : Keeps [] w (w.alloc (.cells #[.func (.func gr) #[] #[], .func (.func gc) #[] #[]] 55)) := (Keeps.refl _ _).alloc _
  have hsb := World.cell?_alloc_new w #[.func (.func gr) #[] #[], .func (.func gc) #[] #[]] 55 1
  have hz0 : w.heap.size + 1 = (w.alloc (.cells #[.func (.func gr) #[] #[], .func (.func gc) #[] #[]] 55)).heap.size := by simp
  have eg1 := enters_of Tryz.func72 (by kernel_rfl) rfl
  have eg2 := enters_of Tryz.func74 (by kernel_rfl) rfl
  have egd := enters_of Tryz.func73 (by kernel_rfl) rfl
  have egk := enters_of Tryz.func75 (by kernel_rfl) rfl
  have egv := enters_of Tryz.func36 (by kernel_rfl) rfl
  have hred := fun k (hk : k ≤ L.length) => redI_take ho hk
  have hinv := redF_inv ho
  have hmem := fun x => redF_mem (x := x) ho
  generalize hLn : L.length = n at *
  have HCELL := Lib.hid hcell
  have HVAL := Lib.hid hval
  have HAL := Lib.hid hal
  have HCOV := Lib.hid hcov
  have HP := Lib.hid hP
  have HL := Lib.hid hl
  have HLN := Lib.hid hLn
  have HRED := Lib.hid hred
  have HINV := Lib.hid hinv
  have HMEM := Lib.hid hmem
  have HO := Lib.hid ho
  clear hcell hval hal hcov hP hl hLn hred hinv hmem ho
  have HSB := Lib.hid hsb
  clear hsb
  go_enter Tryz.func37, Tryz.ntmps37
  go_wp2_with fail
  generalize w.alloc (.cells #[.func (.func gr) #[] #[], .func (.func gc) #[] #[]] 55) = w0 at *
  have hz1 := HAL.out.size
  go_loopg [5, 10] (n + 1) (fun gh sv kv wr => ∃ (k : Nat) (A : Option Addr) (m c : Nat), n + 1 ≤ k + gh ∧ k ≤ n ∧ kv = .int .i64 (k : Int) ∧ sv = .slice A m c ∧ m = (redF cov (L.take k)).length ∧ OwL IsI [] 22 w0.heap.size wr l (.slice A m c) (redF cov (L.take k)) ∧ Keeps [] w0 wr)
  case atStart => exact ⟨0, none, 0, 0, by omega, by omega, rfl, rfl, rfl, OwL.nil, Keeps.refl _ _⟩
  case round =>
    obtain ⟨k, A, m, c, hgh, hk, rfl, rfl, hm, hO, hkr⟩ := hrel
    have hzr := hkr.size
    have hri := HRED.out k hk
    have hml : m ≤ 100000000 := by
      have := hri.len
      rw [List.length_take] at this
      omega
    by_cases hlt : k < n
    · obtain ⟨a, rfl, ha⟩ := (HCELL.out.keeps ((HAL.out.trans hkr).nil l)).at_ hlt
      have hvI := (HVAL.out k hlt).keeps ((HAL.out.trans hkr).nil l)
      have hsb := hkr.read HSB.out (by simp)
      have hpv := HP.out _ (getD_mem (d := []) (show k < L.length by rw [HLN.out]; exact hlt))
      have hsn : L.take (k + 1) = L.take k ++ [L.getD k []] := by
        rw [List.take_succ_eq_append_getElem (by rw [HLN.out]; exact hlt)]
        simp [List.getD_eq_getElem?_getD, show k < L.length by rw [HLN.out]; exact hlt]
      have hrs : redF cov (L.take (k + 1)) = redS cov (redF cov (L.take k)) (L.getD k []) := by rw [hsn, redF_snoc]
      have hPo : ∀ x ∈ redF cov (L.take k), P x ∧ x.length ≤ 1000000 := fun x hx => HP.out x (List.mem_of_mem_take (hri.sub x hx))
      generalize redF cov (L.take k) = out at *
      generalize hgv : L.getD k [] = v at *
      have HGV := Lib.hid hgv
      obtain ⟨B, cb, hVk, _⟩ := hvI.open
      have hv0 := HVAL.out k hlt
      rw [HGV.out, hVk] at hv0
      rw [hVk] at ha hvI
      generalize hvn : v.length = vn at *
      have halr : Keeps [] wr (wr.alloc (.cells #[.slice B vn cb] 22)) := (Keeps.refl _ _).alloc _
      have hvc := World.cell?_alloc_new wr #[.slice B vn cb] 22 0
      have hsb1 := halr.read hsb (by simp)
      have hl1 : ∀ y ∈ l, y < wr.heap.size := fun y hy => Nat.lt_of_lt_of_le (HL.out y hy) (by omega)
      have hob0 := hO.blocks
      have hO1 := hO.new halr
      have hv1 := hvI.new halr
      have hin1 := hO1.isL (fun y hy => by have := HL.out y hy; omega)
      subst hm
      have hany := ans_rows (g := 72) (lb := #[.pointer (some ⟨w.heap.size, 0, none⟩), .pointer (some ⟨wr.heap.size, 0, none⟩)]) (p := fun i => cov (out.getD i []) v) hin1 (by omega) eg1 (fun W i u hi hK hu =>
        reduced1_is (l := l) HCOV.out egc (hK.read hsb1 (by simp)) (hK.read hvc (by simp)) hu (hv1.new hK) (hPo _ (getD_mem hi)).1 hpv.1)
      have hdr : anyB out.length (fun i => cov (out.getD i []) v) = out.any (fun x => cov x v) := by
        rw [Bool.eq_iff_iff, anyB_true, List.any_eq_true]
        constructor
        · rintro ⟨i, hi, h⟩; exact ⟨_, getD_mem hi, h⟩
        · rintro ⟨x, hx, h⟩
          obtain ⟨i, hi, e⟩ := mem_getD (d := []) hx
          exact ⟨i, hi, by rw [e]; exact h⟩
      rw [hdr] at hany
      have hK1 := hkr.trans halr
      have hzw : wr.heap.size < (wr.alloc (.cells #[.slice B vn cb] 22)).heap.size := by simp
      cases hq : out.any (fun x => cov x v) with
      | true =>
        rw [hq] at hany
        have hs : redS cov out v = out := by unfold redS; rw [if_pos hq]
        rw [hs] at hrs
        have HANY := Lib.hid hany
        have HRS := Lib.hid hrs
        have HO1 := Lib.hid hO1
        have HK1 := Lib.hid hK1
        clear hany hrs hO1 hK1
        clear hq hdr hs hsn hri hPo hO hin1 hvI hv1 hv0 hkr halr hgv hsb hpv
        go_wp2_with fail
        refine HANY.out.mono ?_
        rintro e w2 ⟨rfl, hk2⟩
        have hO2 := HO1.out.new hk2
        have hK2 := HK1.out.trans hk2
        have HO2 := Lib.hid hO2
        have HK2 := Lib.hid hK2
        clear hO2 hK2
        clear hk2
        go_wp2_with fail
        go_roundg (n - k)
        case measure => omega
        case rel => exact ⟨k + 1, A, out.length, c, by omega, by omega, by go_num, rfl, by rw [HRS.out], by rw [HRS.out]; exact HO2.out, HK2.out⟩
      | false =>
        rw [hq] at hany
        have hs : redS cov out v = out.filter (fun x => !cov v x) ++ [v] := by unfold redS; rw [if_neg (by rw [hq]; simp)]
        rw [hs] at hrs
        have hod := delL_filter (fun x => cov v x) out
        have hodl := List.length_filter_le (fun x => !cov v x) out
        have HVN := Lib.hid hvn
        have HANY := Lib.hid hany
        have HRS := Lib.hid hrs
        have HO1 := Lib.hid hO1
        have HK1 := Lib.hid hK1
        have HPO := Lib.hid hPo
        have HV0 := Lib.hid hv0
        have HPV := Lib.hid hpv
        have HOD := Lib.hid hod
        have HOB0 := Lib.hid hob0
        clear hany hrs hO1 hK1 hPo hv0 hpv hod hob0
        clear hq hdr hs hsn hri hO hin1 hvI hv1 hgv hsb
        go_wp2_with fail
        refine HANY.out.mono ?_
        rintro e w2 ⟨rfl, hk2⟩
        have hz2 := hk2.size
        have hO2 := HO1.out.new (hk2.trans (Keeps.refl [] w2).drew)
        have hKw : Keeps [] w w2.drew := (HAL.out.trans (HK1.out.trans hk2)).drew
        have hvc2 := hk2.read hvc (by simp)
        have hsb2 := hk2.read hsb1 (by simp)
        have hK2 := HK1.out.trans hk2
        have hnL : ∀ q, q < w0.heap.size ∨ q = wr.heap.size → q ∉ (Value.slice A out.length c).ownBlock.toList := fun q hq hm => by
          have := HOB0.out q hm
          omega
        have hOI := hO2.blocks
        have hdel := delete_rows (base := w0.heap.size) (l := l) (g := 74) (cb := #[.pointer (some ⟨w.heap.size, 0, none⟩), .pointer (some ⟨wr.heap.size, 0, none⟩)]) (p := fun i => cov v (out.getD i [])) hO2 (fun y hy => by have := HL.out y hy; omega) (by omega) eg2 (fun W i u hi hK hu =>
          reduced2_is (l := (Value.slice A out.length c).ownBlock.toList ++ l) HCOV.out egc (hK.read (show w2.drew.cell? _ = _ from hsb2) (hnL _ (.inl (by show w.heap.size < w0.heap.size; omega)))) (hK.read (show w2.drew.cell? _ = _ from hvc2) (hnL _ (.inr rfl))) hu (Rok.keeps (Rok.weak HV0.out (fun y hy => by
            rcases List.mem_append.1 hy with h | h
            · exact .inr (by have := (hOI y h).1; omega)
            · exact .inl h)) ((hKw.nil _).trans (hK.more (fun y hy => List.mem_append.2 (.inl hy))))) (HPO.out _ (getD_mem hi)).1 HPV.out.1)
        rw [HOD.out] at hdel
        generalize out.filter (fun x => !cov v x) = od at *
        generalize hodn : od.length = odn at *
        have hlb : ∀ q ∈ l, q < w0.heap.size := fun y hy => by have := HL.out y hy; omega
        have HODN := Lib.hid hodn
        have HDEL := Lib.hid hdel
        have HO2 := Lib.hid hO2
        have HKW := Lib.hid hKw
        have HK2 := Lib.hid hK2
        have HNL := Lib.hid hnL
        have HLB := Lib.hid hlb
        clear hdel hO2 hKw hK2 hnL hlb
        clear hk2 hodn hOI hvn
        go_upto_region 6 with fail
        go_region_held3 (fun W => W.cell? ⟨wr.heap.size, 0, none⟩ = some (.slice B vn cb)) (exact cell_now (a := w2) ((Value.slice A out.length c).ownBlock.toList) hvc2 (HNL.out _ (.inr rfl))) (first
          | (have _t := hOC; refine step_pushg sl_rowsi rfl (.tmp 19) (.tmp 22) rfl (w := wC) (v := .slice AD odn cD) (by first | (simp [Act.eval]; done) | (simp only [Act.eval, Act.put]; simp; done) | simp [Act.eval, Act.put]) (by first | (simp [Act.eval]; done) | (simp only [Act.eval, Act.put]; simp; done) | simp [Act.eval, Act.put]) (hOD.new hkC) hcp (m := odn + 1) (by rw [HODN.out]) (by omega) (Nat.le_trans hzD hkC.size) ?_; intro V2 c2 w3 hO3 hg3 hnew; haveI kb3 : KB ((Value.slice A out.length c).ownBlock.toList) w3 wC := ⟨hg3.more hsD⟩)
          | (have _t := hOD; refine step_call1 rfl 75 (.tmp 20) #[22] rfl egk (clone_is (l := (Value.slice AD odn cD).ownBlock.toList ++ l) hvD (by rw [HVN.out]; exact HPV.out.2)) (by first | (simp [Act.eval]; done) | (simp only [Act.eval, Act.put]; simp; done) | simp [Act.eval, Act.put]) ?_; rintro e wC ⟨Ac, cc, rfl, hOC, hkC⟩; refine ⟨_, rfl, ?_⟩; haveI kbC : KB ((Value.slice A out.length c).ownBlock.toList) wC _ := ⟨hkC.nil _⟩; have hcp := hOC.isL (l := (Value.slice AD odn cD).ownBlock.toList ++ l) (fun y hy => by rcases List.mem_append.1 hy with h | h; exact (hODb y h).2; have := HLB.out y h; omega))
          | (refine step_callw 73 #[.tmp 17, .tmp 18] #[23, 25] rfl egd HDEL.out (by first | rfl | (simp [Region.wanted, yielded]; done) | simp [Region.wanted, yielded, Act.put]) (by first | (simp [Act.eval]; done) | (simp only [Act.eval, Act.put]; simp; done) | simp [Act.eval, Act.put]) ?_; rintro e wD ⟨AD, cD, rfl, hOD, hkD, hsD⟩; refine ⟨_, rfl, ?_⟩; haveI kbD : KB ((Value.slice A out.length c).ownBlock.toList) wD _ := ⟨hkD⟩; rw [HODN.out] at hOD hsD ⊢; have hODb := hOD.blocks; have hzD : w0.heap.size ≤ wD.heap.size := Nat.le_trans (Nat.le_trans HK2.out.size (Nat.le_refl _)) hkD.size; have hvD : IsI wD ((Value.slice AD odn cD).ownBlock.toList ++ l) (.slice B vn cb) v := Rok.keeps (Rok.weak HV0.out (fun y hy => by rcases List.mem_append.1 hy with h | h; exact .inr (by have := (hODb y h).1; omega); exact .inl h)) ((HKW.out.step hkD (fun y hy => .inr (by have := (HO2.out.blocks y hy).1; omega))).nil _)))
        all_goals
          have hkf : Keeps ((Value.slice A out.length c).ownBlock.toList) w2 w3 := kf _ w2 w3
          have hK3 : Keeps [] w0 w3 := HK2.out.step hkf (fun y hy => .inr (HO2.out.blocks y hy).1)
          have HO3 := Lib.hid hO3
          have HK3 := Lib.hid hK3
          clear hO3 hK3
          clear hg3 hnew hkf hkC hkD hcp hOC hOD hODb hvD hsD
          go_wp2_with fail
          go_roundg (n - k)
          case measure => omega
          case rel => exact ⟨k + 1, V2, odn + 1, c2, by omega, by omega, by go_num, rfl, by rw [HRS.out, List.length_append, HODN.out]; rfl, by rw [HRS.out]; exact HO3.out, HK3.out⟩
    · obtain rfl : k = n := by omega
      have htk : L.take k = L := List.take_of_length_le (by rw [HLN.out]; exact Nat.le_refl _)
      rw [htk] at hO hm
      have hsub : ∀ x ∈ redF cov L, x.length ≤ 1000000 := fun x hx => (HP.out x (HINV.out.sub x hx)).2
      have hsort := sort_own Tryz.sorts76 cmpL_swo egv hO (cb := #[]) (fun b hb => cmpR_vec hsub) (by omega)
      change Calls Tryz.prog 76 _ _ _ at hsort
      have hob := hO.blocks
      have HSORT := Lib.hid hsort
      have HOB := Lib.hid hob
      have HO := Lib.hid hO
      have HKR := Lib.hid hkr
      have HTK := Lib.hid htk
      have HM := Lib.hid hm
      have HSUB := Lib.hid hsub
      clear hsort hob hO hkr htk hm hsub
      go_wp2_with fail
      refine HSORT.out.mono ?_
      rintro e w3 ⟨rfl, ys, hp, hs, hO3, hk3⟩
      have hasc := asc_of_sorted hs (hp.nodup_iff.2 HINV.out.nodup)
      have hys : ∀ x, x ∈ ys ↔ MaxOf cov L x := fun x => hp.mem_iff.trans (HMEM.out x)
      have hyl : m = ys.length := by rw [hp.length_eq, HM.out]
      have hK3 : Keeps [] w w3 := (HAL.out.trans HKR.out).step hk3 (fun y hy => .inr (by have := (HOB.out y hy).1; omega))
      have hO4 := hO3.low hz1
      have HASC := Lib.hid hasc
      have HYS := Lib.hid hys
      have HYL := Lib.hid hyl
      have HK3 := Lib.hid hK3
      have HO4 := Lib.hid hO4
      clear hasc hys hyl hK3 hO4
      clear hp hs hO3 hk3
      go_wp2_with fail
      go_ret
      exact ⟨A, m, c, ys, HYL.out, rfl, HASC.out, HYS.out, HO4.out, HK3.out⟩
end Go.Proofs.YtnmkinaokjekjaaGreat
