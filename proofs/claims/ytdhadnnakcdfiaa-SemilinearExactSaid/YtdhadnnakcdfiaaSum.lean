/- The walk of semilinear's Sum. -/
import Derived.Test.YtdhadnnakcdfiaaSortS
import Derived.Test.YtdhadnnakcdfiaaWithin
namespace Go.Proofs.Ytdhadnnakcdfiaa
set_option linter.unusedVariables false
open Go.RowKit

structure SumOk (n : Int) (a b : Lin) (zs : List (List Int)) : Prop where
  ga : GoodAll n [a]
  gb : GoodAll n [b]
  rng : InRng 16 (addV a.base b.base)
  asc : Asc zs
  mem : ∀ x, x ∈ zs ↔ x ∈ a.per ∨ x ∈ b.per
  few : zs.length ≤ 3
def SumBad (n : Int) (a b : Lin) (z : Int) : Prop :=
  (chk2 n a b ≠ 0 ∧ z = chk2 n a b) ∨ (chk2 n a b = 0 ∧ z = 1 ∧ (¬ InRng 16 (addV a.base b.base) ∨ ∃ zs, Asc zs ∧ (∀ x, x ∈ zs ↔ x ∈ a.per ∨ x ∈ b.per) ∧ 3 < zs.length))
def SumPost (n : Int) (a b : Lin) (l : List Nat) (w : World) (e : Ending) (w' : World) : Prop :=
  Keeps [] w w' ∧ ((∃ z, e = .returned (.tuple #[.agg #[.slice none 0 0, .slice none 0 0], .int .i64 z]) ∧ SumBad n a b z) ∨
    ∃ A n1 c A' m c' zs, e = .returned (.tuple #[.agg #[.slice A n1 c, .slice A' m c'], .int .i64 0]) ∧ SumOk n a b zs ∧ IsI w' l (.slice A n1 c) (addV a.base b.base) ∧ IsII w' l (.slice A' m c') zs)


set_option maxRecDepth 100000 in
set_option maxHeartbeats 8000000 in
theorem sum_is {w : World} {l : List Nat} {n : Int} {u pv u' pv' : Value} {a b : Lin} (hl : ∀ y ∈ l, y < w.heap.size) (h : IsLin w l u pv a) (ha : a.Small) (h' : IsLin w l u' pv' b) (hb : b.Small) :
    Calls Try.prog 30 #[.int .i64 n, .agg #[u, pv], .agg #[u', pv']] w (SumPost n a b l w) := by
  have hu := h.1
  obtain ⟨A, c, rfl, _⟩ := hu.open
  have hpp := h.2
  obtain ⟨Ap, cp, V, rfl, _⟩ := hpp
  have hu' := h'.1
  obtain ⟨B, c', rfl, _⟩ := hu'.open
  have hpp' := h'.2
  obtain ⟨Bp, cp', V', rfl, _, _, hbc, hbr⟩ := hpp'
  clear hu hu'
  obtain ⟨w1, hw1⟩ : ∃ w1, w1 = w.alloc (.cells #[.slice A a.base.length c, .slice Ap a.per.length cp] 29) := ⟨_, rfl⟩
  obtain ⟨w2, hw2⟩ : ∃ w2, w2 = w1.alloc (.cells #[.slice B b.base.length c', .slice Bp b.per.length cp'] 29) := ⟨_, rfl⟩
  obtain ⟨w3, hw3⟩ : ∃ w3, w3 = w2.alloc (.cells #[.slice none 0 0, .slice none 0 0] 29) := ⟨_, rfl⟩
  have k1 : Keeps [] w w1 := by rw [hw1]; exact (Keeps.refl _ _).alloc _
  have k2 : Keeps [] w1 w2 := by rw [hw2]; exact (Keeps.refl _ _).alloc _
  have k3 : Keeps [] w2 w3 := by rw [hw3]; exact (Keeps.refl _ _).alloc _
  have z1 : w1.heap.size = w.heap.size + 1 := by rw [hw1]; simp
  have z2 : w2.heap.size = w.heap.size + 1 + 1 := by rw [hw2]; simp [z1]
  have z3 : w3.heap.size = w.heap.size + 1 + 1 + 1 := by rw [hw3]; simp [z2]
  have hba := (BoxAt.start w (.slice A a.base.length c) (.slice Ap a.per.length cp) 29)
  rw [← hw1] at hba
  have hba := hba.new (k2.trans k3)
  have hbb := (BoxAt.start w1 (.slice B b.base.length c') (.slice Bp b.per.length cp') 29)
  rw [← hw2, z1] at hbb
  have hbb := hbb.new k3
  have hr0 := own_pair (w := w2) (x := .slice none 0 0) (y := .slice none 0 0) (e := 29)
  rw [← hw3, z2] at hr0
  have hk3 := (k1.trans k2).trans k3
  have HW : Hid (((w.alloc (.cells #[.slice A a.base.length c, .slice Ap a.per.length cp] 29)).alloc (.cells #[.slice B b.base.length c', .slice Bp b.per.length cp'] 29)).alloc (.cells #[.slice none 0 0, .slice none 0 0] 29) = w3) := by
    unfold Hid; rw [hw3, hw2, hw1]
  clear hw1 hw2 hw3 k1 k2 k3
  have hl3 : ∀ y ∈ l, y < w3.heap.size := fun y hy => Nat.lt_of_lt_of_le (hl y hy) hk3.size
  have hla := h.new hk3
  have hlb := h'.new hk3
  have HZ3 := Lib.hid z3
  have hc0 := hba.c0
  have hc1 := hba.c1
  have hd0 := hbb.c0
  have hd1 := hbb.c1
  have hlw : w.heap.size + 1 + 1 < w3.heap.size := by omega
  have HH := Lib.hid h
  have HH' := Lib.hid h'
  clear h h' z1 z2 z3
  have HLA := Lib.hid hla
  have HLB := Lib.hid hlb
  have HK3 := Lib.hid hk3
  have HL3 := Lib.hid hl3
  have HBA := Lib.hid hba
  have HBB := Lib.hid hbb
  have HR0 := Lib.hid hr0
  have HA := Lib.hid ha
  have HB := Lib.hid hb
  have HL := Lib.hid hl
  have HBC := Lib.hid hbc
  have HBR := Lib.hid hbr
  clear hla hlb hk3 hl3 hba hbb hr0 ha hb hl hbc hbr
  go_enter Try.func30, Try.ntmps30
  go_wp2_with fail
  rw [HW.out]
  refine (check2_is (n := n) HL3.out HLA.out HA.out HLB.out HB.out).mono ?_
  rintro e w4 ⟨rfl, hk⟩
  have hz4 := hk.size
  have hK4 := HK3.out.trans hk
  have hba4 := HBA.out.new hk
  have hbb4 := HBB.out.new hk
  have hc0 := hba4.c0
  have hc1 := hba4.c1
  have hd0 := hbb4.c0
  have hd1 := hbb4.c1
  have hr4 := HR0.out.keep hk (by simp)
  have hs1 : w4.cell? ⟨w.heap.size + 1 + 1, 0, none⟩ = some (.slice none 0 0) := (hr4 0 (by omega)).1
  have hs2 : w4.cell? ⟨w.heap.size + 1 + 1, 1, none⟩ = some (.slice none 0 0) := (hr4 1 (by omega)).1
  have hs3 : w4.frozen? ⟨w.heap.size + 1 + 1, 0, none⟩ = false := (hr4 0 (by omega)).2
  have hs4 : w4.frozen? ⟨w.heap.size + 1 + 1, 1, none⟩ = false := (hr4 1 (by omega)).2
  have hla4 := HLA.out.new hk
  have hlb4 := HLB.out.new hk
  have hbc4 := HBC.out.keeps (hK4.nil l)
  have HK4 := Lib.hid hK4
  have HBB4 := Lib.hid hbb4
  have HR4 := Lib.hid hr4
  have HLA4 := Lib.hid hla4
  have HLB4 := Lib.hid hlb4
  have HBC4 := Lib.hid hbc4
  clear hK4 hbb4 hr4 hla4 hlb4 hbc4
  clear hk hba4
  by_cases hz : chk2 n a b = 0
  · have hbt : (chk2 n a b != 0) = false := by rw [hz]; rfl
    obtain ⟨hga, hgb⟩ := chk2_zero.1 hz
    have hlo := hga.lo
    have hhi := hga.hi
    obtain ⟨m, rfl⟩ : ∃ m : Nat, n = (m : Int) := ⟨n.toNat, by omega⟩
    have hgs : Good m a := by simpa using hga.all a (by simp)
    have hgt : Good m b := by simpa using hgb.all b (by simp)
    generalize hze : chk2 (m : Int) a b = z at *
    have HGA := Lib.hid hga
    have HGB := Lib.hid hgb
    have HZE := Lib.hid hze
    have HZ := Lib.hid hz
    have HGS := Lib.hid hgs
    have HGT := Lib.hid hgt
    clear hze hz hgs hgt
    clear hga hgb
    have hl4 : ∀ y ∈ (w.heap.size + 1 + 1) :: l, y < w4.heap.size := fun y hy => by
      rcases List.mem_cons.1 hy with e | e
      · omega
      · exact Nat.lt_of_lt_of_le (HL.out y e) HK4.out.size
    have hwk : ∀ y ∈ (w.heap.size + 1 + 1) :: l, y ∈ l ∨ w.heap.size ≤ y := fun y hy => by
      rcases List.mem_cons.1 hy with e | e
      · exact .inr (by omega)
      · exact .inl e
    have hcall := shifted_is (n := m) hl4 ((HH.out.weak hwk).new HK4.out) HGS.out.base (fun p hp => (HGS.out.per p hp).len) (by have := HGS.out.few; omega) (((HH'.out.weak hwk).new HK4.out).1) HGT.out.base (by omega) (by omega)
    have HCALL := Lib.hid hcall
    have HL4 := Lib.hid hl4
    have HWK := Lib.hid hwk
    clear hcall hl4 hwk
    go_wp2_with fail
    refine HCALL.out.mono ?_
    rintro e w5 ⟨hk5, hh⟩
    have hz5 := hk5.size
    have hr5 := HR4.out.keep hk5 (by simp)
    have hs1 : w5.cell? ⟨w.heap.size + 1 + 1, 0, none⟩ = some (.slice none 0 0) := (hr5 0 (by omega)).1
    have hs2 : w5.cell? ⟨w.heap.size + 1 + 1, 1, none⟩ = some (.slice none 0 0) := (hr5 1 (by omega)).1
    have hs3 : w5.frozen? ⟨w.heap.size + 1 + 1, 0, none⟩ = false := (hr5 0 (by omega)).2
    have hs4 : w5.frozen? ⟨w.heap.size + 1 + 1, 1, none⟩ = false := (hr5 1 (by omega)).2
    have hlt5 : w.heap.size + 1 + 1 < w5.heap.size := by omega
    rcases hh with ⟨rfl, hns⟩ | ⟨A1, n1, c1, A2, m2, c2, rfl, hin, hI, hO⟩
    · have HK5 := Lib.hid (HK4.out.trans hk5)
      have HNS := Lib.hid hns
      clear hns hk5 hr5
      go_wp2_with fail
      obtain ⟨hq1, hq2, hkS⟩ := pair_set (.slice none 0 0) (.slice none 0 0) hs1 hs2
      have hal := (Keeps.refl [] ((w5.setCell ⟨w.heap.size + 1 + 1, 0, none⟩ (.slice none 0 0)).setCell ⟨w.heap.size + 1 + 1, 1, none⟩ (.slice none 0 0))).alloc (.cells #[.slice none 0 0, .slice none 0 0] 29)
      have hq1' := hal.read hq1 (by simp)
      have hq2' := hal.read hq2 (by simp)
      refine bodyPost_ret (v := .tuple #[.agg #[.slice none 0 0, .slice none 0 0], .int .i64 1]) (by simp [results, Try.results30, go_sem, hq1', hq2']) rfl ⟨HK5.out.step (hkS.alloc _) (by simp; omega), .inl ⟨_, rfl, .inr ⟨by rw [HZE.out]; exact HZ.out, rfl, .inl HNS.out⟩⟩⟩
    · have hm2 : m2 = a.per.length := by
        obtain ⟨_, _, e⟩ := hO.slice
        injection e
      subst hm2
      have hal : Keeps [] w5 (w5.alloc (.cells #[.slice A1 n1 c1, .slice A2 a.per.length c2] 29)) := (Keeps.refl _ _).alloc _
      have hpr := own_pair (w := w5) (x := .slice A1 n1 c1) (y := .slice A2 a.per.length c2) (e := 29)
      have hObl := hO.blocks
      have hg0 : w5.heap.size ∉ (Value.slice A2 a.per.length c2).ownBlock.toList := fun hm => by have := (hObl _ hm).2; omega
      have hO6 := (hO.weak (l' := w5.heap.size :: (w.heap.size + 1 + 1) :: l) (fun y hy => by
        rcases List.mem_cons.1 hy with e | e
        · exact .inr (by omega)
        · exact .inl e)).new hal
      have hI6 : IsI (w5.alloc (.cells #[.slice A1 n1 c1, .slice A2 a.per.length c2] 29)) ((Value.slice A2 a.per.length c2).ownBlock.toList ++ w5.heap.size :: (w.heap.size + 1 + 1) :: l) (.slice A1 n1 c1) (addV a.base b.base) := (hI.weak (fun y hy => by
        rcases List.mem_append.1 hy with h1 | h1
        · exact .inl (by simp [h1])
        · rcases List.mem_cons.1 h1 with e | e
          · exact .inr (by omega)
          · exact .inl (by rw [List.mem_append]; exact .inr e))).new hal
      have hk6 := hk5.trans hal
      have hbb6 := HBB4.out.new hk6
      have hd1 := hbb6.c1
      have HIN := Lib.hid hin
      have HPR := Lib.hid hpr
      have HO6 := Lib.hid hO6
      have HI6 := Lib.hid hI6
      have HK6 := Lib.hid hk6
      have HBB6 := Lib.hid hbb6
      clear hpr hO6 hI6 hk6 hbb6
      clear hO hI hObl hal hk5 hr5 hin
      go_wp2_with fail
      generalize hw6 : w5.alloc (.cells #[.slice A1 n1 c1, .slice A2 a.per.length c2] 29) = w6 at *
      have hz6 : w5.heap.size + 1 = w6.heap.size := by rw [← hw6]; simp
      clear hw6
      generalize hgg : w5.heap.size = g at *
      clear hgg
      generalize hma : a.per.length = ma at *
      generalize hmb : b.per.length = mb at *
      have hma3 : ma ≤ 3 := by rw [← hma]; exact HGS.out.few
      have hmb3 : mb ≤ 3 := by rw [← hmb]; exact HGT.out.few
      have HMA := Lib.hid hma
      have HMB := Lib.hid hmb
      clear hma hmb
      go_loopg [35] (mb + 1) (fun gh kv wr => ∃ (k : Nat) (A' : Option Addr) (c' : Nat), mb + 1 ≤ k + gh ∧ k ≤ mb ∧ kv = .int .i64 (k : Int) ∧ Own wr g 2 (fun q => if q = 0 then .slice A1 n1 c1 else .slice A' (ma + k) c') ∧ OwL IsI [] 22 w4.heap.size wr (g :: (w.heap.size + 1 + 1) :: l) (.slice A' (ma + k) c') (a.per ++ b.per.take k) ∧
        IsI wr ((Value.slice A' (ma + k) c').ownBlock.toList ++ g :: (w.heap.size + 1 + 1) :: l) (.slice A1 n1 c1) (addV a.base b.base) ∧ g ∉ (Value.slice A' (ma + k) c').ownBlock.toList ∧ g < wr.heap.size ∧ Keeps [] w4 wr)
      case atStart => exact ⟨0, A2, c2, by omega, by omega, rfl, HPR.out, by simpa using HO6.out, HI6.out, hg0, by omega, HK6.out⟩
      case round =>
        obtain ⟨k, A', c', hgh, hk, rfl, hOk, hown, hvec, hgn, hgl, hkk⟩ := hrel
        have hzk := hkk.size
        have hcg : wr.cell? ⟨g, 1, none⟩ = some (.slice A' (ma + k) c') := (hOk 1 (by omega)).1
        have hcg0 : wr.cell? ⟨g, 0, none⟩ = some (.slice A1 n1 c1) := (hOk 0 (by omega)).1
        by_cases hlt : k < mb
        · obtain ⟨ap, rfl, hap⟩ := (HBC4.out.keeps (hkk.nil l)).at_ hlt
          have hx := HBR.out k hlt
          have hxl := (HGT.out.per _ (getD_mem (d := []) (show k < b.per.length by rw [HMB.out]; exact hlt))).len
          have hf0 : wr.frozen? ⟨g, 1, none⟩ = false := (hOk 1 (by omega)).2
          have htk : (a.per ++ b.per.take k).length = ma + k := by rw [List.length_append, List.length_take, HMA.out, HMB.out]; omega
          have hKw := HK4.out.trans hkk
          have hown0 : OwL IsI [] 22 w4.heap.size wr.drew (g :: (w.heap.size + 1 + 1) :: l) (.slice A' (ma + k) c') (a.per ++ b.per.take k) := hown.new (Keeps.refl _ _).drew
          have hx0 : IsI wr.drew ((Value.slice A' (ma + k) c').ownBlock.toList ++ g :: (w.heap.size + 1 + 1) :: l) (V' k) (b.per.getD k []) := by
            refine (hx.weak (l' := (Value.slice A' (ma + k) c').ownBlock.toList ++ g :: (w.heap.size + 1 + 1) :: l) fun y hy => ?_).new hKw.drew
            rcases List.mem_append.1 hy with h1 | h1
            · exact .inr (by have := (hown.blocks y h1).1; have := HK4.out.size; omega)
            · rcases List.mem_cons.1 h1 with e | h1
              · exact .inr (by omega)
              · exact HWK.out y h1
          have hlx : ∀ y ∈ (Value.slice A' (ma + k) c').ownBlock.toList ++ g :: (w.heap.size + 1 + 1) :: l, y < wr.drew.heap.size := fun y hy => by
            show y < wr.heap.size
            rcases List.mem_append.1 hy with h1 | h1
            · exact (hown.blocks y h1).2
            · rcases List.mem_cons.1 h1 with e | h1
              · omega
              · exact Nat.lt_of_lt_of_le (HL4.out y h1) hkk.size
          generalize hVk : V' k = uk at *
          obtain ⟨Au, cu, rfl, _⟩ := hx0.open
          have hts : a.per ++ b.per.take (k + 1) = a.per ++ b.per.take k ++ [b.per.getD k []] := by
            rw [List.take_succ_eq_append_getElem (by rw [HMB.out]; exact hlt), List.append_assoc]
            simp [List.getD_eq_getElem?_getD, show k < b.per.length by rw [HMB.out]; exact hlt]
          generalize hpk : b.per.getD k [] = p at *
          have hpl : p.length ≤ 1000000 := by rw [hxl]; omega
          have hkd : Keeps [] w4 wr.drew := hkk.drew
          have HOK := Lib.hid hOk
          have HKD := Lib.hid hkd
          have hvec0 : IsI wr.drew ((Value.slice A' (ma + k) c').ownBlock.toList ++ g :: (w.heap.size + 1 + 1) :: l) (.slice A1 n1 c1) (addV a.base b.base) := hvec.new (Keeps.refl _ _).drew
          have eg := enters_of Try.func39 (by kernel_rfl) rfl
          have HOWN0 := Lib.hid hown0
          have HX0 := Lib.hid hx0
          have HLX := Lib.hid hlx
          have HTK := Lib.hid htk
          have HTS := Lib.hid hts
          have HXL := Lib.hid hxl
          have HPK := Lib.hid hpk
          have HVK := Lib.hid hVk
          have HGN := Lib.hid hgn
          have HVEC0 := Lib.hid hvec0
          clear hown0 hx0 hlx htk hts hxl hpk hVk hgn hvec0
          clear hown hkk hOk hx hkd hKw hvec
          go_wp2_with fail
          go_region_law (first
            | (have _t := hcp; refine step_pushg sl_rowsi rfl (.tmp 40) (.tmp 43) rfl (w := wC) (v := .slice A' (ma + k) c') (by first | (simp [Act.eval]; done) | (simp only [Act.eval, Act.put]; simp; done) | simp [Act.eval, Act.put]) (by first | (simp [Act.eval]; done) | (simp only [Act.eval, Act.put]; simp; done) | simp [Act.eval, Act.put]) hown1 hcp (m := ma + (k + 1)) (by rw [HTK.out]; omega) (by omega) hkC.size ?_; intro V2 c2 w41 hown2 hg2 hnew; have hst := hg2.read hgC HGN.out; have hsf := (hg2.frozen (p := ⟨g, 1, none⟩) (lt_of_cell hgC) HGN.out).trans hfC)
            | (refine step_call1 rfl 39 (.tmp 41) #[22] rfl eg (clone_is (l := (Value.slice A' (ma + k) c').ownBlock.toList ++ g :: (w.heap.size + 1 + 1) :: l) HX0.out hpl) (by first | (simp [Act.eval]; done) | (simp only [Act.eval, Act.put]; simp; done) | simp [Act.eval, Act.put]) ?_; rintro e wC ⟨Ac, cc, rfl, hownC, hkC0⟩; refine ⟨_, rfl, ?_⟩; have hcp := hownC.isL HLX.out; have hkC := HKD.out.trans hkC0; have hown1 := HOWN0.out.new hkC0; have hgC := hkC0.read (show wr.drew.cell? ⟨g, 1, none⟩ = some (.slice A' (ma + k) c') from hcg) (by simp); have hfC := (hkC0.frozen (p := ⟨g, 1, none⟩) (show g < wr.heap.size by omega) (by simp)).trans (show wr.drew.frozen? ⟨g, 1, none⟩ = false from hf0); have hgD := ((Keeps.refl [] wC).alloc (.cells #[.slice Ac p.length cc] 22)).read hgC (by simp)))
          all_goals
            have hO2 := ((HOK.out.drew.keep hkC0 (by simp)).keep hg2 HGN.out).set_ (j := 1) (by omega) (.slice V2 (ma + (k + 1)) c2)
            have hkg : Keeps [g] w41 (w41.setCell ⟨g, 1, none⟩ (.slice V2 (ma + (k + 1)) c2)) := (Keeps.refl _ _).setCell (by simp) _
            have hgn2 : g ∉ (Value.slice V2 (ma + (k + 1)) c2).ownBlock.toList := fun hm => by
              rcases hnew g hm with h1 | h1
              · exact HGN.out h1
              · have := hkC0.size
                have : g < wC.heap.size := Nat.lt_of_lt_of_le hgl this
                omega
            have hown4 := hown2.keeps hkg (fun y hy => by
              rw [List.mem_singleton.1 hy]
              exact ⟨.inl (by simp), fun e => hgn2 (by rw [e]; simp)⟩)
            have hvec1 := (HVEC0.out.new hkC0).weak (l' := ((Value.slice V2 (ma + (k + 1)) c2).ownBlock.toList ++ (Value.slice A' (ma + k) c').ownBlock.toList) ++ g :: (w.heap.size + 1 + 1) :: l) (fun y hy => by
              rcases List.mem_append.1 hy with h1 | h1
              · rcases List.mem_append.1 h1 with h2 | h2
                · exact (hnew y h2).imp (fun h => List.mem_append.2 (.inl h)) id
                · exact .inl (List.mem_append.2 (.inl h2))
              · exact .inl (List.mem_append.2 (.inr h1)))
            have hvec2 := ((hvec1.keeps (hg2.more (fun y hy => by simp [hy]))).keeps (hkg.more (fun y hy => by rw [List.mem_singleton.1 hy]; simp))).weak (l' := (Value.slice V2 (ma + (k + 1)) c2).ownBlock.toList ++ g :: (w.heap.size + 1 + 1) :: l) (fun y hy => by
              rcases List.mem_append.1 hy with h1 | h1
              · exact .inl (by simp [h1])
              · exact .inl (List.mem_append.2 (.inr h1)))
            have hobl := hown1.blocks
            have hk5 := (hkC.step hg2 (fun y hy => .inr (hobl y hy).1)).step hkg (fun y hy => .inr (by rw [List.mem_singleton.1 hy]; omega))
            have hgl2 : g < (w41.setCell ⟨g, 1, none⟩ (.slice V2 (ma + (k + 1)) c2)).heap.size := by
              have h1 := hkg.size
              have h2 := lt_of_cell hst
              exact Nat.lt_of_lt_of_le h2 h1
            have HO2 := Lib.hid hO2
            have HOWN4 := Lib.hid hown4
            have HK5 := Lib.hid hk5
            have HVEC2 := Lib.hid hvec2
            have HGN2 := Lib.hid hgn2
            clear hO2 hown4 hk5 hvec2 hgn2
            clear hown2 hg2 hkC0 hkg hown1 hkC hcp hownC hnew hvec1 hobl
            go_wp2_with fail
            go_roundg (mb - k)
            case measure => omega
            case rel =>
              refine ⟨k + 1, V2, c2, by omega, by omega, by go_num, ?_, by rw [HTS.out]; exact HOWN4.out, HVEC2.out, HGN2.out, hgl2, HK5.out⟩
              refine HO2.out.congr fun q hq => ?_
              have : q = 0 ∨ q = 1 := by omega
              rcases this with e | e <;> subst e <;> rfl
        · obtain rfl : k = mb := by omega
          have htk : b.per.take k = b.per := List.take_of_length_le (by rw [HMB.out]; omega)
          rw [htk] at hown
          have hxs : ∀ x ∈ a.per ++ b.per, x.length = m := fun x hx => by
            rcases List.mem_append.1 hx with h1 | h1
            · exact (HGS.out.per x h1).len
            · exact (HGT.out.per x h1).len
          have hxl : (a.per ++ b.per).length ≤ 6 := by rw [List.length_append, HMA.out, HMB.out]; omega
          have egc := enters_of Try.func57 (by kernel_rfl) rfl
          have ege := enters_of Try.func40 (by kernel_rfl) rfl
          have hsort := sort_own Try.sorts56 cmpL_swo egc hown (cb := #[]) (fun b hb => cmpR_rows hxs (by omega)) (by omega)
          change Calls Try.prog 56 _ _ _ at hsort
          have hobl := hown.blocks
          have HOK := Lib.hid hOk
          have HKK := Lib.hid hkk
          have HOWN := Lib.hid hown
          have HVEC := Lib.hid hvec
          have HGN := Lib.hid hgn
          have HXS := Lib.hid hxs
          have HXL := Lib.hid hxl
          have HSORT := Lib.hid hsort
          have HOBL := Lib.hid hobl
          have HTK := Lib.hid htk
          clear hown hvec hgn hxs hxl hsort hobl htk
          clear hOk hkk
          go_wp2_with fail
          refine HSORT.out.mono ?_
          rintro e w7 ⟨rfl, ys, hp, hs, hO7, hk7⟩
          have hys : ∀ x ∈ ys, x.length ≤ 1000000 := fun x hx => by rw [HXS.out x (hp.mem_iff.1 hx)]; omega
          have hcomp := compactB_rows hO7 (by rw [hp.length_eq]; have := HXL.out; omega) ege (fun b hb => eqR_rows hys)
          obtain ⟨hasc, hmem⟩ := compL_asc hs
          have hylen : ys.length = ma + k := by rw [hp.length_eq, List.length_append, HMA.out, HMB.out]
          have hmem : ∀ x, x ∈ compL (fun a b => decide (a = b)) [] ys ↔ x ∈ a.per ∨ x ∈ b.per := fun x => by rw [hmem x, hp.mem_iff, List.mem_append]
          have hzl : (compL (fun a b => decide (a = b)) [] ys).length ≤ 1000 := by
            have := asc_len hasc (L := a.per ++ b.per) (fun z hz => List.mem_append.2 ((hmem z).1 hz))
            have := HXL.out; omega
          generalize compL (fun a b => decide (a = b)) [] ys = zs at *
          have hOg7 := HOK.out.keep hk7 HGN.out
          have hcg : w7.cell? ⟨g, 1, none⟩ = some (.slice A' (ma + k) c') := (hOg7 1 (by omega)).1
          have hcg0 : w7.cell? ⟨g, 0, none⟩ = some (.slice A1 n1 c1) := (hOg7 0 (by omega)).1
          have hvec7 := HVEC.out.keeps (hk7.more (fun y hy => List.mem_append.2 (.inl hy)))
          have hK7 := HKK.out.step hk7 (fun y hy => .inr (HOBL.out y hy).1)
          have hgl7 := Nat.lt_of_lt_of_le hgl hk7.size
          have HCOMP := Lib.hid hcomp
          have HASC := Lib.hid hasc
          have HMEM := Lib.hid hmem
          have HOG7 := Lib.hid hOg7
          have HVEC7 := Lib.hid hvec7
          have HK7 := Lib.hid hK7
          have HYS := Lib.hid hys
          have HYLEN := Lib.hid hylen
          clear hcomp hasc hmem hOg7 hvec7 hK7 hys hylen
          clear hp hs hO7 hk7
          go_wp2_with fail
          refine HCOMP.out.mono ?_
          rintro e w8 ⟨A9, c9, rfl, hO8, hk8, hob8⟩
          generalize hzn : zs.length = zn at *
          have hOg8 := HOG7.out.keep hk8 HGN.out
          have hcg : w8.cell? ⟨g, 1, none⟩ = some (.slice A' (ma + k) c') := (hOg8 1 (by omega)).1
          have hcg0 : w8.cell? ⟨g, 0, none⟩ = some (.slice A1 n1 c1) := (hOg8 0 (by omega)).1
          have hf1 : w8.frozen? ⟨g, 1, none⟩ = false := (hOg8 1 (by omega)).2
          have hvec8 := HVEC7.out.keeps (hk8.more (fun y hy => List.mem_append.2 (.inl hy)))
          have hK8 := HK7.out.step hk8 (fun y hy => .inr (HOBL.out y hy).1)
          have hgl8 := Nat.lt_of_lt_of_le hgl7 hk8.size
          have hr8 := HR4.out.keep hK8 (by simp)
          have hs1 : w8.cell? ⟨w.heap.size + 1 + 1, 0, none⟩ = some (.slice none 0 0) := (hr8 0 (by omega)).1
          have hs2 : w8.cell? ⟨w.heap.size + 1 + 1, 1, none⟩ = some (.slice none 0 0) := (hr8 1 (by omega)).1
          have hs3 : w8.frozen? ⟨w.heap.size + 1 + 1, 0, none⟩ = false := (hr8 0 (by omega)).2
          have hs4 : w8.frozen? ⟨w.heap.size + 1 + 1, 1, none⟩ = false := (hr8 1 (by omega)).2
          have hg9 : g ∉ (Value.slice A9 zn c9).ownBlock.toList := by rw [hob8]; exact HGN.out
          have hkX : Keeps [g] w8 (w8.setCell ⟨g, 1, none⟩ (.slice A9 zn c9)) := (Keeps.refl _ _).setCell (by simp) _
          have hs1' := hkX.read hs1 (by simp; omega)
          have hs2' := hkX.read hs2 (by simp; omega)
          have hvecX := hvec8.keeps (hkX.more (fun y hy => by rw [List.mem_singleton.1 hy]; simp))
          have hKX : Keeps [] w4 (w8.setCell ⟨g, 1, none⟩ (.slice A9 zn c9)) := hK8.step hkX (fun y hy => .inr (by rw [List.mem_singleton.1 hy]; omega))
          have hOX := hO8.keeps hkX (fun y hy => by
            rw [List.mem_singleton.1 hy]
            exact ⟨.inl (by simp), fun e => hg9 (by rw [e]; simp)⟩)
          have hor : ∀ y ∈ (Value.slice A9 zn c9).ownBlock.toList, w4.heap.size ≤ y := fun y hy => (hO8.blocks y hy).1
          have HOG8 := Lib.hid hOg8
          have HVECX := Lib.hid hvecX
          have HKX := Lib.hid hKX
          have HOX := Lib.hid hOX
          have HR8 := Lib.hid hr8
          have HOR := Lib.hid hor
          clear hOg8 hvecX hKX hOX hr8 hor
          have HS1 := Lib.hid hs1'
          have HS2 := Lib.hid hs2'
          clear hk8 hO8 hob8 hg9 hkX hvec8 hK8 hs1' hs2'
          by_cases hfew : 3 < zn
          · have d1 : decide ((3 : Int) < (zn : Int)) = true := decide_eq_true (by omega)
            have d2 : decide (3 < zn) = true := decide_eq_true hfew
            go_wp2_with fail
            obtain ⟨hq1, hq2, hkS⟩ := pair_set (.slice none 0 0) (.slice none 0 0) HS1.out HS2.out
            refine bodyPost_ret (v := .tuple #[.agg #[.slice none 0 0, .slice none 0 0], .int .i64 1]) (by simp [results, Try.results30, go_sem, hq1, hq2]) rfl ⟨(HK4.out.trans HKX.out).step hkS (by simp; omega), .inl ⟨_, rfl, .inr ⟨by rw [HZE.out]; exact HZ.out, rfl, .inr ⟨zs, HASC.out, HMEM.out, by rw [hzn]; exact hfew⟩⟩⟩⟩
          · have d1 : decide ((3 : Int) < (zn : Int)) = false := decide_eq_false (by omega)
            have d2 : decide (3 < zn) = false := decide_eq_false hfew
            go_wp2_with fail
            obtain ⟨hq1, hq2, hkS⟩ := pair_set (.slice A1 n1 c1) (.slice A9 zn c9) HS1.out HS2.out
            refine bodyPost_ret (v := .tuple #[.agg #[.slice A1 n1 c1, .slice A9 zn c9], .int .i64 0]) (by simp [results, Try.results30, go_sem, hq1, hq2]) rfl ⟨(HK4.out.trans HKX.out).step hkS (by simp; omega), .inr ⟨_, _, _, _, _, _, zs, rfl, ⟨HGA.out, HGB.out, HIN.out, HASC.out, HMEM.out, by rw [hzn]; omega⟩, ?_, ?_⟩⟩
            · exact (HVECX.out.keeps (hkS.more (fun y hy => by rw [List.mem_singleton.1 hy]; simp))).weak (fun y hy => .inl (by simp [hy]))
            · have hO9 := (HOX.out.keeps hkS (fun y hy => by
                rw [List.mem_singleton.1 hy]
                refine ⟨.inl (by simp), fun e => ?_⟩
                have := HOR.out (w.heap.size + 1 + 1) (by rw [e]; exact List.mem_singleton.2 rfl)
                omega)).weak (l' := l) (fun y hy => .inl (by simp [hy]))
              exact hO9.isL (fun y hy => Nat.lt_of_lt_of_le (HL.out y hy) HK4.out.size)
  · have hbt : (chk2 n a b != 0) = true := by simpa using hz
    have HZ := Lib.hid hz
    clear hz
    go_wp2_with fail
    obtain ⟨hq1, hq2, hkS⟩ := pair_set (.slice none 0 0) (.slice none 0 0) hs1 hs2
    refine bodyPost_ret (v := .tuple #[.agg #[.slice none 0 0, .slice none 0 0], .int .i64 (chk2 n a b)]) (by simp [results, Try.results30, go_sem, hq1, hq2]) rfl ⟨HK4.out.step hkS (by simp; omega), .inl ⟨_, rfl, .inl ⟨HZ.out, rfl⟩⟩⟩
end Go.Proofs.Ytdhadnnakcdfiaa
