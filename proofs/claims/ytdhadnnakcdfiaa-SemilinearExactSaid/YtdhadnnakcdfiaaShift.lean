/- The walks of semilinear's shifted and Shift. -/
import Derived.Test.YtdhadnnakcdfiaaStep
import Derived.Test.YtdhadnnakcdfiaaProvesS
namespace Go.Proofs.Ytdhadnnakcdfiaa
set_option linter.unusedVariables false
open Go.RowKit

def addV (a b : List Int) : List Int := (List.range a.length).map fun i => a.getD i 0 + b.getD i 0
theorem addV_len (a b : List Int) : (addV a b).length = a.length := by simp [addV]
theorem addV_get (a b : List Int) {i : Nat} (h : i < a.length) : (addV a b).getD i 0 = a.getD i 0 + b.getD i 0 := by simp [addV, List.getD_eq_getElem?_getD, h]

def ShdPost (s : Lin) (v : List Int) (l : List Nat) (w : World) (e : Ending) (w' : World) : Prop :=
  Keeps [] w w' ∧ ((e = .returned (.tuple #[.agg #[.slice none 0 0, .slice none 0 0], .int .i64 1]) ∧ ¬ (∀ x ∈ addV s.base v, 0 ≤ x ∧ x ≤ 16)) ∨
    ∃ A n c A' m c', e = .returned (.tuple #[.agg #[.slice A n c, .slice A' m c'], .int .i64 0]) ∧ (∀ x ∈ addV s.base v, 0 ≤ x ∧ x ≤ 16) ∧ IsI w' ((Value.slice A' m c').ownBlock.toList ++ l) (.slice A n c) (addV s.base v) ∧ OwL IsI [] 22 w.heap.size w' l (.slice A' m c') s.per)

theorem own_pair {w : World} {x y : Value} {e : TypeId} : Own (w.alloc (.cells #[x, y] e)) w.heap.size 2 (fun i => if i = 0 then x else y) := fun i hi => by
  have : i = 0 ∨ i = 1 := by omega
  rcases this with e | e <;> subst e <;> exact ⟨World.cell?_alloc_new _ _ _ _, World.frozen?_alloc_new _ _ _ _⟩

theorem BoxAt.keeps {w w' : World} {b : Nat} {l : List Nat} {u v : Value} (h : BoxAt w b u v) (k : Keeps l w w') (hb : b ∉ l) : BoxAt w' b u v := ⟨k.read h.c0 hb, k.read h.c1 hb⟩

theorem pair_set {w : World} {r : Nat} {x0 x1 : Value} (y0 y1 : Value) (h0 : w.cell? ⟨r, 0, none⟩ = some x0) (h1 : w.cell? ⟨r, 1, none⟩ = some x1) :
    ((w.setCell ⟨r, 0, none⟩ y0).setCell ⟨r, 1, none⟩ y1).cell? ⟨r, 0, none⟩ = some y0 ∧ ((w.setCell ⟨r, 0, none⟩ y0).setCell ⟨r, 1, none⟩ y1).cell? ⟨r, 1, none⟩ = some y1 ∧ Keeps [r] w ((w.setCell ⟨r, 0, none⟩ y0).setCell ⟨r, 1, none⟩ y1) :=
  ⟨(World.cell?_setCell_other _ _ _ _ (by simp)).trans (World.cell?_setCell_same _ _ _ h0), World.cell?_setCell_same _ _ _ ((World.cell?_setCell_other _ _ _ _ (by simp)).trans h1), ((Keeps.refl _ _).setCell (by simp) _).setCell (by simp) _⟩

set_option maxRecDepth 100000 in
set_option maxHeartbeats 4000000 in
theorem shifted_is {w : World} {l : List Nat} {u pv vv : Value} {s : Lin} {v : List Int} {n : Nat} (hl : ∀ y ∈ l, y < w.heap.size) (h : IsLin w l u pv s) (hb : VecOk n 16 s.base) (hp : ∀ p ∈ s.per, p.length = n) (hm : s.per.length ≤ 100) (hv : IsI w l vv v) (hvo : VecOk n 16 v) (hn1 : 1 ≤ n) (hn : n ≤ 100) :
    Calls Try.prog 53 #[.agg #[u, pv], vv] w (ShdPost s v l w) := by
  have hu := h.1
  obtain ⟨A, c, rfl, hc, hA, hrd⟩ := hu.open
  have hpp := h.2
  obtain ⟨Ap, cp, V, rfl, g2, g3, g4, g5⟩ := hpp
  obtain ⟨B, cb, rfl, hcb, hB, hrb⟩ := hv.open
  have hbl := hb.len
  have hvl := hvo.len
  rw [hbl] at hc hrd
  rw [hvl] at hcb hrb
  have hba := h.1
  rw [hbl] at hba
  generalize hmm : s.per.length = m at *
  rw [hbl, hvl]
  have hk1 : Keeps [] w ((w.alloc (.cells #[.slice A n c, .slice Ap m cp] 29)).alloc (.cells #[.slice none 0 0, .slice none 0 0] 29)) := ((Keeps.refl _ _).alloc _).alloc _
  have hbox : BoxAt ((w.alloc (.cells #[.slice A n c, .slice Ap m cp] 29)).alloc (.cells #[.slice none 0 0, .slice none 0 0] 29)) w.heap.size (.slice A n c) (.slice Ap m cp) := (BoxAt.start w _ _ _).new ((Keeps.refl _ _).alloc _)
  have hc0 := hbox.c0
  have hz0 : Own ((w.alloc (.cells #[.slice A n c, .slice Ap m cp] 29)).alloc (.cells #[.slice none 0 0, .slice none 0 0] 29)) (w.heap.size + 1) 2 (fun i => if i = 0 then .slice none 0 0 else .slice none 0 0) := by
    have := own_pair (w := w.alloc (.cells #[.slice A n c, .slice Ap m cp] 29)) (x := .slice none 0 0) (y := .slice none 0 0) (e := 29)
    simpa using this
  clear hu
  have eg := enters_of Try.func39 (by kernel_rfl) rfl
  have H := Lib.hid h
  have HRD := Lib.hid hrd
  have HRB := Lib.hid hrb
  have HV := Lib.hid hv
  have HK1 := Lib.hid hk1
  have HBOX := Lib.hid hbox
  have HL := Lib.hid hl
  have HB := Lib.hid hb
  have HVO := Lib.hid hvo
  have HP := Lib.hid hp
  have HMM := Lib.hid hmm
  have G4 := Lib.hid g4
  have G5 := Lib.hid g5
  have HBA := Lib.hid hba
  have HBL := Lib.hid hbl
  have HVL := Lib.hid hvl
  have HZ0 := Lib.hid hz0
  clear h hrd hrb hv hk1 hbox hl hb hvo hp hmm g4 g5 hba hbl hvl hz0
  go_enter Try.func53, Try.ntmps53
  go_wp2_with fail
  refine (clone_is (l := l) (HBA.out.new HK1.out) (by rw [HBL.out]; omega)).mono ?_
  rintro e w1 ⟨A1, c1, he, hown, hk2⟩
  obtain ⟨ga, c1', hv1, hc1', hga, hga', hO⟩ := hown.own (by rw [HBL.out]; omega)
  injection hv1 with e1 e2 e3
  subst e1; subst e3
  rw [HBL.out] at he hc1' hO
  subst he
  have hz1 := hk2.size
  simp only [World.size_alloc] at hga hz1
  have hk3 := HK1.out.trans hk2
  have hz0 := HZ0.out.keep hk2 (by simp)
  have hbox1 := HBOX.out.new hk2
  have hal : Keeps [] w1 (w1.alloc (.cells #[.slice (some ⟨ga, 0, none⟩) n c1, .slice none 0 0] 29)) := (Keeps.refl _ _).alloc _
  have hpr := own_pair (w := w1) (x := .slice (some ⟨ga, 0, none⟩) n c1) (y := .slice none 0 0) (e := 29)
  have hO1 := hO.keep hal (by simp)
  have hz2 := hz0.keep hal (by simp)
  have hk4 := hk3.trans hal
  have hbox2 := hbox1.new hal
  have HPR := Lib.hid hpr
  have HO1 := Lib.hid hO1
  have HZ2 := Lib.hid hz2
  have HK4 := Lib.hid hk4
  have HBOX2 := Lib.hid hbox2
  clear hpr hO1 hz2 hk4 hbox2
  clear hown hO hk2 hk3 hz0 hbox1 hal e2
  go_wp2_with fail
  generalize hw2 : w1.alloc (.cells #[.slice (some ⟨ga, 0, none⟩) n c1, .slice none 0 0] 29) = w2 at *
  have hw2z : w1.heap.size + 1 = w2.heap.size := by rw [← hw2]; simp
  clear hw2
  generalize w1.heap.size = g at *
  go_loopg [17] (n + 1) (fun gh iv wr => ∃ i : Nat, n + 1 ≤ i + gh ∧ i ≤ n ∧ iv = .int .i64 (i : Int) ∧ Own wr ga n (fun q => .int .i64 (if q < i then s.base.getD q 0 + v.getD q 0 else s.base.getD q 0)) ∧ Keeps [ga] w2 wr)
  case atStart => exact ⟨0, by omega, by omega, rfl, HO1.out.congr fun q hq => by simp, Keeps.refl _ _⟩
  case round =>
    obtain ⟨i, hgh, hi, rfl, hOi, hki⟩ := hrel
    have hpri := HPR.out.keep hki (by simp; omega)
    have hcg : wr.cell? ⟨g, 0, none⟩ = some (.slice (some ⟨ga, 0, none⟩) n c1) := (hpri 0 (by omega)).1
    have hKi := (HK4.out.step hki (by simp; omega) : Keeps [] w wr)
    have hzi := hki.size
    have HOI := Lib.hid hOi
    have HKI := Lib.hid hki
    clear hOi hki
    have HPRI := Lib.hid hpri
    clear hpri
    by_cases hlt : i < n
    · obtain ⟨bb, rfl, hbb⟩ := (HRB.out.keeps (hKi.nil l)).at_ hlt
      have hr1 := getD_rng HB.out.rng (i := i) (by rw [HBL.out]; exact hlt)
      have hr2 := getD_rng HVO.out.rng (i := i) (by rw [HVL.out]; exact hlt)
      have ho1 : wr.cell? ⟨ga, i, none⟩ = some (.int .i64 (s.base.getD i 0)) := by have := (HOI.out i hlt).1; simpa using this
      have ho2 : wr.frozen? ⟨ga, i, none⟩ = false := (HOI.out i hlt).2
      generalize hx : s.base.getD i 0 = x at *
      generalize hy : v.getD i 0 = y at *
      have HX := Lib.hid hx
      have HY := Lib.hid hy
      clear hx hy
      have HKi := Lib.hid hKi
      clear hKi
      go_wp2_with fail
      go_roundg (n - i)
      case measure => omega
      case rel =>
        refine ⟨i + 1, by omega, by omega, by go_num, ?_, HKI.out.setCell (by simp) _⟩
        refine (HOI.out.updInt hlt (x + y)).congr fun q hq => ?_
        show Value.int .i64 _ = Value.int .i64 _
        congr 1
        by_cases e : q = i
        · subst e; rw [upd_same, if_pos (by omega), HX.out, HY.out]
        · rw [upd_ne _ _ e]
          by_cases e2 : q < i
          · rw [if_pos e2, if_pos (by omega)]
          · rw [if_neg e2, if_neg (by omega)]
    · obtain rfl : i = n := by omega
      have hsum : IsI wr (g :: (w.heap.size + 1) :: l) (.slice (some ⟨ga, 0, none⟩) i c1) (addV s.base v) := HOI.out.isI (f := fun q => if q < i then s.base.getD q 0 + v.getD q 0 else s.base.getD q 0) (by
        intro hm
        rcases List.mem_cons.1 hm with e | hm
        · omega
        · rcases List.mem_cons.1 hm with e | hm
          · omega
          · have := HL.out _ hm; omega) hc1' (by rw [addV_len, HBL.out]) (fun q hq => by rw [addV_get _ _ (by rw [HBL.out]; exact hq), if_pos hq])
      have hsl : (addV s.base v).length = i := by rw [addV_len, HBL.out]
      have hsr := hsum.open
      obtain ⟨_, _, hv', _, _, hrs⟩ := hsr
      injection hv' with e1 e2 e3
      subst e1; subst e3
      rw [hsl] at hrs
      have HKi := Lib.hid hKi
      have HSUM := Lib.hid hsum
      have HRS := Lib.hid hrs
      have HSL := Lib.hid hsl
      clear hsum hrs hsl
      clear hKi e2
      go_wp2_with fail
      refine (small_has wr wr.heap.size i c1 (some ⟨ga, 0, none⟩) (fun q => (addV s.base v).getD q 0) 16 (Nat.le_refl _) HRS.out.rd (by omega)).mono ?_
      rintro e w3 ⟨r, rfl, hr, hb3⟩
      have hk3 : Keeps [] wr w3 := hb3.toK
      have hz3 := hk3.size
      have hpr3 := HPRI.out.keep hk3 (by simp)
      have hZ3 := (HZ2.out.keep (HKI.out.trans (hk3.nil _)) (by simp; omega))
      have hbx3 := HBOX2.out.keeps (HKI.out.trans (hk3.nil _)) (by simp; omega)
      have hK3 := HKi.out.trans hk3
      have hsum3 := HSUM.out.new hk3
      have hc0 := hbx3.c0
      have hc1 := hbx3.c1
      have hs1 : w3.cell? ⟨w.heap.size + 1, 0, none⟩ = some (.slice none 0 0) := (hZ3 0 (by omega)).1
      have hs2 : w3.cell? ⟨w.heap.size + 1, 1, none⟩ = some (.slice none 0 0) := (hZ3 1 (by omega)).1
      have hs3 : w3.frozen? ⟨w.heap.size + 1, 0, none⟩ = false := (hZ3 0 (by omega)).2
      have hs4 : w3.frozen? ⟨w.heap.size + 1, 1, none⟩ = false := (hZ3 1 (by omega)).2
      have HPR3 := Lib.hid hpr3
      have HK3 := Lib.hid hK3
      have HSUM3 := Lib.hid hsum3
      have HZ3 := Lib.hid hZ3
      clear hpr3 hK3 hsum3 hZ3
      have HR3 := Lib.hid hr
      clear hb3 hk3 hr hbx3
      cases r with
      | false =>
        go_wp2_with fail
        obtain ⟨hq1, hq2, hkS⟩ := pair_set (.slice none 0 0) (.slice none 0 0) hs1 hs2
        refine bodyPost_ret (v := .tuple #[.agg #[.slice none 0 0, .slice none 0 0], .int .i64 1]) (by simp [results, Try.results53, go_sem, hq1, hq2]) rfl ⟨HK3.out.step hkS (by simp), .inl ⟨rfl, fun hall => ?_⟩⟩
        have := HR3.out.2 ((small_iff HSL.out).2 hall)
        simp at this
      | true =>
        go_wp2_with fail
        go_loopg [39] (m + 1) (fun gh kv wr => ∃ (k : Nat) (A' : Option Addr) (c' : Nat), m + 1 ≤ k + gh ∧ k ≤ m ∧ kv = .int .i64 (k : Int) ∧ Own wr g 2 (fun q => if q = 0 then .slice (some ⟨ga, 0, none⟩) i c1 else .slice A' k c') ∧ OwL IsI [] 22 w3.heap.size wr (g :: (w.heap.size + 1) :: l) (.slice A' k c') (s.per.take k) ∧ Keeps [g] w3 wr)
        case atStart => exact ⟨0, none, 0, by omega, by omega, rfl, HPR3.out, OwL.nil, Keeps.refl _ _⟩
        case round =>
          obtain ⟨k, A', c', hgh', hk, rfl, hOk, hown, hkk⟩ := hrel
          have hKk := (HK3.out.step hkk (by simp; omega) : Keeps [] w wr)
          have hzk := hkk.size
          have hcg : wr.cell? ⟨g, 1, none⟩ = some (.slice A' k c') := (hOk 1 (by omega)).1
          have hcg0 : wr.cell? ⟨g, 0, none⟩ = some (.slice (some ⟨ga, 0, none⟩) i c1) := (hOk 0 (by omega)).1
          by_cases hlt : k < m
          · obtain ⟨a, rfl, ha⟩ := (G4.out.keeps (hKk.nil l)).at_ hlt
            have hx := G5.out k hlt
            have hxl := HP.out _ (getD_mem (d := []) (show k < s.per.length by rw [HMM.out]; exact hlt))
            have hf0 : wr.frozen? ⟨g, 1, none⟩ = false := (hOk 1 (by omega)).2
            have htk : (s.per.take k).length = k := by rw [List.length_take, HMM.out]; omega
            have hown0 : OwL IsI [] 22 w3.heap.size wr.drew (g :: (w.heap.size + 1) :: l) (.slice A' k c') (s.per.take k) := hown.new (Keeps.refl _ _).drew
            have hx0 : IsI wr.drew ((Value.slice A' k c').ownBlock.toList ++ g :: (w.heap.size + 1) :: l) (V k) (s.per.getD k []) := by
              refine (hx.weak (l' := (Value.slice A' k c').ownBlock.toList ++ g :: (w.heap.size + 1) :: l) fun y hy => ?_).new hKk.drew
              rcases List.mem_append.1 hy with h1 | h1
              · exact .inr (by have := (hown.blocks y h1).1; omega)
              · rcases List.mem_cons.1 h1 with e | h1
                · exact .inr (by omega)
                · rcases List.mem_cons.1 h1 with e | h1
                  · exact .inr (by omega)
                  · exact .inl h1
            have hlx : ∀ y ∈ (Value.slice A' k c').ownBlock.toList ++ g :: (w.heap.size + 1) :: l, y < wr.drew.heap.size := fun y hy => by
              show y < wr.heap.size
              rcases List.mem_append.1 hy with h1 | h1
              · exact (hown.blocks y h1).2
              · rcases List.mem_cons.1 h1 with e | h1
                · omega
                · rcases List.mem_cons.1 h1 with e | h1
                  · omega
                  · have := HL.out y h1; omega
            have hgb : g ∉ (Value.slice A' k c').ownBlock.toList := fun hm => by have := (hown.blocks g hm).1; omega
            generalize hVk : V k = u at *
            obtain ⟨Au, cu, rfl, _⟩ := hx0.open
            have hts : s.per.take (k + 1) = s.per.take k ++ [s.per.getD k []] := by
              rw [List.take_succ_eq_append_getElem (by rw [HMM.out]; exact hlt)]
              simp [List.getD_eq_getElem?_getD, show k < s.per.length by rw [HMM.out]; exact hlt]
            generalize hpk : s.per.getD k [] = p at *
            have hpl : p.length ≤ 1000000 := by rw [hxl]; omega
            have hkd : Keeps [g] w3 wr.drew := hkk.drew
            have HOK := Lib.hid hOk
            have HKD := Lib.hid hkd
            have HOWN0 := Lib.hid hown0
            have HX0 := Lib.hid hx0
            have HLX := Lib.hid hlx
            have HTK := Lib.hid htk
            have HTS := Lib.hid hts
            have HXL := Lib.hid hxl
            have HPK := Lib.hid hpk
            have HVK := Lib.hid hVk
            have HGB := Lib.hid hgb
            clear hown0 hx0 hlx htk hts hxl hpk hVk hgb
            clear hown hkk hKk hOk hx hkd
            go_wp2_with fail
            go_region_law (first
              | (have _t := hcp; refine step_push sl_rowsi rfl (.tmp 44) (.tmp 47) rfl (w := wC) (v := .slice A' k c') (by first | (simp [Act.eval]; done) | (simp only [Act.eval, Act.put]; simp; done) | simp [Act.eval, Act.put]) (by first | (simp [Act.eval]; done) | (simp only [Act.eval, Act.put]; simp; done) | simp [Act.eval, Act.put]) hown1 hcp (m := k + 1) (by rw [HTK.out]) (by omega) hkC.size (w0 := w3) (l0 := [g]) (Nat.le_refl _) hkC ?_; intro V2 c2 w41 hown2 hg2 hk41; have hst := hg2.read hgC HGB.out; have hsf := (hg2.frozen (p := ⟨g, 1, none⟩) (lt_of_cell hgC) HGB.out).trans hfC)
              | (refine step_call1 rfl 39 (.tmp 45) #[22] rfl eg (clone_is (l := (Value.slice A' k c').ownBlock.toList ++ g :: (w.heap.size + 1) :: l) HX0.out hpl) (by first | (simp [Act.eval]; done) | (simp only [Act.eval, Act.put]; simp; done) | simp [Act.eval, Act.put]) ?_; rintro e wC ⟨Ac, cc, rfl, hownC, hkC0⟩; refine ⟨_, rfl, ?_⟩; have hcp := hownC.isL HLX.out; have hkC := HKD.out.trans (hkC0.nil [g]); have hown1 := HOWN0.out.new hkC0; have hgC := hkC0.read (show wr.drew.cell? ⟨g, 1, none⟩ = some (.slice A' k c') from hcg) (by simp); have hfC := (hkC0.frozen (p := ⟨g, 1, none⟩) (show g < wr.heap.size by omega) (by simp)).trans (show wr.drew.frozen? ⟨g, 1, none⟩ = false from hf0); have hgD := ((Keeps.refl [] wC).alloc (.cells #[.slice Ac p.length cc] 22)).read hgC (by simp)))
            all_goals
              have hO2 := ((HOK.out.drew.keep hkC0 (by simp)).keep hg2 HGB.out).set_ (j := 1) (by omega) (.slice V2 (k + 1) c2)
              have hkg : Keeps [g] w41 (w41.setCell ⟨g, 1, none⟩ (.slice V2 (k + 1) c2)) := (Keeps.refl _ _).setCell (by simp) _
              have hown4 := hown2.keeps hkg (fun y hy => by
                rw [List.mem_singleton.1 hy]
                exact ⟨.inl (by simp), fun e => by have := (hown2.lt e).1; omega⟩)
              have hk5 := hk41.trans hkg
              have HO2 := Lib.hid hO2
              have HOWN4 := Lib.hid hown4
              have HK5 := Lib.hid hk5
              clear hO2 hown4 hk5
              clear hown2 hg2 hk41 hkC0 hkg hown1 hkC hcp hownC
              go_wp2_with fail
              go_roundg (m - k)
              case measure => omega
              case rel =>
                refine ⟨k + 1, V2, c2, by omega, by omega, by go_num, ?_, by rw [HTS.out]; exact HOWN4.out, HK5.out⟩
                refine HO2.out.congr fun q hq => ?_
                have : q = 0 ∨ q = 1 := by omega
                rcases this with e | e <;> subst e <;> rfl
          · obtain rfl : k = m := by omega
            have hZk := HZ3.out.keep hkk (by simp; omega)
            have hs1 : wr.cell? ⟨w.heap.size + 1, 0, none⟩ = some (.slice none 0 0) := (hZk 0 (by omega)).1
            have hs2 : wr.cell? ⟨w.heap.size + 1, 1, none⟩ = some (.slice none 0 0) := (hZk 1 (by omega)).1
            have hs3 : wr.frozen? ⟨w.heap.size + 1, 0, none⟩ = false := (hZk 0 (by omega)).2
            have hs4 : wr.frozen? ⟨w.heap.size + 1, 1, none⟩ = false := (hZk 1 (by omega)).2
            have HKK := Lib.hid hkk
            have HKk := Lib.hid hKk
            have HOWN := Lib.hid hown
            clear hown
            clear hZk hOk hkk hKk
            go_wp2_with fail
            obtain ⟨hq1, hq2, hkS⟩ := pair_set (.slice (some ⟨ga, 0, none⟩) i c1) (.slice A' k c') hs1 hs2
            have hobl := HOWN.out.blocks
            have hfin := ((HSUM3.out.weak (l' := (Value.slice A' k c').ownBlock.toList ++ g :: (w.heap.size + 1) :: l) (fun y hy => by
              rcases List.mem_append.1 hy with h1 | h1
              · exact .inr (by have := (hobl y h1).1; omega)
              · exact .inl h1)).keeps (HKK.out.more (by simp))).keeps (hkS.more (by simp))
            have hown2 := HOWN.out.keeps hkS (fun y hy => by
              rw [List.mem_singleton.1 hy]
              refine ⟨.inl (by simp), fun e => ?_⟩
              have := (HOWN.out.lt e).1
              omega)
            rw [List.take_of_length_le (by rw [HMM.out]; omega)] at hown2
            refine bodyPost_ret (v := .tuple #[.agg #[.slice (some ⟨ga, 0, none⟩) i c1, .slice A' k c'], .int .i64 0]) (by simp [results, Try.results53, go_sem, hq1, hq2]) rfl ⟨HKk.out.step hkS (by simp), .inr ⟨_, _, _, _, _, _, rfl, ?_, hfin.weak (fun y hy => .inl (by rcases List.mem_append.1 hy with h1 | h1 <;> simp [h1])), (hown2.weak (fun y hy => .inl (by simp [hy]))).low (by omega)⟩⟩
            exact (small_iff HSL.out).1 (by simpa using HR3.out)
end Go.Proofs.Ytdhadnnakcdfiaa
