/- The walk of hilbert.minimal. -/
import Derived.Test.YthpobeeccgmieaaMinA
namespace Go.Proofs.Ythpobeeccgmieaa
set_option linter.unusedVariables false
open Go.RowKit
attribute [local go_sem] Oper.semAt_some

def MinPost (lx : List Nat) (P : List Int → Bool) (k lo hi : Nat) (w : World) (e : Ending) (w' : World) : Prop :=
  ∃ V m c ys, m = ys.length ∧ e = .returned (.slice V m c) ∧ Asc ys ∧ (∀ x, x ∈ ys ↔ MinS P k lo hi x) ∧ OwL IsI [] 22 w.heap.size w' lx (.slice V m c) ys ∧ Keeps [] w w'

theorem cands_elem {k lo i : Nat} {y : List Int} (h : y ∈ cands k lo i) : y.length = k + 1 := (mem_cands.1 h).1
theorem anyB_any (out : List (List Int)) (q : List Int → Bool) : anyB out.length (fun i => q (out.getD i [])) = out.any q := by
  rw [Bool.eq_iff_iff, anyB_true, List.any_eq_true]
  constructor
  · rintro ⟨i, hi, h⟩
    exact ⟨_, getD_mem hi, h⟩
  · rintro ⟨x, hx, h⟩
    obtain ⟨i, hi, rfl⟩ := mem_getD (d := []) hx
    exact ⟨i, hi, h⟩

set_option maxRecDepth 100000 in
set_option maxHeartbeats 4000000 in
theorem minimal_is {w : World} {l : List Nat} {av bv : Value} {A : List (List Int)} {b : List Int} {r n lo hi : Nat} (hA : IsII w l av A) (hb : IsI w l bv b) (hS : Sys A r n) (hbl : b.length ≤ 1000) (hlo : lo ≤ 10) (hhi : hi ≤ 10) {lx : List Nat} (hlx : ∀ y ∈ lx, y < w.heap.size) :
    Calls Try.prog 39 #[av, bv, .int .i64 (lo : Int), .int .i64 (hi : Int)] w (MinPost lx (solB A b) (n - 1) lo hi w) := by
  unfold MinPost
  have hn6 := hS.n6
  have hn1 := hS.mat.c1.1
  have hk5 : n - 1 ≤ 5 := by omega
  have hkn : n - 1 + 1 = n := by omega
  have egm := enters_of Try.func56 (by kernel_rfl) rfl
  have egv := enters_of Try.func59 (by kernel_rfl) rfl
  have egi := enters_of Try.func72 (by kernel_rfl) rfl
  have hA0 : ∀ W, Keeps [] w W → IsII W [] av A := fun W k => Rok.weak (hA.new k) (by simp)
  have hb0 : ∀ W, Keeps [] w W → IsI W [] bv b := fun W k => Rok.weak (hb.new k) (by simp)
  have hr1 := hS.mat.r1.1
  obtain ⟨VA, cA, rfl, hrA⟩ := hA.mrow
  obtain ⟨VB, cB, rfl, _⟩ := hb.open
  obtain ⟨p0, B0, c0, rfl, hp0, _⟩ := hrA 0 (by rw [hS.mat.rows]; omega)
  have hz : p0.add 0 = p0 := by simp [Addr.add]
  rw [hz, hS.b.2.2] at hp0
  generalize hAl : A.length = ra at *
  generalize hBl : b.length = bl at *
  have hrp : 0 < ra := by have := hS.mat.rows; omega
  have hM0 : MW w (.slice (some p0) ra cA) (.slice VB bl cB) lx [] [] [] (((w.alloc (.cells #[.slice (some p0) ra cA] 23)).alloc (.cells #[.slice VB bl cB] 22)).alloc (.cells #[.slice none 0 0] 23)) := by
    refine ⟨((((Keeps.refl _ _).alloc _).alloc _).alloc _), by simp, by simp, ?_, ?_, ⟨none, 0, 0, rfl, ?_, OwL.nil, by simp [Value.ownBlock]⟩, by simp⟩
    · rw [World.cell?_alloc_lt _ _ _ (by simp; omega), World.cell?_alloc_lt _ _ _ (by simp)]; exact World.cell?_alloc_new _ _ _ _
    · rw [World.cell?_alloc_lt _ _ _ (by simp)]
      have := World.cell?_alloc_new (w := w.alloc (.cells #[.slice (some p0) ra cA] 23)) #[.slice VB bl cB] 22 0
      rw [World.size_alloc] at this; exact this
    · have := Own.new0 ((w.alloc (.cells #[.slice (some p0) ra cA] 23)).alloc (.cells #[.slice VB bl cB] 22)) (.slice none 0 0) 23
      simpa using this
  generalize hP : solB A b = P at *
  have HA := Lib.hid hA
  have HB := Lib.hid hb
  have HS := Lib.hid hS
  have HA0 := Lib.hid hA0
  have HB0 := Lib.hid hb0
  have HRA := Lib.hid hrA
  have HAL := Lib.hid hAl
  have HBL := Lib.hid hBl
  have HM0 := Lib.hid hM0
  have HP := Lib.hid hP
  have HZ := Lib.hid hz
  have HLX := Lib.hid hlx
  clear hA hb hS hA0 hb0 hrA hAl hBl hM0 hP hz hlx
  refine (callsIn_wide (n := 0)).1 (callsIn_of_wp_marks Try.func39 rfl trivial ?_ rfl)
  simp only [Try.ntmps39, List.size_toArray, List.length_cons, List.length_nil, Nat.reduceAdd, Nat.reduceSub, Array.replicate_succ, Array.replicate_zero, List.push_toArray, List.append_toArray, List.nil_append, List.cons_append]
  gi_wp2_with fail
  refine wpIn_loop_ghost_k (fun gh a W => ∃ (i s : Nat) (Ds : List Nat) (out : List (List Int)) (u13 u14 u15 u16 u17 u18 u19 u20 u21 u22 u23 : Value), hi + 2 ≤ s + gh ∧ s = lo + i ∧ (s ≤ hi + 1 ∨ i = 0) ∧ MinI P (cands (n - 1) lo i) out ∧ MW w (.slice (some p0) ra cA) (.slice VB bl cB) lx Ds [] out W ∧ Ds.Nodup ∧ (∀ D ∈ Ds, w.heap.size ≤ D) ∧
    a = { tmps := #[.slice (some p0) ra cA, .slice VB bl cB, .int .i64 (lo : Int), .int .i64 (hi : Int), .pointer (some ⟨w.heap.size, 0, none⟩), .pointer (some ⟨w.heap.size + 1, 0, none⟩), undef, undef, .slice none 0 0, .pointer (some ⟨w.heap.size + 1 + 1, 0, none⟩), .int .i64 (s : Int), undef, .int .i64 (lo : Int),
      u13, u14, u15, u16, u17, u18, u19, u20, u21, u22, u23, undef, undef, undef, undef, undef, undef, undef, undef, undef, undef, undef, undef, undef, undef, undef, undef, undef, undef], defers := Ds.map mark }) (hi + 2) ?_ ?_
  · exact ⟨0, lo, [], [], undef, undef, undef, undef, undef, undef, undef, undef, undef, undef, undef, by omega, rfl, .inr rfl, by simpa [cands] using MinI.nil, HM0.out, List.nodup_nil, by simp, rfl⟩
  · rintro gh _ W ⟨i, s, Ds, out, u13, u14, u15, u16, u17, u18, u19, u20, u21, u22, u23, hgh, hsi, hsb, hmin, hM, hnd, hge, rfl⟩ J K hJ hK
    by_cases hlt : s ≤ hi
    · have hca := hM.ca
      have hkw := hM.kp
      have hp := hkw.read hp0 (by simp)
      have hs10 : s ≤ 1000 := by omega
      have hvec := vectors_is W n s
      have HM := Lib.hid hM
      have HKW := Lib.hid hkw
      have HMIN := Lib.hid hmin
      have HND := Lib.hid hnd
      have HVEC := Lib.hid hvec
      have HSI := Lib.hid hsi
      have HSB := Lib.hid hsb
      have HGH := Lib.hid hgh
      have HGE := Lib.hid hge
      clear hM hkw hmin hnd hvec hsi hsb hgh hge
      gi_wp2_with ((try refine ⟨trivial, ?_⟩); (try refine ⟨rfl, ?_⟩); gi_at_call 54; refine (callsIn_wide.2 HVEC.out).mono ?_; rintro e w1 ⟨rfl, hn1', hs1', hk1, hz1⟩)
      have hM1 := (mw_ok _ _ _ _ _).keeps HM.out (hk1.nil _)
      have hgt : ∀ d, d ≤ 1 → w.heap.size + 2 < W.heap.size + d := fun d hd => by
        obtain ⟨V, m, c, e, h5, h6, h7⟩ := HM.out.co
        have := lt_of_cell (h5 0 (by omega)).1
        simp at this; omega
      refine wpIn_rangeV (xs := vecs (n - 1) s) (Kc := [W.heap.size, W.heap.size + 1]) rfl rfl egi (vec1_seq hn1' hs1' ⟨hn1, by omega⟩ hs10) (fun y hy => by simp only [List.mem_cons, List.not_mem_nil, or_false] at hy; omega)
        (fun O pre W => MW w (.slice (some p0) ra cA) (.slice VB bl cB) lx Ds O (pre.foldl (minAdd P) out) W) ⟨fun h k => (mw_ok _ _ _ _ _).keeps h k, fun h k => (mw_ok _ _ _ _ _).weak h k⟩
        (by
          have := (mw_ok _ _ _ _ _).weak HM.out (O' := [W.heap.size, W.heap.size + 1]) (fun y hy => .inr (by simp only [List.mem_cons, List.not_mem_nil, or_false] at hy; omega))
          have h0 := hk1.nil [W.heap.size, W.heap.size + 1]
          exact (mw_ok _ _ _ _ _).keeps this h0) ?round ?done
      case round =>
        rintro l' O pre x rest v Wp W' hx hI hOp hkp hv hl
        have hx' : x ∈ vecs (n - 1) s := by rw [hx]; simp
        obtain ⟨hxl, hxp, hxs⟩ := mem_vecs.1 hx'
        rw [hkn] at hxl
        have hxf : VFin x := vval_small (M := 10) (by omega) hxp (by omega) (by omega)
        have hxr : ∀ y ∈ x, -1048576 ≤ y ∧ y ≤ 1048576 := fun y hy => by have := hxf.el y hy; omega
        have hlp := hOp l' hl
        have hlw : l' < W'.heap.size := Nat.lt_of_lt_of_le hlp hkp.size
        have hmI := fold_min hk5 HSI.out (by omega) HMIN.out hx
        have hnext : (pre ++ [x]).foldl (minAdd P) out = minAdd P (pre.foldl (minAdd P) out) x := by simp [List.foldl_append]
        have hol : ∀ y ∈ pre.foldl (minAdd P) out, y.length = n := fun y hy => by
          rcases List.mem_append.1 (hmI.sub y hy).1 with h | h
          · rw [cands_elem h, hkn]
          · have := (mem_vecs.1 (show y ∈ vecs (n - 1) s by rw [hx]; simp [h])).1
            omega
        have hon : (pre.foldl (minAdd P) out).length ≤ 100000000 := by
          have h1 := hmI.len
          have h2 := cands_len (n - 1) lo hk5 i (by have := HSI.out; omega)
          have h3 := vecs_len (n - 1) s (by omega)
          have h4 := pow11 hk5
          have h5 : pre.length ≤ (vecs (n - 1) s).length := by rw [hx, List.length_append]; omega
          rw [List.length_append] at h1
          have := HSI.out
          have h6 : i * 161051 ≤ 10 * 161051 := Nat.mul_le_mul_right _ (by omega)
          omega
        rw [hnext]
        generalize pre.foldl (minAdd P) out = out1 at *
        obtain ⟨C, cc, rfl, _⟩ := (hv [] (by simp)).open
        rw [hxl] at hv ⊢
        have hzp := (MW.later hI (Keeps.refl _ _)).choose_spec.choose_spec.choose_spec.2.2.2.2.2
        have HI := Lib.hid hI
        have HOP := Lib.hid hOp
        have HKP := Lib.hid hkp
        have HV := Lib.hid hv
        have HMI := Lib.hid hmI
        have HOL := Lib.hid hol
        have HX := Lib.hid hx
        have HX' := Lib.hid hx'
        have HM1 := Lib.hid hM1
        have HXL := Lib.hid hxl
        have HNEXT := Lib.hid hnext
        clear hI hOp hkp hv hmI hol hx hx' hM1 hxl hnext
        gi_wp2_with fail
        refine ⟨KO.of_keeps ((Keeps.refl [] W').alloc _) (by simp), fun w2 hk2 => ?_⟩
        have kW : Keeps O Wp w2 := ((HKP.out.nil O).trans ((Keeps.refl O _).alloc _)).trans (hk2.more (fun y hy => by rw [List.mem_singleton.1 hy]; exact hl))
        have hM2 := (mw_ok _ _ _ _ _).keeps HI.out kW
        obtain ⟨V, m, c, hml, hob, hOw, hOl, hne, _⟩ := MW.later HI.out kW
        have hbx : w2.cell? ⟨W'.heap.size, 0, none⟩ = some (.slice C n cc) := hk2.read (World.cell?_alloc_new _ _ _ _) (by simp; omega)
        have hv2 : ∀ O', (∀ y ∈ O', y < Wp.heap.size) → IsI w2 O' (.slice C n cc) x := fun O' h => by
          have h1 := HV.out (l' :: O') (fun y hy => (List.mem_cons.1 hy).elim (fun e => by rw [e]; exact hlp) (h y))
          have h2 := h1.new ((Keeps.refl [] W').alloc (.cells #[.slice C n cc] 22))
          exact (h2.keeps (hk2.more (by simp))).weak (fun y hy => .inl (by simp [hy]))
        have hsol := solves_is (HA0.out w2 hM2.kp) (HB0.out w2 hM2.kp) (hv2 [] (by simp)) HS.out.mat (by rw [HBL.out]; omega) HXL.out hxr (by simp)
        rw [HP.out] at hsol
        have hca2 := hM2.ca
        have hcb2 := hM2.cb
        have hpre : ∀ w3, Keeps [] w2 w3 → MW w (.slice (some p0) ra cA) (.slice VB bl cB) lx Ds O out1 w3 := fun w3 k => (mw_ok _ _ _ _ _).keeps hM2 (k.nil _)
        have hany : ∀ w3, Keeps [] w2 w3 → Calls Try.prog 55 #[.slice V m c, .func (.func 56) #[] #[.pointer (some ⟨W'.heap.size, 0, none⟩)]] w3 (RetB (out1.any fun y => vleB y x) w3) := fun w3 k => by
          have h1 : IsL IsI [] w3 [] (.slice V m c) out1 := ((hOl.new k).weak (l' := []) (by simp)).isL (by simp)
          have := ans_rows (g := 56) (lb := #[.pointer (some ⟨W'.heap.size, 0, none⟩)]) (p := fun i => vleB (out1.getD i []) x) h1 (by omega) egm (fun W4 i u hi k4 hu => by
            have hxu := HOL.out _ (getD_mem (d := []) hi)
            exact min1_is hu ((hv2 [] (by simp)).new (k.trans k4)) ((k.trans k4).read hbx (by simp)) (by omega) (by have := HXL.out; omega))
          rw [anyB_any out1 (fun y => vleB y x)] at this
          exact this
        cases hPx : P x with
        | false =>
          rw [hPx] at hsol
          have HSOL := Lib.hid hsol
          have HPRE := Lib.hid hpre
          have HM2 := Lib.hid hM2
          have HOW := Lib.hid hOw
          have HOL := Lib.hid hOl
          have HNE := Lib.hid hne
          have HOB := Lib.hid hob
          have HML := Lib.hid hml
          have HV2 := Lib.hid hv2
          have HANY := Lib.hid hany
          have KW := Lib.hid kW
          have HK2 := Lib.hid hk2
          have HPX := Lib.hid hPx
          clear hsol hpre hM2 hOw hOl hne hob hml hv2 hany kW hk2 hPx
          gi_wp2_with ((try refine ⟨trivial, ?_⟩); (try refine ⟨rfl, ?_⟩); gi_at_call 36; refine (CallsIn.inRound l' (callsIn_wide.2 HSOL.out)).mono ?_; rintro e w3 ⟨rfl, hk3⟩)
          refine ⟨trivial, ?_⟩
          gi_wp2
          exact ⟨KO.of_keeps hk3 (by simp), by rw [minAdd_no HPX.out]; exact HPRE.out w3 hk3⟩
        | true =>
          rw [hPx] at hsol
          have hco : ∀ w3, Keeps [] w2 w3 → w3.cell? ⟨w.heap.size + 1 + 1, 0, none⟩ = some (.slice V m c) := fun w3 k => k.read (hOw 0 (by omega)).1 (by simp)
          cases hax : out1.any fun y => vleB y x with
          | true =>
            rw [hax] at hany
            have HSOL := Lib.hid hsol
            have HPRE := Lib.hid hpre
            have HM2 := Lib.hid hM2
            have HOW := Lib.hid hOw
            have HOL := Lib.hid hOl
            have HNE := Lib.hid hne
            have HOB := Lib.hid hob
            have HML := Lib.hid hml
            have HV2 := Lib.hid hv2
            have HANY := Lib.hid hany
            have KW := Lib.hid kW
            have HK2 := Lib.hid hk2
            have HPX := Lib.hid hPx
            have HCO := Lib.hid hco
            have HAX := Lib.hid hax
            clear hsol hpre hM2 hOw hOl hne hob hml hv2 hany kW hk2 hPx hco hax
            gi_wp2_with (first
              | ((try refine ⟨trivial, ?_⟩); (try refine ⟨rfl, ?_⟩); gi_at_call 36; refine (CallsIn.inRound l' (callsIn_wide.2 HSOL.out)).mono ?_; rintro e w3 ⟨rfl, hk3⟩; have hco3 := HCO.out w3 hk3; have hany3 := Lib.hid (HANY.out w3 hk3))
              | ((try refine ⟨trivial, ?_⟩); (try refine ⟨rfl, ?_⟩); gi_at_call 55; refine (CallsIn.inRound l' (callsIn_wide.2 hany3.out)).mono ?_; rintro e w4 ⟨rfl, hk4⟩))
            exact ⟨KO.of_keeps (hk3.trans hk4) (by simp), by rw [minAdd_any HAX.out]; exact HPRE.out w4 (hk3.trans hk4)⟩
          | false =>
            rw [hax] at hany
            have hOw4 : ∀ w4, Keeps [] w2 w4 → w4.cell? ⟨w.heap.size + 1 + 1, 0, none⟩ = some (.slice V m c) ∧ w4.cell? ⟨W'.heap.size, 0, none⟩ = some (.slice C n cc) ∧ OwL IsI [] 22 (w.heap.size + 3) w4 ((w.heap.size + 2) :: (O ++ lx)) (.slice V m c) out1 ∧ IsI w4 ((Value.slice V m c).ownBlock.toList ++ ((w.heap.size + 2) :: (O ++ lx))) (.slice C n cc) x ∧ w.heap.size + 3 ≤ w4.heap.size := fun w4 k =>
              ⟨hco w4 k, k.read hbx (by simp), hOl.new k, (hv2 _ (fun y hy => by
                rcases List.mem_append.1 hy with h | h
                · exact (hob y h).2
                rcases List.mem_cons.1 h with h | h
                · rw [h]; exact hzp
                rcases List.mem_append.1 h with h | h
                · exact HOP.out y h
                · have := HLX.out y h; omega)).new k, by
                have h1 := kW.size
                have h2 := k.size
                omega⟩
            have hst : ∀ w4 w5 (V' : Option Addr) (c' : Nat), Keeps [] w2 w4 → OwL IsI [] 22 (w.heap.size + 3) w5 ((w.heap.size + 2) :: (O ++ lx)) (.slice V' (m + 1) c') (out1 ++ [x]) → Keeps (Value.slice V m c).ownBlock.toList w4 w5 → (∀ y ∈ (Value.slice V' (m + 1) c').ownBlock.toList, y ∈ (Value.slice V m c).ownBlock.toList ∨ w4.heap.size ≤ y) →
                (w5.cell? ⟨w.heap.size + 1 + 1, 0, none⟩ = some (.slice V m c) ∧ w5.frozen? ⟨w.heap.size + 1 + 1, 0, none⟩ = false) ∧ KO O w2 (w5.setCell ⟨w.heap.size + 1 + 1, 0, none⟩ (.slice V' (m + 1) c')) ∧ MW w (.slice (some p0) ra cA) (.slice VB bl cB) lx Ds O (minAdd P out1 x) (w5.setCell ⟨w.heap.size + 1 + 1, 0, none⟩ (.slice V' (m + 1) c')) := fun w4 w5 V' c' k4 hown5 hk5 hb5 => by
              have hw4 := hpre w4 k4
              have ho4 : Go.Proofs.Ythpobeeccgmieaa.Own w4 (w.heap.size + 2) 1 (fun _ => .slice V m c) := hOw.keep k4 (by simp)
              have ho5 : Go.Proofs.Ythpobeeccgmieaa.Own w5 (w.heap.size + 2) 1 (fun _ => .slice V m c) := ho4.keep hk5 (fun hm => by have := (hob _ hm).1; omega)
              refine ⟨ho5 0 (by omega), ?_, ?_⟩
              · refine ((KO.of_keeps k4 (by simp)).trans (KO.of_keeps hk5 fun y hy => hne y hy)).trans (KO.of_keeps (l := [w.heap.size + 2]) ((Keeps.refl _ _).setCell (by simp) _) fun y hy hm => ?_)
                rw [List.mem_singleton.1 hy] at hm
                have := hw4.sep _ hm
                omega
              · rw [minAdd_yes hPx hax]
                have hlt4 : ∀ y, y < Wp.heap.size → y < w4.heap.size := fun y h => by
                  have h1 := kW.size
                  have h2 := k4.size
                  omega
                have hnm := not_mark (hOl.new k4) (fun D hD => (hw4.ds D hD).1)
                exact MW.pushed hw4 (by rw [List.length_append, hml]; rfl) ho4 hown5 (fun y hy => ⟨(hob y hy).1, hlt4 y (hob y hy).2, hne y hy, hnm y hy⟩) hk5 hb5 (fun y hy => hlt4 y (HOP.out y hy))
            have HSOL := Lib.hid hsol
            have HPRE := Lib.hid hpre
            have HM2 := Lib.hid hM2
            have HOW := Lib.hid hOw
            have HOL := Lib.hid hOl
            have HNE := Lib.hid hne
            have HOB := Lib.hid hob
            have HML := Lib.hid hml
            have HV2 := Lib.hid hv2
            have HANY := Lib.hid hany
            have KW := Lib.hid kW
            have HK2 := Lib.hid hk2
            have HPX := Lib.hid hPx
            have HCO := Lib.hid hco
            have HAX := Lib.hid hax
            have HOW4 := Lib.hid hOw4
            have HST := Lib.hid hst
            clear hsol hpre hM2 hOw hOl hne hob hml hv2 hany kW hk2 hPx hco hax hOw4 hst
            gi_wp2_with (first
              | ((try refine ⟨trivial, ?_⟩); (try refine ⟨rfl, ?_⟩); gi_at_call 36; refine (CallsIn.inRound l' (callsIn_wide.2 HSOL.out)).mono ?_; rintro e w3 ⟨rfl, hk3⟩; have hco3 := HCO.out w3 hk3; have hany3 := Lib.hid (HANY.out w3 hk3))
              | ((try refine ⟨trivial, ?_⟩); (try refine ⟨rfl, ?_⟩); gi_at_call 55; refine (CallsIn.inRound l' (callsIn_wide.2 hany3.out)).mono ?_; rintro e w4 ⟨rfl, hk4⟩; obtain ⟨hco4, hbx4, hol4, hvx4, hzb4⟩ := HOW4.out w4 (hk3.trans hk4); have hOL4 := Lib.hid hol4; have hVX4 := Lib.hid hvx4; clear hol4 hvx4)
              | (gi_at_builtin; refine wpListIn_push sl_rowsi rfl _ _ rfl (w := w4) (v := .slice V m c) (u := .slice C n cc) (y := x) rfl rfl hOL4.out hVX4.out (m := m + 1) (by rw [HML.out]) (by rw [HML.out]; omega) hzb4 ?_; intro V' c' w5 hown5 hk5 hb5; obtain ⟨⟨hc5, hf5⟩, hko5, hmw5⟩ := HST.out w4 w5 V' c' (hk3.trans hk4) hown5 hk5 hb5; have hKO5 := Lib.hid hko5; have hMW5 := Lib.hid hmw5; clear hko5 hmw5 hown5 hb5))
            exact ⟨hKO5.out, hMW5.out⟩
      case done =>
        intro W2 hM2 hD2
        have hmin' : MinI P (cands (n - 1) lo (i + 1)) ((vecs (n - 1) s).foldl (minAdd P) out) := by
          have := fold_min (rest := []) hk5 HSI.out (by omega) HMIN.out (by simp : vecs (n - 1) s = vecs (n - 1) s ++ [])
          rw [cands_succ, ← HSI.out]; exact this
        have hds : ∀ D ∈ w1.heap.size :: Ds, W2.heap[D]? = some (.deferred (some [])) ∧ D ∉ [] := fun D hD => by
          rcases List.mem_cons.1 hD with e | hD
          · rw [e]; exact ⟨hD2, by simp⟩
          · exact hM2.ds D hD
        have hM3 : MW w (.slice (some p0) ra cA) (.slice VB bl cB) lx (w1.heap.size :: Ds) [] ((vecs (n - 1) s).foldl (minAdd P) out) W2 := ⟨hM2.kp, hM2.lo, hM2.sep, hM2.ca, hM2.cb, hM2.co, hds⟩
        have hnd' : (w1.heap.size :: Ds).Nodup := List.nodup_cons.2 ⟨fun hm => by have := heap_lt' (HM.out.ds _ hm).1; have := hk1.size; omega, HND.out⟩
        have hge' : ∀ D ∈ w1.heap.size :: Ds, w.heap.size ≤ D := fun D hD => by
          rcases List.mem_cons.1 hD with e | hD
          · rw [e]; exact hM1.kp.size
          · exact HGE.out D hD
        have HMIN' := Lib.hid hmin'
        have HM2 := Lib.hid hM2
        have HM3 := Lib.hid hM3
        have HD2 := Lib.hid hD2
        have HDS := Lib.hid hds
        have HND' := Lib.hid hnd'
        have HM1 := Lib.hid hM1
        have HGE' := Lib.hid hge'
        clear hmin' hM2 hM3 hD2 hds hnd' hM1 hge'
        gi_wp2_with fail
        refine Handed.intro (gh - 1) (by have := HGH.out; omega) (hJ _ _ _ ⟨i + 1, s + 1, w1.heap.size :: Ds, _, _, _, _, _, _, _, _, _, _, _, _, by have := HGH.out; omega, by have := HSI.out; omega, .inl (by omega), HMIN'.out, HM3.out, HND'.out, HGE'.out, rfl⟩)
    · have hie : i = hi + 1 - lo := by omega
      rw [hie] at hmin
      have hmem := min_of hmin
      have hM' := hM
      obtain ⟨h1, h2, h0, h3, h4, ⟨V, m, c, hml, h5, h6, h7⟩, h8⟩ := hM'
      have hob := h6.blocks
      have hlen : ∀ x ∈ out, x.length ≤ 1000000 := fun x hx => by have := ((hmem x).1 hx).1.len; omega
      have hon : out.length ≤ 1000000000 := by
        have h1 := hmin.len
        by_cases hc : lo ≤ hi + 1
        · have h2 := cands_len (n - 1) lo hk5 (hi + 1 - lo) (by omega)
          have h6 : (hi + 1 - lo) * 161051 ≤ 11 * 161051 := Nat.mul_le_mul_right _ (by omega)
          omega
        · have : hi + 1 - lo = 0 := by omega
          rw [this] at h1
          simp [cands] at h1
          rw [h1]; simp
      have hsort := sort_own Try.sorts58 cmpL_swo egv h6 (cb := #[]) (fun b hb => cmpR_vec hlen) hon
      change Calls Try.prog 58 _ _ _ at hsort
      have hco : W.cell? ⟨w.heap.size + 1 + 1, 0, none⟩ = some (.slice V m c) := (h5 0 (by omega)).1
      have hle : decide ((s : Int) ≤ (hi : Int)) = false := decide_eq_false (by omega)
      have hco3 : ∀ w3, Keeps (Value.slice V m c).ownBlock.toList W w3 → w3.cell? ⟨w.heap.size + 1 + 1, 0, none⟩ = some (.slice V m c) := fun w3 k => k.read hco (fun hm => by have := (hob _ hm).1; simp at this; omega)
      have HMIN := Lib.hid hmin
      have HM := Lib.hid hM
      have HND := Lib.hid hnd
      have HGE := Lib.hid hge
      have HSI := Lib.hid hsi
      have HSB := Lib.hid hsb
      have HGH := Lib.hid hgh
      have HMEM := Lib.hid hmem
      have H1 := Lib.hid h1
      have H2 := Lib.hid h2
      have H0 := Lib.hid h0
      have H3 := Lib.hid h3
      have H4 := Lib.hid h4
      have HML := Lib.hid hml
      have H5 := Lib.hid h5
      have H6 := Lib.hid h6
      have H7 := Lib.hid h7
      have H8 := Lib.hid h8
      have HOB := Lib.hid hob
      have HLEN := Lib.hid hlen
      have HON := Lib.hid hon
      have HSORT := Lib.hid hsort
      have HCO3 := Lib.hid hco3
      clear hmin hM hnd hge hsi hsb hgh hmem h1 h2 h0 h3 h4 hml h5 h6 h7 h8 hob hlen hon hsort hco3
      gi_wp2_with ((try refine ⟨trivial, ?_⟩); (try refine ⟨rfl, ?_⟩); gi_at_call 58; refine (callsIn_wide.2 HSORT.out).mono ?_; rintro e w3 ⟨rfl, ys, hp, hs, hO3, hk3⟩; have hc3 := HCO3.out w3 hk3)
      have hs2 : ys.Pairwise (fun a b => ¬ cmpL b a < 0) := List.Pairwise.imp (fun {a b} h => by omega) hs
      have hasc := asc_of_sorted hs2 (hp.nodup_iff.2 HMIN.out.nodup)
      have hys : ∀ x, x ∈ ys ↔ MinS P (n - 1) lo hi x := fun x => hp.mem_iff.trans (HMEM.out x)
      have hyl : m = ys.length := by rw [hp.length_eq, HML.out]
      have hnm := not_mark H6.out (fun D hD => (H8.out D hD).1)
      have hd3 : ∀ D ∈ Ds, w3.heap[D]? = some (.deferred (some [])) := fun D hD => (hk3.block D (heap_lt' (H8.out D hD).1) (fun hm => hnm D hm hD)).trans (H8.out D hD).1
      have hnm3 := not_mark hO3 hd3
      have hK3 : Keeps [] w w3 := H1.out.step hk3 (fun y hy => .inr (by have := (HOB.out y hy).1; omega))
      exact leaves_marks Ds w3 HND.out hd3 fun W' k => ⟨_, results_tmp rfl _ _ _, V, m, c, ys, hyl, rfl, hasc, hys,
        (((hO3.noCells hd3).keeps k fun y hy => ⟨.inl (by simp [hy]), fun e => hnm3 y (by rw [e]; simp) hy⟩).weak (l' := lx) (fun y hy => .inl (by simp [hy]))).low (by omega), hK3.step k fun y hy => .inr (HGE.out y hy)⟩
end Go.Proofs.Ythpobeeccgmieaa
