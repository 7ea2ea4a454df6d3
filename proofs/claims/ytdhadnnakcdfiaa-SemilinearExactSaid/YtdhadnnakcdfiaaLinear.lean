/- The walk of Deck.Linear. -/
import Derived.Test.YtdhadnnakcdfiaaPutL
import Derived.Test.YtdhadnnakcdfiaaDeck
import Derived.Test.YtdhadnnakcdfiaaShift
namespace Go.Proofs.Ytdhadnnakcdfiaa
set_option linter.unusedVariables false
open Go.RowKit

/-- What is dealt: a good set of small numbers. -/
structure Small4 (n : Nat) (s : Lin) : Prop where
  good : Good n s
  b4 : ∀ x ∈ s.base, 0 ≤ x ∧ x ≤ 4
  p4 : ∀ p ∈ s.per, ∀ x ∈ p, 0 ≤ x ∧ x ≤ 4

def LinPost (n : Nat) (b B : Nat) (w : World) (e : Ending) (w' : World) : Prop :=
  ∃ A c A' m c' s, e = .returned (.agg #[.slice A n c, .slice A' m c']) ∧ IsLin w' [b] (.slice A n c) (.slice A' m c') s ∧ Small4 n s ∧ Deck w' b B ∧ Keeps [b] w w'

theorem asc_ord {n : Nat} {L : List (List Int)} (h : Asc L) (hl : ∀ p ∈ L, p.length = n) {i : Nat} (h1 : 1 ≤ i) (h2 : i < L.length) : LtV n (fun k => (L.getD (i - 1) []).getD k 0) (fun k => (L.getD i []).getD k 0) := by
  have hp := List.pairwise_iff_getElem.1 h (i - 1) i (by omega) h2 (by omega)
  have e1 : L.getD (i - 1) [] = L[i - 1] := by simp [List.getD_eq_getElem?_getD, show i - 1 < L.length by omega]
  have e2 : L.getD i [] = L[i] := by simp [List.getD_eq_getElem?_getD, h2]
  have l1 := hl _ (List.getElem_mem (show i - 1 < L.length by omega))
  have l2 := hl _ (List.getElem_mem h2)
  rw [e1, e2]
  unfold cmpL at hp
  rw [if_pos (by rw [l1, l2])] at hp
  have := lexc_vlt (by rw [l1, l2]) hp
  rw [l1] at this
  exact this

theorem set_getD (zs : List Int) (x i : Nat) (v : Int) (hx : x < zs.length) : (zs.set x v).getD i 0 = upd (fun i => zs.getD i 0) x v i := by
  simp only [upd, List.getD_eq_getElem?_getD, List.getElem?_set]
  by_cases e : x = i
  · subst e; rw [if_pos rfl, if_pos hx, if_pos rfl]; rfl
  · rw [if_neg e, if_neg (fun h => e h.symm)]

set_option maxRecDepth 100000 in
set_option maxHeartbeats 2000000 in
theorem linear_is (w : World) (b B n : Nat) (hD : Deck w b B) (hn1 : 1 ≤ n) (hn : n ≤ 4) :
    Calls Try.prog 11 #[.pointer (some ⟨b, 0, none⟩), .int .i64 (n : Int)] w (LinPost n b B w) := by
  have hbl := hD.lt
  have hK0 : Keeps [] w (w.alloc (.cells #[.slice none 0 0, .slice none 0 0] 29)) := (Keeps.refl _ _).alloc _
  have hD0 := hD.keeps hK0 (by simp) (by simp)
  have HD := Lib.hid hD
  have HK0 := Lib.hid hK0
  have HD0 := Lib.hid hD0
  clear hD hK0 hD0
  go_enter Try.func11, Try.ntmps11
  go_wp2_with fail
  refine (small_any _ b B n 4 HD0.out (by omega) (by omega)).mono ?_
  rintro e w1 ⟨A, c, zs, rfl, hzl, hz, hown, hD1, hK1⟩
  have hzr : VecOk n 4 zs := ⟨hzl, fun z hz' => by have := hz z hz'; omega⟩
  have hz0 := HK0.out.size
  have hz1 := hK1.size
  simp only [World.size_alloc] at hz0 hz1
  have hown := isN_own (l := [w.heap.size, b]) (xs := zs) (v := .slice A n c) rfl (by rw [hzl]; exact hown)
  have hbase : IsI w1 [w.heap.size, b] (.slice A n c) zs := hown.isL (by simp at *; omega)
  have hG4 : Own w1 w.heap.size 2 (fun i => if i = 0 then .slice none 0 0 else .slice none 0 0) := (own_pair (w := w)).keep hK1 (by simp; omega)
  have hK1 := (HK0.out.nil [b]).trans hK1
  have HZL := Lib.hid hzl
  have HZ := Lib.hid hz
  have HD1 := Lib.hid hD1
  have HZR := Lib.hid hzr
  have HK1 := Lib.hid hK1
  have HBASE := Lib.hid hbase
  clear hzl hz hD1 hzr hK1 hbase
  clear hown
  go_wp2_with fail
  have hal1 : Keeps [] w1 (w1.alloc (.cells #[.slice A n c, .slice none 0 0] 29)) := (Keeps.refl _ _).alloc _
  have hD2 := HD1.out.keeps hal1 (by simp) (by simp)
  refine (next_any _ b B 4 hD2 (by omega)).mono ?_
  rintro e w2 ⟨k0, rfl, _, hk0, hD2, hK2⟩
  have hk0 := hk0 (by omega)
  have hk2 := hal1.nil [b] |>.trans hK2
  have hz2 := hK2.size
  simp only [World.size_alloc] at hz2
  have hpair : Own w2 w1.heap.size 2 (fun i => if i = 0 then .slice A n c else .slice none 0 0) := (own_pair (w := w1)).keep hK2 (by simp; omega)
  have hG42 := hG4.keep hk2 (by simp; omega)
  generalize hg5 : w1.heap.size = g at *
  have HK2 := Lib.hid (HK1.out.trans hk2)
  have hbase2 := (HBASE.out.weak (l' := [g, w.heap.size, b]) (fun y hy => by simp at hy; rcases hy with e | e | e; exact .inr (by omega); exact .inl (by simp [e]); exact .inl (by simp [e]))).keeps (hk2.more (by simp))
  have HPAIR := Lib.hid hpair
  have HD2 := Lib.hid hD2
  have HBASE2 := Lib.hid hbase2
  have HG5 := Lib.hid hg5
  have HG42 := Lib.hid hG42
  clear hpair hD2 hbase2 hg5 hG42
  clear hG4
  clear hK2 hk2 hal1
  go_wp2_with fail
  go_loopg [6] 4 (fun gh kv wr => ∃ (k : Nat) (A' : Option Addr) (m c' : Nat) (P : List (List Int)), k < gh ∧ k ≤ 3 ∧ kv = .int .i64 (k : Int) ∧ Own wr g 2 (fun i => if i = 0 then .slice A n c else .slice A' m c') ∧ IsII wr [g, w.heap.size, b] (.slice A' m c') P ∧ Asc P ∧ (∀ p ∈ P, p.length = n ∧ (∀ x ∈ p, 0 ≤ x ∧ x ≤ 4) ∧ ∃ i, i < n ∧ p.getD i 0 ≠ 0) ∧ P.length + k ≤ 3 ∧ Deck wr b B ∧ Keeps [g, b] w2 wr)
  case atStart => exact ⟨k0, none, 0, 0, [], by omega, by omega, rfl, HPAIR.out, IsII.nil, List.Pairwise.nil, by simp, by simp; omega, HD2.out, Keeps.refl _ _⟩
  case round =>
    obtain ⟨k, A', m, c', P, hgh, hk3, rfl, hO, hP, hasc, hPs, hPl, hDr, hKr⟩ := hrel
    have hzr := hKr.size
    have HO := Lib.hid hO
    have HP := Lib.hid hP
    have HASC := Lib.hid hasc
    have HDR := Lib.hid hDr
    have HKR := Lib.hid hKr
    clear hO hP hasc hDr hKr
    have HPS := Lib.hid hPs
    clear hPs
    by_cases hlt : 0 < k
    · go_wp2_with fail
      refine (small_any wr b B n 3 HDR.out (by omega) (by omega)).mono ?_
      rintro e w3 ⟨A3, c3, ys, rfl, hyl, hy, hown3, hD3, hK3⟩
      have hz3 := hK3.size
      have hown3 := isN_own (l := [g, w.heap.size, b]) (xs := ys) (v := .slice A3 n c3) rfl (by rw [hyl]; exact hown3)
      have HO3 := HO.out.keep hK3 (by simp; omega)
      have HYL := Lib.hid hyl
      have HY := Lib.hid hy
      have HOWN3 := Lib.hid hown3
      have HD3 := Lib.hid hD3
      clear hyl hy hown3 hD3
      have HK3 := Lib.hid (HKR.out.trans (hK3.more (l' := [g, b]) (by simp)))
      have HK3R := Lib.hid hK3
      clear hK3
      go_wp2_with fail
      refine (next_any w3 b B n HD3.out (by omega)).mono ?_
      rintro e w4 ⟨x, rfl, _, hx, hD4, hK4⟩
      have hx := hx (by omega)
      have hz4 := hK4.size
      have hown4 := HOWN3.out.keep (hK4.more (l' := [g, w.heap.size, b]) (by simp)) (by simp; omega)
      obtain ⟨g7, c7, hv7, hc7, hg7, hg7', hO7⟩ := hown4.own (by rw [HYL.out]; omega)
      rw [HYL.out] at hv7 hc7 hO7
      injection hv7 with e1 e2 e3
      subst e1; subst e3
      have hyx := HY.out _ (getD_mem (d := 0) (show x < ys.length by rw [HYL.out]; omega))
      have hc1 : w4.cell? ⟨g7, x, none⟩ = some (.int .i64 (ys.getD x 0)) := (hO7 x (by omega)).1
      have hc2 := (hO7 x (by omega)).2
      have HO4 := HO3.keep hK4 (by simp; omega)
      have hset := set_getD ys x
      generalize hyxe : ys.getD x 0 = y at *
      have hkset : Keeps [g7] w4 (w4.setCell ⟨g7, x, none⟩ (.int .i64 (y + 1))) := (Keeps.refl _ _).setCell (by simp) _
      have hO5 := HO4.keep hkset (by simp; omega)
      have hP5 := HP.out.later (((HK3R.out.trans hK4).more (l' := [b, g7]) (by simp)).setCell (p := ⟨g7, x, none⟩) (by simp) (.int .i64 (y + 1))) (by simp; omega)
      have hD5 := hD4.keeps hkset (by simp; omega) (by simp; omega)
      have hq5 : IsI (w4.setCell ⟨g7, x, none⟩ (.int .i64 (y + 1))) [g, w.heap.size, b] (.slice (some ⟨g7, 0, none⟩) n c3) (ys.set x (y + 1)) := (hO7.updInt (by omega) (y + 1)).isI (by simp; omega) hc7 (by rw [List.length_set]; exact HYL.out) (fun i hi => by rw [hset i (y + 1) (by rw [HYL.out]; omega)])
      have hK5 := HK3.out.trans (hK4.more (l' := [g, b]) (by simp)) |>.step hkset (by simp; omega)
      have hcP := (hO5 1 (by omega)).1
      simp only [Nat.one_ne_zero, if_false] at hcP
      have HO5 := Lib.hid hO5
      have HP5 := Lib.hid hP5
      have HD5 := Lib.hid hD5
      have HQ5 := Lib.hid hq5
      have HK5 := Lib.hid hK5
      have HSET := Lib.hid hset
      have HO7 := Lib.hid hO7
      clear hO5 hP5 hD5 hq5 hK5 hset hO7
      clear hown4 HO4 hkset hK4 HO3 hD4
      go_wp2_with fail
      refine (put_is (l := [g, w.heap.size, b]) (by simp; omega) HP5.out HQ5.out (by omega) (fun p hp => by have := (HPS.out p hp).1; omega) (by rw [List.length_set, HYL.out]; omega)).mono ?_
      rintro e w6 ⟨A6, n6, c6, rfl, hP6, hK6⟩
      have hz6 := hK6.size
      have hcA := hK6.read (HO5.out 1 (by omega)).1 (by simp)
      have hcB := (hK6.frozen (p := ⟨g, 1, none⟩) (by show g < _; simp; omega) (by simp)).trans (HO5.out 1 (by omega)).2
      simp only [Nat.one_ne_zero, if_false] at hcA
      have hO6 := (HO5.out.keep hK6 (by simp)).set_ (j := 1) (by omega) (.slice A6 n6 c6)
      have hD6 := (HD5.out.keeps hK6 (by simp) (by simp)).keeps (l := [g]) ((Keeps.refl _ _).setCell (p := ⟨g, 1, none⟩) (by simp) (.slice A6 n6 c6)) (by simp; omega) (by simp; omega)
      have hP7 := hP6.keeps (((Keeps.refl _ _).setCell (p := ⟨g, 1, none⟩) (by simp) (.slice A6 n6 c6)) : Keeps [g, w.heap.size, b] w6 _)
      have hK7 := (HK5.out.trans (hK6.nil _)).setCell (p := ⟨g, 1, none⟩) (by simp) (.slice A6 n6 c6)
      have HO6 := Lib.hid hO6
      have HD6 := Lib.hid hD6
      have HP7 := Lib.hid hP7
      have HK7 := Lib.hid hK7
      clear hO6 hD6 hP7 hK7
      clear hP6 hK6
      go_wp2_with fail
      go_roundg k
      case measure => omega
      case rel =>
        refine ⟨k - 1, A6, n6, c6, putL P (ys.set x (y + 1)), by omega, by omega, by rw [show ((k - 1 : Nat) : Int) = (k : Int) - 1 by omega], ?_, HP7.out, putL_asc HASC.out, fun p hp => ?_, by have := putL_len (L := P) (v := ys.set x (y + 1)); omega, HD6.out, HK7.out⟩
        · refine HO6.out.congr fun i hi => ?_
          have : i = 0 ∨ i = 1 := by omega
          rcases this with e | e <;> subst e <;> rfl
        · rcases mem_putL.1 hp with e | e
          · subst e
            refine ⟨by rw [List.length_set, HYL.out], fun q hq => ?_, x, by omega, ?_⟩
            · rcases List.mem_or_eq_of_mem_set hq with h | h
              · have := HY.out q h; omega
              · omega
            · rw [HSET.out x (y + 1) (by rw [HYL.out]; omega), upd_same]; omega
          · exact HPS.out p e
    · have hG := HG42.out.keep HKR.out (by simp; omega)
      have hr1 : wr.cell? ⟨g, 0, none⟩ = some (.slice A n c) := (HO.out 0 (by omega)).1
      have hr2 : wr.cell? ⟨g, 1, none⟩ = some (.slice A' m c') := (HO.out 1 (by omega)).1
      have hs1 : wr.cell? ⟨w.heap.size, 0, none⟩ = some (.slice none 0 0) := (hG 0 (by omega)).1
      have hs2 : wr.cell? ⟨w.heap.size, 1, none⟩ = some (.slice none 0 0) := (hG 1 (by omega)).1
      have hs3 : wr.frozen? ⟨w.heap.size, 0, none⟩ = false := (hG 0 (by omega)).2
      have hs4 : wr.frozen? ⟨w.heap.size, 1, none⟩ = false := (hG 1 (by omega)).2
      clear hG
      go_wp2_with fail
      have hq1 : ((wr.setCell ⟨w.heap.size, 0, none⟩ (.slice A n c)).setCell ⟨w.heap.size, 1, none⟩ (.slice A' m c')).cell? ⟨w.heap.size, 0, none⟩ = some (.slice A n c) := by
        rw [World.cell?_setCell_other _ _ _ _ (by simp)]; exact World.cell?_setCell_same _ _ _ hs1
      have hq2 : ((wr.setCell ⟨w.heap.size, 0, none⟩ (.slice A n c)).setCell ⟨w.heap.size, 1, none⟩ (.slice A' m c')).cell? ⟨w.heap.size, 1, none⟩ = some (.slice A' m c') := by
        exact World.cell?_setCell_same _ _ _ ((World.cell?_setCell_other _ _ _ _ (by simp)).trans hs2)
      have hkS : Keeps [w.heap.size] wr ((wr.setCell ⟨w.heap.size, 0, none⟩ (.slice A n c)).setCell ⟨w.heap.size, 1, none⟩ (.slice A' m c')) := ((Keeps.refl _ _).setCell (by simp) _).setCell (by simp) _
      have hbw : b ≠ w.heap.size := by omega
      refine bodyPost_ret (v := .agg #[.slice A n c, .slice A' m c']) (by simp [results, Try.results11, go_sem, hq1, hq2]) rfl ?_
      have hbs := (HBASE2.out.keeps (HKR.out.more (by simp))).keeps (hkS.more (by simp))
      have hps := HP.out.keeps (hkS.more (l' := [g, w.heap.size, b]) (by simp))
      have hlenP : ∀ p ∈ P, p.length = n := fun p hp => (HPS.out p hp).1
      have hzs := HZR.out
      refine ⟨A, c, A', m, c', ⟨zs, P⟩, rfl, ⟨hbs.weak (by simp), hps.weak (by simp)⟩, ⟨⟨⟨hzs.len, fun x hx => by have := hzs.rng x hx; omega⟩, fun p hp => ⟨hlenP p hp, fun x hx => by have := (HPS.out p hp).2.1 x hx; omega, (HPS.out p hp).2.2⟩, by show P.length ≤ 3; omega, fun i h1 h2 => asc_ord HASC.out hlenP h1 h2⟩, hzs.rng, fun p hp => (HPS.out p hp).2.1⟩, ?_, ?_⟩
      · exact HDR.out.keeps hkS (by simp; omega) (by simp; omega)
      · exact ((HK2.out.step HKR.out (by simp; omega)).step hkS (by simp))
end Go.Proofs.Ytdhadnnakcdfiaa
