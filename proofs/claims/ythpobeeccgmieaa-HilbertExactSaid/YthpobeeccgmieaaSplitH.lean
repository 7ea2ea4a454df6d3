/- The walk of hilbert.Split at a solution. -/
import Derived.Test.YthpobeeccgmieaaHil
import Derived.Test.YthpobeeccgmieaaSplit
namespace Go.Proofs.Ythpobeeccgmieaa
set_option linter.unusedVariables false
open Go.RowKit

theorem isum_take {x : List Int} {k : Nat} (hk : k < x.length) : isum (x.take (k + 1)) = isum (x.take k) + x.getD k 0 := by
  induction x generalizing k with
  | nil => simp at hk
  | cons a t ih =>
    cases k with
    | zero => simp [isum]
    | succ k =>
      have := ih (k := k) (by simpa using hk)
      simp only [List.take_succ_cons, isum_cons]
      rw [this]
      simp only [List.getD_cons_succ]
      omega
theorem isum_take_le {x : List Int} (h : ∀ y ∈ x, 0 ≤ y) (k : Nat) : isum (x.take k) ≤ isum x := by
  induction x generalizing k with
  | nil => simp
  | cons a t ih =>
    have ha := h a (by simp)
    cases k with
    | zero =>
      have := (isum_ge (x := t) fun y hy => h y (by simp [hy])).1
      simp only [List.take_zero, isum_cons, isum_nil]; omega
    | succ k =>
      have := ih (fun y hy => h y (by simp [hy])) k
      simp only [List.take_succ_cons, isum_cons]; omega
theorem minQ_spl {P : List Int → Bool} {k : Nat} {L : List (List Int)} (hk : k ≤ 5) (h : MinQ P k 1 10 L) : SpL (k + 1) L ∧ L.length ≤ 100000000 := by
  have hm : ∀ v ∈ L, Solv P k 1 10 v := fun v hv => ((h.2 v).1 hv).1
  refine ⟨⟨fun v hv => ?_, fun v hv => (hm v hv).len, fun v hv => (hm v hv).ge⟩, ?_⟩
  · have h1 := hm v hv
    exact vval_small (M := 10) (by have := h1.len; omega) h1.pos h1.le (by omega)
  · have h1 := asc_len (L := cands k 1 10) h.1 fun v hv => by
      have h1 := hm v hv
      rw [mem_cands]
      exact ⟨h1.len, h1.pos, h1.ge, by have := h1.le; omega⟩
    have h2 := cands_len k 1 hk 10 (by omega)
    omega

def SplQ (P : List Int → Bool) (k : Nat) (x : List Int) (ys : List (List Int)) : Prop := ∃ L, MinQ P k 1 10 L ∧ ys = (splitF 10 L x).getD []
set_option maxRecDepth 100000 in
set_option maxHeartbeats 2000000 in
theorem Split_ok {w : World} {l : List Nat} {av xv : Value} {A : List (List Int)} {x : List Int} {r n : Nat} (hA : IsII w l av A) (hx : IsI w l xv x) (hS : Sys A r n) (hxl : x.length = n) (hxp : ∀ y ∈ x, 0 ≤ y) (hxs : isum x ≤ 10) (hsol : solB A (List.replicate r 0) x = true) {lx : List Nat} (hlx : ∀ y ∈ lx, y < w.heap.size) :
    Calls Try.prog 24 #[av, xv] w (RowsPost lx (SplQ (solB A (List.replicate r 0)) (n - 1) x) w) := by
  unfold RowsPost
  have hn6 := hS.n6
  have hn1 := hS.mat.c1.1
  have hr6 := hS.r6
  have hr1 := hS.mat.r1.1
  have hk5 : n - 1 ≤ 5 := by omega
  have hkn : n - 1 + 1 = n := by omega
  have hfx : VFin x := vval_small (M := 10) (by omega) hxp hxs (by omega)
  have hsh := shape_is hA (by rw [hS.mat.rows]; omega) (fun x hx => by rw [hS.mat.len x hx]; omega)
  rw [if_pos hS.b.1] at hsh
  have hA0 : ∀ W, Keeps [] w W → IsII W [] av A := fun W k => Rok.weak (hA.new k) (by simp)
  have hx0 : ∀ W, Keeps [] w W → IsI W [] xv x := fun W k => Rok.weak (hx.new k) (by simp)
  have htk : ∀ k, k < n → isum (x.take (k + 1)) = isum (x.take k) + x.getD k 0 ∧ 0 ≤ x.getD k 0 ∧ isum (x.take (k + 1)) ≤ 10 := fun k hk =>
    ⟨isum_take (by omega), hxp _ (getD_mem (by omega)), Int.le_trans (isum_take_le hxp _) hxs⟩
  have ht0 : ∀ k, 0 ≤ isum (x.take k) := fun k => (isum_ge fun y hy => hxp y (List.mem_of_mem_take hy)).1
  have hsolve := fun W bv (k : Keeps [] w W) (hb : IsI W [] bv (List.replicate r 0)) => solves_is (hA0 W k) hb (hx0 W k) hS.mat (by simp; omega) hxl (fun y hy => by have := hfx.el y hy; omega) (by simp)
  rw [hsol] at hsolve
  have hfree := fun W (k : Keeps [] w W) => free_is (hi := 10) (hA0 W k) hS (by omega) (lx := []) (by simp)
  generalize hP : solB A (List.replicate r 0) = P at *
  obtain ⟨p0, hp0, VA, cA, B0, c0, e0⟩ : ∃ (p0 : Addr) (_ : ∃ B0 c0, w.cell? p0 = some (.slice B0 n c0)) (VA : Option Addr) (cA : Nat) (B0 : Option Addr) (c0 : Nat), av = .slice (some p0) A.length cA := by
    obtain ⟨VA, cA, rfl, hrA⟩ := hA.mrow
    obtain ⟨p0, B0, c0, e, hp, _⟩ := hrA 0 (by rw [hS.mat.rows]; omega)
    subst e
    have hz : p0.add 0 = p0 := by simp [Addr.add]
    rw [hz, hS.b.2.2] at hp
    exact ⟨p0, ⟨B0, c0, hp⟩, none, cA, none, 0, rfl⟩
  obtain ⟨B0, c0, hp0⟩ := hp0
  subst e0
  obtain ⟨C, cx, rfl, _, _, hcx⟩ := hx.open
  rw [hS.mat.rows] at hsh hA0 hfree hsolve ⊢
  rw [hxl] at hx0 hsolve hcx ⊢
  have hp1 : ∀ W, Keeps [] w W → W.cell? p0 = some (.slice B0 n c0) := fun W k => k.read hp0 (by simp)
  have hmk := fun W => run_make_n sl_int r (by omega) W
  have hst : isum (x.take 0) = 0 := by simp [isum]
  have HA := Lib.hid hA
  have HX := Lib.hid hx
  have HS := Lib.hid hS
  have HXP := Lib.hid hxp
  have HXS := Lib.hid hxs
  have HSOL := Lib.hid hsol
  have HFX := Lib.hid hfx
  have HSH := Lib.hid hsh
  have HA0 := Lib.hid hA0
  have HX0 := Lib.hid hx0
  have HTK := Lib.hid htk
  have HT0 := Lib.hid ht0
  have HSOLVE := Lib.hid hsolve
  have HFREE := Lib.hid hfree
  have HP := Lib.hid hP
  have HCX := Lib.hid hcx
  have HP0 := Lib.hid hp0
  have HP1 := Lib.hid hp1
  have HXL := Lib.hid hxl
  have HST := Lib.hid hst
  have HLX := Lib.hid hlx
  clear hA hx hS hxp hxs hsol hfx hsh hA0 hx0 htk ht0 hsolve hfree hP hcx hp0 hp1 hxl hst hlx
  go_enter Try.func24, Try.ntmps24
  go_wp2_with fail
  refine HSH.out.mono ?_
  rintro e w1 ⟨rfl, hk1⟩
  have hpw := HP1.out w1 hk1
  have hcx1 := HCX.out.keeps (hk1.nil l)
  have HK1 := Lib.hid hk1
  have HCX1 := Lib.hid hcx1
  clear hk1 hcx1
  go_wp2_with fail
  go_loopg [7, 26] (n + 1) (fun gh rv kv wr => ∃ (k : Nat) (s : Int), n + 1 ≤ k + gh ∧ k ≤ n ∧ kv = .int .i64 (k : Int) ∧ rv = .int .i64 (10 - s) ∧ s = isum (x.take k) ∧ w1 = wr)
  case atStart => exact ⟨0, 0, by omega, by omega, rfl, rfl, HST.out.symm, rfl⟩
  case round =>
    obtain ⟨k, s, hgh, hk, rfl, rfl, hs, rfl⟩ := hrel
    by_cases hlt : k < n
    · obtain ⟨pb, rfl, hpb⟩ := HCX1.out.at_ hlt
      obtain ⟨h1, h2, h3⟩ := HTK.out k hlt
      have h4 := HT0.out k
      rw [← hs] at h1 h4
      generalize hxk : x.getD k 0 = y at *
      have d1 : decide (y < 0) = false := decide_eq_false (by omega)
      have d2 : decide (10 - s < y) = false := decide_eq_false (by omega)
      have hsy : s + y ≤ 10 := by omega
      have HS := Lib.hid hs
      have H1 := Lib.hid h1
      have H3 := Lib.hid h3
      have HXK := Lib.hid hxk
      clear hs h1 h3 hxk
      go_wp2_with fail
      go_roundg (n - k)
      case measure => omega
      case rel => exact ⟨k + 1, s + y, by omega, by omega, by go_num, by congr 1; omega, H1.out.symm, rfl⟩
    · obtain rfl : k = n := by omega
      have hO := own_made w1 (.int .i64 0) rfl r 3
      have hk0 : Keeps [] w1 (w1.alloc (.cells (madeCells (Value.int .i64 0).cells r) 3)) := (Keeps.refl _ _).alloc _
      have hI : IsI (w1.alloc (.cells (madeCells (Value.int .i64 0).cells r) 3)) [] (.slice (some ⟨w1.heap.size, 0, none⟩) r r) (List.replicate r 0) := Own.isI (f := fun _ => 0) hO (by simp) (Nat.le_refl _) (by simp) (fun i hi => by simp [List.getD_eq_getElem?_getD, hi])
      have hk2 := HK1.out.trans hk0
      have hsv := HSOLVE.out _ _ hk2 hI
      change Calls Try.prog 36 _ (w1.alloc (.cells (madeCells #[Value.int .i64 0] r) 3)) _ at hsv
      have HS := Lib.hid hs
      have HSV := Lib.hid hsv
      have HK2 := Lib.hid hk2
      clear hs hsv hk2
      clear hO hI hk0
      go_wp2_with fail
      refine HSV.out.mono ?_
      rintro e w2 ⟨rfl, hk3⟩
      have hk4 := HK2.out.trans hk3
      have hfr := HFREE.out w2 hk4
      rw [show ((10 : Nat) : Int) = 10 from rfl] at hfr
      have HK4 := Lib.hid hk4
      have HFR := Lib.hid hfr
      clear hk4 hfr
      clear hk3
      go_wp2_with fail
      refine HFR.out.mono ?_
      rintro e w3 ⟨V, m3, c, L, hml, rfl, hq1, hq2, hO3, hk5'⟩
      have hk6 := HK4.out.trans hk5'
      obtain ⟨hsp, hll⟩ := minQ_spl hk5 ⟨hq1, hq2⟩
      rw [hkn] at hsp
      have hLI : IsII w3 [] (.slice V m3 c) L := hO3.isL (by simp)
      have hspl := split_is hn1 lx 10 L x w3 _ _ hLI (HX0.out w3 hk6) hsp HFX.out HXL.out HXS.out (by omega) hll (fun y hy => Nat.lt_of_lt_of_le (HLX.out y hy) hk6.size)
      have hq : MinQ P (k - 1) 1 10 L := ⟨hq1, hq2⟩
      have HSPL := Lib.hid hspl
      have HK6 := Lib.hid hk6
      have HLI := Lib.hid hLI
      have HSP := Lib.hid hsp
      have HQ := Lib.hid hq
      have HML := Lib.hid hml
      clear hspl hk6 hLI hsp hq hml
      clear hO3 hk5' hq1 hq2
      cases ho : splitF 10 L x with
      | none =>
        have hspl := HSPL.out
        rw [ho] at hspl
        unfold SplPost at hspl
        clear HSPL
        have HSPL := Lib.hid hspl
        have HO := Lib.hid ho
        clear hspl ho
        go_wp2_with fail
        refine HSPL.out.mono ?_
        rintro e w4 ⟨rfl, hk7⟩
        go_wp2_with fail
        go_ret2
        exact ⟨none, 0, 0, [], rfl, rfl, ⟨L, HQ.out, by rw [HO.out]; rfl⟩, OwL.nil, HK6.out.trans hk7⟩
      | some ys =>
        have hspl := HSPL.out
        rw [ho] at hspl
        unfold SplPost at hspl
        clear HSPL
        have HSPL := Lib.hid hspl
        have HO := Lib.hid ho
        clear hspl ho
        go_wp2_with fail
        refine HSPL.out.mono ?_
        rintro e w4 ⟨V4, m4, c4, hm4, rfl, hO4, hk7⟩
        have hO5 := hO4.low HK6.out.size
        have hk8 := HK6.out.trans hk7
        have HM4 := Lib.hid hm4
        have HO5 := Lib.hid hO5
        have HK8 := Lib.hid hk8
        clear hm4 hO5 hk8
        clear hO4 hk7
        go_wp2_with fail
        go_ret2
        exact ⟨V4, m4, c4, ys, HM4.out, rfl, ⟨L, HQ.out, by rw [HO.out]; rfl⟩, HO5.out, HK8.out⟩
end Go.Proofs.Ythpobeeccgmieaa
