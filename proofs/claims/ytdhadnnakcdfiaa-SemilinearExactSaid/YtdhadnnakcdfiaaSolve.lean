/- The walk of semilinear's solve. -/
import Derived.Test.YtdhadnnakcdfiaaLess
import Derived.Test.YtdhadnnakcdfiaaSolveL
import Derived.Test.YtdhadnnakcdfiaaPush
namespace Go.Proofs.Ytdhadnnakcdfiaa
set_option linter.unusedVariables false
open Go.RowKit

structure PerOk (n : Nat) (p : List Int) : Prop where
  len : p.length = n
  rng : ∀ x ∈ p, 0 ≤ x ∧ x ≤ 16
  nz : ∃ i, i < n ∧ p.getD i 0 ≠ 0
structure VecOk (n : Nat) (b : Int) (v : List Int) : Prop where
  len : v.length = n
  rng : ∀ x ∈ v, 0 ≤ x ∧ x ≤ b
theorem getD_rng {p : List Int} {a b : Int} (h : ∀ x ∈ p, a ≤ x ∧ x ≤ b) {i : Nat} (hi : i < p.length) : a ≤ p.getD i 0 ∧ p.getD i 0 ≤ b := by
  rw [List.getD_eq_getElem?_getD, List.getElem?_eq_getElem hi]
  exact h _ (List.getElem_mem hi)

def SolvePost (P : List (List Int)) (v : List Int) (l : List Nat) (w : World) (e : Ending) (w' : World) : Prop :=
  Keeps [] w w' ∧ ((e = .returned (.tuple #[.slice none 0 0, .bool false]) ∧ ∀ t, ¬ Makes P v t) ∨ ∃ A n c k, e = .returned (.tuple #[.slice A n c, .bool true]) ∧ IsI w' l (.slice A n c) k ∧ Least P v k)

theorem subm_ok {n k : Nat} {b : Int} {v p : List Int} (hv : VecOk n b v) (hp : PerOk n p) (h : ∀ i, i < n → 0 ≤ v.getD i 0 - (k : Int) * p.getD i 0) : VecOk n b (subm v k p) := by
  refine ⟨by rw [subm_len, hv.len], fun x hx => ?_⟩
  obtain ⟨i, hi, rfl⟩ := List.mem_map.1 hx
  have hi := List.mem_range.1 hi
  have h1 := h i (by rw [← hv.len]; exact hi)
  have h2 := getD_rng hv.rng hi
  have h3 := getD_rng hp.rng (i := i) (by rw [hp.len, ← hv.len]; exact hi)
  have h4 : (0 : Int) ≤ (k : Int) * p.getD i 0 := Int.mul_nonneg (by omega) h3.1
  omega
theorem rounds_le {n k : Nat} {v p : List Int} (hv : VecOk n 64 v) (hp : PerOk n p) (h : ∀ i, i < n → 0 ≤ v.getD i 0 - (k : Int) * p.getD i 0) : k ≤ 64 := by
  obtain ⟨i, hi, hz⟩ := hp.nz
  have h1 := h i hi
  have h2 := getD_rng hv.rng (i := i) (by rw [hv.len]; exact hi)
  have h3 := getD_rng hp.rng (i := i) (by rw [hp.len]; exact hi)
  have h4 : (k : Int) * 1 ≤ (k : Int) * p.getD i 0 := Int.mul_le_mul_of_nonneg_left (by omega) (by omega)
  omega

set_option maxHeartbeats 1000000 in
theorem solve_is (n : Nat) (hn : n ≤ 100) (P : List (List Int)) : ∀ (w : World) (l : List Nat) (hl : ∀ y ∈ l, y < w.heap.size) (v : List Int) (pv vv : Value), IsII w l pv P → IsI w l vv v → (∀ p ∈ P, PerOk n p) → VecOk n 64 v → P.length ≤ 100 →
    Calls Try.prog 38 #[pv, vv] w (SolvePost P v l w) := by
  induction P with
  | nil =>
    intro w l hl v pv vv hP hv hp hok hm
    obtain ⟨Ap, cp, V, rfl, _⟩ := hP
    obtain ⟨A, c, rfl, hc, hA, hrd⟩ := hv.open
    have hlen := hok.len
    have hvn : v.length ≤ 100 := by omega
    have hrd := hrd.rd
    have HRD := Lib.hid hrd
    have HLEN := Lib.hid hlen
    clear hrd hlen
    generalize hvl : v.length = vl at *
    have HVL := Lib.hid hvl
    clear hvl
    go_enter Try.func38, Try.ntmps38
    go_wp2_with fail
    refine (zero_has w w.heap.size vl c A _ (Nat.le_refl _) HRD.out (by omega)).mono ?_
    rintro e w1 ⟨r, rfl, hr, hb⟩
    have HR := Lib.hid hr
    clear hr
    cases r with
    | false =>
      go_wp2_with fail
      go_ret2
      refine ⟨hb.toK, .inl ⟨rfl, fun t ht => ?_⟩⟩
      have h1 := (makes_nil.1 ht).2
      rw [HVL.out] at h1
      exact absurd (HR.out.2 h1) (by simp)
    | true =>
      go_wp2_with fail
      go_ret2
      exact ⟨hb.toK, .inr ⟨none, 0, 0, [], rfl, IsI.nil, least_nil (by rw [HVL.out]; exact HR.out.1 trivial)⟩⟩
  | cons p P ih0 =>
    intro w l hl v pv vv hP hv hp hok hm
    have ih := fun w' hl' v' pv' vv' h1 h2 h3 => ih0 w' l hl' v' pv' vv' h1 h2 (fun q hq => hp q (List.mem_cons_of_mem _ hq)) h3 (by simp at hm; omega)
    clear ih0
    have hp0 := hp p (List.mem_cons_self ..)
    obtain ⟨Ap, cp, V, rfl, hP2, hP3, hP4, hP5⟩ := hP
    have hP : IsII w l (.slice Ap (p :: P).length cp) (p :: P) := ⟨Ap, cp, V, rfl, hP2, hP3, hP4, hP5⟩
    obtain ⟨A0, c0, hV0, g1, g2, g3⟩ := (hP5 0 (by simp)).open
    simp only [List.getD_cons_zero] at hV0 g1 g3
    obtain ⟨a, ha, hcell⟩ := hP4.at0 (show 0 < (p :: P).length by simp)
    subst ha
    rw [hV0, hp0.len] at hcell
    obtain ⟨A1, hs1, hs2⟩ := slice_from sl_rowsi hP 1 (by simp)
    have hs1' : ∀ (W : World), (Instr.slice 27 (.slice (some a) (p :: P).length cp) (some (.int .i64 1)) none none).run Try.prog W = .ok (.slice A1 ((p :: P).length - 1) (cp - 1)) W := fun W => hs1 W
    have hm1 : 1 ≤ (p :: P).length := by simp
    simp only [List.drop_succ_cons, List.drop_zero] at hs2
    generalize hml : (p :: P).length = m at *
    obtain ⟨A, c, rfl, hc, hA, hrd⟩ := hv.open
    rw [hok.len] at hc hrd hv
    rw [hp0.len] at g1 g3
    have hlen := hok.len
    have hpn : ∀ x ∈ p, 0 ≤ x := fun x hx => (hp0.rng x hx).1
    have hPn : ∀ q ∈ P, ∀ x ∈ q, 0 ≤ x := fun q hq x hx => ((hp q (List.mem_cons_of_mem _ hq)).rng x hx).1
    have ht : ((m : Int) == 0) = false := by simp; omega
    have hvb : ∀ i, i < n → -1000 ≤ v.getD i 0 ∧ v.getD i 0 ≤ 1000 := fun i hi => by have := getD_rng hok.rng (i := i) (by rw [hlen]; exact hi); omega
    have hpb : ∀ i, i < n → 0 ≤ p.getD i 0 ∧ p.getD i 0 ≤ 1000 := fun i hi => by have := getD_rng hp0.rng (i := i) (by rw [hp0.len]; exact hi); omega
    rw [hlen]
    have HRD := Lib.hid hrd
    have G3 := Lib.hid g3
    have HOK := Lib.hid hok
    have HP0 := Lib.hid hp0
    have HP := Lib.hid hp
    have HS2 := Lib.hid hs2
    have HML := Lib.hid hml
    have IH := Lib.hid ih
    have HL := Lib.hid hl
    have HPN := Lib.hid hpn
    have HLEN := Lib.hid hlen
    have HVB := Lib.hid hvb
    have HPB := Lib.hid hpb
    clear hrd g3 hok hp0 hp hs2 hml ih hl hpn hlen hvb hpb
    have HPN1 := Lib.hid hPn
    clear hPn
    clear hV0 hs1 hP2 hP3 hP4 hP5
    go_enter Try.func38, Try.ntmps38
    go_wp2_with fail
    go_loopg [6] 70 (fun gh nv wr => ∃ k : Nat, 70 ≤ k + gh ∧ k ≤ 65 ∧ nv = .int .i64 (k : Int) ∧ (∀ x : Nat, x < k → ∀ t, ¬ Makes P (subm v x p) t) ∧ Keeps [] w wr)
    case atStart => exact ⟨0, by omega, by omega, rfl, fun x hx => by omega, Keeps.refl _ _⟩
    case round =>
      obtain ⟨k, hgh, hk, rfl, hno, hK⟩ := hrel
      have hsz := hK.size
      have hcell' := hK.read hcell (by simp)
      have hrd1 := HRD.out.keeps (hK.nil l)
      have hg31 := G3.out.keeps (hK.nil l)
      have hl1 : ∀ y ∈ l, y < wr.heap.size := fun y hy => by have := HL.out y hy; omega
      have HNO := Lib.hid hno
      have HRD1 := Lib.hid hrd1
      have HG31 := Lib.hid hg31
      have HL1 := Lib.hid hl1
      clear hno hrd1 hg31 hl1
      have HK := Lib.hid hK
      clear hK
      go_wp2_with fail
      refine (less_any wr l HL1.out wr.heap.size n c c0 A A0 (fun i => v.getD i 0) (fun i => p.getD i 0) (k : Int) (Nat.le_refl _) HRD1.out.rd hA HG31.out.rd (by omega) (by omega) HVB.out HPB.out).mono ?_
      rintro e w1 ⟨hb1, h⟩
      rcases h with ⟨rfl, i, hi, hneg⟩ | ⟨V, cv, rfl, hV1, hV2, hge, hrd2⟩
      · have HB := Lib.hid hb1
        have HNEG := Lib.hid hneg
        clear hb1 hneg
        go_wp2_with fail
        go_ret2
        exact ⟨HK.out.trans HB.out.toK, .inl ⟨rfl, none_cons HPN1.out HPN.out HNO.out (i := i) (by rw [HLEN.out]; exact hi) HNEG.out⟩⟩
      · have hk64 := rounds_le HOK.out HP0.out hge
        have hokr := subm_ok HOK.out HP0.out hge
        have hlr : (subm v k p).length = n := by rw [subm_len]; exact HLEN.out
        have hrest : IsI w1 l (.slice V n cv) (subm v k p) := IsI.mk hlr.symm hV2 hV1 (hrd2.congr fun i hi => by rw [subm_get _ _ _ (by rw [HLEN.out]; exact hi)])
        have hK1 : Keeps [] w w1 := HK.out.trans hb1.toK
        have hsz1 := hK1.size
        have hP1 : IsII w1 l (.slice A1 (m - 1) (cp - 1)) P := Rok.keeps (R := IsII) HS2.out (hK1.nil _)
        have hl2 : ∀ y ∈ l, y < w1.heap.size := fun y hy => by have := HL.out y hy; omega
        have hcall := IH.out w1 hl2 (subm v k p) _ _ hP1 hrest hokr
        have HCALL := Lib.hid hcall
        have HOKR := Lib.hid hokr
        have HLR := Lib.hid hlr
        have HREST := Lib.hid hrest
        have HK1 := Lib.hid hK1
        have HP1 := Lib.hid hP1
        have HL2 := Lib.hid hl2
        clear hokr hlr hrest hK1 hP1 hl2
        clear hb1 hge hrd2 hcall
        go_wp2_with fail
        refine HCALL.out.mono ?_
        rintro e w2 ⟨hK2, h⟩
        rcases h with ⟨rfl, hnone⟩ | ⟨B, nb, cb, ks, rfl, hks, hleast⟩
        · have HK2 := Lib.hid (HK1.out.trans hK2)
          have HNONE := Lib.hid hnone
          clear hK2 hnone
          go_wp2_with fail
          go_roundg (69 - k)
          case measure => omega
          case rel => exact ⟨k + 1, by omega, by omega, by go_num, fun x hx t => by
            by_cases e : x = k
            · subst e; exact HNONE.out t
            · exact HNO.out x (by omega) t, HK2.out⟩
        · have HK2 := Lib.hid (HK1.out.trans hK2)
          have HKS := Lib.hid hks
          have HLEAST := Lib.hid hleast
          clear hK2 hks hleast
          have hsz2 := HK2.out.size
          have hl3 : ∀ y ∈ w2.heap.size :: l, y < w2.heap.size + 1 := fun y hy => by
            rcases List.mem_cons.1 hy with e | e
            · omega
            · have := HL.out y e; omega
          have HL3 := Lib.hid hl3
          clear hl3
          have hown : OwL IsN 0 3 w2.heap.size (w2.alloc (.cells #[.int .i64 (k : Int)] 3)) l (.slice (some ⟨w2.heap.size, 0, none⟩) 1 1) [(k : Int)] := OwL.made1 (R := IsN) rfl
          have hal : Keeps [] w2 (w2.alloc (.cells #[.int .i64 (k : Int)] 3)) := (Keeps.refl _ _).alloc _
          have hks' : IsL IsN 0 (w2.alloc (.cells #[.int .i64 (k : Int)] 3)) ([w2.heap.size] ++ l) (.slice B nb cb) ks := by
            have h1 : IsI w2 (w2.heap.size :: l) (.slice B nb cb) ks := HKS.out.weak fun y hy => by
              rcases List.mem_cons.1 hy with e | e
              · exact .inr (by omega)
              · exact .inl e
            exact h1.new hal
          have hkl : ks.length ≤ 100 := by
            have := HLEAST.out.1.len
            have h2 : (p :: P).length = m := HML.out
            simp at h2; omega
          have hK3 := HK2.out.trans hal
          have HOWN := Lib.hid hown
          have HAL := Lib.hid hal
          have HKS' := Lib.hid hks'
          have HK3 := Lib.hid hK3
          clear hown hal hks' hK3
          go_wp2_with (at_builtin; refine wpList_join sl_int rfl _ _ rfl rfl rfl HOWN.out HKS'.out rfl (by simp; omega) (by simp) (w0 := w) (l0 := []) (by omega) HK3.out ?_; intro V' c' w3 hown3 hk3 hK4)
          go_ret2
          have hown3 := hown3.isL (fun y hy => by have := HL.out y hy; omega)
          exact ⟨hK4, .inr ⟨_, _, _, (k : Int) :: ks, rfl, hown3, least_cons HNO.out HLEAST.out⟩⟩
end Go.Proofs.Ytdhadnnakcdfiaa
