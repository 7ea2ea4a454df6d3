/- The walk of side's beyond. -/
import Derived.Test.YtnmkinaokjekjaaGreatLim1
import Derived.Test.YtnmkinaokjekjaaGreatBeyL
namespace Go.Proofs.YtnmkinaokjekjaaGreat
set_option linter.unusedVariables false
open Go.RowKit

def DB (x : Int) : Prop := -4000000000000000000 ≤ x ∧ x ≤ 4000000000000000000
def TurnF (g : Nat) (turn : Int → Int → Option Int) : Prop := ∀ (W : World) (x c : Int), DB x → DB c → ∃ (y : Int) (ok : Bool), turn x c = (if ok = true then some y else none) ∧ Calls Tryz.prog g #[.int .i64 x, .int .i64 c] W fun e w' => e = .returned (.tuple #[.int .i64 y, .bool ok]) ∧ W = w'
def BeyPost (cov : List Int → List Int → Bool) (turn : Int → Int → Option Int) (begin_ : List Int) (C : List (List Int)) (l : List Nat) (w : World) (e : Ending) (w' : World) : Prop :=
  ∃ A m c out, m = (out : List (List Int)).length ∧ e = .returned (.slice A m c) ∧ Bey cov turn begin_ C out ∧ IsII w' l (.slice A m c) out ∧ Keeps [] w w'

def nextP (turn : Int → Int → Option Int) (c v : List Int) (i : Nat) : List (List Int) := (List.range i).filterMap fun i => (turn (v.getD i 0) (c.getD i 0)).map fun y => v.set i y
theorem nextP_none {turn : Int → Int → Option Int} {c v : List Int} {i : Nat} (h : turn (v.getD i 0) (c.getD i 0) = none) : nextP turn c v (i + 1) = nextP turn c v i := by
  unfold nextP
  rw [List.range_succ, List.filterMap_append, List.filterMap_cons_none (by show Option.map _ (turn (v.getD i 0) (c.getD i 0)) = none; rw [h]; rfl)]
  simp
theorem nextP_some {turn : Int → Int → Option Int} {c v : List Int} {i : Nat} {y : Int} (h : turn (v.getD i 0) (c.getD i 0) = some y) : nextP turn c v (i + 1) = nextP turn c v i ++ [v.set i y] := by
  unfold nextP
  rw [List.range_succ, List.filterMap_append, List.filterMap_cons_some (b := v.set i y) (by show Option.map _ (turn (v.getD i 0) (c.getD i 0)) = _; rw [h]; rfl)]
  simp
theorem nextP_len (turn : Int → Int → Option Int) (c v : List Int) (i : Nat) : (nextP turn c v i).length ≤ i := by
  unfold nextP
  have := List.length_filterMap_le (fun i => (turn (v.getD i 0) (c.getD i 0)).map fun y => v.set i y) (List.range i)
  simpa using this
theorem nextA_take {turn : Int → Int → Option Int} {c : List Int} {out : List (List Int)} {j : Nat} (hj : j < out.length) : nextA turn c (out.take (j + 1)) = nextA turn c (out.take j) ++ nextV turn c (out.getD j []) := by
  have e : out.take (j + 1) = out.take j ++ [out.getD j []] := by
    rw [List.take_succ_eq_append_getElem hj]
    simp [List.getD_eq_getElem?_getD, hj]
  rw [e]; simp [nextA]
theorem set_isI {w : World} {l : List Nat} {g n c i : Nat} {v : List Int} {y : Int} (hl : v.length = n) (h : Own w g n (fun q => .int .i64 (v.getD q 0))) (hi : i < n) (hg : g ∉ l) (hc : n ≤ c) : IsI (w.setCell ⟨g, i, none⟩ (.int .i64 y)) l (.slice (some ⟨g, 0, none⟩) n c) (v.set i y) :=
  (h.updInt hi y).isI hg hc (by rw [List.length_set, hl]) fun q hq => by
    rw [getD_set _ _ _ _ (by rw [hl]; exact hi)]
    simp only [upd]

set_option maxRecDepth 100000 in
set_option maxHeartbeats 8000000 in
theorem beyond_is {w : World} {l : List Nat} {bv cv : Value} {begin_ : List Int} {C : List (List Int)} {gr gc gt n : Nat} {cov : List Int → List Int → Bool} {turn : Int → Int → Option Int} {P Q : List Int → Prop} (hl : ∀ y ∈ l, y < w.heap.size)
    (hcov : CovF gc cov P) (egc : ∀ args w, (callFunc gc args).run Tryz.prog w = .ok (.enter gc args) w) (hturn : TurnF gt turn) (egt : ∀ args w, (callFunc gt args).run Tryz.prog w = .ok (.enter gt args) w)
    (hb : BeyP cov turn begin_ C n Q) (hPQ : ∀ x, Q x → P x ∧ ∀ z ∈ x, DB z) (hC : ∀ c ∈ C, c.length = n ∧ ∀ z ∈ c, DB z) (hn1 : 1 ≤ n) (hn : n ≤ 4) (hK : C.length ≤ 12) (hbv : IsI w l bv begin_) (hcv : IsII w l cv C) :
    Calls Tryz.prog 56 #[.agg #[.func (.func gr) #[] #[], .func (.func gc) #[] #[]], bv, cv, .func (.func gt) #[] #[]] w (BeyPost cov turn begin_ C l w) := by
  unfold BeyPost
  obtain ⟨Bb, cb, rfl, _⟩ := hbv.open
  obtain ⟨A0, c0, V, rfl, _, _, hcell, hval⟩ := hcv
  have hal : Keeps [] w (w.alloc (.cells #[.func (.func gr) #[] #[], .func (.func gc) #[] #[]] 55)) := (Keeps.refl _ _).alloc _
  have hs0 := World.cell?_alloc_new w #[.func (.func gr) #[] #[], .func (.func gc) #[] #[]] 55 0
  have hs1 := World.cell?_alloc_new w #[.func (.func gr) #[] #[], .func (.func gc) #[] #[]] 55 1
  generalize hbn : begin_.length = bn at *
  have hout0 : IsII ((w.alloc (.cells #[.func (.func gr) #[] #[], .func (.func gc) #[] #[]] 55)).alloc (.cells #[.slice Bb bn cb] 22)) l (.slice (some ⟨w.heap.size + 1, 0, none⟩) 1 1) [begin_] := by
    have := isL_new (R := IsI) (d := []) (e := 22) (w := w.alloc (.cells #[.func (.func gr) #[] #[], .func (.func gc) #[] #[]] 55)) (l := l) (us := #[.slice Bb bn cb]) (xs := [begin_]) (fun y hy => by have := hl y hy; simp; omega) rfl (fun i hi => by
      have e : i = 0 := by simpa using hi
      subst e
      exact hbv.new hal)
    rw [World.size_alloc] at this
    exact this
  have hal1 : Keeps [] w ((w.alloc (.cells #[.func (.func gr) #[] #[], .func (.func gc) #[] #[]] 55)).alloc (.cells #[.slice Bb bn cb] 22)) := hal.alloc _
  have HZZ : Hid (w.heap.size + 2 ≤ ((w.alloc (.cells #[.func (.func gr) #[] #[], .func (.func gc) #[] #[]] 55)).alloc (.cells #[.slice Bb bn cb] 22)).heap.size) := by unfold Hid; simp
  have hs0 := ((Keeps.refl [] _).alloc (.cells #[.slice Bb bn cb] 22)).read hs0 (by simp)
  have hs1 := ((Keeps.refl [] _).alloc (.cells #[.slice Bb bn cb] 22)).read hs1 (by simp)
  generalize hKn : C.length = K at *
  have egk := enters_of Tryz.func75 (by kernel_rfl) rfl
  have HS0 := Lib.hid hs0
  have HS1 := Lib.hid hs1
  have HBC := Lib.hid hC
  have HCL := Lib.hid hcell
  have HVL := Lib.hid hval
  have HBP := Lib.hid hb
  have HCOV := Lib.hid hcov
  have HTURN := Lib.hid hturn
  have HPQ := Lib.hid hPQ
  have HBN := Lib.hid hbn
  have HKN := Lib.hid hKn
  have HL := Lib.hid hl
  have HBV := Lib.hid hbv
  have HOUT0 := Lib.hid hout0
  have HAL1 := Lib.hid hal1
  clear hcov hturn hPQ hbn hKn hl hbv hout0 hal1
  clear hs0 hs1 hC hcell hval hb hal
  go_enter Tryz.func56, Tryz.ntmps56
  go_wp2_with fail
  generalize ((w.alloc (.cells #[.func (.func gr) #[] #[], .func (.func gc) #[] #[]] 55)).alloc (.cells #[.slice Bb bn cb] 22)) = w1 at *
  have hz1 := HZZ.out
  go_loopg [9, 24] (K + 1) (fun gh sv kv wr => ∃ (k : Nat) (A : Option Addr) (m c : Nat) (out : List (List Int)), K + 1 ≤ k + gh ∧ k ≤ K ∧ kv = .int .i64 (k : Int) ∧ sv = .slice A m c ∧ m = out.length ∧ Bey cov turn begin_ (C.take k) out ∧ IsII wr l (.slice A m c) out ∧ Keeps [] w1 wr)
  case atStart => exact ⟨0, _, 1, 1, [begin_], by omega, by omega, rfl, rfl, rfl, Bey.nil, HOUT0.out, Keeps.refl _ _⟩
  case round =>
    obtain ⟨k, A, m, c, out, hgh, hk, rfl, rfl, hm, hbey, hI, hkr⟩ := hrel
    have hzr := hkr.size
    by_cases hlt : k < K
    · have hKw := HAL1.out.trans hkr
      obtain ⟨ac, rfl, hac⟩ := (HCL.out.keeps (hKw.nil l)).at_ hlt
      have hcI := (HVL.out k hlt).keeps (hKw.nil l)
      have hcm : C.getD k [] ∈ C := getD_mem (by rw [HKN.out]; exact hlt)
      have hsn : C.take (k + 1) = C.take k ++ [C.getD k []] := by
        rw [List.take_succ_eq_append_getElem (by rw [HKN.out]; exact hlt)]
        simp [List.getD_eq_getElem?_getD, show k < C.length by rw [HKN.out]; exact hlt]
      have hcl := HBC.out _ hcm
      have hpt := HBP.out.sub (C' := C.take k) (fun c hc => List.mem_of_mem_take hc)
      have houtP := bey_P hbey hpt
      have hlen := bey_len hbey hpt
      have hpow : n ^ (C.take k).length ≤ 4 ^ 12 := Nat.le_trans (Nat.pow_le_pow_left hn _) (Nat.pow_le_pow_right (by omega) (by rw [List.length_take, HKN.out]; omega))
      have hml : m ≤ 16777216 := by rw [hm]; exact Nat.le_trans hlen hpow
      have hnextP := fun (c : List Int) (hc : c ∈ C) => HBP.out.next hc houtP
      have hnx := hnextP _ hcm
      generalize hgc : C.getD k [] = cc at *
      obtain ⟨Bc, dc, hVk, _, _, hcr⟩ := hcI.open
      rw [hVk] at hac
      rw [hcl.1] at hac hcr
      have hs0 := hkr.read HS0.out (by simp)
      have hs1 := hkr.read HS1.out (by simp)
      have hlr : ∀ y ∈ l, y < wr.heap.size := fun y hy => Nat.lt_of_lt_of_le (HL.out y hy) hKw.size
      have HBEY := Lib.hid hbey
      have HI := Lib.hid hI
      have HKR := Lib.hid hkr
      have HKW := Lib.hid hKw
      have HCI := Lib.hid hcI
      have HCL := Lib.hid hcl
      have HOUTP := Lib.hid houtP
      have HNX := Lib.hid hnx
      have HSN := Lib.hid hsn
      have HCR := Lib.hid hcr
      have HLR := Lib.hid hlr
      have HM := Lib.hid hm
      have HGC := Lib.hid hgc
      clear hbey hI hkr hKw hcI hcl houtP hnx hsn hcr hlr hm hgc
      clear hVk hcm hpt hlen hpow hnextP
      go_wp2_with fail
      obtain ⟨wq, hwq⟩ : ∃ wq : World, wq = wr := ⟨_, rfl⟩
      subst hwq
      go_loopg [12, 30] (m + 1) (fun gh nv jv wr => ∃ (j : Nat) (A2 : Option Addr) (m2 c2 : Nat), m + 1 ≤ j + gh ∧ j ≤ m ∧ jv = .int .i64 (j : Int) ∧ nv = .slice A2 m2 c2 ∧ m2 = (nextA turn cc (out.take j)).length ∧ OwL IsI [] 22 wq.heap.size wr l (.slice A2 m2 c2) (nextA turn cc (out.take j)) ∧ Keeps [] wq wr)
      case atStart => exact ⟨0, none, 0, 0, by omega, by omega, rfl, rfl, by simp [nextA], by simpa [nextA] using OwL.nil, Keeps.refl _ _⟩
      case round =>
        obtain ⟨j, A2, m2, c2, hgh2, hj, rfl, rfl, hm2, hO2, hk2⟩ := hrel
        have hz2 := hk2.size
        have hm2l : m2 ≤ 4 * 16777216 := by
          have h1 := len_nextA (turn := turn) (c := cc) (n := n) (out := out.take j) fun v hv => (HBP.out.len v (HOUTP.out v (List.mem_of_mem_take hv)))
          have h2 : (out.take j).length ≤ m := by rw [List.length_take]; omega
          have h3 := Nat.mul_le_mul hn (Nat.le_trans h2 hml)
          have h4 := Nat.mul_le_mul_left n (Nat.le_refl (out.take j).length)
          have h5 : n * (out.take j).length ≤ 4 * 16777216 := Nat.mul_le_mul hn (Nat.le_trans h2 hml)
          omega
        by_cases hltj : j < m
        · have hI2 := HI.out
          obtain ⟨Ax, cx, Vx, hvx, _, _, hxc, hxv⟩ := hI2
          injection hvx with ex1 ex2 ex3
          subst ex1; subst ex3
          rw [← HM.out] at hxc hxv
          obtain ⟨av, rfl, hav⟩ := (hxc.keeps (hk2.nil l)).at_ hltj
          have hvI := hxv j hltj
          have hvm : out.getD j [] ∈ out := getD_mem (by rw [← HM.out]; exact hltj)
          have hvQ := HOUTP.out _ hvm
          have hvl := HBP.out.len _ hvQ
          have hvD := (HPQ.out _ hvQ).2
          have hnt := nextA_take (turn := turn) (c := cc) (out := out) (j := j) (by rw [← HM.out]; exact hltj)
          generalize out.getD j [] = v at *
          obtain ⟨Bv, dv, hVj, _, _, hvr⟩ := hvI.open
          rw [hVj] at hav hvI
          rw [hvl] at hav hvr hvI
          have hnV : nextV turn cc v = nextP turn cc v n := by unfold nextV nextP; rw [hvl]
          rw [hnV] at hnt
          generalize nextA turn cc (out.take j) = pre at *
          have HO2 := Lib.hid hO2
          have HK2 := Lib.hid hk2
          have HVI := Lib.hid hvI
          have HVL := Lib.hid hvl
          have HVD := Lib.hid hvD
          have HNT := Lib.hid hnt
          have HVR := Lib.hid hvr
          have HM2 := Lib.hid hm2
          have HVQ := Lib.hid hvQ
          clear hO2 hk2 hvI hvl hvD hnt hvr hm2 hvQ
          clear hxc hxv hVj ex2 hvm hnV
          go_wp2_with fail
          obtain ⟨wp, hwp⟩ : ∃ wp : World, wp = wr := ⟨_, rfl⟩
          subst hwp
          go_loopg [12, 36] (n + 1) (fun gh nv iv wr => ∃ (i : Nat) (A3 : Option Addr) (m3 c3 : Nat), n + 1 ≤ i + gh ∧ i ≤ n ∧ iv = .int .i64 (i : Int) ∧ nv = .slice A3 m3 c3 ∧ m3 = (pre ++ nextP turn cc v i).length ∧ OwL IsI [] 22 wq.heap.size wr l (.slice A3 m3 c3) (pre ++ nextP turn cc v i) ∧ Keeps [] wq wr)
          case atStart => exact ⟨0, A2, m2, c2, by omega, by omega, rfl, rfl, by rw [HM2.out]; simp [nextP], by simpa [nextP] using HO2.out, HK2.out⟩
          case round =>
            obtain ⟨i, A3, m3, c3, hgh3, hi, rfl, rfl, hm3, hO3, hk3⟩ := hrel
            have hz3 := hk3.size
            have hpl := nextP_len turn cc v i
            have hm3l : m3 ≤ m2 + 4 := by rw [hm3, List.length_append, ← HM2.out]; omega
            by_cases hlti : i < n
            · obtain ⟨pv, rfl, hpv⟩ := (HVR.out.keeps (hk3.nil l)).at_ hlti
              obtain ⟨pc, rfl, hpc⟩ := (HCR.out.keeps (hk3.nil l)).at_ hlti
              have hDx := HVD.out _ (getD_mem (d := 0) (show i < v.length by rw [HVL.out]; exact hlti))
              have hDc := HCL.out.2 _ (getD_mem (d := 0) (show i < cc.length by rw [HCL.out.1]; exact hlti))
              obtain ⟨y, ok, hty, hcall⟩ := HTURN.out wr _ _ hDx hDc
              have hvw := HVI.out.new hk3
              have hclo := clone_is hvw (by rw [HVL.out]; omega)
              have hnone := fun h => nextP_none (turn := turn) (c := cc) (v := v) (i := i) h
              have hsome := fun h => nextP_some (turn := turn) (c := cc) (v := v) (i := i) (y := y) h
              generalize hgx : v.getD i 0 = x at *
              generalize hgd : cc.getD i 0 = d at *
              generalize hPi : nextP turn cc v i = ps at *
              cases ok with
              | false =>
                have hnp := hnone (by rw [hty]; rfl)
                have HO3 := Lib.hid hO3
                have HK3 := Lib.hid hk3
                have HM3 := Lib.hid hm3
                have HNP := Lib.hid hnp
                have HTY := Lib.hid hty
                clear hO3 hk3 hm3 hnp hty
                clear hDx hDc hnone hsome hgx hgd hPi hvw hclo hpl
                go_wp2_with (go_at_fn gt; refine hcall.mono ?_; rintro e w' ⟨rfl, rfl⟩)
                go_roundg (n - i)
                case measure => omega
                case rel => exact ⟨i + 1, A3, m3, c3, by omega, by omega, by go_num, rfl, by rw [HNP.out]; exact HM3.out, by rw [HNP.out]; exact HO3.out, HK3.out⟩
              | true =>
                have hnp := hsome (by rw [hty]; rfl)
                have hob := hO3.blocks
                have HGX := Lib.hid hgx
                have HO3 := Lib.hid hO3
                have HK3 := Lib.hid hk3
                have HM3 := Lib.hid hm3
                have HNP := Lib.hid hnp
                have HTY := Lib.hid hty
                have HCLO := Lib.hid hclo
                have HOB := Lib.hid hob
                clear hO3 hk3 hm3 hnp hty hclo hob
                clear hDx hDc hnone hsome hgx hgd hPi hvw hpl
                go_wp2_with (go_at_fn gt; refine hcall.mono ?_; rintro e w' ⟨rfl, rfl⟩)
                refine HCLO.out.mono ?_
                rintro e wc ⟨Ac, cg, he, hOC, hkC⟩
                obtain ⟨ga, cg', hv1, hcg, hga1, hga2, hOw⟩ := hOC.own (by rw [HVL.out]; omega)
                injection hv1 with e1 e2 e3
                subst e1; subst e3
                rw [HVL.out] at he hcg hOw
                subst he
                have hzC := hkC.size
                obtain ⟨ho1, ho2⟩ := hOw i hlti
                have hkS : Keeps [ga] wc (wc.setCell ⟨ga, i, none⟩ (.int .i64 y)) := (Keeps.refl _ _).setCell (by simp) _
                have hOS := (((HO3.out.weak (l' := ga :: l) (fun q hq => by
                  rcases List.mem_cons.1 hq with h | h
                  · exact .inr (by omega)
                  · exact .inl h)).new hkC).keeps hkS (fun q hq => by
                    rw [List.mem_singleton.1 hq]
                    exact ⟨.inl (by simp), fun e => by have := (HOB.out ga (by rw [e]; simp)).2; omega⟩)).weak (l' := l) (fun q hq => .inl (by simp [hq]))
                have hIS := set_isI (y := y) (l := (Value.slice A3 m3 c3).ownBlock.toList ++ l) HVL.out hOw hlti (fun hm => by
                  rcases List.mem_append.1 hm with h | h
                  · have := (HOB.out _ h).2; omega
                  · have := HLR.out _ h; omega) hcg
                have hKS : Keeps [] wq (wc.setCell ⟨ga, i, none⟩ (.int .i64 y)) := (HK3.out.trans hkC).step hkS (fun q hq => .inr (by rw [List.mem_singleton.1 hq]; omega))
                have hzS : wq.heap.size ≤ (wc.setCell ⟨ga, i, none⟩ (.int .i64 y)).heap.size := hKS.size
                have HOS := Lib.hid hOS
                have HIS := Lib.hid hIS
                have HKS := Lib.hid hKS
                have HCG := Lib.hid hcg
                clear hOS hIS hKS hcg
                clear hOC hkC hOw hkS e2
                go_wp2_with (at_builtin; go_loud (refine wpList_push sl_rowsi rfl _ _ rfl (w := wc.setCell ⟨ga, i, none⟩ (.int .i64 y)) (u := .slice (some ⟨ga, 0, none⟩) n cg) (y := v.set i y) (v := .slice A3 m3 c3) rfl (by first | (simp [Act.eval]; done) | (simp only [Act.eval, Act.put]; simp; done) | simp [Act.eval, Act.put]) HOS.out HIS.out (m := m3 + 1) (by rw [← HM3.out]) (by omega) hzS (w0 := wq) (l0 := []) (Nat.le_refl _) HKS.out ?_); intro V' c' w4 hown4 hg4 hk4)
                have HOWN4 := Lib.hid hown4
                have HK4 := Lib.hid hk4
                clear hown4 hk4
                clear hg4
                go_roundg (n - i)
                case measure => omega
                case rel => exact ⟨i + 1, V', m3 + 1, c', by omega, by omega, by go_num, rfl, by rw [HNP.out, ← List.append_assoc, List.length_append, ← HM3.out]; rfl, by rw [HNP.out, ← List.append_assoc]; exact HOWN4.out, HK4.out⟩
            · obtain rfl : i = n := by omega
              have HO3 := Lib.hid hO3
              have HK3 := Lib.hid hk3
              have HM3 := Lib.hid hm3
              clear hO3 hk3 hm3
              go_wp2_with fail
              go_roundg (m - j)
              case measure => omega
              case rel => exact ⟨j + 1, A3, m3, c3, by omega, by omega, by go_num, rfl, by rw [HNT.out]; exact HM3.out, by rw [HNT.out]; exact HO3.out, HK3.out⟩
        · obtain rfl : j = m := by omega
          have htk : out.take j = out := List.take_of_length_le (by rw [← HM.out]; exact Nat.le_refl _)
          rw [htk] at hO2 hm2
          have hls : ∀ y ∈ l, y < wr.heap.size := fun y hy => Nat.lt_of_lt_of_le (HLR.out y hy) hz2
          have hLI : IsII wr l (.slice A2 m2 c2) (nextA turn cc out) := hO2.isL HLR.out
          have hred := reduced_is (gr := gr) hls HCOV.out egc (HBP.out.ord _ HNX.out) (fun x hx => ⟨(HPQ.out x (HNX.out x hx)).1, by rw [HBP.out.len x (HNX.out x hx)]; omega⟩) hLI (by rw [← hm2]; omega)
          have hs0 := hk2.read hs0 (by simp)
          have hs1 := hk2.read hs1 (by simp)
          have hK2 := HKR.out.trans hk2
          have HRED := Lib.hid hred
          have HK2 := Lib.hid hK2
          clear hred hK2
          clear hO2 hk2 hm2 hLI htk
          go_wp2_with fail
          refine HRED.out.mono ?_
          rintro e w5 ⟨A5, m5, c5, ys, hm5, rfl, hasc, hys, hO5, hk5⟩
          have hI5 : IsII w5 l (.slice A5 m5 c5) ys := hO5.isL hls
          have hK5 := HK2.out.trans hk5
          have hbey2 := Bey.snoc HBEY.out hasc hys
          have HI5 := Lib.hid hI5
          have HK5 := Lib.hid hK5
          have HBEY2 := Lib.hid hbey2
          have HM5 := Lib.hid hm5
          clear hI5 hK5 hbey2 hm5
          clear hasc hys hO5 hk5
          go_wp2_with fail
          go_roundg (K - k)
          case measure => omega
          case rel => exact ⟨k + 1, A5, m5, c5, ys, by omega, by omega, by go_num, rfl, HM5.out, by rw [HSN.out]; exact HBEY2.out, HI5.out, HK5.out⟩
    · obtain rfl : k = K := by omega
      have htk : C.take k = C := List.take_of_length_le (by rw [HKN.out]; exact Nat.le_refl _)
      rw [htk] at hbey
      have hK := HAL1.out.trans hkr
      have HBEY := Lib.hid hbey
      have HI := Lib.hid hI
      have HK := Lib.hid hK
      have HM := Lib.hid hm
      clear hbey hI hK hm
      clear hkr htk
      go_wp2_with fail
      go_ret
      exact ⟨A, m, c, out, HM.out, rfl, HBEY.out, HI.out, HK.out⟩
end Go.Proofs.YtnmkinaokjekjaaGreat
