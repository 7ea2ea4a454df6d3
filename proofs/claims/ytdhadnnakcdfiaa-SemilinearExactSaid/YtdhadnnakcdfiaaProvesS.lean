/- The walks of semilinear's Proves and of the law's made. -/
import Derived.Test.YtdhadnnakcdfiaaHas
import Derived.Test.YtdhadnnakcdfiaaCloneR
import Derived.StillTailTactics
namespace Go.Proofs.Ytdhadnnakcdfiaa
set_option linter.unusedVariables false
open Go.RowKit

/-- A base and multiples of the first periods. -/
def accV (b : List Int) (P : List (List Int)) (t : List Int) : Nat → Nat → Int
  | 0, i => b.getD i 0
  | k + 1, i => accV b P t k i + t.getD k 0 * (P.getD k []).getD i 0
theorem accV_cons (b p : List Int) (P : List (List Int)) (x : Int) (t : List Int) (i : Nat) : ∀ k, accV b (p :: P) (x :: t) (k + 1) i = accV b P t k i + x * p.getD i 0
  | 0 => rfl
  | k + 1 => by
    have h := accV_cons b p P x t i k
    show accV b (p :: P) (x :: t) (k + 1) i + _ = _
    rw [h]
    simp only [accV, List.getD_cons_succ]
    omega
theorem accV_comb (b : List Int) : ∀ (P : List (List Int)) (t : List Int) (i : Nat), t.length = P.length → accV b P t P.length i = b.getD i 0 + comb P t i
  | [], t, i, h => by simp [accV, comb]
  | p :: P, [], i, h => by simp at h
  | p :: P, x :: t, i, h => by
    rw [List.length_cons, accV_cons, accV_comb b P t i (by simpa using h)]
    simp only [comb]; omega
theorem mul_le_big {x y : Int} (hx : 0 ≤ x ∧ x ≤ 1048576) (hy : 0 ≤ y ∧ y ≤ 16) : 0 ≤ x * y ∧ x * y ≤ 16777216 :=
  ⟨Int.mul_nonneg hx.1 hy.1, by have := Int.mul_le_mul hx.2 hy.2 hy.1 (by omega : (0:Int) ≤ 1048576); omega⟩
theorem accV_rng {n : Nat} {b : List Int} {P : List (List Int)} {t : List Int} (hb : VecOk n 16 b) (hp : ∀ p ∈ P, PerOk n p) (ht : ∀ x ∈ t, 0 ≤ x ∧ x ≤ 1048576) {i : Nat} (hi : i < n) : ∀ k, k ≤ P.length → k ≤ t.length → 0 ≤ accV b P t k i ∧ accV b P t k i ≤ 16 + 16777216 * k
  | 0, _, _ => by
    have := getD_rng hb.rng (i := i) (by rw [hb.len]; exact hi)
    simp only [accV]; omega
  | k + 1, h1, h2 => by
    have h := accV_rng hb hp ht hi k (by omega) (by omega)
    have h3 := hp _ (getD_mem (d := []) (show k < P.length by omega))
    have h4 := mul_le_big (getD_rng ht (show k < t.length by omega)) (getD_rng h3.rng (i := i) (by rw [h3.len]; exact hi))
    simp only [accV]; omega

def ProvesS (s : Lin) (v t : List Int) : Prop := GoodN s ∧ v.length = s.base.length ∧ t.length = s.per.length ∧ (∀ x ∈ t, 0 ≤ x ∧ x ≤ 1048576) ∧ ∀ i, i < s.base.length → s.base.getD i 0 + comb s.per t i = v.getD i 0
def PrPost (s : Lin) (v t : List Int) (w : World) (e : Ending) (w' : World) : Prop := ∃ r : Bool, e = .returned (.bool r) ∧ (r = true ↔ ProvesS s v t) ∧ Keeps [] w w'

set_option maxRecDepth 100000 in
set_option maxHeartbeats 4000000 in
theorem provesS_is {w : World} {l : List Nat} {u pv vv tv : Value} {s : Lin} {v t : List Int} (hl : ∀ y ∈ l, y < w.heap.size) (h : IsLin w l u pv s) (hs : s.Small) (hv : IsI w l vv v) (hvn : v.length ≤ 1000000) (ht : IsI w l tv t) (htn : t.length ≤ 1000000) :
    Calls Try.prog 16 #[.agg #[u, pv], vv, tv] w (PrPost s v t w) := by
  have hu := h.1
  obtain ⟨A, c, rfl, hc, hA, hrd⟩ := hu.open
  have hp := h.2
  obtain ⟨Ap, cp, V, rfl, g2, g3, g4, g5⟩ := hp
  obtain ⟨B, cb, rfl, hcb, hB, hrb⟩ := hv.open
  obtain ⟨T, ct, rfl, hct, hT, hrt⟩ := ht.open
  have hk1 : Keeps [] w (w.alloc (.cells #[.slice A s.base.length c, .slice Ap s.per.length cp] 29)) := (Keeps.refl _ _).alloc _
  have hbox := BoxAt.start w (.slice A s.base.length c) (.slice Ap s.per.length cp) 29
  have hl1 : ∀ y ∈ l, y < (w.alloc (.cells #[.slice A s.base.length c, .slice Ap s.per.length cp] 29)).heap.size := fun y hy => Nat.lt_of_lt_of_le (hl y hy) hk1.size
  clear hu
  have H := Lib.hid h
  have HRD := Lib.hid hrd
  have HRB := Lib.hid hrb
  have HRT := Lib.hid hrt
  have HV := Lib.hid hv
  have HT := Lib.hid ht
  have HK1 := Lib.hid hk1
  have HBOX := Lib.hid hbox
  have HL1 := Lib.hid hl1
  have HS := Lib.hid hs
  have HL := Lib.hid hl
  have G4 := Lib.hid g4
  have G5 := Lib.hid g5
  clear h hrd hrb hrt hv ht hk1 hbox hl1 hs hl g4 g5
  go_enter Try.func16, Try.ntmps16
  go_wp2_with fail
  refine (right_is HL1.out (H.out.new HK1.out) HS.out).mono ?_
  rintro e w1 ⟨r, rfl, hr, hk2⟩
  have hbox2 := HBOX.out.new hk2
  have hc0 := hbox2.c0
  have hc1 := hbox2.c1
  have HK2 := Lib.hid (HK1.out.trans hk2)
  have HBOX2 := Lib.hid hbox2
  have HR := Lib.hid hr
  clear hr
  clear hk2 hbox2
  cases r with
  | false =>
    go_wp2_with fail
    go_ret
    exact ⟨false, rfl, ⟨(fun h => by cases h), fun h => HR.out.2 h.1⟩, HK2.out⟩
  | true =>
    have hgood : GoodN s := HR.out.1 rfl
    have hdim := hgood.dim
    have hfew := hgood.good.few
    have HG := Lib.hid hgood
    clear hgood
    by_cases hlen : v.length = s.base.length
    · by_cases hlt : t.length = s.per.length
      · generalize hnn : s.base.length = n at *
        generalize hmm : s.per.length = m at *
        have ht1 : ((v.length : Int) != (n : Int)) = false := by rw [hlen]; simp
        have ht2 : ((t.length : Int) != (m : Int)) = false := by rw [hlt]; simp
        have HNN := Lib.hid hnn
        have HMM := Lib.hid hmm
        have HLEN := Lib.hid hlen
        have HLT := Lib.hid hlt
        clear hnn hmm hlen hlt
        go_wp2_with fail
        refine (small_has w1 w1.heap.size t.length ct T (fun i => t.getD i 0) 1048576 (Nat.le_refl _) (HRT.out.keeps (HK2.out.nil l)).rd (by omega)).mono ?_
        rintro e w2 ⟨r, rfl, hr, hb⟩
        have hk3 : Keeps [] w1 w2 := hb.toK
        have hbox3 := HBOX2.out.new hk3
        have hc0 := hbox3.c0
        have hc1 := hbox3.c1
        have HR2 := Lib.hid hr
        have HK3 := Lib.hid (HK2.out.trans hk3)
        have HBOX3 := Lib.hid hbox3
        clear hbox3
        clear hb hk3 hr
        cases r with
        | false =>
          go_wp2_with fail
          go_ret
          exact ⟨false, rfl, ⟨(fun h => by cases h), fun h => HR2.out.2 ((small_iff rfl).2 h.2.2.2.1)⟩, HK3.out⟩
        | true =>
          have hts : ∀ x ∈ t, 0 ≤ x ∧ x ≤ 1048576 := (small_iff rfl).1 (HR2.out.1 rfl)
          have HTS := Lib.hid hts
          clear hts
          have hbl := H.out.1.new HK3.out
          have hb100 : s.base.length ≤ 1000000 := HS.out.b
          have HBL := Lib.hid hbl
          have HB100 := Lib.hid hb100
          clear hbl hb100
          go_wp2_with fail
          refine (clone_is HBL.out HB100.out).mono ?_
          rintro e w3 ⟨A3, c3, he, hown, hk4⟩
          obtain ⟨g, c', hv, hgc, hg1, hg2, hO⟩ := hown.own (by rw [HNN.out]; omega)
          injection hv with e1 e2 e3
          subst e1; subst e3
          rw [HNN.out] at he hgc hO
          subst he
          have hk5 := HK3.out.trans hk4
          have hbox4 := HBOX3.out.new hk4
          have hc0 := hbox4.c0
          have hc1 := hbox4.c1
          have hz5 := hk5.size
          have hgw : w.heap.size < g := by have := HK3.out.size; have := HBOX3.out.c0; have := lt_of_cell this; simp at this; omega
          have hO0 : Own w3 g n (fun i => .int .i64 (accV s.base s.per t 0 i)) := hO
          have HBOX4 := Lib.hid hbox4
          have HK5 := Lib.hid hk5
          have HO0 := Lib.hid hO0
          clear hbox4 hk5 hO0
          clear hown hk4 hO e2 hg1
          go_wp2_with fail
          go_loopg [42] (m + 1) (fun gh kv wr => ∃ k : Nat, m + 1 ≤ k + gh ∧ k ≤ m ∧ kv = .int .i64 (k : Int) ∧ Own wr g n (fun i => .int .i64 (accV s.base s.per t k i)) ∧ Keeps [g] w3 wr)
          case atStart => exact ⟨0, by omega, by omega, rfl, HO0.out, Keeps.refl _ _⟩
          case round =>
            obtain ⟨k, hgh, hk, rfl, hO, hkr⟩ := hrel
            have hKr := (HK5.out.step hkr (by simp; omega) : Keeps [] w wr)
            have HO := Lib.hid hO
            have HKr := Lib.hid hkr
            have HKw := Lib.hid hKr
            have hbx : BoxAt wr w.heap.size (.slice A n c) (.slice Ap m cp) := ⟨hkr.read HBOX4.out.c0 (by simp; omega), hkr.read HBOX4.out.c1 (by simp; omega)⟩
            have HBX := Lib.hid hbx
            clear hO hkr hbx
            by_cases hlt : k < m
            · have hc0 := HBX.out.c0
              have hc1 := HBX.out.c1
              obtain ⟨a, rfl, ha⟩ := (G4.out.keeps (hKr.nil l)).at_ hlt
              have hper := HG.out.good.per _ (getD_mem (d := []) (show k < s.per.length by rw [HMM.out]; exact hlt))
              rw [HNN.out] at hper
              obtain ⟨Rk, ck, hVk, q1, q2, q3⟩ := (G5.out k hlt).open
              rw [hVk] at ha
              have hpl := hper.len
              rw [hpl] at ha q1 q3
              have htk := getD_rng HTS.out (i := k) (by rw [HLT.out]; exact hlt)
              have hsucc : ∀ i, accV s.base s.per t (k + 1) i = accV s.base s.per t k i + t.getD k 0 * (s.per.getD k []).getD i 0 := fun i => rfl
              have hrng : ∀ i, i < n → 0 ≤ accV s.base s.per t k i ∧ accV s.base s.per t k i ≤ 1000000000 := fun i hi => by
                have hb := HG.out.good.base
                rw [HNN.out] at hb
                have := accV_rng hb (fun p hp => by have := HG.out.good.per p hp; rw [HNN.out] at this; exact this) HTS.out hi k (by rw [HMM.out]; omega) (by rw [HLT.out]; omega)
                omega
              have hkt : k < t.length := by rw [HLT.out]; exact hlt
              obtain ⟨aT, hT1, hT2⟩ := HRT.out.at_ hkt
              subst hT1
              generalize hpk : s.per.getD k [] = p at *
              generalize htke : t.getD k 0 = x at *
              have HPER := Lib.hid hper
              have Q3 := Lib.hid q3
              have HSUCC := Lib.hid hsucc
              have HRNG := Lib.hid hrng
              have HPL := Lib.hid hpl
              clear hper q3 hsucc hrng hpl
              clear hVk hpk htke hKr
              go_wp2_with fail
              obtain ⟨wo, hwo⟩ : ∃ wo : World, wo = wr := ⟨_, rfl⟩
              subst hwo
              go_loopg [49] (n + 1) (fun gh jv wr => ∃ j : Nat, n + 1 ≤ j + gh ∧ j ≤ n ∧ jv = .int .i64 (j : Int) ∧ Own wr g n (fun i => .int .i64 (if i < j then accV s.base s.per t (k + 1) i else accV s.base s.per t k i)) ∧ Keeps [g] wo wr)
              case atStart => exact ⟨0, by omega, by omega, rfl, HO.out.congr fun i hi => by simp, Keeps.refl _ _⟩
              case round =>
                obtain ⟨j, hgh', hj, rfl, hOj, hkj⟩ := hrel
                have hKj := (HKw.out.step hkj (by simp; omega) : Keeps [] w wr)
                have HOJ := Lib.hid hOj
                have HKJ := Lib.hid hkj
                clear hOj hkj
                by_cases hltj : j < n
                · obtain ⟨b, rfl, hbc⟩ := (Q3.out.keeps (hKj.nil l)).at_ hltj
                  have hs1 : wr.cell? ⟨g, j, none⟩ = some (.int .i64 (accV s.base s.per t k j)) := by
                    have := (HOJ.out j hltj).1
                    simpa using this
                  have hs2 : wr.frozen? ⟨g, j, none⟩ = false := (HOJ.out j hltj).2
                  have hTx := hKj.read hT2 (by simp)
                  have hr1 := HRNG.out j hltj
                  have hr2 := getD_rng HPER.out.rng (i := j) (by rw [HPL.out]; exact hltj)
                  have hmul := mul_le_big htk hr2
                  have hsj := HSUCC.out j
                  generalize accV s.base s.per t k j = y at *
                  generalize p.getD j 0 = q at *
                  have hw1 : IntKind.i64.wrap (x * q) = x * q := IntWalk.i64_in _ (by omega)
                  have hw2 : IntKind.i64.wrap (y + x * q) = y + x * q := IntWalk.i64_in _ (by omega)
                  have HSJ := Lib.hid hsj
                  clear hsj
                  have HKJ2 := Lib.hid hKj
                  clear hKj
                  go_wp2_with fail
                  go_still_tail 12, (by kernel_rfl)
                  change wpList _ _ _ _ _ wr.drew
                  go_wp2_with fail
                  go_roundg (n - j)
                  case measure => omega
                  case rel =>
                    refine ⟨j + 1, by omega, by omega, by go_num, ?_, HKJ.out.drew.setCell (by simp) _⟩
                    refine ((HOJ.out.drew).updInt hltj (y + x * q)).congr fun i hi => ?_
                    show Value.int .i64 _ = Value.int .i64 _
                    congr 1
                    by_cases e : i = j
                    · subst e; rw [upd_same, if_pos (by omega), HSJ.out]
                    · rw [upd_ne _ _ e]
                      by_cases e2 : i < j
                      · rw [if_pos e2, if_pos (by omega)]
                      · rw [if_neg e2, if_neg (by omega)]
                · obtain rfl : j = n := by omega
                  go_wp2_with fail
                  go_roundg (m - k)
                  case measure => omega
                  case rel => exact ⟨k + 1, by omega, by omega, by go_num, HOJ.out.congr fun i hi => by simp [hi], HKr.out.trans HKJ.out⟩
            · obtain rfl : k = m := by omega
              go_wp2_with fail
              refine (equal_any wr (g + 1) wr.heap.size n v.length c3 cb (some ⟨g, 0, none⟩) B (fun i => accV s.base s.per t k i) (fun i => v.getD i 0) (fun _ => ⟨_, rfl, by show g < g + 1; omega, fun i hi => by rw [addz]; exact (HO.out i hi).1⟩) (HRB.out.keeps (HKw.out.nil l)).rd (by omega) (by omega)).mono ?_
              rintro e w5 ⟨r, rfl, hr3, q, rfl⟩
              have HR3 := Lib.hid hr3
              clear hr3
              go_wp2_with fail
              go_ret
              refine ⟨r, rfl, ?_, HKw.out.drewN q⟩
              rw [HR3.out]
              have hE : ∀ i, accV s.base s.per t k i = s.base.getD i 0 + comb s.per t i := fun i => by
                have := accV_comb s.base s.per t i (by rw [HLT.out, HMM.out])
                rw [HMM.out] at this
                exact this
              constructor
              · rintro ⟨_, h2⟩
                refine ⟨HG.out, by rw [HLEN.out, HNN.out], by rw [HLT.out, HMM.out], HTS.out, fun i hi => ?_⟩
                rw [← hE i]; exact h2 i (by rw [← HNN.out]; exact hi)
              · rintro ⟨_, _, _, _, h2⟩
                exact ⟨HLEN.out.symm, fun i hi => by rw [hE i]; exact h2 i (by rw [HNN.out]; exact hi)⟩
      · have ht1 : ((v.length : Int) != (s.base.length : Int)) = false := by rw [hlen]; simp
        have ht2 : ((t.length : Int) != (s.per.length : Int)) = true := by rw [bne_iff_ne]; omega
        have HLEN := Lib.hid hlen
        clear hlen
        have HLT := Lib.hid hlt
        clear hlt
        go_wp2_with fail
        go_ret
        exact ⟨false, rfl, ⟨(fun h => by cases h), fun h => absurd h.2.2.1 HLT.out⟩, HK2.out⟩
    · have ht1 : ((v.length : Int) != (s.base.length : Int)) = true := by rw [bne_iff_ne]; omega
      have HLEN := Lib.hid hlen
      clear hlen
      go_wp2_with fail
      go_ret
      exact ⟨false, rfl, ⟨(fun h => by cases h), fun h => absurd h.2.1 HLEN.out⟩, HK2.out⟩
end Go.Proofs.Ytdhadnnakcdfiaa
