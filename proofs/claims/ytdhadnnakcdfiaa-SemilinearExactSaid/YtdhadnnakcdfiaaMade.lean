/- The walk of the law's made. -/
import Derived.Test.YtdhadnnakcdfiaaProvesS
namespace Go.Proofs.Ytdhadnnakcdfiaa
set_option linter.unusedVariables false
open Go.RowKit

def madeL (s : Lin) (t : List Int) : List Int := (List.range s.base.length).map fun i => accV s.base s.per t t.length i
def MadePost (s : Lin) (t : List Int) (w : World) (e : Ending) (w' : World) : Prop := ∃ g c, e = .returned (.slice (some ⟨g, 0, none⟩) s.base.length c) ∧ s.base.length ≤ c ∧ w.heap.size ≤ g ∧ g < w'.heap.size ∧ Own w' g s.base.length (fun i => .int .i64 (accV s.base s.per t t.length i)) ∧ Keeps [] w w'

set_option maxRecDepth 100000 in
set_option maxHeartbeats 4000000 in
theorem made_is {w : World} {l : List Nat} {u pv tv : Value} {s : Lin} {t : List Int} (h : IsLin w l u pv s) (hb : VecOk s.base.length 16 s.base) (hp : ∀ p ∈ s.per, PerOk s.base.length p) (hn : s.base.length ≤ 100) (hm : s.per.length ≤ 100) (ht : IsI w l tv t) (htl : t.length ≤ s.per.length) (hts : ∀ x ∈ t, 0 ≤ x ∧ x ≤ 1048576) (hn1 : 1 ≤ s.base.length) :
    Calls Try.prog 14 #[.agg #[u, pv], tv] w (MadePost s t w) := by
  unfold MadePost
  have hu := h.1
  obtain ⟨A, c, rfl, hc, hA, hrd⟩ := hu.open
  have hpp := h.2
  obtain ⟨Ap, cp, V, rfl, g2, g3, g4, g5⟩ := hpp
  obtain ⟨T, ct, rfl, hct, hT, hrt⟩ := ht.open
  have hk1 : Keeps [] w (w.alloc (.cells #[.slice A s.base.length c, .slice Ap s.per.length cp] 29)) := (Keeps.refl _ _).alloc _
  have hbox := BoxAt.start w (.slice A s.base.length c) (.slice Ap s.per.length cp) 29
  have hc0 := hbox.c0
  have hc1 := hbox.c1
  have hbase : IsL IsN 0 (w.alloc (.cells #[.slice A s.base.length c, .slice Ap s.per.length cp] 29)) ([] ++ l) (.slice A s.base.length c) s.base := h.1.new hk1
  have hnil : OwL IsN 0 3 (w.heap.size + 1) (w.alloc (.cells #[.slice A s.base.length c, .slice Ap s.per.length cp] 29)) l (.slice none 0 0) [] := OwL.nil
  generalize hmm : s.per.length = m at *
  generalize hnn : s.base.length = n at *
  have H := Lib.hid h
  have HRD := Lib.hid hrd
  have HRT := Lib.hid hrt
  have HT := Lib.hid ht
  have HK1 := Lib.hid hk1
  have HBOX := Lib.hid hbox
  have HB := Lib.hid hb
  have HP := Lib.hid hp
  have HTS := Lib.hid hts
  have HMM := Lib.hid hmm
  have HNN := Lib.hid hnn
  have G4 := Lib.hid g4
  have G5 := Lib.hid g5
  have HBASE := Lib.hid hbase
  have HNIL := Lib.hid hnil
  clear h hrd hrt ht hk1 hbox hb hp hts hmm hnn g4 g5 hbase hnil
  go_enter Try.func14, Try.ntmps14
  go_wp2_with (at_builtin; refine wpList_join sl_int rfl _ _ rfl rfl rfl HNIL.out HBASE.out (m := n) (by rw [HNN.out]; simp) (by omega) (by simp) (w0 := w) (l0 := []) (by omega) HK1.out ?_; intro V' c' w3 hown hkk hk3)
  rw [List.nil_append] at hown
  obtain ⟨g, c', hv, hgc, hg1, hg2, hO⟩ := hown.own (by rw [HNN.out]; omega)
  rw [HNN.out] at hgc hO
  try rw [HNN.out] at hv
  injection hv with e1 e2 e3
  subst e1; subst e3
  have hbx3 := HBOX.out.new (show Keeps [] (w.alloc (.cells #[.slice A n c, .slice Ap m cp] 29)) w3 from hkk)
  have hz3 := hk3.size
  have hO0 : Own w3 g n (fun i => .int .i64 (accV s.base s.per t 0 i)) := hO
  have hc0 := hbx3.c0
  have hc1 := hbx3.c1
  have HBX3 := Lib.hid hbx3
  have HO0 := Lib.hid hO0
  have HK3 := Lib.hid hk3
  clear hbx3 hO0 hk3
  clear hown hO e2 hkk
  go_wp2_with fail
  go_loopg [13] (t.length + 1) (fun gh kv wr => ∃ k : Nat, t.length + 1 ≤ k + gh ∧ k ≤ t.length ∧ kv = .int .i64 (k : Int) ∧ Own wr g n (fun i => .int .i64 (accV s.base s.per t k i)) ∧ Keeps [g] w3 wr)
  case atStart => exact ⟨0, by omega, by omega, rfl, HO0.out, Keeps.refl _ _⟩
  case round =>
    obtain ⟨k, hgh, hk, rfl, hO, hkr⟩ := hrel
    have hKr := (HK3.out.step hkr (by simp; omega) : Keeps [] w wr)
    have HO := Lib.hid hO
    have HKr := Lib.hid hkr
    have HKw := Lib.hid hKr
    have hbx : BoxAt wr w.heap.size (.slice A n c) (.slice Ap m cp) := ⟨hkr.read HBX3.out.c0 (by simp; omega), hkr.read HBX3.out.c1 (by simp; omega)⟩
    have HBX := Lib.hid hbx
    clear hO hkr hbx
    by_cases hlt : k < t.length
    · obtain ⟨a, rfl, ha⟩ := G4.out.at_ (show k < m by omega)
      have hper := HP.out _ (getD_mem (d := []) (show k < s.per.length by rw [HMM.out]; omega))
      obtain ⟨Rk, ck, hVk, q1, q2, q3⟩ := (G5.out k (by omega)).open
      rw [hVk] at ha
      have hpl := hper.len
      rw [hpl] at ha q1 q3
      have htk := getD_rng HTS.out (i := k) hlt
      have hsucc : ∀ i, accV s.base s.per t (k + 1) i = accV s.base s.per t k i + t.getD k 0 * (s.per.getD k []).getD i 0 := fun i => rfl
      have hrng : ∀ i, i < n → 0 ≤ accV s.base s.per t k i ∧ accV s.base s.per t k i ≤ 10000000000 := fun i hi => by
        have := accV_rng HB.out HP.out HTS.out hi k (by rw [HMM.out]; omega) (by omega)
        omega
      obtain ⟨aT, hT1, hT2⟩ := HRT.out.at_ hlt
      subst hT1
      generalize hpk : s.per.getD k [] = p at *
      generalize htke : t.getD k 0 = x at *
      have HPER := Lib.hid hper
      have Q3 := Lib.hid q3
      have HSUCC := Lib.hid hsucc
      have HRNG := Lib.hid hrng
      have HPL := Lib.hid hpl
      clear hper q3 hsucc hrng hpl
      clear hVk hpk htke hKr
      go_wp2_with fail
      obtain ⟨wo, hwo⟩ : ∃ wo : World, wo = wr := ⟨_, rfl⟩
      subst hwo
      go_loopg [18] (n + 1) (fun gh jv wr => ∃ j : Nat, n + 1 ≤ j + gh ∧ j ≤ n ∧ jv = .int .i64 (j : Int) ∧ Own wr g n (fun i => .int .i64 (if i < j then accV s.base s.per t (k + 1) i else accV s.base s.per t k i)) ∧ Keeps [g] wo wr)
      case atStart => exact ⟨0, by omega, by omega, rfl, HO.out.congr fun i hi => by simp, Keeps.refl _ _⟩
      case round =>
        obtain ⟨j, hgh', hj, rfl, hOj, hkj⟩ := hrel
        have hKj := (HKw.out.step hkj (by simp; omega) : Keeps [] w wr)
        have HOJ := Lib.hid hOj
        have hbx : BoxAt wr w.heap.size (.slice A n c) (.slice (some a) m cp) := ⟨hkj.read HBX.out.c0 (by simp; omega), hkj.read HBX.out.c1 (by simp; omega)⟩
        have hc0 := hbx.c0
        have hc1 := hbx.c1
        have HKJ := Lib.hid hkj
        clear hOj hkj
        by_cases hltj : j < n
        · obtain ⟨b, rfl, hbc⟩ := (Q3.out.keeps (hKj.nil l)).at_ hltj
          have ha1 := hKj.read ha (by simp)
          have hs1 : wr.cell? ⟨g, j, none⟩ = some (.int .i64 (accV s.base s.per t k j)) := by
            have := (HOJ.out j hltj).1
            simpa using this
          have hs2 : wr.frozen? ⟨g, j, none⟩ = false := (HOJ.out j hltj).2
          have hTx := hKj.read hT2 (by simp)
          have hr1 := HRNG.out j hltj
          have hr2 := getD_rng HPER.out.rng (i := j) (by rw [HPL.out]; exact hltj)
          have hmul := mul_le_big htk hr2
          have hsj := HSUCC.out j
          generalize accV s.base s.per t k j = y at *
          generalize p.getD j 0 = q at *
          have hw1 : IntKind.i64.wrap (x * q) = x * q := IntWalk.i64_in _ (by omega)
          have hw2 : IntKind.i64.wrap (y + x * q) = y + x * q := IntWalk.i64_in _ (by omega)
          have hkm : k < m := by omega
          have HSJ := Lib.hid hsj
          clear hsj
          have HKJ2 := Lib.hid hKj
          clear hKj hbx
          go_wp2_with fail
          go_still_tail 19, (by kernel_rfl)
          change wpList _ _ _ _ _ wr.drew
          go_wp2_with fail
          go_roundg (n - j)
          case measure => omega
          case rel =>
            refine ⟨j + 1, by omega, by omega, by go_num, ?_, HKJ.out.drew.setCell (by simp) _⟩
            refine ((HOJ.out.drew).updInt hltj (y + x * q)).congr fun i hi => ?_
            show Value.int .i64 _ = Value.int .i64 _
            congr 1
            by_cases e : i = j
            · subst e; rw [upd_same, if_pos (by omega), HSJ.out]
            · rw [upd_ne _ _ e]
              by_cases e2 : i < j
              · rw [if_pos e2, if_pos (by omega)]
              · rw [if_neg e2, if_neg (by omega)]
        · obtain rfl : j = n := by omega
          clear hKj hbx
          go_wp2_with fail
          go_roundg (t.length - k)
          case measure => omega
          case rel => exact ⟨k + 1, by omega, by omega, by go_num, HOJ.out.congr fun i hi => by simp [hi], HKr.out.trans HKJ.out⟩
    · obtain rfl : k = t.length := by omega
      clear hKr
      go_wp2_with fail
      go_ret
      exact ⟨g, _, rfl, hgc, by omega, by have := HKr.out.size; omega, HO.out, HKw.out⟩
end Go.Proofs.Ytdhadnnakcdfiaa
