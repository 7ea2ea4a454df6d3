/- The walks of semilinear's Times and Has. -/
import Derived.Test.YtdhadnnakcdfiaaLin
namespace Go.Proofs.Ytdhadnnakcdfiaa
set_option linter.unusedVariables false
open Go.RowKit

def In (s : Lin) (v t : List Int) : Prop := Makes s.per (subm v 1 s.base) t
def TPre (s : Lin) (v : List Int) : Prop := GoodN s ∧ VecOk s.base.length 64 v
def TimesPost (s : Lin) (v : List Int) (l : List Nat) (w : World) (e : Ending) (w' : World) : Prop :=
  Keeps [] w w' ∧ ((e = .returned (.tuple #[.slice none 0 0, .bool false]) ∧ (TPre s v → ∀ t, ¬ In s v t)) ∨ ∃ A n c k, e = .returned (.tuple #[.slice A n c, .bool true]) ∧ TPre s v ∧ IsI w' l (.slice A n c) k ∧ Least s.per (subm v 1 s.base) k)

theorem GoodN.good {s : Lin} (h : GoodN s) : Good s.base.length s := by
  have := h.all s (by simp)
  simpa using this
theorem GoodN.dim {s : Lin} (h : GoodN s) : 1 ≤ s.base.length ∧ s.base.length ≤ 4 := ⟨by have := h.lo; omega, by have := h.hi; omega⟩
theorem sub1_ok {n : Nat} {v b : List Int} (hv : VecOk n 64 v) (hb : VecOk n 16 b) (h : ∀ i, i < n → 0 ≤ v.getD i 0 - 1 * b.getD i 0) : VecOk n 64 (subm v 1 b) := by
  refine ⟨by rw [subm_len, hv.len], fun x hx => ?_⟩
  obtain ⟨i, hi, rfl⟩ := List.mem_map.1 hx
  have hi := List.mem_range.1 hi
  have h1 := h i (by rw [← hv.len]; exact hi)
  have h2 := getD_rng hv.rng hi
  have h3 := getD_rng hb.rng (i := i) (by rw [hb.len, ← hv.len]; exact hi)
  omega
theorem none_base {s : Lin} {v : List Int} {i : Nat} (hp : ∀ p ∈ s.per, ∀ x ∈ p, 0 ≤ x) (hi : i < v.length) (h : v.getD i 0 - 1 * s.base.getD i 0 < 0) : ∀ t, ¬ In s v t := fun t ht => by
  have h1 := ht.eq i (by rw [subm_len]; exact hi)
  rw [subm_get _ _ _ hi] at h1
  have := comb_nn hp ht.nn i
  omega

set_option maxHeartbeats 2000000 in
theorem times_is {w : World} {l : List Nat} {u pv vv : Value} {s : Lin} {v : List Int} (hl : ∀ y ∈ l, y < w.heap.size) (h : IsLin w l u pv s) (hs : s.Small) (hv : IsI w l vv v) (hvn : v.length ≤ 1000000) :
    Calls Try.prog 15 #[.agg #[u, pv], vv] w (TimesPost s v l w) := by
  have hu := h.1
  obtain ⟨A, c, rfl, hc, hA, hrd⟩ := hu.open
  have hp := h.2
  obtain ⟨Ap, cp, V, rfl, _⟩ := hp
  obtain ⟨B, cb, rfl, hcb, hB, hrb⟩ := hv.open
  have hk1 : Keeps [] w (w.alloc (.cells #[.slice A s.base.length c, .slice Ap s.per.length cp] 29)) := (Keeps.refl _ _).alloc _
  have hbox := BoxAt.start w (.slice A s.base.length c) (.slice Ap s.per.length cp) 29
  have hl1 : ∀ y ∈ l, y < (w.alloc (.cells #[.slice A s.base.length c, .slice Ap s.per.length cp] 29)).heap.size := fun y hy => Nat.lt_of_lt_of_le (hl y hy) hk1.size
  clear hu
  have H := Lib.hid h
  have HRD := Lib.hid hrd
  have HRB := Lib.hid hrb
  have HV := Lib.hid hv
  have HK1 := Lib.hid hk1
  have HBOX := Lib.hid hbox
  have HL1 := Lib.hid hl1
  have HS := Lib.hid hs
  have HL := Lib.hid hl
  clear h hrd hrb hv hk1 hbox hl1 hs hl
  go_enter Try.func15, Try.ntmps15
  go_wp2_with fail
  refine (right_is HL1.out (H.out.new HK1.out) HS.out).mono ?_
  rintro e w1 ⟨r, rfl, hr, hk2⟩
  have hbox2 := HBOX.out.new hk2
  have hc0 := hbox2.c0
  have hc1 := hbox2.c1
  have HK2 := Lib.hid (HK1.out.trans hk2)
  have HBOX2 := Lib.hid hbox2
  have HR := Lib.hid hr
  clear hr
  clear hk2 hbox2
  cases r with
  | false =>
    go_wp2_with fail
    go_ret2
    exact ⟨HK2.out, .inl ⟨rfl, fun hp => by have := HR.out.2 hp.1; simp at this⟩⟩
  | true =>
    have hgood : GoodN s := HR.out.1 rfl
    have hdim := hgood.dim
    have HG := Lib.hid hgood
    clear hgood
    by_cases hlen : v.length = s.base.length
    · generalize hnn : s.base.length = n at *
      rw [hlen] at hvn hcb
      have hrbn := HRB.out
      rw [hlen] at hrbn
      have hrbk := hrbn.keeps (HK2.out.nil l)
      have hrdk := HRD.out.keeps (HK2.out.nil l)
      rw [hlen]
      have HNN := Lib.hid hnn
      have HLEN := Lib.hid hlen
      have HRBN := Lib.hid hrbn
      have HRBK := Lib.hid hrbk
      have HRDK := Lib.hid hrdk
      clear hnn hlen hrbn hrbk hrdk
      go_wp2_with fail
      refine (small_has w1 w1.heap.size n cb B (fun i => v.getD i 0) 64 (Nat.le_refl _) HRBK.out.rd (by omega)).mono ?_
      rintro e w2 ⟨r, rfl, hr, hb⟩
      have hk3 : Keeps [] w1 w2 := hb.toK
      have hbox3 := HBOX2.out.new hk3
      have hc0 := hbox3.c0
      have hc1 := hbox3.c1
      have hl2 : ∀ y ∈ l, y < w2.heap.size := fun y hy => by have := HL.out y hy; have := (HK2.out.trans hk3).size; omega
      have hrb2 := HRBN.out.keeps ((HK2.out.trans hk3).nil l)
      have hrd2 := HRD.out.keeps ((HK2.out.trans hk3).nil l)
      have HR2 := Lib.hid hr
      have HK3 := Lib.hid (HK2.out.trans hk3)
      have HBOX3 := Lib.hid hbox3
      have HL2 := Lib.hid hl2
      have HRB2 := Lib.hid hrb2
      have HRD2 := Lib.hid hrd2
      clear hbox3 hl2 hrb2 hrd2
      clear hb hk3 hr
      cases r with
      | false =>
        go_wp2_with fail
        go_ret2
        exact ⟨HK3.out, .inl ⟨rfl, fun hp => by
          have h1 := (small_iff (v := v) (b := 64) HLEN.out).2 hp.2.rng
          have := HR2.out.2 h1
          simp at this⟩⟩
      | true =>
        have hok : VecOk n 64 v := ⟨HLEN.out, (small_iff HLEN.out).1 (HR2.out.1 rfl)⟩
        have hbok : VecOk n 16 s.base := by have := HG.out.good.base; rw [HNN.out] at this; exact this
        have hvb : ∀ i, i < n → -1000 ≤ v.getD i 0 ∧ v.getD i 0 ≤ 1000 := fun i hi => by have := getD_rng hok.rng (i := i) (by rw [HLEN.out]; exact hi); omega
        have hpb : ∀ i, i < n → 0 ≤ s.base.getD i 0 ∧ s.base.getD i 0 ≤ 1000 := fun i hi => by have := getD_rng hbok.rng (i := i) (by rw [HNN.out]; exact hi); omega
        have HOK := Lib.hid hok
        have HBOK := Lib.hid hbok
        have HVB := Lib.hid hvb
        have HPB := Lib.hid hpb
        clear hok hbok hvb hpb
        go_wp2_with fail
        refine (less_any w2 l HL2.out w2.heap.size n cb c B A (fun i => v.getD i 0) (fun i => s.base.getD i 0) 1 (Nat.le_refl _) HRB2.out.rd hB HRD2.out.rd (by omega) (by omega) HVB.out HPB.out).mono ?_
        rintro e w3 ⟨hb3, h⟩
        rcases h with ⟨rfl, i, hi, hneg⟩ | ⟨V, cv, rfl, hV1, hV2, hge, hrd3⟩
        · have HK4 := Lib.hid (HK3.out.trans hb3.toK)
          have HNEG := Lib.hid hneg
          have hbox4 := HBOX3.out.new hb3.toK
          have hc0 := hbox4.c0
          have hc1 := hbox4.c1
          clear hb3 hneg hbox4
          go_wp2_with fail
          go_ret2
          exact ⟨HK4.out, .inl ⟨rfl, fun _ => none_base (fun p hp x hx => ((HG.out.good.per p hp).rng x hx).1) (i := i) (by rw [HLEN.out]; exact hi) HNEG.out⟩⟩
        · have hokr := sub1_ok HOK.out HBOK.out hge
          have hrest : IsI w3 l (.slice V n cv) (subm v 1 s.base) := IsI.mk (by rw [subm_len, HLEN.out]) hV2 hV1 (hrd3.congr fun i hi => by rw [subm_get _ _ _ (by rw [HLEN.out]; exact hi)])
          have hk4 := HK3.out.trans (hb3.toK (l := []))
          have hl3 : ∀ y ∈ l, y < w3.heap.size := fun y hy => by have := HL.out y hy; have := hk4.size; omega
          have hper := H.out.2.new hk4
          have hbox4 := HBOX3.out.new hb3.toK
          have hc0 := hbox4.c0
          have hc1 := hbox4.c1
          have HOKR := Lib.hid hokr
          have HREST := Lib.hid hrest
          have HK4 := Lib.hid hk4
          have HL3 := Lib.hid hl3
          have HPER := Lib.hid hper
          have HBOX4 := Lib.hid hbox4
          clear hokr hrest hk4 hl3 hper hbox4
          clear hb3 hge hrd3
          go_wp2_with fail
          refine (solve_is n (by omega) s.per w3 l HL3.out (subm v 1 s.base) _ _ HPER.out HREST.out (fun p hp => by have := HG.out.good.per p hp; rw [HNN.out] at this; exact this) HOKR.out (by have := HG.out.good.few; omega)).mono ?_
          rintro e w4 ⟨hk5, h⟩
          have HPRE : Hid (TPre s v) := ⟨HG.out, by rw [HNN.out]; exact HOK.out⟩
          rcases h with ⟨rfl, hnone⟩ | ⟨A', n', c', ks, rfl, hks, hleast⟩
          · have HK5 := Lib.hid (HK4.out.trans hk5)
            have HNONE := Lib.hid hnone
            clear hk5 hnone
            go_wp2_with fail
            go_ret2
            exact ⟨HK5.out, .inl ⟨rfl, fun _ => HNONE.out⟩⟩
          · have HK5 := Lib.hid (HK4.out.trans hk5)
            have HKS := Lib.hid hks
            have HLEAST := Lib.hid hleast
            clear hks hleast
            clear hk5
            go_wp2_with fail
            go_ret2
            exact ⟨HK5.out, .inr ⟨A', n', c', ks, rfl, HPRE.out, HKS.out, HLEAST.out⟩⟩
    · have hne : ((v.length : Int) != (s.base.length : Int)) = true := by rw [bne_iff_ne]; omega
      have HNE := Lib.hid hlen
      clear hlen
      go_wp2_with fail
      go_ret2
      exact ⟨HK2.out, .inl ⟨rfl, fun hp => absurd hp.2.len HNE.out⟩⟩
end Go.Proofs.Ytdhadnnakcdfiaa
