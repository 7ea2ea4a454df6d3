/- The walk of the reference's Put. -/
import Derived.Test.YtdhadnnakcdfiaaCmpL
import Derived.Test.YtdhadnnakcdfiaaStep
namespace Go.Proofs.Ytdhadnnakcdfiaa
set_option linter.unusedVariables false
open Go.RowKit

def putL : List (List Int) → List Int → List (List Int)
  | [], v => [v]
  | x :: L, v => if cmpL x v < 0 then x :: putL L v else if x = v then x :: L else v :: x :: L
theorem putL_at : ∀ {L : List (List Int)} {v : List Int} {k : Nat}, k ≤ L.length → (∀ i, i < k → cmpL (L.getD i []) v < 0) → (k < L.length → ¬ cmpL (L.getD k []) v < 0) → putL L v = if k < L.length ∧ L.getD k [] = v then L else L.take k ++ v :: L.drop k
  | [], v, k, hk, _, _ => by
    have : k = 0 := by simpa using hk
    subst this; simp [putL]
  | x :: L, v, 0, hk, h1, h2 => by
    have := h2 (by simp)
    simp only [List.getD_cons_zero] at this
    rw [putL, if_neg this]
    by_cases e : x = v
    · rw [if_pos e, if_pos ⟨by simp, by simpa using e⟩]
    · rw [if_neg e, if_neg (fun h => e (by simpa using h.2))]; simp
  | x :: L, v, k + 1, hk, h1, h2 => by
    have h0 := h1 0 (by omega)
    simp only [List.getD_cons_zero] at h0
    rw [putL, if_pos h0, putL_at (k := k) (by simpa using hk) (fun i hi => by have := h1 (i + 1) (by omega); simpa using this) (fun h => by have := h2 (by simpa using h); simpa using this)]
    simp only [List.length_cons, List.getD_cons_succ, Nat.add_lt_add_iff_right, List.take_succ_cons, List.drop_succ_cons, List.cons_append]
    split <;> rfl

theorem one_cell {w : World} {l : List Nat} {u : Value} {v : List Int} {e : TypeId} (hl : ∀ x ∈ l, x < w.heap.size) (h : IsI w l u v) : IsL IsI [] (w.alloc (.cells #[u] e)) l (.slice (some ⟨w.heap.size, 0, none⟩) 1 1) [v] :=
  isL_new (xs := [v]) hl rfl fun i hi => by
    have e : i = 0 := by simpa using hi
    subst e; exact h

def PutPost (l : List Nat) (L : List (List Int)) (v : List Int) (w : World) (e : Ending) (w' : World) : Prop := ∃ A n c, e = .returned (.slice A n c) ∧ IsII w' l (.slice A n c) (putL L v) ∧ Keeps [] w w'

set_option maxRecDepth 100000 in
set_option maxHeartbeats 4000000 in
theorem put_is {w : World} {l : List Nat} {lv vv : Value} {L : List (List Int)} {v : List Int} (hl : ∀ x ∈ l, x < w.heap.size) (h : IsII w l lv L) (hv : IsI w l vv v) (hn : L.length ≤ 1000000) (hlens : ∀ x ∈ L, x.length ≤ 1000000) (hvn : v.length ≤ 1000000) :
    Calls Try.prog 33 #[lv, vv] w (PutPost l L v w) := by
  have h' := h
  obtain ⟨A, c, V, rfl, h2, h3, h4, h5⟩ := h'
  obtain ⟨B, cb, rfl, _⟩ := hv.open
  have eg := enters_of Try.func59 (by kernel_rfl) rfl
  generalize hnn : L.length = n at *
  have H := Lib.hid h
  have HV := Lib.hid hv
  have HL := Lib.hid hl
  have HLENS := Lib.hid hlens
  have H4 := Lib.hid h4
  have H5 := Lib.hid h5
  have HNN := Lib.hid hnn
  clear h hv hl hlens h4 h5 hnn
  go_enter Try.func33, Try.ntmps33
  go_wp2_with fail
  go_loopg [5] (n + 1) (fun gh kv wr => ∃ k : Nat, n + 1 ≤ k + gh ∧ k ≤ n ∧ kv = .int .i64 (k : Int) ∧ (∀ i, i < k → cmpL (L.getD i []) v < 0) ∧ Keeps [] w wr)
  case atStart => exact ⟨0, by omega, by omega, rfl, fun i hi => by omega, Keeps.refl _ _⟩
  case round =>
    obtain ⟨k, hgh, hk, rfl, hs, hK⟩ := hrel
    have HS := Lib.hid hs
    have HK := Lib.hid hK
    clear hs hK
    by_cases hlt : k < n
    · obtain ⟨a, rfl, ha⟩ := (H4.out.keeps (HK.out.nil l)).at_ hlt
      have hx := (H5.out k hlt).new HK.out
      have hxl := HLENS.out _ (getD_mem (d := []) (show k < L.length by rw [HNN.out]; exact hlt))
      have hcall := cmp_is hx (HV.out.new HK.out) hxl hvn
      by_cases hc : cmpL (L.getD k []) v < 0
      · have hcd : decide (cmpL (L.getD k []) v < 0) = true := decide_eq_true hc
        generalize V k = u at *
        generalize hcm : cmpL (L.getD k []) v = z at *
        have HCM := Lib.hid hcm
        have HX := Lib.hid hx
        have HCALL := Lib.hid hcall
        clear hcm hx hcall
        have HC := Lib.hid hc
        clear hc
        go_wp2_with fail
        refine HCALL.out.mono ?_
        rintro e w1 ⟨rfl, hq⟩
        have HQ := Lib.hid (HK.out.trans (quiet_keeps hq))
        clear hq
        go_wp2_with fail
        go_roundg (n - k)
        case measure => omega
        case rel => exact ⟨k + 1, by omega, by omega, by go_num, fun i hi => by
          by_cases e : i = k
          · subst e; rw [HCM.out]; exact HC.out
          · exact HS.out i (by omega), HQ.out⟩
      · have hcd : decide (cmpL (L.getD k []) v < 0) = false := decide_eq_false hc
        have hput := putL_at (L := L) (v := v) (k := k) (by rw [HNN.out]; omega) HS.out (fun _ => hc)
        generalize hvk : V k = u at *
        generalize hcm : cmpL (L.getD k []) v = z at *
        have HC := Lib.hid hc
        have HX := Lib.hid hx
        have HCALL := Lib.hid hcall
        clear hx hcall
        have HCM := Lib.hid hcm
        have HPUT := Lib.hid hput
        clear hcm hput
        clear hc
        go_wp2_with fail
        refine HCALL.out.mono ?_
        rintro e w1 ⟨rfl, hq⟩
        have hk1 := HK.out.trans (quiet_keeps hq)
        have ha := (quiet_keeps hq).read ha (by simp)
        have hx1 : IsI w1 l u (L.getD k []) := HX.out.new (quiet_keeps hq)
        have hcall2 := same_is hx1 (HV.out.new hk1) hxl hvn
        have HK1 := Lib.hid hk1
        have HX1 := Lib.hid hx1
        have HCALL2 := Lib.hid hcall2
        clear hk1 hx1 hcall2
        clear hq
        go_wp2_with fail
        refine HCALL2.out.mono ?_
        rintro e w2 ⟨rfl, hq⟩
        have hk2 := HK1.out.trans (quiet_keeps hq)
        have HK2 := Lib.hid hk2
        clear hk2
        clear hq
        by_cases hsm : L.getD k [] = v
        · have hsd : decide (L.getD k [] = v) = true := decide_eq_true hsm
          have HSM := Lib.hid hsm
          clear hsm
          go_wp2_with fail
          go_ret
          exact ⟨_, _, _, rfl, by rw [HPUT.out, if_pos ⟨by rw [HNN.out]; exact hlt, HSM.out⟩]; exact H.out.new HK2.out, HK2.out⟩
        · have hsd : decide (L.getD k [] = v) = false := decide_eq_false hsm
          have HSM := Lib.hid hsm
          clear hsm
          go_wp2_with fail
          have hput := HPUT.out
          rw [if_neg (fun h => HSM.out h.2)] at hput
          have HPUT := Lib.hid hput
          clear hput
          have hl1 : ∀ x ∈ l, x < w2.heap.size := fun x hx => by have := HL.out x hx; have := HK2.out.size; omega
          have hT0 : IsL IsI [] w l (.slice (some a) n c) L := H.out
          obtain ⟨A1, hs1, hT⟩ := slice_to sl_rowsi hT0 k (by omega)
          obtain ⟨A2, hs2, hD⟩ := slice_from sl_rowsi hT0 k (by omega)
          have htl : (L.take k).length = k := by rw [List.length_take, HNN.out]; omega
          have hdl : (L.drop k).length = n - k := by rw [List.length_drop, HNN.out]
          have hz := HK2.out.size
          have hk0 : Keeps [] w w2.drew := HK2.out.drew
          have HK0 := Lib.hid hk0
          have hTn : IsL IsI [] w2.drew ([] ++ l) (.slice A1 k c) (L.take k) := Rok.keeps hT (hk0.nil _)
          have HTN := Lib.hid hTn
          clear hTn
          have HL1 := Lib.hid hl1
          have HT := Lib.hid hT
          have HD := Lib.hid hD
          have HTL := Lib.hid htl
          have HDL := Lib.hid hdl
          clear hl1 hT hD htl hdl
          clear hT0 hk0
          go_region_law (first
            | (have _t := hown2; refine step_join sl_rowsi rfl (.tmp 41) (.tmp 44) rfl (v := .slice V2 (k + 1) c2) (u := .slice A2 (n - k) (c - k)) (by simp [Act.eval]) (by simp [Act.eval]) hown2 (hown2.putw HD.out hk41 (Nat.le_refl _)) (m := n + 1) (by rw [List.length_append, HTL.out, HDL.out]; simp; omega) (by omega) hk41.size (w0 := w) (l0 := []) (Nat.le_refl _) hk41 ?_; intro V3 c3 w45 hown3 hg3 hk45)
            | (have _t := hcp; refine step_push sl_rowsi rfl (.tmp 37) (.tmp 40) rfl (w := wC) (v := .slice V1 k c1) (by simp [Act.eval]) (by simp [Act.eval]) hown1 hcp (m := k + 1) (by rw [HTL.out]) (by omega) hkC.size (w0 := w) (l0 := []) (Nat.le_refl _) hkC ?_; intro V2 c2 w41 hown2 hg2 hk41)
            | (have _t := hown1; refine step_call1 rfl 59 (.tmp 38) #[22] rfl eg (copy_is (l := (Value.slice V1 k c1).ownBlock.toList ++ l) (hown1.putw HV.out hk37 (Nat.le_refl _)) hvn) (by simp [Act.eval]) ?_; rintro e wC ⟨Ac, cc, rfl, hownC, hkC0⟩; refine ⟨_, rfl, ?_⟩; have hcp := hownC.isL (hown1.putb (fun y hy => Nat.lt_of_lt_of_le (HL.out y hy) hk37.size)); have hkC := hk37.trans hkC0; have hown1 := hown1.new hkC0)
            | (refine step_join sl_rowsi rfl (.const (.slice none 0 0)) (.tmp 36) rfl (w := w2.drew) (l := l) (base := w.heap.size) (v := .slice none 0 0) (u := .slice A1 k c) (by simp [Act.eval]) (by simp [Act.eval, Act.put]) OwL.nil HTN.out (m := k) (by simp [HTL.out]) (by omega) hz (w0 := w) (l0 := []) (Nat.le_refl _) HK0.out ?_; intro V1 c1 w37 hown1 hg1 hk37; rw [List.nil_append] at hown1))
          all_goals
            have hfin := hown3.isL (fun y hy => HL.out y hy)
            have hput := HPUT.out
            rw [List.append_assoc, List.singleton_append] at hfin
            go_wp2_with fail
            go_ret
            exact ⟨_, _, _, rfl, by rw [hput]; exact hfin, hk45⟩
    · have hput := putL_at (L := L) (v := v) (k := k) (by rw [HNN.out]; omega) HS.out (fun h => by rw [HNN.out] at h; omega)
      rw [if_neg (fun h => by have := h.1; rw [HNN.out] at this; omega)] at hput
      have HPUT := Lib.hid hput
      clear hput
      go_wp2_with fail
      have hl1 : ∀ x ∈ l, x < wr.heap.size := fun x hx => by have := HL.out x hx; have := HK.out.size; omega
      have hT0 : IsL IsI [] w l (.slice A n c) L := H.out
      obtain ⟨A1, hs1, hT⟩ := slice_to sl_rowsi hT0 k (by omega)
      obtain ⟨A2, hs2, hD⟩ := slice_from sl_rowsi hT0 k (by omega)
      have htl : (L.take k).length = k := by rw [List.length_take, HNN.out]; omega
      have hdl : (L.drop k).length = n - k := by rw [List.length_drop, HNN.out]
      have hz := HK.out.size
      have hk0 : Keeps [] w wr.drew := HK.out.drew
      have HK0 := Lib.hid hk0
      have hTn : IsL IsI [] wr.drew ([] ++ l) (.slice A1 k c) (L.take k) := Rok.keeps hT (hk0.nil _)
      have HTN := Lib.hid hTn
      clear hTn
      have HL1 := Lib.hid hl1
      have HT := Lib.hid hT
      have HD := Lib.hid hD
      have HTL := Lib.hid htl
      have HDL := Lib.hid hdl
      clear hl1 hT hD htl hdl
      clear hT0 hk0
      go_region_law (first
        | (have _t := hown2; refine step_join sl_rowsi rfl (.tmp 41) (.tmp 44) rfl (v := .slice V2 (k + 1) c2) (u := .slice A2 (n - k) (c - k)) (by simp [Act.eval]) (by simp [Act.eval]) hown2 (hown2.putw HD.out hk41 (Nat.le_refl _)) (m := n + 1) (by rw [List.length_append, HTL.out, HDL.out]; simp; omega) (by omega) hk41.size (w0 := w) (l0 := []) (Nat.le_refl _) hk41 ?_; intro V3 c3 w45 hown3 hg3 hk45)
        | (have _t := hcp; refine step_push sl_rowsi rfl (.tmp 37) (.tmp 40) rfl (w := wC) (v := .slice V1 k c1) (by simp [Act.eval]) (by simp [Act.eval]) hown1 hcp (m := k + 1) (by rw [HTL.out]) (by omega) hkC.size (w0 := w) (l0 := []) (Nat.le_refl _) hkC ?_; intro V2 c2 w41 hown2 hg2 hk41)
        | (have _t := hown1; refine step_call1 rfl 59 (.tmp 38) #[22] rfl eg (copy_is (l := (Value.slice V1 k c1).ownBlock.toList ++ l) (hown1.putw HV.out hk37 (Nat.le_refl _)) hvn) (by simp [Act.eval]) ?_; rintro e wC ⟨Ac, cc, rfl, hownC, hkC0⟩; refine ⟨_, rfl, ?_⟩; have hcp := hownC.isL (hown1.putb (fun y hy => Nat.lt_of_lt_of_le (HL.out y hy) hk37.size)); have hkC := hk37.trans hkC0; have hown1 := hown1.new hkC0)
        | (refine step_join sl_rowsi rfl (.const (.slice none 0 0)) (.tmp 36) rfl (w := wr.drew) (l := l) (base := w.heap.size) (v := .slice none 0 0) (u := .slice A1 k c) (by simp [Act.eval]) (by simp [Act.eval, Act.put]) OwL.nil HTN.out (m := k) (by simp [HTL.out]) (by omega) hz (w0 := w) (l0 := []) (Nat.le_refl _) HK0.out ?_; intro V1 c1 w37 hown1 hg1 hk37; rw [List.nil_append] at hown1))
      all_goals
        have hfin := hown3.isL (fun y hy => HL.out y hy)
        have hput := HPUT.out
        rw [List.append_assoc, List.singleton_append] at hfin
        go_wp2_with fail
        go_ret
        exact ⟨_, _, _, rfl, by rw [hput]; exact hfin, hk45⟩
end Go.Proofs.Ytdhadnnakcdfiaa
