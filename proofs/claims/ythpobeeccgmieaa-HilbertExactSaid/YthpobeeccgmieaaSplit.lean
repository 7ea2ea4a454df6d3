/- The walks of slices.Max (at natural numbers) and of hilbert.split. -/
import Derived.Test.YthpobeeccgmieaaSplL
import Derived.Test.YthpobeeccgmieaaSubV
import Derived.Test.YthpobeeccgmieaaMat
import Derived.Test.YthpobeeccgmieaaConcatR
import Derived.Test.YthpobeeccgmieaaCloneR
namespace Go.Proofs.Ythpobeeccgmieaa
set_option linter.unusedVariables false
open Go.RowKit

theorem isum_zero {x : List Int} (h : ∀ y ∈ x, 0 ≤ y) : isum x = 0 ↔ ∀ i, i < x.length → x.getD i 0 = 0 := by
  induction x with
  | nil => simp [isum]
  | cons a t ih =>
    have ha := h a (by simp)
    have ht := (isum_ge (x := t) fun y hy => h y (by simp [hy])).1
    have ih := ih fun y hy => h y (by simp [hy])
    rw [isum_cons]
    constructor
    · intro hs i hi
      cases i with
      | zero => simp; omega
      | succ i => simp; have := ih.1 (by omega) i (by simpa using hi); simpa using this
    · intro hz
      have h0 := hz 0 (by simp)
      have h1 := ih.2 fun i hi => by have := hz (i + 1) (by simpa using hi); simpa using this
      simp at h0
      omega
def MaxPost (x : List Int) (w : World) (e : Ending) (w' : World) : Prop := ∃ m : Int, e = .returned (.int .i64 m) ∧ (m = 0 ↔ isum x = 0) ∧ w = w'
set_option maxHeartbeats 400000 in
theorem max_is {w : World} {l : List Nat} {av : Value} {x : List Int} (ha : IsI w l av x) (hv : VFin x) (hn : 1 ≤ x.length) : Calls Try.prog 63 #[av] w (MaxPost x w) := by
  unfold MaxPost
  have hz := isum_zero (x := x) (fun y hy => (hv.el y hy).1)
  have hel : ∀ i, i < x.length → 0 ≤ x.getD i 0 ∧ x.getD i 0 ≤ 1048576 := fun i hi => hv.el _ (getD_mem hi)
  have h6 := hv.few
  obtain ⟨A, c, rfl, _, _, h1⟩ := ha.open
  obtain ⟨p, rfl, hp0⟩ := h1.at0 (by omega)
  generalize hnx : x.length = n at *
  have hx0 := hel 0 (by omega)
  have H1 := Lib.hid h1
  have HA := Lib.hid ha
  have HV := Lib.hid hv
  have HZ := Lib.hid hz
  have HEL := Lib.hid hel
  have HNX := Lib.hid hnx
  clear h1 ha hv hz hel hnx
  go_enter Try.func63, Try.ntmps63
  go_wp2_with fail
  go_loopg [3, 4] (n + 1) (fun gh mv kv wr => ∃ (k : Nat) (m : Int), n + 1 ≤ k + gh ∧ 1 ≤ k ∧ k ≤ n ∧ kv = .int .i64 (k : Int) ∧ mv = .int .i64 m ∧ 0 ≤ m ∧ m ≤ 1048576 ∧ (m = 0 ↔ ∀ i, i < k → x.getD i 0 = 0) ∧ w = wr)
  case atStart => exact ⟨1, x.getD 0 0, by omega, by omega, by omega, rfl, rfl, by omega, by omega, ⟨fun h i hi => by
    obtain rfl : i = 0 := by omega
    exact h, fun h => h 0 (by omega)⟩, rfl⟩
  case round =>
    obtain ⟨k, m, hgh, hk1, hk, rfl, rfl, hm0, hm1, hm, rfl⟩ := hrel
    by_cases hlt : k < n
    · obtain ⟨p2, ep, hp⟩ := H1.out.at_ hlt
      obtain rfl : p2 = p := by injection ep with e; exact e.symm
      obtain ⟨hxa, hxb⟩ := HEL.out k hlt
      have hmx : (max m (x.getD k 0) = 0 ↔ ∀ i, i < k + 1 → x.getD i 0 = 0) := by
        constructor
        · intro h i hi
          by_cases e : i = k
          · subst e; omega
          · exact hm.1 (by omega) i (by omega)
        · intro h
          have h2 := h k (by omega)
          have h3 := hm.2 fun i hi => h i (by omega)
          omega
      generalize x.getD k 0 = y at *
      have HM := Lib.hid hm
      have HMX := Lib.hid hmx
      clear hm hmx
      go_wp2_with fail
      go_roundg (n - k)
      case measure => omega
      case rel => exact ⟨k + 1, max m y, by omega, by omega, by omega, by go_num, rfl, by omega, by omega, HMX.out, rfl⟩
    · obtain rfl : k = n := by omega
      have hfin := hm.trans HZ.out.symm
      have HFIN := Lib.hid hfin
      have HM := Lib.hid hm
      clear hfin hm
      go_wp2_with fail
      go_ret
      exact ⟨m, rfl, HFIN.out, rfl⟩

theorem CloPost.fresh5 {l O : List Nat} {xs : List Int} {W W' : World} {v : Value} (h : OwL IsN 0 3 W.heap.size W' l v xs) (hO : ∀ y ∈ O, y < W.heap.size) : IsI W' O v xs := by
  obtain ⟨us, h1, h2, h3⟩ := h
  have h' : OwL IsN 0 3 W.heap.size W' O v xs := ⟨us, h1, h2, h3⟩
  exact h'.isL hO
def SplPost (lx : List Nat) (o : Option (List (List Int))) (w : World) (e : Ending) (w' : World) : Prop :=
  match o with
  | none => e = .returned (.tuple #[.slice none 0 0, .bool false]) ∧ Keeps [] w w'
  | some ys => ∃ V m c, m = ys.length ∧ e = .returned (.tuple #[.slice V m c, .bool true]) ∧ OwL IsI [] 22 w.heap.size w' lx (.slice V m c) ys ∧ Keeps [] w w'

set_option maxRecDepth 100000 in
set_option maxHeartbeats 2000000 in
theorem split_is {n : Nat} (hn : 1 ≤ n) (lx : List Nat) : ∀ (f : Nat) (L : List (List Int)) (x : List Int) (w : World) (lv xv : Value), IsII w [] lv L → IsI w [] xv x → SpL n L → VFin x → x.length = n → isum x ≤ f → f ≤ 10 → L.length ≤ 100000000 → (∀ y ∈ lx, y < w.heap.size) →
    Calls Try.prog 43 #[lv, xv] w (SplPost lx (splitF f L x) w) := by
  intro f
  induction f with
  | zero =>
    intro L x w lv xv hL hx hSp hFi hxl hfs hf10 hLl hlx
    have h0 : isum x = 0 := by have := (isum_ge fun y hy => (hFi.el y hy).1).1; omega
    rw [splitF_zero h0]
    have hmax := max_is hx hFi (by omega)
    obtain ⟨A, c, rfl, _⟩ := hx.open
    obtain ⟨B, c', rfl, _⟩ := hL.mrow
    rw [hxl] at hmax ⊢
    generalize L.length = m at *
    unfold SplPost
    have HMAX := Lib.hid hmax
    have HL := Lib.hid hL
    have HX := Lib.hid hx
    have HSP := Lib.hid hSp
    have HFI := Lib.hid hFi
    have HFS := Lib.hid hfs
    have H0 := Lib.hid h0
    have HLX := Lib.hid hlx
    clear hmax hL hx hSp hFi hfs h0 hlx
    go_enter Try.func43, Try.ntmps43
    go_wp2_with fail
    refine HMAX.out.mono ?_
    rintro e w1 ⟨z, rfl, hz, rfl⟩
    obtain rfl : z = 0 := hz.2 H0.out
    clear hz
    go_wp2_with fail
    go_ret2
    exact ⟨none, 0, 0, rfl, rfl, OwL.nil, Keeps.refl _ _⟩
  | succ f ih =>
    intro L x w lv xv hL hx hSp hFi hxl hfs hf10 hLl hlx
    have hmax := max_is hx hFi (by omega)
    by_cases h0 : isum x = 0
    · rw [splitF_zero h0]
      obtain ⟨A, c, rfl, _⟩ := hx.open
      obtain ⟨B, c', rfl, _⟩ := hL.mrow
      rw [hxl] at hmax ⊢
      generalize L.length = m at *
      unfold SplPost
      have HMAX := Lib.hid hmax
      have HL := Lib.hid hL
      have HX := Lib.hid hx
      have HSP := Lib.hid hSp
      have HFI := Lib.hid hFi
      have HFS := Lib.hid hfs
      have H0 := Lib.hid h0
      have IH := Lib.hid ih
      have HLX := Lib.hid hlx
      clear hmax hL hx hSp hFi hfs h0 ih hlx
      go_enter Try.func43, Try.ntmps43
      go_wp2_with fail
      refine HMAX.out.mono ?_
      rintro e w1 ⟨z, rfl, hz, rfl⟩
      obtain rfl : z = 0 := hz.2 H0.out
      clear hz
      go_wp2_with fail
      go_ret2
      exact ⟨none, 0, 0, rfl, rfl, OwL.nil, Keeps.refl _ _⟩
    · rw [splitF_succ h0]
      have hxI : ∀ W, Keeps [] w W → IsI W [] xv x := fun W k => hx.new k
      have hLI : ∀ W, Keeps [] w W → IsII W [] lv L := fun W k => hL.new k
      obtain ⟨A, c, rfl, _⟩ := hx.open
      have hLm := hL.mrow
      obtain ⟨B, c', rfl, hrow⟩ := hLm
      have hsl := fun k hk => slice_from (P := Try.prog) sl_rowsi (show IsL IsI [] w [] (.slice B L.length c') L from hL) k hk
      have hdrop : ∀ k, k < L.length → splitG (splitF f) (L.drop k) x = if pleB (L.getD k []) x = true then optP (L.getD k []) (splitG (splitF f) (L.drop (k + 1)) x) (splitF f (L.drop k) (subV n x (L.getD k []))) else splitG (splitF f) (L.drop (k + 1)) x := fun k hk => by
        rw [splitG_drop hk, hxl]
      have hend : splitG (splitF f) (L.drop L.length) x = none := splitG_end (Nat.le_refl _)
      have hel : ∀ k, k < L.length → VFin (L.getD k []) ∧ (L.getD k []).length = n ∧ 1 ≤ isum (L.getD k []) := fun k hk => ⟨hSp.fin _ (getD_mem hk), hSp.len _ (getD_mem hk), hSp.pos _ (getD_mem hk)⟩
      have hdl : ∀ k, (L.drop k).length = L.length - k := fun k => List.length_drop
      have hst : splitG (splitF f) (L.drop 0) x = splitG (splitF f) L x := by rw [List.drop_zero]
      rw [hxl] at hmax hxI ⊢
      generalize hm : L.length = m at *
      generalize hres : splitG (splitF f) L x = res at *
      have HMAX := Lib.hid hmax
      have HL := Lib.hid hL
      have HX := Lib.hid hx
      have HSP := Lib.hid hSp
      have HFI := Lib.hid hFi
      have HFS := Lib.hid hfs
      have H0 := Lib.hid h0
      have IH := Lib.hid ih
      have HXI := Lib.hid hxI
      have HLI := Lib.hid hLI
      have HROW := Lib.hid hrow
      have HSL := Lib.hid hsl
      have HDROP := Lib.hid hdrop
      have HEND := Lib.hid hend
      have HEL := Lib.hid hel
      have HDL := Lib.hid hdl
      have HST := Lib.hid hst
      have HM := Lib.hid hm
      have HRES := Lib.hid hres
      have HLX := Lib.hid hlx
      clear hmax hL hx hSp hFi hfs h0 ih hxI hLI hrow hsl hdrop hend hel hdl hst hm hres hlx
      go_enter Try.func43, Try.ntmps43
      go_wp2_with fail
      refine HMAX.out.mono ?_
      rintro e w1 ⟨z, rfl, hz, rfl⟩
      have hz0 : (z == 0) = false := by
        have : z ≠ 0 := fun h => H0.out (hz.1 h)
        simpa using this
      clear hz
      go_wp2_with fail
      go_loopg [17] (m + 1) (fun gh kv wr => ∃ k : Nat, m + 1 ≤ k + gh ∧ k ≤ m ∧ kv = .int .i64 (k : Int) ∧ splitG (splitF f) (L.drop k) x = res ∧ Keeps [] w wr)
      case atStart => exact ⟨0, by omega, by omega, rfl, HST.out, Keeps.refl _ _⟩
      case round =>
        obtain ⟨k, hgh, hk, rfl, hs, hkr⟩ := hrel
        by_cases hlt : k < m
        · obtain ⟨pa, Bk, ck, rfl, hpa, hIk⟩ := (HROW.out.new hkr) k hlt
          obtain ⟨hvf, hvl, hvp⟩ := HEL.out k hlt
          rw [HDROP.out k hlt] at hs
          rw [hvl] at hpa hIk
          obtain ⟨B2, hsl2, hdrp⟩ := HSL.out k (by omega)
          generalize hv : L.getD k [] = v at *
          cases hp : pleB v x with
          | false =>
            rw [hp] at hs
            simp only [Bool.false_eq_true, if_false] at hs
            have hsub := sub_no (HXI.out wr hkr) hIk HFI.out hvf hxl hvl hp
            have HSUB := Lib.hid hsub
            have HKR := Lib.hid hkr
            have HS := Lib.hid hs
            have HIK := Lib.hid hIk
            have HVF := Lib.hid hvf
            have HVL := Lib.hid hvl
            have HVP := Lib.hid hvp
            have HV := Lib.hid hv
            have HP := Lib.hid hp
            have HDRP := Lib.hid hdrp
            clear hsub hkr hs hIk hvf hvl hvp hv hp hdrp
            go_wp2_with fail
            refine HSUB.out.mono ?_
            rintro e w2 ⟨rfl, hk2⟩
            go_wp2_with fail
            go_roundg (m - k)
            case measure => omega
            case rel => exact ⟨k + 1, by omega, by omega, by go_num, HS.out, HKR.out.trans hk2⟩
          | true =>
            rw [hp] at hs
            simp only [if_true] at hs
            have hsub := sub_ok (HXI.out wr hkr) hIk HFI.out hvf hxl hvl hp
            have hsf := sub_fin HFI.out hvf hxl hvl hp
            have hss := isum_sub hxl hvl
            have hrec := fun W lv2 xv2 (h1 : IsII W [] lv2 (L.drop k)) (h2 : IsI W [] xv2 (subV n x v)) (h3 : Keeps [] w W) => IH.out (L.drop k) (subV n x v) W lv2 xv2 h1 h2 (HSP.out.drop k) hsf subV_len (by have := HFS.out; omega) (by omega) (by rw [HDL.out]; omega) (fun y hy => Nat.lt_of_lt_of_le (HLX.out y hy) h3.size)
            have hslen : ∀ zs, splitF f (L.drop k) (subV n x v) = some zs → (zs.length : Int) ≤ 10 := fun zs hz => by
              have := splitF_len f _ _ zs (HSP.out.drop k) hsf subV_len hz
              have := HFS.out
              omega
            cases ho : splitF f (L.drop k) (subV n x v) with
            | none =>
              rw [ho] at hs hrec
              simp only [optP] at hs
              unfold SplPost at hrec
              have HSUB := Lib.hid hsub
              have HKR := Lib.hid hkr
              have HS := Lib.hid hs
              have HIK := Lib.hid hIk
              have HVF := Lib.hid hvf
              have HVL := Lib.hid hvl
              have HVP := Lib.hid hvp
              have HV := Lib.hid hv
              have HP := Lib.hid hp
              have HDRP := Lib.hid hdrp
              have HSF := Lib.hid hsf
              have HSS := Lib.hid hss
              have HREC := Lib.hid hrec
              have HO := Lib.hid ho
              have HSLEN := Lib.hid hslen
              clear hsub hkr hs hIk hvf hvl hvp hv hp hdrp hsf hss hrec ho hslen
              go_wp2_with fail
              refine HSUB.out.mono ?_
              rintro e w2 ⟨g, rfl, hI2, hk2⟩
              have hk3 := HKR.out.trans hk2
              have hrc := HREC.out w2 _ _ (Rok.keeps HDRP.out hk3) (hI2 [] (by simp)) hk3
              have HK3 := Lib.hid hk3
              have HRC := Lib.hid hrc
              have HI2 := Lib.hid hI2
              clear hk3 hrc hI2
              clear hk2
              go_wp2_with fail
              refine HRC.out.mono ?_
              rintro e w4 ⟨rfl, hk4⟩
              go_wp2_with fail
              go_roundg (m - k)
              case measure => omega
              case rel => exact ⟨k + 1, by omega, by omega, by go_num, HS.out, HK3.out.trans hk4⟩
            | some ys =>
              rw [ho] at hs hrec
              simp only [optP] at hs
              unfold SplPost at hrec
              subst hs
              have hyl := hslen ys ho
              have HSUB := Lib.hid hsub
              have HKR := Lib.hid hkr
              have HIK := Lib.hid hIk
              have HVF := Lib.hid hvf
              have HVL := Lib.hid hvl
              have HVP := Lib.hid hvp
              have HV := Lib.hid hv
              have HP := Lib.hid hp
              have HDRP := Lib.hid hdrp
              have HSF := Lib.hid hsf
              have HSS := Lib.hid hss
              have HREC := Lib.hid hrec
              have HO := Lib.hid ho
              have HSLEN := Lib.hid hslen
              clear hsub hkr hIk hvf hvl hvp hv hp hdrp hsf hss hrec ho hslen
              go_wp2_with fail
              refine HSUB.out.mono ?_
              rintro e w2 ⟨g, rfl, hI2, hk2⟩
              have hk3 := HKR.out.trans hk2
              have hrc := HREC.out w2 _ _ (Rok.keeps HDRP.out hk3) (hI2 [] (by simp)) hk3
              have hIk3 := HIK.out.new hk2
              have HK3 := Lib.hid hk3
              have HRC := Lib.hid hrc
              have HI2 := Lib.hid hI2
              have HIK3 := Lib.hid hIk3
              clear hk3 hrc hI2 hIk3
              clear hk2
              go_wp2_with fail
              refine HRC.out.mono ?_
              rintro e w4 ⟨V4, m4, c4, hm4, rfl, hO4, hk4⟩
              have hk5 := HK3.out.trans hk4
              have hcl := clone_is (HIK3.out.new hk4) (by have := HVF.out.few; omega)
              unfold CloPost at hcl
              rw [HVL.out] at hcl
              have hI4 : IsII w4 lx (.slice V4 m4 c4) ys := hO4.isL (fun y hy => Nat.lt_of_lt_of_le (HLX.out y hy) HK3.out.size)
              have HK5 := Lib.hid hk5
              have HCL := Lib.hid hcl
              have HO4 := Lib.hid hO4
              have HI4 := Lib.hid hI4
              have HM4 := Lib.hid hm4
              clear hk5 hcl hO4 hI4 hm4
              clear hk4
              go_wp2_with fail
              refine HCL.out.mono ?_
              rintro e w5 ⟨A5, c5, rfl, hO5, hk6⟩
              have hl5 : ∀ y ∈ lx, y < w4.heap.size := fun y hy => Nat.lt_of_lt_of_le (HLX.out y hy) HK5.out.size
              have hI5 : IsI w5 lx (.slice A5 n c5) v := CloPost.fresh5 hO5 hl5
              have hT5 := HI4.out.new hk6
              have hk7 := HK5.out.trans hk6
              have hp1 : IsII (w5.alloc (.cells #[.slice A5 n c5] 22)) lx (.slice (some ⟨w5.heap.size, 0, none⟩) 1 1) [v] := isL_new (xs := [v]) (fun y hy => Nat.lt_of_lt_of_le (HLX.out y hy) hk7.size) rfl fun i hi => by
                have e : i = 0 := by simpa using hi
                subst e; exact hI5
              have hp2 : IsII (w5.alloc (.cells #[.slice A5 n c5] 22)) lx (.slice V4 m4 c4) ys := hT5.new ((Keeps.refl [] w5).alloc _)
              have hcat := concat2_is (ty := 23) (l := lx) (fun y hy => Nat.lt_of_lt_of_le (HLX.out y hy) (hk7.alloc _).size) hp1 hp2 (by simp) (by omega)
              rw [World.size_alloc] at hcat
              have hk8 : Keeps [] w (w5.alloc (.cells #[.slice A5 n c5] 22)) := hk7.alloc _
              have hz8 := hk8.size
              have HCAT := Lib.hid hcat
              have HK8 := Lib.hid hk8
              have HP1 := Lib.hid hp1
              have HP2 := Lib.hid hp2
              have HI5 := Lib.hid hI5
              have HT5 := Lib.hid hT5
              have HK7 := Lib.hid hk7
              have HZ8 := Lib.hid hz8
              clear hcat hk8 hp1 hp2 hI5 hT5 hk7 hz8
              clear hO5 hk6
              go_wp2_with fail
              refine HCAT.out.mono ?_
              rintro e w6 ⟨A6, n6, c6, hn6, rfl, hO6, hk9⟩
              have hO7 := hO6.low HZ8.out
              have hk10 := HK8.out.trans hk9
              have HN6 := Lib.hid hn6
              have HO7 := Lib.hid hO7
              have HK10 := Lib.hid hk10
              clear hn6 hO7 hk10
              clear hO6 hk9
              go_wp2_with fail
              go_ret2
              exact ⟨A6, n6, c6, HN6.out, rfl, HO7.out, HK10.out⟩
        · obtain rfl : k = m := by omega
          have hres : none = res := by rw [← hs, HEND.out]
          subst hres
          have HS := Lib.hid hs
          have HKR := Lib.hid hkr
          clear hs hkr
          go_wp2_with fail
          go_ret2
          exact ⟨rfl, HKR.out⟩
end Go.Proofs.Ythpobeeccgmieaa
