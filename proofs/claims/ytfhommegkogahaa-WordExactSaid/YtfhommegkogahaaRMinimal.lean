/- The walk of the reference's minimal. -/
import Derived.Test.YtfhommegkogahaaRDropsW
import Derived.Test.YtfhommegkogahaaQuietK

namespace Go.Proofs.Ytfhommegkogahaa
set_option linter.unusedVariables false
open Go.RowKit

set_option maxHeartbeats 400000 in
theorem rcompare_is {w : World} {l : List Nat} {av bv : Value} {a b : List Int} (ha : IsI w l av a) (hb : IsI w l bv b) (hn : a.length ≤ 1000000) (hm : b.length ≤ 1000000) : Calls Try.prog 18 #[av, bv] w (Quiet (.int .i64 (cmpL a b)) w) := by
  have hc := cmp_is ha hb hn hm
  obtain ⟨A, c, rfl, _⟩ := ha.open
  obtain ⟨B, c', rfl, _⟩ := hb.open
  generalize cmpL a b = x at *
  have HC := Lib.hid hc
  clear hc
  unfold Quiet
  go_enter Try.func18, Try.ntmps18
  go_wp2_with fail
  refine HC.out.mono ?_
  rintro e w1 ⟨rfl, hq⟩
  have HQ := Lib.hid hq
  clear hq
  go_wp2_with fail
  go_ret
  exact ⟨rfl, HQ.out⟩

/-- The minimal words of a list. -/
def MinOf (L : List (List Int)) (x : List Int) : Prop := x ∈ L ∧ ∀ z ∈ L, z ≠ x → ¬ z.Sublist x
structure MinTo (L : List (List Int)) (i : Nat) (ys : List (List Int)) : Prop where
  asc : Asc ys
  mem : ∀ x, x ∈ ys ↔ x ∈ L.take i ∧ ∀ z ∈ L, z ≠ x → ¬ z.Sublist x
theorem take_mem {L : List (List Int)} {q : Nat} {x : List Int} (hq : q < L.length) : x ∈ L.take (q + 1) ↔ x ∈ L.take q ∨ x = L.getD q [] := by
  rw [List.take_succ_eq_append_getElem hq, List.mem_append, List.mem_singleton]
  simp [List.getD_eq_getElem?_getD, hq]
theorem MinTo.yes {L : List (List Int)} {i : Nat} {ys : List (List Int)} (h : MinTo L i ys) (hi : i < L.length) (hx : ∀ z ∈ L, z ≠ L.getD i [] → ¬ z.Sublist (L.getD i [])) : MinTo L (i + 1) (putL ys (L.getD i [])) := by
  refine ⟨putL_asc h.asc, fun x => ?_⟩
  rw [mem_putL, h.mem, take_mem hi]
  constructor
  · rintro (e | ⟨h1, h2⟩)
    · rw [e]; exact ⟨.inr rfl, hx⟩
    · exact ⟨.inl h1, h2⟩
  · rintro ⟨h1 | h1, h2⟩
    · exact .inr ⟨h1, h2⟩
    · exact .inl h1
theorem MinTo.no {L : List (List Int)} {i : Nat} {ys : List (List Int)} (h : MinTo L i ys) (hi : i < L.length) (hx : ¬ ∀ z ∈ L, z ≠ L.getD i [] → ¬ z.Sublist (L.getD i [])) : MinTo L (i + 1) ys := by
  refine ⟨h.asc, fun x => ?_⟩
  rw [h.mem, take_mem hi]
  constructor
  · exact fun h => ⟨.inl h.1, h.2⟩
  · rintro ⟨h1 | h1, h2⟩
    · exact ⟨h1, h2⟩
    · rw [h1] at h2; exact absurd h2 hx

set_option maxRecDepth 100000 in
set_option maxHeartbeats 4000000 in
theorem minimal_is {w : World} {l : List Nat} {lv : Value} {L : List (List Int)} (hl : ∀ y ∈ l, y < w.heap.size) (h : IsII w l lv L) (hn : L.length ≤ 1000) (hv : ∀ x ∈ L, WValid x) : Calls Try.prog 43 #[lv] w (AscPost l (MinOf L) w) := by
  unfold AscPost
  obtain ⟨A, c, U, rfl, _, _, hyc, hyr⟩ := h
  have hput := fun W (k : Keeps [] w W) (u v : Value) L x => put_is (w := W) (l := l) (lv := u) (vv := v) (L := L) (v := x) (fun y hy => Nat.lt_of_lt_of_le (hl y hy) k.size)
  generalize hnn : L.length = n at *
  have HYC := Lib.hid hyc
  have HYR := Lib.hid hyr
  have HL := Lib.hid hl
  have HNN := Lib.hid hnn
  have HV := Lib.hid hv
  have HPUT := Lib.hid hput
  clear hyc hyr hl hnn hv hput
  go_enter Try.func43, Try.ntmps43
  go_wp2_with fail
  go_loopg [3, 4] (n + 1) (fun gh sv iv wr => ∃ (i k2 : Nat) (V : Option Addr) (cv : Nat) (ys : List (List Int)), n + 1 ≤ i + gh ∧ i ≤ n ∧ k2 ≤ i ∧ iv = .int .i64 (i : Int) ∧ sv = .slice V k2 cv ∧ ys.length = k2 ∧ MinTo L i ys ∧ IsII wr l (.slice V k2 cv) ys ∧ Keeps [] w wr)
  case atStart => exact ⟨0, 0, none, 0, [], by omega, by omega, by omega, rfl, rfl, rfl, ⟨List.Pairwise.nil, fun x => by simp⟩, IsII.nil, Keeps.refl _ _⟩
  case round =>
    obtain ⟨i, k2, V, cv, ys, hgh, hi, hki, rfl, rfl, hlen, hmin, hO, hkr⟩ := hrel
    have HLEN := Lib.hid hlen
    have HMIN := Lib.hid hmin
    have HO := Lib.hid hO
    have HKR := Lib.hid hkr
    clear hlen hmin hO hkr
    by_cases hlt : i < n
    · have hxv := HV.out _ (getD_mem (d := []) (show i < L.length by rw [HNN.out]; exact hlt))
      have hix : i < L.length := by rw [HNN.out]; exact hlt
      have hyes := HMIN.out.yes hix
      have hno := HMIN.out.no hix
      obtain ⟨p, rfl, hp⟩ := (HYC.out.keeps (HKR.out.nil l)).at_ hlt
      have hrowx : IsI w l (U i) (L.getD i []) := HYR.out i hlt
      obtain ⟨Ax, cx, hUi, _⟩ := hrowx.open
      generalize hxe : L.getD i [] = x at *
      have hx12 := hxv.1
      generalize hxn : x.length = xn at *
      have HYES := Lib.hid hyes
      have HNO := Lib.hid hno
      have HROWX := Lib.hid hrowx
      have HUI := Lib.hid hUi
      have HXE := Lib.hid hxe
      have HXN := Lib.hid hxn
      have HXV := Lib.hid hxv
      have HIX := Lib.hid hix
      clear hyes hno hrowx hUi hxe hxn hxv hix
      clear hp
      go_wp2_with fail
      go_loopg [5, 6] (n + 1) (fun gh sv kv wr2 => ∃ (k : Nat) (s : Bool), n + 1 ≤ k + gh ∧ k ≤ n ∧ kv = .int .i64 (k : Int) ∧ sv = .bool s ∧ (s = true ↔ ∀ q, q < k → L.getD q [] ≠ x → ¬ (L.getD q []).Sublist x) ∧ Keeps [] wr wr2)
      case atStart => exact ⟨0, true, by omega, by omega, rfl, rfl, by simp, Keeps.refl _ _⟩
      case round =>
        obtain ⟨k, s, hgh2, hkn, rfl, rfl, hs, hkr2⟩ := hrel
        have hkw2 := HKR.out.trans hkr2
        have HS := Lib.hid hs
        have HKR2 := Lib.hid hkr2
        have HKW2 := Lib.hid hkw2
        clear hs hkr2 hkw2
        by_cases hlt2 : k < n
        · have hzv := HV.out _ (getD_mem (d := []) (show k < L.length by rw [HNN.out]; exact hlt2))
          have hrowz : IsI w l (U k) (L.getD k []) := HYR.out k hlt2
          obtain ⟨Az, cz, hUk, _⟩ := hrowz.open
          have hs1 : ∀ s', (s' = true ↔ s = true ∧ (L.getD k [] ≠ x → ¬ (L.getD k []).Sublist x)) → (s' = true ↔ ∀ q, q < k + 1 → L.getD q [] ≠ x → ¬ (L.getD q []).Sublist x) := fun s' h0 => by
            rw [h0, HS.out]
            constructor
            · rintro ⟨h1, h2⟩ q hq
              by_cases e : q = k
              · subst e; exact h2
              · exact h1 q (by omega)
            · exact fun h1 => ⟨fun q hq => h1 q (by omega), h1 k (by omega)⟩
          have hca : ∀ W, Keeps [] wr W → W.cell? (p.add k) = some (U k) := fun W k' => by
            obtain ⟨p1, e1, hp1⟩ := (HYC.out.keeps ((HKW2.out.trans k').nil l)).at_ hlt2
            injection e1 with e1
            subst e1
            exact hp1
          have hcb : ∀ W, Keeps [] wr W → W.cell? (p.add i) = some (U i) := fun W k' => by
            obtain ⟨p1, e1, hp1⟩ := (HYC.out.keeps ((HKW2.out.trans k').nil l)).at_ hlt
            injection e1 with e1
            subst e1
            exact hp1
          simp only [hUk] at hca
          simp only [HUI.out] at hcb
          have hcc := fun W (k' : Keeps [] wr W) => rcompare_is (w := W) (IsI.new hrowz (HKW2.out.trans k')) (IsI.new HROWX.out (HKW2.out.trans k')) (by have := hzv.1; omega) (by rw [HXN.out]; omega)
          have hcl := fun W (k' : Keeps [] wr W) => rleq_is (w := W) (IsI.new hrowz (HKW2.out.trans k')) (IsI.new HROWX.out (HKW2.out.trans k')) (by have := hzv.1; omega) (by rw [HXN.out]; omega)
          simp only [hUk, HUI.out, HXN.out] at hcc hcl
          by_cases hzx : L.getD k [] = x
          · have hcz : cmpL (L.getD k []) x = 0 := cmpL_zero.2 hzx
            have hsn := hs1 s ⟨fun h => ⟨h, fun h2 => absurd hzx h2⟩, fun h => h.1⟩
            generalize cmpL (L.getD k []) x = cv2 at *
            subst hcz
            generalize hze : L.getD k [] = z at *
            generalize hzn : z.length = zn at *
            have HZE := Lib.hid hze
            have HZN := Lib.hid hzn
            have HZV := Lib.hid hzv
            have HZX := Lib.hid hzx
            have HS1 := Lib.hid hs1
            have HSN := Lib.hid hsn
            have HCA := Lib.hid hca
            have HCB := Lib.hid hcb
            have HCC := Lib.hid hcc
            have HCL := Lib.hid hcl
            clear hze hzn hzv hzx hs1 hsn hca hcb hcc hcl
            clear hUk hrowz
            go_wp2_with fail
            refine wp_quietk (l0 := []) (by kernel_rfl) (by kernel_rfl) ?_
            repeat ((with_reducible refine wpQuiet_step (fun K hK => ?_)); go_simp; first
              | ((with_reducible refine hK _ ?_); clear hK K)
              | (apply Exists.intro; refine ⟨fun W hW => ?_, hK _ ?_⟩
                 · first
                     | with_reducible exact Eq.refl _
                     | ((have hq1 := HCA.out W hW; have hq2 := HCB.out W hW); (try go_simp); with_reducible first | done | exact Eq.refl _ | exact ⟨Eq.refl _, Eq.refl _⟩)
                     | ((first | (refine (HCC.out W hW).mono ?_; rintro e w10 ⟨rfl, hk⟩; exact ⟨Eq.refl _, hW.trans (quiet_keeps hk)⟩) | (refine (HCL.out W hW).mono ?_; rintro e w10 ⟨rfl, hk⟩; exact ⟨Eq.refl _, hW.trans hk⟩)))
                 clear hK K))
            with_reducible refine wpQuiet_nil ?_
            intro w9 hk9
            have hk9 := HKR2.out.trans hk9
            have HK9 := Lib.hid hk9
            clear hk9
            go_wp2_with fail
            go_roundg (n - k)
            case measure => omega
            case rel => exact ⟨k + 1, s, by omega, by omega, by go_num, rfl, HSN.out, HK9.out⟩
          · have hcz : (cmpL (L.getD k []) x != 0) = true := by rw [bne_iff_ne]; exact fun e => hzx (cmpL_zero.1 e)
            generalize cmpL (L.getD k []) x = cv2 at *
            have hqe : wleqB (L.getD k []) x = true ↔ (L.getD k []).Sublist x := by rw [wleqB_true]; exact ⟨fun h => h.2.2, fun h => ⟨hzv, HXV.out, h⟩⟩
            generalize hze : L.getD k [] = z at *
            generalize hzn : z.length = zn at *
            generalize wleqB z x = q at *
            have HZE := Lib.hid hze
            have HZN := Lib.hid hzn
            have HZV := Lib.hid hzv
            have HZX := Lib.hid hzx
            have HS1 := Lib.hid hs1
            have HCA := Lib.hid hca
            have HCB := Lib.hid hcb
            have HCC := Lib.hid hcc
            have HCL := Lib.hid hcl
            have HQE := Lib.hid hqe
            clear hze hzn hzv hzx hs1 hca hcb hcc hcl hqe
            clear hUk hrowz
            cases q with
            | true =>
              have hsn := HS1.out false (by simp; exact fun _ => ⟨HZX.out, HQE.out.1 rfl⟩)
              have HSN := Lib.hid hsn
              clear hsn
              go_wp2_with fail
              refine wp_quietk (l0 := []) (by kernel_rfl) (by kernel_rfl) ?_
              repeat ((with_reducible refine wpQuiet_step (fun K hK => ?_)); go_simp; first
                | ((with_reducible refine hK _ ?_); clear hK K)
                | (apply Exists.intro; refine ⟨fun W hW => ?_, hK _ ?_⟩
                   · first
                       | with_reducible exact Eq.refl _
                       | ((have hq1 := HCA.out W hW; have hq2 := HCB.out W hW); (try go_simp); with_reducible first | done | exact Eq.refl _ | exact ⟨Eq.refl _, Eq.refl _⟩)
                       | ((first | (refine (HCC.out W hW).mono ?_; rintro e w10 ⟨rfl, hk⟩; exact ⟨Eq.refl _, hW.trans (quiet_keeps hk)⟩) | (refine (HCL.out W hW).mono ?_; rintro e w10 ⟨rfl, hk⟩; exact ⟨Eq.refl _, hW.trans hk⟩)))
                   clear hK K))
              with_reducible refine wpQuiet_nil ?_
              intro w9 hk9
              have hk9 := HKR2.out.trans hk9
              have HK9 := Lib.hid hk9
              clear hk9
              go_wp2_with fail
              go_roundg (n - k)
              case measure => omega
              case rel => exact ⟨k + 1, false, by omega, by omega, by go_num, rfl, HSN.out, HK9.out⟩
            | false =>
              have hsn := HS1.out s (by
                have : ¬ z.Sublist x := fun h => by have := HQE.out.2 h; cases this
                simp [this])
              have HSN := Lib.hid hsn
              clear hsn
              go_wp2_with fail
              refine wp_quietk (l0 := []) (by kernel_rfl) (by kernel_rfl) ?_
              repeat ((with_reducible refine wpQuiet_step (fun K hK => ?_)); go_simp; first
                | ((with_reducible refine hK _ ?_); clear hK K)
                | (apply Exists.intro; refine ⟨fun W hW => ?_, hK _ ?_⟩
                   · first
                       | with_reducible exact Eq.refl _
                       | ((have hq1 := HCA.out W hW; have hq2 := HCB.out W hW); (try go_simp); with_reducible first | done | exact Eq.refl _ | exact ⟨Eq.refl _, Eq.refl _⟩)
                       | ((first | (refine (HCC.out W hW).mono ?_; rintro e w10 ⟨rfl, hk⟩; exact ⟨Eq.refl _, hW.trans (quiet_keeps hk)⟩) | (refine (HCL.out W hW).mono ?_; rintro e w10 ⟨rfl, hk⟩; exact ⟨Eq.refl _, hW.trans hk⟩)))
                   clear hK K))
              with_reducible refine wpQuiet_nil ?_
              intro w9 hk9
              have hk9 := HKR2.out.trans hk9
              have HK9 := Lib.hid hk9
              clear hk9
              go_wp2_with fail
              go_roundg (n - k)
              case measure => omega
              case rel => exact ⟨k + 1, s, by omega, by omega, by go_num, rfl, HSN.out, HK9.out⟩
        · obtain rfl : k = n := by omega
          have hsx : s = true ↔ ∀ z ∈ L, z ≠ x → ¬ z.Sublist x := by
            rw [HS.out]
            constructor
            · intro h1 z hz
              obtain ⟨q, hq, e⟩ := mem_getD (d := []) hz
              rw [← e]; exact h1 q (by rw [← HNN.out]; exact hq)
            · exact fun h1 q hq => h1 _ (getD_mem (by rw [HNN.out]; exact hq))
          cases s with
          | true =>
            obtain ⟨p1, e1, hp1⟩ := (HYC.out.keeps (HKW2.out.nil l)).at_ hlt
            injection e1 with e1
            subst e1
            have hO2 := IsII.new HO.out HKR2.out
            have hrow2 := IsI.new HROWX.out HKW2.out
            have hnew := HYES.out (hsx.1 rfl)
            have hcp := HPUT.out wr HKW2.out _ _ ys x hO2 hrow2 (by rw [HLEN.out]; omega) (fun y hy => by have := (HV.out y (List.mem_of_mem_take ((HMIN.out.mem y).1 hy).1)).1; omega) (by rw [HXN.out]; omega)
            have hle3 := putL_len (L := ys) (v := x)
            rw [HUI.out] at hcp
            rw [HUI.out] at hp1
            rw [HLEN.out] at hle3
            generalize hys2 : putL ys x = ys2 at *
            have HYS2 := Lib.hid hys2
            have HCP := Lib.hid hcp
            have HNEW := Lib.hid hnew
            clear hys2 hcp hnew
            clear hsx hO2 hrow2
            go_wp2_with fail
            refine HCP.out.mono ?_
            rintro e w4 ⟨A4, n4, c4, rfl, hI4, hk4⟩
            have hk4 := HKW2.out.trans hk4
            rw [HYS2.out] at hI4
            have hn4 := isII_len hI4
            have HI4 := Lib.hid hI4
            have HK4 := Lib.hid hk4
            have HN4 := Lib.hid hn4
            clear hI4 hk4 hn4
            go_wp2_with fail
            go_roundg (k - i)
            case measure => omega
            case rel => exact ⟨i + 1, n4, A4, c4, ys2, by omega, by omega, by rw [HN4.out]; omega, by go_num, rfl, HN4.out.symm, HNEW.out, HI4.out, HK4.out⟩
          | false =>
            have hnew := HNO.out (fun h => by have := hsx.2 h; cases this)
            have HNEW := Lib.hid hnew
            clear hnew
            clear hsx
            go_wp2_with fail
            go_roundg (k - i)
            case measure => omega
            case rel => exact ⟨i + 1, k2, V, cv, ys, by omega, by omega, by omega, by go_num, rfl, HLEN.out, HNEW.out, IsII.new HO.out HKR2.out, HKW2.out⟩
    · obtain rfl : i = n := by omega
      have hall : ∀ x, x ∈ ys ↔ MinOf L x := fun x => by
        rw [HMIN.out.mem x, show L.take i = L by rw [← HNN.out, List.take_length]]; exact Iff.rfl
      have HALL := Lib.hid hall
      clear hall
      go_wp2_with fail
      go_ret
      exact ⟨V, k2, cv, ys, HLEN.out.symm, rfl, HMIN.out.asc, HALL.out, HO.out, HKR.out⟩
end Go.Proofs.Ytfhommegkogahaa
