/- The walk of coverabilitylaw08.LimitMaximal. -/
import Derived.Test.YtnmkinaokjekjaaLSplits
import Derived.Test.YtnmkinaokjekjaaMaxS
import Derived.Test.YtnmkinaokjekjaaDeckV
import Derived.Test.YtnmkinaokjekjaaStep
import Derived.Deep.RegionHeld3

namespace Go.Proofs.Ytnmkinaokjekjaa
set_option linter.unusedVariables false
open Go.RowKit

/-- What Maximise returns of right vectors. -/
structure MaxOk (n : Nat) (S b : List (List Int)) : Prop where
  el : ∀ x ∈ S, x.length = n ∧ VVal x
  asc : Asc b
  mem : ∀ x, x ∈ b ↔ MaxOf covG S x
  few : b.length ≤ 256
def MaxRet (n : Nat) (S : List (List Int)) (bk : Nat) (w : World) (e : Ending) (w' : World) : Prop :=
  ∃ A q c b, q = (b : List (List Int)).length ∧ e = .returned (.tuple #[.slice A q c, .int .i64 0]) ∧ MaxOk n S b ∧ IsII w' [bk] (.slice A q c) b ∧ Keeps [] w w'
theorem max_ret {n bk : Nat} {S : List (List Int)} {w w' : World} {e : Ending} (h1 : 1 ≤ n) (h4 : n ≤ 6) (hS : ∀ x ∈ S, x.length = n ∧ VVal x) (hl : S.length ≤ 12) (h : MaxPost (n : Int) S [bk] w e w') : MaxRet n S bk w e w' := by
  obtain ⟨hk, ⟨h0, _⟩ | ⟨_, out, ha, hm, ho⟩⟩ := h
  · exact absurd (maxE_zero.2 ⟨⟨by omega, by omega⟩, fun x hx => ⟨by have := (hS x hx).1; omega, vvB_true.2 (hS x hx).2⟩⟩) h0
  · have hle := asc_len ha (L := S) fun z hz => ((hm z).1 hz).1
    rcases ho with ⟨h0, _⟩ | ⟨hf, A, m, c, hq, he, hI⟩
    · omega
    · exact ⟨A, m, c, out, hq, he, ⟨hS, ha, hm, hf⟩, hI, hk⟩
theorem MaxOk.src {n : Nat} {S b : List (List Int)} (h : MaxOk n S b) {x : List Int} (hx : x ∈ b) : x ∈ S := ((h.mem x).1 hx).1
theorem MaxOk.anti {n : Nat} {S b : List (List Int)} (h : MaxOk n S b) : ∀ x ∈ b, ∀ y ∈ b, covG y x = true → y = x := fun x hx y hy e => ((h.mem x).1 hx).2 y (h.src hy) e
theorem MaxOk.lim {n : Nat} {S b : List (List Int)} (h : MaxOk n S b) (h1 : 1 ≤ n) (h6 : n ≤ 6) : chkL (n : Int) b = 0 :=
  chkL_zero.2 ⟨by omega, by rw [Int.toNat_natCast]; exact ⟨h1, h6, h.few, fun x hx => h.el x (h.src hx), h.asc, h.anti⟩⟩
theorem one_lim {n : Nat} {x : List Int} (h : x.length = n ∧ VVal x) (h1 : 1 ≤ n) (h6 : n ≤ 6) : chkL (n : Int) [x] = 0 :=
  chkL_zero.2 ⟨by omega, by
    rw [Int.toNat_natCast]
    exact ⟨h1, h6, by simp, fun y hy => by rw [List.mem_singleton.1 hy]; exact h, List.pairwise_singleton _ _, fun y hy z hz _ => by rw [List.mem_singleton.1 hy, List.mem_singleton.1 hz]⟩⟩
theorem max_within {n : Nat} {S b : List (List Int)} (h : MaxOk n S b) (h1 : 1 ≤ n) (h6 : n ≤ 6) {v : List Int} (hv : v ∈ S) : subB (n : Int) [v] b = true := by
  unfold subB
  rw [decide_eq_true (ckE_zero.2 ⟨one_lim (h.el v hv) h1 h6, h.lim h1 h6⟩), Bool.true_and, List.all_cons, List.all_nil, Bool.and_true]
  unfold undB
  rw [List.any_eq_true]
  obtain ⟨x, hx, e⟩ := max_cover (ordG fun x hx => ⟨(h.el x hx).2, (h.el x hx).1⟩) hv
  exact ⟨x, (h.mem x).2 hx, e⟩
theorem nodup_rest {b : List (List Int)} (h : Asc b) {i : Nat} (hi : i < b.length) : b.getD i [] ∉ b.take i ++ b.drop (i + 1) := by
  intro hm
  rcases List.mem_append.1 hm with hm | hm
  · obtain ⟨j, hj, e⟩ := mem_getD (d := []) hm
    rw [List.length_take] at hj
    have e2 : (b.take i).getD j [] = b.getD j [] := by simp [List.getD_eq_getElem?_getD, List.getElem?_take, show j < i by omega]
    rw [e2] at e
    exact asc_ne h hi (show j < b.length by omega) (by omega) e
  · obtain ⟨j, hj, e⟩ := mem_getD (d := []) hm
    rw [List.length_drop] at hj
    have e2 : (b.drop (i + 1)).getD j [] = b.getD (i + 1 + j) [] := by simp [List.getD_eq_getElem?_getD, List.getElem?_drop]
    rw [e2] at e
    exact asc_ne h hi (show i + 1 + j < b.length by omega) (by omega) e
theorem max_rest {n : Nat} {S b : List (List Int)} (h : MaxOk n S b) {i : Nat} (hi : i < b.length) : subB (n : Int) [b.getD i []] (b.take i ++ b.drop (i + 1)) = false := by
  have hv := getD_mem (d := []) hi
  unfold subB
  rw [List.all_cons, List.all_nil, Bool.and_true]
  have : undB (b.take i ++ b.drop (i + 1)) (b.getD i []) = false := by
    unfold undB
    rw [List.any_eq_false]
    intro x hx e
    have hxb : x ∈ b := (List.mem_append.1 hx).elim (fun h => List.mem_of_mem_take h) (fun h => List.mem_of_mem_drop h)
    have := h.anti _ hv x hxb e
    exact nodup_rest h.asc hi (this ▸ hx)
  rw [this, Bool.and_false]
theorem lit_row {w : World} {l : List Nat} {u : Value} {x : List Int} (hl : ∀ y ∈ l, y < w.heap.size) (h : IsI w l u x) : IsII (w.alloc (.cells #[u] 22)) l (.slice (some ⟨w.heap.size, 0, none⟩) 1 1) [x] :=
  isL_new (R := IsI) (d := []) (us := #[u]) (xs := [x]) hl rfl (fun i hi => by
    obtain rfl : i = 0 := by simpa using hi
    exact h)
theorem vcok_val {n : Nat} {x : List Int} (hn : n ≤ 6) (h : x.length = n ∧ ∀ z ∈ x, VcOk true z) : x.length = n ∧ VVal x := ⟨h.1, by omega, fun z hz => by
  rcases h.2 z hz with h | h | h
  · exact .inl (by omega)
  · exact .inr h.2
  · exact .inl (by omega)⟩

set_option maxRecDepth 100000 in
set_option maxHeartbeats 8000000 in
theorem maximal_law (w : World) (len cap : Nat) (A0 : Option Addr) (l : Nat → Int) (hR : Rd w w.heap.size A0 len (fun i => .int .i64 (l i))) :
    Calls Try.prog 5 #[.slice A0 len cap] w fun e w' => e = .returned (.bool true) ∧ Below w.heap.size w w' := by
  have HR := Lib.hid hR
  clear hR
  by_cases hlen : len ≤ 400
  · have hd : decide ((len : Int) ≤ 400) = true := by simp; omega
    go_enter Try.func5, Try.ntmps5
    go_wp2_with fail
    refine (awake_any w).mono ?_
    rintro e w1 ⟨rfl, hb1⟩
    have hz1 := hb1.size
    go_wp2_with fail
    refine (few_any w1 A0 len cap).mono ?_
    rintro e w' ⟨rfl, rfl⟩
    rw [hd]
    go_wp2_with fail
    refine (new_any w1 w.heap.size A0 len cap l (HR.out.below hb1) hlen hz1).mono ?_
    rintro e w2 ⟨rfl, hD2, hb2⟩
    have hz2 := hb2.size
    have hbl2 := hD2.lt
    have hB2 := hb1.trans (hb2.mono hz1)
    have HD2 := Lib.hid hD2
    have HB2 := Lib.hid hB2
    clear hD2 hB2
    clear hb1 hb2
    generalize w1.heap.size = b at *
    go_wp2_with fail
    refine (next_any w2 b w.heap.size 5 HD2.out (by omega)).mono ?_
    rintro e w3 ⟨n0, rfl, _, hn0, hD3, hK3⟩
    have hn0 := hn0 (by omega)
    have hz3 := hK3.size
    haveI kb3 : KB [b] w3 w2 := ⟨hK3⟩
    have HD3 := Lib.hid hD3
    clear hD3
    clear hK3
    go_wp2_with fail
    obtain ⟨n, hn⟩ : ∃ n : Nat, n = n0 + 1 := ⟨_, rfl⟩
    rw [show (1 : Int) + (n0 : Int) = (n : Int) by omega]
    have hn1 : 1 ≤ n := by omega
    have hn4 : n ≤ 6 := by omega
    clear hn
    refine (vectors_any w3 b w.heap.size n true 6 HD3.out (by omega) (by omega)).mono ?_
    rintro e w4 ⟨A, m, c, S, hmS, rfl, hm5, hSe, hI, hD4, hK4⟩
    have hz4 := hK4.size
    haveI kb4 : KB [b] w4 w3 := ⟨hK4⟩
    have hSv : ∀ x ∈ S, x.length = n ∧ VVal x := fun x hx => vcok_val hn4 (hSe x hx)
    have hb4 : ∀ y ∈ [b], y < w4.heap.size := fun y hy => by rw [List.mem_singleton.1 hy]; omega
    have hSl : ∀ x ∈ S, x.length ≤ 1000000 := fun x hx => by rw [(hSe x hx).1]; omega
    have hmx := (maximise_is (n := (n : Int)) hb4 hI (by omega) hSl).mono fun e w' h => max_ret hn1 hn4 hSv (by omega) h
    have HMS := Lib.hid hmS
    have HI := Lib.hid hI
    have HMX := Lib.hid hmx
    have HB4 := Lib.hid hb4
    have HSL := Lib.hid hSl
    clear hmS hI hmx hb4 hSl
    clear hSe hK4 hSv hD4
    go_wp2_with fail
    refine HMX.out.mono ?_
    rintro e w5 ⟨A5, q, c5, B, hq, rfl, hok, hI5, hk5⟩
    have hz5 := hk5.size
    haveI kb5 : KB [b] w5 w4 := ⟨hk5.nil _⟩
    have hb5 : ∀ y ∈ [b], y < w5.heap.size := fun y hy => by rw [List.mem_singleton.1 hy]; omega
    have hBl : ∀ x ∈ B, x.length ≤ 1000000 := fun x hx => HSL.out x (hok.src hx)
    have hchk := check_is (n := (n : Int)) hb5 hI5 (by have := hok.few; omega) hBl
    rw [hok.lim hn1 hn4] at hchk
    have hS5 : IsII w5 [b] (.slice A m c) S := IsII.new HI.out hk5
    have HOK := Lib.hid hok
    have HQ := Lib.hid hq
    have HI5 := Lib.hid hI5
    have HB5 := Lib.hid hb5
    have HBL := Lib.hid hBl
    have HCHK := Lib.hid hchk
    have HS5 := Lib.hid hS5
    clear hq hI5 hb5 hBl hchk hS5
    clear hk5 hok
    go_wp2_with fail
    refine HCHK.out.mono ?_
    rintro e w6 ⟨rfl, hk6⟩
    have hz6 := hk6.size
    haveI kb6 : KB [b] w6 w5 := ⟨hk6.nil _⟩
    have hK6 : Keeps [b] w2 w6 := kf [b] w2 w6
    have hB6 : IsII w6 [b] (.slice A5 q c5) B := IsII.new HI5.out hk6
    have hS6 : IsII w6 [b] (.slice A m c) S := IsII.new HS5.out hk6
    have hbW : ∀ W, Keeps [] w6 W → b < W.heap.size := fun W k => Nat.lt_of_lt_of_le (show b < w6.heap.size by omega) k.size
    have hS' := hS6
    obtain ⟨A9, c9, V9, hv9, _, _, hc9, hr9⟩ := hS'
    injection hv9 with e1 e2 e3
    subst e1; subst e3
    rw [← HMS.out] at hc9 hr9
    have hB' := hB6
    obtain ⟨A8, c8, V8, hv8, _, _, hc8, hr8⟩ := hB'
    injection hv8 with f1 f2 f3
    subst f1; subst f3
    rw [← HQ.out] at hc8 hr8
    have hq256 : q ≤ 256 := by have := HOK.out.few; rw [← HQ.out] at this; exact this
    have HK6 := Lib.hid hK6
    have HB6 := Lib.hid hB6
    have HS6 := Lib.hid hS6
    have HC9 := Lib.hid hc9
    have HR9 := Lib.hid hr9
    have HC8 := Lib.hid hc8
    have HR8 := Lib.hid hr8
    have HBW := Lib.hid hbW
    clear hK6 hB6 hS6 hc9 hr9 hc8 hr8 hbW
    clear hk6 e2 f2
    go_wp2_with fail
    go_loopg [48] (m + 1) (fun gh jv wr => ∃ j : Nat, m + 1 ≤ j + gh ∧ j ≤ m ∧ jv = .int .i64 (j : Int) ∧ Keeps [] w6 wr)
    case atStart => exact ⟨0, by omega, by omega, rfl, Keeps.refl _ _⟩
    case round =>
      obtain ⟨j, hgh, hj, rfl, hk8⟩ := hrel
      by_cases hltj : j < m
      · have hx := (HR9.out j hltj).keeps (hk8.nil [b])
        obtain ⟨pa, rfl, hpa⟩ := (HC9.out.keeps (hk8.nil [b])).at_ hltj
        have hxm : S.getD j [] ∈ S := getD_mem (d := []) (show j < S.length by rw [← HMS.out]; exact hltj)
        obtain ⟨Bx, dx, ex, _⟩ := hx.open
        rw [ex] at hpa hx
        have hbr : ∀ y ∈ [b], y < wr.heap.size := fun y hy => by rw [List.mem_singleton.1 hy]; exact HBW.out wr hk8
        have hal : Keeps [] wr (wr.alloc (.cells #[.slice Bx (S.getD j []).length dx] 22)) := (Keeps.refl _ _).alloc _
        have hsub := subset_is (n := (n : Int)) (fun y hy => Nat.lt_of_lt_of_le (hbr y hy) hal.size) (lit_row hbr hx) (by simp) (fun x h => by rw [List.mem_singleton.1 h]; exact HSL.out _ hxm) (IsII.new (IsII.new HB6.out hk8) hal) (by rw [← HQ.out]; omega) HBL.out
        rw [max_within HOK.out hn1 hn4 hxm] at hsub
        have hKa := hk8.trans hal
        have HSUB := Lib.hid hsub
        have HKA := Lib.hid hKa
        clear hsub hKa
        clear hal hk8 hx ex
        go_wp2_with fail
        refine HSUB.out.mono ?_
        rintro e w9 ⟨rfl, hk9⟩
        have hk10 := HKA.out.trans hk9
        have HK10 := Lib.hid hk10
        clear hk10
        clear hk9
        go_wp2_with fail
        go_roundg (m - j)
        case measure => omega
        case rel => exact ⟨j + 1, by omega, by omega, by go_num, HK10.out⟩
      · obtain rfl : j = m := by omega
        have HK8 := Lib.hid hk8
        clear hk8
        go_wp2_with fail
        go_loopg [61] (q + 1) (fun gh iv wr => ∃ k : Nat, q + 1 ≤ k + gh ∧ k ≤ q ∧ iv = .int .i64 (k : Int) ∧ Keeps [] w6 wr)
        case atStart => exact ⟨0, by omega, by omega, rfl, HK8.out⟩
        case round =>
          obtain ⟨k, hgh2, hk, rfl, hk9⟩ := hrel
          by_cases hltk : k < q
          · have hkB : k < B.length := by rw [← HQ.out]; exact hltk
            have hx6 := HR8.out k hltk
            obtain ⟨pb, rfl, hpb⟩ := (HC8.out.keeps (hk9.nil [b])).at_ hltk
            have hxm : B.getD k [] ∈ B := getD_mem (d := []) hkB
            obtain ⟨Bx, dx, ex, _⟩ := hx6.open
            rw [ex] at hpb hx6
            have HX6 := Lib.hid hx6
            have HKB := Lib.hid hkB
            have HXM := Lib.hid hxm
            clear hx6 hkB hxm
            have HK9 := Lib.hid hk9
            clear ex hk9
            go_wp2_with fail
            clear hpb
            go_loopg [12, 68] (j + 1) (fun gh av jv wr => ∃ i : Nat, j + 1 ≤ i + gh ∧ i ≤ j ∧ jv = .int .i64 (i : Int) ∧ av = .bool ((S.take i).any fun c => decide (B.getD k [] = c)) ∧ Keeps [] w6 wr)
            case atStart => exact ⟨0, by omega, by omega, rfl, rfl, HK9.out⟩
            case round =>
              obtain ⟨i, hgh3, hi, rfl, rfl, hk10⟩ := hrel
              by_cases hlti : i < j
              · have hat := any_take (C := S) (f := fun c => decide (B.getD k [] = c)) (j := i) (by rw [← HMS.out]; exact hlti)
                have hy := (HR9.out i hlti).keeps (hk10.nil [b])
                obtain ⟨pa, rfl, hpa⟩ := (HC9.out.keeps (hk10.nil [b])).at_ hlti
                have hym : S.getD i [] ∈ S := getD_mem (d := []) (show i < S.length by rw [← HMS.out]; exact hlti)
                obtain ⟨By, dy, ey, _⟩ := hy.open
                rw [ey] at hpa hy
                have hsm := same_is (IsI.new HX6.out hk10) hy (HBL.out _ HXM.out) (HSL.out _ hym)
                generalize hg1 : (S.take i).any (fun c => decide (B.getD k [] = c)) = r1 at *
                generalize decide (B.getD k [] = S.getD i []) = r2 at *
                have HAT := Lib.hid hat
                have HK10 := Lib.hid hk10
                have HSM := Lib.hid hsm
                clear hsm
                clear hat hk10 hg1 hy ey hym
                cases r1 with
                | true =>
                  go_wp2_with fail
                  go_roundg (j - i)
                  case measure => omega
                  case rel => exact ⟨i + 1, by omega, by omega, by go_num, by rw [HAT.out]; rfl, HK10.out⟩
                | false =>
                  go_wp2_with fail
                  refine HSM.out.mono ?_
                  rintro e w9 ⟨rfl, hk11⟩
                  have hk12 := HK10.out.trans (quiet_keeps hk11)
                  have HK12 := Lib.hid hk12
                  clear hk12
                  clear hk11
                  go_wp2_with fail
                  go_roundg (j - i)
                  case measure => omega
                  case rel => exact ⟨i + 1, by omega, by omega, by go_num, by rw [HAT.out]; rfl, HK12.out⟩
              · obtain rfl : i = j := by omega
                have htk : S.take i = S := List.take_of_length_le (by rw [← HMS.out]; exact Nat.le_refl _)
                have hany : (S.any fun c => decide (B.getD k [] = c)) = true := by rw [List.any_eq_true]; exact ⟨_, HOK.out.src HXM.out, by simp⟩
                rw [htk, hany]
                have hB10 : IsII wr [b] (.slice (some pb) q c5) B := IsII.new HB6.out hk10
                obtain ⟨A1, hs1, hT⟩ := slice_to sl_rowsi hB10 k (by omega)
                obtain ⟨A2, hs2, hDr⟩ := slice_from sl_rowsi hB10 (k + 1) (by omega)
                have hs2 : ∀ (W : World), (Instr.slice 28 (.slice (some pb) q c5) (some (.int .i64 ((k : Int) + 1))) none none).run Try.prog W = .ok (.slice A2 (q - (k + 1)) (c5 - (k + 1))) W := fun W => hs2 W
                have htl : (B.take k).length = k := by rw [List.length_take, ← HQ.out]; omega
                have hdl : (B.drop (k + 1)).length = q - (k + 1) := by rw [List.length_drop, ← HQ.out]
                have hw1 : IntKind.i64.wrap ((k : Int) + 1) = (k : Int) + 1 := IntWalk.i64_in _ (by omega)
                have hbr : ∀ y ∈ [b], y < wr.heap.size := fun y hy => by rw [List.mem_singleton.1 hy]; exact HBW.out wr hk10
                have HK10 := Lib.hid hk10
                have HT := Lib.hid hT
                have HDR := Lib.hid hDr
                have HTL := Lib.hid htl
                have HDL := Lib.hid hdl
                have HBR := Lib.hid hbr
                clear hT hDr htl hdl hbr
                clear hB10 htk hany hk10
                go_wp2_with fail
                go_region_law (first
                  | (have _t := hown1; refine step_join sl_rowsi rfl (.tmp 82) (.tmp 86) rfl (v := .slice V1 k k1) (u := .slice A2 (q - (k + 1)) (c5 - (k + 1))) (by first | (simp [Act.eval]; done) | (simp only [Act.eval, Act.put]; simp; done) | simp [Act.eval, Act.put]) (by first | (simp [Act.eval]; done) | (simp only [Act.eval, Act.put]; simp; done) | simp [Act.eval, Act.put]) hown1 (hown1.putw (R := IsL IsI []) HDR.out hk1 (Nat.le_refl _)) (m := q - 1) (by rw [HTL.out, HDL.out]; omega) (by omega) hz1 (w0 := wr) (l0 := []) (Nat.le_refl _) hk1 ?_; intro V2 k2 wz2 hown2 hg2 hk2)
                  | (refine step_join sl_rowsi rfl (.const (.slice none 0 0)) (.tmp 81) rfl (w := wr.drew) (l := [b]) (base := wr.heap.size) (v := .slice none 0 0) (u := .slice A1 k c5) (by first | (simp [Act.eval]; done) | (simp only [Act.eval, Act.put]; simp; done) | simp [Act.eval, Act.put]) (by first | (simp [Act.eval]; done) | (simp only [Act.eval, Act.put]; simp; done) | simp [Act.eval, Act.put]) OwL.nil (show IsL IsI [] wr.drew ([] ++ [b]) _ _ from Rok.keeps HT.out (((Keeps.refl [] wr).drew).nil _)) (m := k) (by rw [HTL.out]; simp) (by omega) (Nat.le_refl _) (w0 := wr) (l0 := []) (Nat.le_refl _) ((Keeps.refl [] wr).drew) ?_; intro V1 k1 wz1 hown1 hg1 hk1; rw [List.nil_append] at hown1; have hz1 := hk1.size))
                all_goals
                  have hrest : IsII wz2 [b] (.slice V2 (q - 1) k2) (B.take k ++ B.drop (k + 1)) := hown2.isL HBR.out
                  have hkz := HK10.out.trans hk2
                  have hx2 : IsI wz2 [b] (.slice Bx (B.getD k []).length dx) (B.getD k []) := IsI.new HX6.out hkz
                  have hbz : ∀ y ∈ [b], y < wz2.heap.size := fun y hy => Nat.lt_of_lt_of_le (HBR.out y hy) hk2.size
                  have hal : Keeps [] wz2 (wz2.alloc (.cells #[.slice Bx (B.getD k []).length dx] 22)) := (Keeps.refl _ _).alloc _
                  have hsub := subset_is (n := (n : Int)) (fun y hy => Nat.lt_of_lt_of_le (hbz y hy) hal.size) (lit_row hbz hx2) (by simp) (fun x h => by rw [List.mem_singleton.1 h]; exact HBL.out _ HXM.out) (IsII.new hrest hal) (by rw [List.length_append, HTL.out, HDL.out]; omega) (fun x hx => HBL.out x ((List.mem_append.1 hx).elim (fun h => List.mem_of_mem_take h) (fun h => List.mem_of_mem_drop h)))
                  rw [max_rest HOK.out HKB.out] at hsub
                  have hKa := hkz.trans hal
                  have HSUB := Lib.hid hsub
                  have HKA := Lib.hid hKa
                  clear hsub hKa
                  clear hal hkz hx2 hbz hrest hown2 hg2 hk2 hs1 hs2
                  go_wp2_with fail
                  refine HSUB.out.mono ?_
                  rintro e w9 ⟨rfl, hk11⟩
                  have hk12 := HKA.out.trans hk11
                  have HK12 := Lib.hid hk12
                  clear hk12
                  clear hk11
                  go_wp2_with fail
                  go_roundg (q - k)
                  case measure => omega
                  case rel => exact ⟨k + 1, by omega, by omega, by go_num, HK12.out⟩
          · obtain rfl : k = q := by omega
            have hfin := HB2.out.trans ((HK6.out.trans (hk9.nil [b])).below (by simp; omega) (by omega))
            have HFIN := Lib.hid hfin
            clear hfin
            clear hk9
            go_wp2_with fail
            go_ret
            exact ⟨rfl, HFIN.out⟩
  · have hd : decide ((len : Int) ≤ 400) = false := by simp; omega
    go_enter Try.func5, Try.ntmps5
    go_wp2_with fail
    refine (awake_any w).mono ?_
    rintro e w1 ⟨rfl, hb1⟩
    go_wp2_with fail
    refine (few_any w1 A0 len cap).mono ?_
    rintro e w' ⟨rfl, rfl⟩
    rw [hd]
    go_wp2_with fail
    refine (awake_any w1).mono ?_
    rintro e w2 ⟨rfl, hb2⟩
    go_wp2_with fail
    go_ret
    exact ⟨rfl, hb1.trans (hb2.mono hb1.size)⟩
end Go.Proofs.Ytnmkinaokjekjaa
