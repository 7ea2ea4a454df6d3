/- The walks of limit's dimension, greatest, least, limited, each, corners, within. -/
import Derived.Test.YtnmkinaokjekjaaGreatRed
import Derived.Laws.EntriesVeiled
namespace Go.Proofs.YtnmkinaokjekjaaGreat
set_option linter.unusedVariables false
open Go.RowKit

def frst (f : Nat → Int) : Nat → Int
  | 0 => 0
  | n + 1 => if frst f n = 0 then f n else frst f n
theorem frst_zero {f : Nat → Int} : ∀ {n : Nat}, frst f n = 0 ↔ ∀ i, i < n → f i = 0
  | 0 => ⟨fun _ i h => by omega, fun _ => rfl⟩
  | n + 1 => by
    have ih := frst_zero (f := f) (n := n)
    unfold frst
    constructor
    · intro h i hi
      by_cases e : frst f n = 0
      · rw [if_pos e] at h
        by_cases e' : i = n
        · rw [e']; exact h
        · exact ih.1 e i (by omega)
      · rw [if_neg e] at h; exact absurd h e
    · intro h
      rw [if_pos (ih.2 fun i hi => h i (by omega))]
      exact h n (by omega)
theorem frst_hit {f : Nat → Int} {k : Nat} (h0 : ∀ i, i < k → f i = 0) (h1 : f k ≠ 0) : ∀ {n : Nat}, k < n → frst f n = f k
  | 0, h => by omega
  | n + 1, h => by
    unfold frst
    by_cases e : k = n
    · subst e; rw [if_pos (frst_zero.2 h0)]
    · rw [frst_hit h0 h1 (n := n) (by omega), if_neg h1]

theorem ret_ii {a b : Int} (h : b = a) : Ending.returned (.int .i64 a) = .returned (.int .i64 b) := by rw [h]
def dimB (n m : Int) : Bool := decide (1 ≤ n ∧ n ≤ m)
theorem dimB_true {n m : Int} : dimB n m = true ↔ 1 ≤ n ∧ n ≤ m := by simp [dimB]
theorem dimB_false {n m : Int} : dimB n m = false ↔ ¬ (1 ≤ n ∧ n ≤ m) := by simp [dimB]
set_option maxHeartbeats 400000 in
theorem dim_any (n m : Int) (w : World) : Calls Tryz.prog 33 #[.int .i64 n, .int .i64 m] w fun e w' => e = .returned (.bool (dimB n m)) ∧ w = w' := by
  by_cases h0 : 1 ≤ n
  · by_cases h1 : n ≤ m
    · have hd : Hid (dimB n m = true) := dimB_true.2 ⟨h0, h1⟩
      go_enter Tryz.func33, Tryz.ntmps33
      go_wp2_with fail
      go_ret
      exact ⟨ret_b hd.out, rfl⟩
    · have hd : Hid (dimB n m = false) := dimB_false.2 (by omega)
      have ht : decide (n ≤ m) = false := decide_eq_false h1
      go_enter Tryz.func33, Tryz.ntmps33
      go_wp2_with fail
      go_ret
      exact ⟨ret_b hd.out, rfl⟩
  · have hd : Hid (dimB n m = false) := dimB_false.2 (by omega)
    have ht : decide (1 ≤ n) = false := decide_eq_false h0
    go_enter Tryz.func33, Tryz.ntmps33
    go_wp2_with fail
    go_ret
    exact ⟨ret_b hd.out, rfl⟩

def sideV (r c : Nat) : Value := .agg #[.func (.func r) #[] #[], .func (.func c) #[] #[]]
set_option maxHeartbeats 400000 in
theorem greatest_is (w : World) : Calls Tryz.prog 34 #[] w fun e w' => e = .returned (.agg #[.func (.func 66) #[] #[], .func (.func 67) #[] #[]]) ∧ Keeps [] w w' := by
  go_enter Tryz.func34, Tryz.ntmps34
  go_wp2_with fail
  have h0 := World.cell?_alloc_new w #[.func (.func 66) #[] #[], .func (.func 67) #[] #[]] 55 0
  have h1 := World.cell?_alloc_new w #[.func (.func 66) #[] #[], .func (.func 67) #[] #[]] 55 1
  refine bodyPost_ret (v := .agg #[.func (.func 66) #[] #[], .func (.func 67) #[] #[]]) (by simp [results, Tryz.results34, go_sem, h0, h1]) rfl ⟨rfl, (Keeps.refl _ _).alloc _⟩
set_option maxHeartbeats 400000 in
theorem least_is (w : World) : Calls Tryz.prog 54 #[] w fun e w' => e = .returned (.agg #[.func (.func 46) #[] #[], .func (.func 68) #[] #[]]) ∧ Keeps [] w w' := by
  go_enter Tryz.func54, Tryz.ntmps54
  go_wp2_with fail
  have h0 := World.cell?_alloc_new w #[.func (.func 46) #[] #[], .func (.func 68) #[] #[]] 55 0
  have h1 := World.cell?_alloc_new w #[.func (.func 46) #[] #[], .func (.func 68) #[] #[]] 55 1
  refine bodyPost_ret (v := .agg #[.func (.func 46) #[] #[], .func (.func 68) #[] #[]]) (by simp [results, Tryz.results54, go_sem, h0, h1]) rfl ⟨rfl, (Keeps.refl _ _).alloc _⟩

def LtdPost (A : Option Addr) (n c : Nat) (w : World) (e : Ending) (w' : World) : Prop := e = .returned (if 256 < n then .tuple #[.slice none 0 0, .int .i64 1] else .tuple #[.slice A n c, .int .i64 0]) ∧ w = w'
set_option maxHeartbeats 400000 in
theorem limited_any (A : Option Addr) (n c : Nat) (w : World) : Calls Tryz.prog 48 #[.slice A n c] w (LtdPost A n c w) := by
  unfold LtdPost
  by_cases h : 256 < n
  · have d1 : decide ((256 : Int) < (n : Int)) = true := decide_eq_true (by omega)
    have d2 : decide (256 < n) = true := decide_eq_true h
    rw [if_pos h]
    go_enter Tryz.func48, Tryz.ntmps48
    go_wp2_with fail
    go_ret2
    exact ⟨rfl, rfl⟩
  · have d1 : decide ((256 : Int) < (n : Int)) = false := decide_eq_false (by omega)
    have d2 : decide (256 < n) = false := decide_eq_false h
    rw [if_neg h]
    go_enter Tryz.func48, Tryz.ntmps48
    go_wp2_with fail
    go_ret2
    exact ⟨rfl, rfl⟩

/-- Function gr tells of a vector what rb says. -/
def RightF (gr : Nat) (rb : List Int → Bool) : Prop := ∀ (W : World) (l : List Nat) (u : Value) (x : List Int), x.length ≤ 1000000 → IsI W l u x → Calls Tryz.prog gr #[u] W (RetB (rb x) W)
theorem rightF_V : RightF 66 vvB := fun W l u x hx hu => valid_is hu hx
theorem rightF_F : RightF 46 vfB := fun W l u x hx hu => finite_is hu hx

def elE (n : Int) (rb : List Int → Bool) (x : List Int) : Int := if (x.length : Int) ≠ n then 3 else if rb x = true then 0 else 2
def eachL (n : Int) (rb : List Int → Bool) (L : List (List Int)) : Int := frst (fun i => elE n rb (L.getD i [])) L.length
theorem elE_zero {n : Int} {rb : List Int → Bool} {x : List Int} : elE n rb x = 0 ↔ (x.length : Int) = n ∧ rb x = true := by
  unfold elE
  by_cases h : (x.length : Int) ≠ n
  · rw [if_pos h]; exact ⟨fun h => by omega, fun h' => absurd h'.1 h⟩
  · rw [if_neg h]
    by_cases h2 : rb x = true
    · rw [if_pos h2]; exact ⟨fun _ => ⟨Decidable.not_not.1 h, h2⟩, fun _ => rfl⟩
    · rw [if_neg h2]; exact ⟨fun h => by omega, fun h' => absurd h'.2 h2⟩
theorem eachL_zero {n : Int} {rb : List Int → Bool} {L : List (List Int)} : eachL n rb L = 0 ↔ ∀ x ∈ L, (x.length : Int) = n ∧ rb x = true := by
  unfold eachL
  rw [frst_zero]
  constructor
  · intro h x hx
    obtain ⟨i, hi, e⟩ := mem_getD (d := []) hx
    have := h i hi
    rw [e] at this
    exact elE_zero.1 this
  · intro h i hi
    exact elE_zero.2 (h _ (getD_mem hi))

def RetE (z : Int) (w : World) (e : Ending) (w' : World) : Prop := e = .returned (.int .i64 z) ∧ Keeps [] w w'
set_option maxHeartbeats 1000000 in
theorem each_is {w : World} {l : List Nat} {lv : Value} {L : List (List Int)} {gr gc : Nat} {rb : List Int → Bool} {n : Int} (hr : RightF gr rb) (egr : ∀ args w, (callFunc gr args).run Tryz.prog w = .ok (.enter gr args) w) (h : IsII w l lv L) (hn : L.length ≤ 1000000000) (hL : ∀ x ∈ L, x.length ≤ 1000000) :
    Calls Tryz.prog 35 #[.agg #[.func (.func gr) #[] #[], .func (.func gc) #[] #[]], .int .i64 n, lv] w (RetE (eachL n rb L) w) := by
  unfold RetE
  obtain ⟨A0, c0, V, rfl, _, _, hcell, hval⟩ := h
  have hal : Keeps [] w (w.alloc (.cells #[.func (.func gr) #[] #[], .func (.func gc) #[] #[]] 55)) := (Keeps.refl _ _).alloc _
  have hsb := World.cell?_alloc_new w #[.func (.func gr) #[] #[], .func (.func gc) #[] #[]] 55 0
  have heq : eachL n rb L = frst (fun i => elE n rb (L.getD i [])) L.length := rfl
  generalize hLn : L.length = m at *
  have HCELL := Lib.hid hcell
  have HVAL := Lib.hid hval
  have HAL := Lib.hid hal
  have HR := Lib.hid hr
  have HL := Lib.hid hL
  have HLN := Lib.hid hLn
  have HEQ := Lib.hid heq
  clear hcell hval hal hr hL hLn heq
  have HSB := Lib.hid hsb
  clear hsb
  go_enter Tryz.func35, Tryz.ntmps35
  go_wp2_with fail
  generalize w.alloc (.cells #[.func (.func gr) #[] #[], .func (.func gc) #[] #[]] 55) = w0 at *
  go_loopg [11] (m + 1) (fun gh kv wr => ∃ (k : Nat), m + 1 ≤ k + gh ∧ k ≤ m ∧ kv = .int .i64 (k : Int) ∧ (∀ i, i < k → elE n rb (L.getD i []) = 0) ∧ Keeps [] w0 wr)
  case atStart => exact ⟨0, by omega, by omega, rfl, fun i hi => by omega, Keeps.refl _ _⟩
  case round =>
    obtain ⟨k, hgh, hk, rfl, hall, hkr⟩ := hrel
    have HALL := Lib.hid hall
    clear hall
    by_cases hlt : k < m
    · obtain ⟨a, rfl, ha⟩ := (HCELL.out.keeps ((HAL.out.trans hkr).nil l)).at_ hlt
      have hvI := (HVAL.out k hlt).keeps ((HAL.out.trans hkr).nil l)
      have hsb := hkr.read HSB.out (by simp)
      have hxl := HL.out _ (getD_mem (d := []) (show k < L.length by rw [HLN.out]; exact hlt))
      have hat : ∀ z, elE n rb (L.getD k []) = z → z ≠ 0 → eachL n rb L = z := fun z h hz => by rw [HEQ.out, frst_hit HALL.out (by rw [h]; exact hz) hlt, h]
      have hat0 : elE n rb (L.getD k []) = 0 → ∀ i, i < k + 1 → elE n rb (L.getD i []) = 0 := fun h i hi => by
        by_cases e : i = k
        · rw [e]; exact h
        · exact HALL.out i (by omega)
      generalize L.getD k [] = x at *
      obtain ⟨B, cb, hVk, _⟩ := hvI.open
      rw [hVk] at ha hvI
      have hcall := HR.out wr l _ x hxl hvI
      by_cases hlen : (x.length : Int) = n
      · have ht : ((x.length : Int) != n) = false := by rw [hlen]; simp
        generalize hxn : x.length = xn at *
        cases hq : rb x with
        | true =>
          rw [hq] at hcall
          have h0 := hat0 (elE_zero.2 ⟨by rw [hxn]; exact hlen, hq⟩)
          have HCALL := Lib.hid hcall
          have HKR := Lib.hid hkr
          have H0 := Lib.hid h0
          clear hcall hkr h0
          clear hat hat0 hq hVk hvI hxn hlen
          go_wp2_with (go_at_fn gr; refine HCALL.out.mono ?_; rintro e w2 ⟨rfl, hk2⟩)
          have hK := HKR.out.trans hk2
          have HK := Lib.hid hK
          clear hK
          go_roundg (m - k)
          case measure => omega
          case rel => exact ⟨k + 1, by omega, by omega, by go_num, H0.out, HK.out⟩
        | false =>
          rw [hq] at hcall
          have h0 := hat 2 (by unfold elE; rw [if_neg (by rw [hxn]; simpa using hlen), if_neg (by rw [hq]; simp)]) (by omega)
          have hK0 := HAL.out.trans hkr
          have HCALL := Lib.hid hcall
          have H0 := Lib.hid h0
          have HK0 := Lib.hid hK0
          clear hcall h0 hK0
          clear hat hat0 hq hVk hvI hxn hlen hkr
          go_wp2_with (go_at_fn gr; refine HCALL.out.mono ?_; rintro e w2 ⟨rfl, hk2⟩)
          have hK := HK0.out.trans hk2
          have HK := Lib.hid hK
          clear hK
          go_ret
          exact ⟨ret_ii H0.out, HK.out⟩
      · have ht : ((x.length : Int) != n) = true := by simpa using hlen
        have h0 := hat 3 (by unfold elE; rw [if_pos hlen]) (by omega)
        have hK := HAL.out.trans hkr
        have H0 := Lib.hid h0
        have HK := Lib.hid hK
        clear h0 hK
        clear hat hat0 hVk hvI hlen hkr hcall
        go_wp2_with fail
        go_ret
        exact ⟨ret_ii H0.out, HK.out⟩
    · obtain rfl : k = m := by omega
      have h0 : eachL n rb L = 0 := by rw [HEQ.out]; exact frst_zero.2 HALL.out
      have hK := HAL.out.trans hkr
      have H0 := Lib.hid h0
      have HK := Lib.hid hK
      clear h0 hK
      clear hkr
      go_wp2_with fail
      go_ret
      exact ⟨ret_ii H0.out, HK.out⟩

def cornE (n : Int) (rb : List Int → Bool) (L : List (List Int)) : Int := if dimB n 4 = false then 2 else if 12 < L.length then 1 else eachL n rb L
set_option maxHeartbeats 1000000 in
theorem corners_is {w : World} {l : List Nat} {lv : Value} {L : List (List Int)} {gr gc : Nat} {rb : List Int → Bool} {n : Int} (hr : RightF gr rb) (egr : ∀ args w, (callFunc gr args).run Tryz.prog w = .ok (.enter gr args) w) (h : IsII w l lv L) (hn : L.length ≤ 1000000000) (hL : ∀ x ∈ L, x.length ≤ 1000000) :
    Calls Tryz.prog 53 #[.int .i64 n, lv, .agg #[.func (.func gr) #[] #[], .func (.func gc) #[] #[]]] w (RetE (cornE n rb L) w) := by
  have hcall := fun W (k : Keeps [] w W) => each_is (n := n) (gc := gc) hr egr (h.new k) hn hL
  unfold RetE
  obtain ⟨A0, c0, V, rfl, _, _, hcell, hval⟩ := h
  have hal : Keeps [] w (w.alloc (.cells #[.func (.func gr) #[] #[], .func (.func gc) #[] #[]] 55)) := (Keeps.refl _ _).alloc _
  have hs0 := World.cell?_alloc_new w #[.func (.func gr) #[] #[], .func (.func gc) #[] #[]] 55 0
  have hs1 := World.cell?_alloc_new w #[.func (.func gr) #[] #[], .func (.func gc) #[] #[]] 55 1
  have hd := dim_any n 4
  have heq : cornE n rb L = if dimB n 4 = false then 2 else if 12 < L.length then 1 else eachL n rb L := rfl
  cases hq : dimB n 4 with
  | false =>
    rw [hq] at hd
    rw [hq, if_pos rfl] at heq
    have HCELL := Lib.hid hcell
    have HVAL := Lib.hid hval
    have HR := Lib.hid hr
    have HL := Lib.hid hL
    have HD := Lib.hid hd
    have HCALL := Lib.hid hcall
    have HEQ := Lib.hid heq
    have HAL := Lib.hid hal
    clear hcell hval hr hL hd hcall heq hal
    clear hq hs0 hs1
    go_enter Tryz.func53, Tryz.ntmps53
    go_wp2_with fail
    refine (HD.out _).mono ?_
    rintro e w' ⟨rfl, rfl⟩
    go_wp2_with fail
    go_ret
    exact ⟨ret_ii HEQ.out, HAL.out⟩
  | true =>
    rw [hq] at hd
    rw [hq, if_neg (by simp)] at heq
    by_cases h12 : 12 < L.length
    · have d1 : decide ((12 : Int) < (L.length : Int)) = true := decide_eq_true (by omega)
      have d2 : decide (12 < L.length) = true := decide_eq_true h12
      rw [if_pos h12] at heq
      have HCELL := Lib.hid hcell
      have HVAL := Lib.hid hval
      have HR := Lib.hid hr
      have HL := Lib.hid hL
      have HD := Lib.hid hd
      have HCALL := Lib.hid hcall
      have HEQ := Lib.hid heq
      have HAL := Lib.hid hal
      clear hcell hval hr hL hd hcall heq hal
      clear hq hs0 hs1
      go_enter Tryz.func53, Tryz.ntmps53
      go_wp2_with fail
      refine (HD.out _).mono ?_
      rintro e w' ⟨rfl, rfl⟩
      go_wp2_with fail
      go_ret
      exact ⟨ret_ii HEQ.out, HAL.out⟩
    · have d1 : decide ((12 : Int) < (L.length : Int)) = false := decide_eq_false (by omega)
      have d2 : decide (12 < L.length) = false := decide_eq_false h12
      rw [if_neg h12] at heq
      have HCELL := Lib.hid hcell
      have HVAL := Lib.hid hval
      have HR := Lib.hid hr
      have HL := Lib.hid hL
      have HD := Lib.hid hd
      have HCALL := Lib.hid hcall
      have HEQ := Lib.hid heq
      have HAL := Lib.hid hal
      clear hcell hval hr hL hd hcall heq hal
      clear hq
      go_enter Tryz.func53, Tryz.ntmps53
      go_wp2_with fail
      refine (HD.out _).mono ?_
      rintro e w' ⟨rfl, rfl⟩
      go_wp2_with fail
      refine (HCALL.out _ HAL.out).mono ?_
      rintro e w2 ⟨rfl, hk⟩
      have hK := HAL.out.trans hk
      have HK := Lib.hid hK
      clear hK
      clear hk
      go_wp2_with fail
      go_ret
      exact ⟨ret_ii HEQ.out, HK.out⟩

def undB (L : List (List Int)) (v : List Int) : Bool := L.any fun x => vleB v x
set_option maxHeartbeats 400000 in
theorem within1_is {w : World} {l : List Nat} {uv vv : Value} {x v : List Int} {vc : Nat} (h2 : w.cell? ⟨vc, 0, none⟩ = some vv) (hu : IsI w l uv x) (hv : IsI w l vv v) (hn : x.length ≤ 1000000) (hm : v.length ≤ 1000000) :
    Calls Tryz.prog 79 #[uv, .pointer (some ⟨vc, 0, none⟩)] w (RetB (vleB v x) w) := by
  unfold RetB
  have hcall := leq_is hv hu hm hn
  obtain ⟨A, c, rfl, _⟩ := hu.open
  obtain ⟨B, c', rfl, _⟩ := hv.open
  generalize vleB v x = r at *
  have HCALL := Lib.hid hcall
  have HU := Lib.hid hu
  have HV := Lib.hid hv
  clear hcall hu hv
  go_enter Tryz.func79, Tryz.ntmps79
  go_wp2_with fail
  refine HCALL.out.mono ?_
  rintro e w1 ⟨rfl, hk⟩
  have HK := Lib.hid hk
  clear hk
  go_wp2_with fail
  go_ret
  exact ⟨rfl, HK.out⟩
set_option maxHeartbeats 400000 in
theorem within_is {w : World} {l : List Nat} {lv vv : Value} {L : List (List Int)} {v : List Int} (h : IsII w l lv L) (hn : L.length ≤ 1000000000) (hL : ∀ x ∈ L, x.length ≤ 1000000) (hv : IsI w l vv v) (hm : v.length ≤ 1000000) :
    Calls Tryz.prog 43 #[lv, vv] w (RetB (undB L v) w) := by
  unfold RetB
  have eg := enters_of Tryz.func79 (by kernel_rfl) rfl
  obtain ⟨B, c', rfl, _⟩ := hv.open
  have hal : Keeps [] w (w.alloc (.cells #[.slice B v.length c'] 22)) := (Keeps.refl _ _).alloc _
  have hvc := World.cell?_alloc_new w #[.slice B v.length c'] 22 0
  have hany := ans_rows (w := w.alloc (.cells #[.slice B v.length c'] 22)) (x := lv) (g := 79) (lb := #[.pointer (some ⟨w.heap.size, 0, none⟩)]) (p := fun i => vleB v (L.getD i [])) (h.new hal) hn eg (fun W i u hi hK hu =>
    within1_is (hK.read hvc (by simp)) hu ((hv.new hal).new hK) (hL _ (getD_mem hi)) hm)
  have hdr : anyB L.length (fun i => vleB v (L.getD i [])) = undB L v := by
    unfold undB
    rw [Bool.eq_iff_iff, anyB_true, List.any_eq_true]
    constructor
    · rintro ⟨i, hi, h⟩; exact ⟨_, getD_mem hi, h⟩
    · rintro ⟨x, hx, h⟩
      obtain ⟨i, hi, e⟩ := mem_getD (d := []) hx
      exact ⟨i, hi, by rw [e]; exact h⟩
  rw [hdr] at hany
  obtain ⟨A0, c0, V, rfl, _, _, hcell, hval⟩ := h
  generalize undB L v = r at *
  have HANY := Lib.hid hany
  have HAL := Lib.hid hal
  have HV := Lib.hid hv
  have HCELL := Lib.hid hcell
  have HVAL := Lib.hid hval
  have HDR := Lib.hid hdr
  clear hany hal hv hcell hval hdr
  clear hvc
  go_enter Tryz.func43, Tryz.ntmps43
  go_wp2_with fail
  refine HANY.out.mono ?_
  rintro e w1 ⟨rfl, hk⟩
  have hK := HAL.out.trans hk
  have HK := Lib.hid hK
  clear hK
  clear hk
  go_wp2_with fail
  go_ret
  exact ⟨rfl, HK.out⟩
end Go.Proofs.YtnmkinaokjekjaaGreat
