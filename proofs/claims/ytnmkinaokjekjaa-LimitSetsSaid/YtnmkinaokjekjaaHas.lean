/- The walks of limit's Has and of law 08's corners. -/
import Derived.Test.YtnmkinaokjekjaaChk
import Derived.Test.YtnmkinaokjekjaaDeck
import Derived.Test.YtnmkinaokjekjaaOwnI
namespace Go.Proofs.Ytnmkinaokjekjaa
set_option linter.unusedVariables false
open Go.RowKit

def hasB (n : Int) (L : List (List Int)) (v : List Int) : Bool := decide (chkL n L = 0) && decide ((v.length : Int) = n) && vfB v && undB L v
set_option maxHeartbeats 2000000 in
theorem has_is {w : World} {l : List Nat} {lv vv : Value} {L : List (List Int)} {v : List Int} {n : Int} (hlw : ∀ y ∈ l, y < w.heap.size) (h : IsII w l lv L) (hn : L.length ≤ 100000000) (hL : ∀ x ∈ L, x.length ≤ 1000000) (hv : IsI w l vv v) (hm : v.length ≤ 1000000) :
    Calls Try.prog 16 #[.int .i64 n, lv, vv] w (RetB (hasB n L v) w) := by
  unfold RetB
  have hck := check_is (n := n) hlw h hn hL
  have hfi := fun W (k : Keeps [] w W) => finite_is (hv.new k) hm
  have hwi := fun W (k : Keeps [] w W) => within_is (h.new k) (by omega) hL (hv.new k) hm
  have hB : hasB n L v = (decide (chkL n L = 0) && decide ((v.length : Int) = n) && vfB v && undB L v) := rfl
  rw [hB]
  have h' := h
  obtain ⟨A0, c0, V, rfl, _⟩ := h'
  have hv' := hv
  obtain ⟨B0, d0, rfl, _⟩ := hv'.open
  clear hv' hB
  generalize chkL n L = z at *
  generalize hvn : v.length = vn at *
  generalize vfB v = r1 at *
  generalize undB L v = r2 at *
  generalize hLn : L.length = m at *
  have H := Lib.hid h
  have HL := Lib.hid hL
  have HLW := Lib.hid hlw
  have HV := Lib.hid hv
  have HCK := Lib.hid hck
  have HFI := Lib.hid hfi
  have HWI := Lib.hid hwi
  have HVN := Lib.hid hvn
  have HLN := Lib.hid hLn
  clear h hL hlw hv hck hfi hwi hvn hLn
  by_cases hz : z = 0
  · subst hz
    by_cases hl : (vn : Int) = n
    · have ht : ((vn : Int) == n) = true := by simpa using hl
      have hd : decide ((vn : Int) = n) = true := decide_eq_true hl
      rw [hd]
      have HL := Lib.hid hl
      clear hl
      cases r1 with
      | false =>
        go_enter Try.func16, Try.ntmps16
        go_wp2_with fail
        refine HCK.out.mono ?_
        rintro e w1 ⟨rfl, hk1⟩
        have HK1 := Lib.hid hk1
        clear hk1
        go_wp2_with fail
        refine (HFI.out w1 HK1.out).mono ?_
        rintro e w2 ⟨rfl, hk2⟩
        have hk := HK1.out.trans hk2
        have HK := Lib.hid hk
        clear hk
        clear hk2
        go_wp2_with fail
        go_ret
        exact ⟨by simp, HK.out⟩
      | true =>
        go_enter Try.func16, Try.ntmps16
        go_wp2_with fail
        refine HCK.out.mono ?_
        rintro e w1 ⟨rfl, hk1⟩
        have HK1 := Lib.hid hk1
        clear hk1
        go_wp2_with fail
        refine (HFI.out w1 HK1.out).mono ?_
        rintro e w2 ⟨rfl, hk2⟩
        have hk := HK1.out.trans hk2
        have HK := Lib.hid hk
        clear hk
        clear hk2
        go_wp2_with fail
        refine (HWI.out w2 HK.out).mono ?_
        rintro e w3 ⟨rfl, hk3⟩
        have hk4 := HK.out.trans hk3
        have HK4 := Lib.hid hk4
        clear hk4
        clear hk3
        go_wp2_with fail
        go_ret
        exact ⟨by simp, HK4.out⟩
    · have ht : ((vn : Int) == n) = false := by simpa using hl
      have hd : decide ((vn : Int) = n) = false := decide_eq_false hl
      rw [hd]
      have HL := Lib.hid hl
      clear hl
      go_enter Try.func16, Try.ntmps16
      go_wp2_with fail
      refine HCK.out.mono ?_
      rintro e w1 ⟨rfl, hk1⟩
      have HK1 := Lib.hid hk1
      clear hk1
      go_wp2_with fail
      go_ret
      exact ⟨by simp, HK1.out⟩
  · have ht : (z == 0) = false := by simpa using hz
    have hd : decide (z = 0) = false := decide_eq_false hz
    rw [hd]
    have HZ := Lib.hid hz
    clear hz
    go_enter Try.func16, Try.ntmps16
    go_wp2_with fail
    refine HCK.out.mono ?_
    rintro e w1 ⟨rfl, hk1⟩
    have HK1 := Lib.hid hk1
    clear hk1
    go_wp2_with fail
    go_ret
    exact ⟨by simp, HK1.out⟩

def CornPost (n : Nat) (most : Int) (b B : Nat) (w : World) (e : Ending) (w' : World) : Prop :=
  ∃ (A : Option Addr) (m c : Nat) (C : List (List Int)), m = C.length ∧ e = .returned (.slice A m c) ∧ (m : Int) ≤ most ∧ (∀ x ∈ C, x.length = n ∧ ∀ z ∈ x, 0 ≤ z ∧ z ≤ 3) ∧ IsII w' [b] (.slice A m c) C ∧ Deck w' b B ∧ Keeps [b] w w'
set_option maxHeartbeats 2000000 in
theorem cornersD_is (w : World) (b B n : Nat) (most : Int) (hD : Deck w b B) (hn : n ≤ 100) (hm : 0 ≤ most ∧ most ≤ 100) :
    Calls Try.prog 11 #[.pointer (some ⟨b, 0, none⟩), .int .i64 (n : Int), .int .i64 most] w (CornPost n most b B w) := by
  unfold CornPost
  have hbl := hD.lt
  have HD := Lib.hid hD
  clear hD
  obtain ⟨hm1, hm2⟩ := hm
  go_enter Try.func11, Try.ntmps11
  go_wp2_with fail
  refine (next_any w b B (most + 1) HD.out (by omega)).mono ?_
  rintro e w1 ⟨k0, rfl, _, hk0, hD1, hK1⟩
  have hk0 := hk0 (by omega)
  have hz1 := hK1.size
  have HD1 := Lib.hid hD1
  have HK1 := Lib.hid hK1
  clear hD1 hK1
  go_wp2_with fail
  go_loopg [7, 8] (k0 + 1) (fun gh sv kv wr => ∃ (k : Nat) (A : Option Addr) (m c : Nat) (C : List (List Int)), k < gh ∧ m + k ≤ k0 ∧ kv = .int .i64 (k : Int) ∧ sv = .slice A m c ∧ m = C.length ∧ (∀ x ∈ C, x.length = n ∧ ∀ z ∈ x, 0 ≤ z ∧ z ≤ 3) ∧ OwL IsI [] 22 w1.heap.size wr [b] (.slice A m c) C ∧ Deck wr b B ∧ Keeps [b] w1 wr)
  case atStart => exact ⟨k0, none, 0, 0, [], by omega, by omega, rfl, rfl, rfl, by simp, OwL.nil, HD1.out, Keeps.refl _ _⟩
  case round =>
    obtain ⟨k, A, m, c, C, hgh, hmk, rfl, rfl, hmC, hCp, hO, hDr, hkr⟩ := hrel
    have hzr := hkr.size
    have HMC := Lib.hid hmC
    have HCP := Lib.hid hCp
    have HO := Lib.hid hO
    have HDR := Lib.hid hDr
    have HKR := Lib.hid hkr
    clear hmC hCp hO hDr hkr
    by_cases hlt : 0 < k
    · have ht1 : decide ((0 : Int) < (k : Int)) = true := decide_eq_true (by omega)
      go_wp2_with fail
      refine (small_any wr b B n 3 HDR.out (by omega) (by omega)).mono ?_
      rintro e w2 ⟨Z, cz, zs, rfl, hzl, hzr2, hown, hD2, hK2⟩
      have hz2 := hK2.size
      have hown := isN_own (l := (Value.slice A m c).ownBlock.toList ++ [b]) (xs := zs) (v := .slice Z n cz) rfl (by rw [hzl]; exact hown)
      have hob := HO.out.blocks
      have hzI : IsI w2 ((Value.slice A m c).ownBlock.toList ++ [b]) (.slice Z n cz) zs := hown.isL (fun y hy => by
        rcases List.mem_append.1 hy with h | h
        · exact (hob y h).2
        · rw [List.mem_singleton.1 h]; omega)
      have hO2 := HO.out.keep hK2 (fun y hy => by rw [List.mem_singleton.1 hy]; omega)
      have hC2 : ∀ x ∈ C ++ [zs], x.length = n ∧ ∀ z ∈ x, 0 ≤ z ∧ z ≤ 3 := fun x hx => by
        rcases List.mem_append.1 hx with h | h
        · exact HCP.out x h
        · rw [List.mem_singleton.1 h]; exact ⟨hzl, fun z hz => by have := hzr2 z hz; omega⟩
      have hK3 := HKR.out.trans hK2
      have hz3 : w1.heap.size ≤ w2.heap.size := hK3.size
      have HZI := Lib.hid hzI
      have HO2 := Lib.hid hO2
      have HC2 := Lib.hid hC2
      have HK3 := Lib.hid hK3
      have HD2 := Lib.hid hD2
      have HOB := Lib.hid hob
      clear hzI hO2 hC2 hK3 hD2 hob
      clear hown hzl hzr2 hK2
      go_wp2_with (at_builtin; refine wpList_push sl_rowsi rfl _ _ rfl (w := w2) (u := .slice Z n cz) (y := zs) (v := .slice A m c) rfl rfl HO2.out HZI.out (m := m + 1) (by rw [← HMC.out]) (by omega) hz3 (w0 := w1) (l0 := [b]) (Nat.le_refl _) HK3.out ?_; intro V' c' w4 hown4 hg4 hk4)
      have hD4 : Deck w4 b B := HD2.out.keeps hg4 (fun hm => by have := (HOB.out b hm).1; omega) (fun y hy => by have := (HOB.out y hy).1; omega)
      have HOWN4 := Lib.hid hown4
      have HK4 := Lib.hid hk4
      have HD4 := Lib.hid hD4
      clear hown4 hk4 hD4
      clear hg4
      have hkk : (k : Int) - 1 = ((k - 1 : Nat) : Int) := by omega
      have HKK := Lib.hid hkk
      clear hkk
      go_roundg k
      case measure => omega
      case rel => exact ⟨k - 1, V', m + 1, c', C ++ [zs], by omega, by omega, by rw [← HKK.out], rfl, by simp [← HMC.out], HC2.out, HOWN4.out, HD4.out, HK4.out⟩
    · have ht1 : decide ((0 : Int) < (k : Int)) = false := decide_eq_false (by omega)
      have hI : IsII wr [b] (.slice A m c) C := HO.out.isL (fun y hy => by rw [List.mem_singleton.1 hy]; omega)
      have hk := HK1.out.trans HKR.out
      have HI := Lib.hid hI
      have HK := Lib.hid hk
      clear hI hk
      go_wp2_with fail
      go_ret
      exact ⟨A, m, c, C, HMC.out, rfl, by omega, HCP.out, HI.out, HDR.out, HK.out⟩
end Go.Proofs.Ytnmkinaokjekjaa
