/- The walks of the deck's matrices. -/
import Derived.Test.YthpobeeccgmieaaHil
import Derived.Test.YthpobeeccgmieaaDeck
namespace Go.Proofs.Ythpobeeccgmieaa
set_option linter.unusedVariables false
open Go.RowKit

def OnePost (b B : Nat) (w : World) (e : Ending) (w' : World) : Prop := ∃ x : Bool, e = .returned (.bool x) ∧ Deck w' b B ∧ Keeps [b] w w'
set_option maxHeartbeats 400000 in
theorem one_any (w : World) (b B : Nat) (n : Int) (hD : Deck w b B) (hn : n ≤ 1000000000) :
    Calls Try.prog 30 #[.pointer (some ⟨b, 0, none⟩), .int .i64 n] w (OnePost b B w) := by
  have HD := Lib.hid hD
  clear hD
  go_enter Try.func30, Try.ntmps30
  go_wp2_with fail
  refine (next_any w b B n HD.out hn).mono ?_
  rintro e w1 ⟨x, rfl, _, _, hD1, hK1⟩
  have HD1 := Lib.hid hD1
  have HK1 := Lib.hid hK1
  clear hD1 hK1
  go_wp2_with fail
  go_ret
  exact ⟨_, rfl, HD1.out, HK1.out⟩

def EntOk (y : Int) : Prop := -16 ≤ y ∧ y ≤ 16
def MatPost (r n : Nat) (b B : Nat) (w : World) (e : Ending) (w' : World) : Prop :=
  ∃ (A : Option Addr) (c : Nat) (M : List (List Int)), e = .returned (.slice A r c) ∧ M.length = r ∧ (∀ x ∈ M, x.length = n ∧ ∀ z ∈ x, EntOk z) ∧ IsII w' [b] (.slice A r c) M ∧ Deck w' b B ∧ Keeps [b] w w'
set_option maxRecDepth 100000 in
set_option maxHeartbeats 4000000 in
theorem matrix_any (w : World) (b B r n : Nat) (hD : Deck w b B) (hr : r ≤ 100) (hn : n ≤ 100) :
    Calls Try.prog 13 #[.pointer (some ⟨b, 0, none⟩), .int .i64 (r : Int), .int .i64 (n : Int)] w (MatPost r n b B w) := by
  unfold MatPost
  have hbl := hD.lt
  have HD := Lib.hid hD
  clear hD
  go_enter Try.func13, Try.ntmps13
  go_wp2_with fail
  go_loopg [7, 8] (r + 1) (fun gh sv iv wr => ∃ (i : Nat) (A : Option Addr) (c : Nat) (M : List (List Int)), r + 1 ≤ i + gh ∧ i ≤ r ∧ iv = .int .i64 (i : Int) ∧ sv = .slice A i c ∧ M.length = i ∧ (∀ x ∈ M, x.length = n ∧ ∀ z ∈ x, EntOk z) ∧ OwL IsI [] 22 w.heap.size wr [b] (.slice A i c) M ∧ Deck wr b B ∧ Keeps [b] w wr)
  case atStart => exact ⟨0, none, 0, [], by omega, by omega, rfl, rfl, rfl, by simp, OwL.nil, HD.out, Keeps.refl _ _⟩
  case round =>
    obtain ⟨i, A, c, M, hgh, hi, rfl, rfl, hml, hmp, hO, hDr, hKr⟩ := hrel
    generalize wr = wo at *
    have hzr := hKr.size
    have hdl := hDr.lt
    have HML := Lib.hid hml
    have HMP := Lib.hid hmp
    have HO := Lib.hid hO
    have HDR := Lib.hid hDr
    have HKR := Lib.hid hKr
    clear hml hmp hO hDr hKr
    by_cases hlt : i < r
    · go_wp2_with fail
      go_loopg [9, 10] (n + 1) (fun gh2 rv kv wr => ∃ (k : Nat) (A2 : Option Addr) (c2 : Nat) (zs : List Int), n + 1 ≤ k + gh2 ∧ k ≤ n ∧ kv = .int .i64 (k : Int) ∧ rv = .slice A2 k c2 ∧ zs.length = k ∧ (∀ z ∈ zs, EntOk z) ∧
        wr.ownsRow wo.heap.size 3 1 (.slice A2 k c2) k (zs.map (Value.int .i64)) ∧ Deck wr b B ∧ Keeps [b] wo wr)
      case atStart => exact ⟨0, none, 0, [], by omega, by omega, rfl, rfl, rfl, by simp, World.ownsRow_nil _ _ _ _, HDR.out, Keeps.refl _ _⟩
      case round =>
        obtain ⟨k, A2, c2, zs, hg, hk, rfl, rfl, hl, hz, hown, hDr2, hKr2⟩ := hrel
        have hzr2 := hKr2.size
        have HL := Lib.hid hl
        have HZ := Lib.hid hz
        have HOWN := Lib.hid hown
        have HDR2 := Lib.hid hDr2
        have HKR2 := Lib.hid hKr2
        clear hl hz hown hDr2 hKr2
        by_cases hlt2 : k < n
        · go_wp2_with fail
          refine (next_any wr b B 7 HDR2.out (by omega)).mono ?_
          rintro e w1 ⟨x, rfl, _, hx1, hD1, hK1⟩
          have hx1 := hx1 (by omega)
          have hxo : EntOk ((x : Int) - 3) := ⟨by omega, by omega⟩
          have hKa := HKR2.out.trans hK1
          have hO1 := own_keeps HOWN.out hK1 (fun y hy => own_ne HOWN.out (by simp at hy; omega))
          have HXO := Lib.hid hxo
          have HD1 := Lib.hid hD1
          have HKA := Lib.hid hKa
          have HO1 := Lib.hid hO1
          clear hxo hD1 hKa hO1
          clear hK1
          go_wp2_with fail
          refine (one_any w1 b B 20 HD1.out (by omega)).mono ?_
          rintro e w2 ⟨b2, rfl, hD4, hK2⟩
          have hO4 := own_keeps HO1.out hK2 (fun y hy => own_ne HO1.out (by simp at hy; omega))
          have hK4 := HKA.out.trans hK2
          have hz4 := hK4.size
          have HD4 := Lib.hid hD4
          have HK4 := Lib.hid hK4
          have HO4 := Lib.hid hO4
          clear hD4 hK4 hO4
          clear hK2
          cases b2 with
          | false =>
            generalize hw4 : w2 = w4 at *
            clear hw4
            go_wp2_with (at_builtin; refine wpList_app _ sl_int rfl _ _ rfl wo.heap.size A2 k c2 (zs.map (Value.int .i64)) rfl (HO4.out.alloc _) (w4.heap.size + 1) (some ⟨w4.heap.size, 0, none⟩) 1 1 [.int .i64 ((x : Int) - 3)] rfl rfl rd_new (by simp [Value.oneCell']) (by omega) (by simp; omega) ?_; intro V' cv' w6 hown3 hg3 hat3)
            have hK3 := Keeps.of_grown hg3
            have hl3 : ∀ y ∈ (Value.slice A2 k c2).ownBlock.toList, wo.heap.size ≤ y := fun y hy => (own_base HO4.out (by simpa using hy)).1
            go_roundg (n - k)
            case measure => omega
            case rel =>
              refine ⟨k + 1, V', cv', zs ++ [((x : Int) - 3)], by omega, by omega, by go_num, rfl, by simp [HL.out], ?_, by rw [List.map_append]; exact hown3, ?_, ?_⟩
              · intro z hz
                rcases List.mem_append.1 hz with h | h
                · exact HZ.out z h
                · rw [List.mem_singleton.1 h]; exact HXO.out
              · refine (HD4.out.keeps (w' := w4.alloc (.cells #[.int .i64 ((x : Int) - 3)] 3)) ((Keeps.refl [] _).alloc _) (by simp) (by simp)).keeps hK3 (fun hm => by have := hl3 b hm; omega) (fun y hy => by have := hl3 y hy; omega)
              · exact (HK4.out.alloc _).step hK3 (fun y hy => .inr (hl3 y hy))
          | true =>
            have hD5 := HD4.out.keeps (w' := w2.alloc (.cells #[.int .i64 16, .int .i64 (-16)] 3)) ((Keeps.refl [] _).alloc _) (by simp) (by simp)
            have hc0 : (w2.alloc (.cells #[.int .i64 16, .int .i64 (-16)] 3)).cell? ⟨w2.heap.size, 0, none⟩ = some (.int .i64 16) := World.cell?_alloc_new _ _ _ _
            have hc1 : (w2.alloc (.cells #[.int .i64 16, .int .i64 (-16)] 3)).cell? ⟨w2.heap.size, 1, none⟩ = some (.int .i64 (-16)) := World.cell?_alloc_new _ _ _ _
            have hKn : Keeps [] w2 (w2.alloc (.cells #[.int .i64 16, .int .i64 (-16)] 3)) := (Keeps.refl [] _).alloc _
            have hOn := own_keeps HO4.out hKn (by simp)
            have hKn4 := HK4.out.trans (hKn.nil [b])
            have hbne : w2.heap.size ≠ b := by omega
            have HD5 := Lib.hid hD5
            have HC0 := Lib.hid hc0
            have HC1 := Lib.hid hc1
            have HKN := Lib.hid hKn
            have HON := Lib.hid hOn
            have HKN4 := Lib.hid hKn4
            clear hD5 hc0 hc1 hKn hOn hKn4
            go_wp2_with fail
            refine (next_any _ b B 2 HD5.out (by omega)).mono ?_
            rintro e w4 ⟨j, rfl, _, hj1, hD6, hK6⟩
            have hj1 := hj1 (by omega)
            have hO6 := own_keeps HON.out hK6 (fun y hy => own_ne HON.out (by simp at hy; omega))
            have hK7 := HKN4.out.trans hK6
            have hz7 := hK7.size
            have hd0 := hK6.read HC0.out (by simp; omega)
            have hd1 := hK6.read HC1.out (by simp; omega)
            clear HD4 HK4 HO4
            have HD4 := Lib.hid hD6
            have HK4 := Lib.hid hK7
            have HO4 := Lib.hid hO6
            clear hD6 hK7 hO6 hK6
            have hj : j = 0 ∨ j = 1 := by omega
            rcases hj with rfl | rfl
            · go_wp2_with (at_builtin; refine wpList_app _ sl_int rfl _ _ rfl wo.heap.size A2 k c2 (zs.map (Value.int .i64)) rfl (HO4.out.alloc _) (w4.heap.size + 1) (some ⟨w4.heap.size, 0, none⟩) 1 1 [.int .i64 16] rfl rfl rd_new (by simp [Value.oneCell']) (by omega) (by simp; omega) ?_; intro V' cv' w6 hown3 hg3 hat3)
              have hK3 := Keeps.of_grown hg3
              have hl3 : ∀ y ∈ (Value.slice A2 k c2).ownBlock.toList, wo.heap.size ≤ y := fun y hy => (own_base HO4.out (by simpa using hy)).1
              go_roundg (n - k)
              case measure => omega
              case rel =>
                refine ⟨k + 1, V', cv', zs ++ [16], by omega, by omega, by go_num, rfl, by simp [HL.out], ?_, by rw [List.map_append]; exact hown3, ?_, ?_⟩
                · intro z hz
                  rcases List.mem_append.1 hz with h | h
                  · exact HZ.out z h
                  · rw [List.mem_singleton.1 h]; exact ⟨by omega, by omega⟩
                · refine (HD4.out.keeps (w' := w4.alloc (.cells #[.int .i64 16] 3)) ((Keeps.refl [] _).alloc _) (by simp) (by simp)).keeps hK3 (fun hm => by have := hl3 b hm; omega) (fun y hy => by have := hl3 y hy; omega)
                · exact (HK4.out.alloc _).step hK3 (fun y hy => .inr (hl3 y hy))
            · go_wp2_with (at_builtin; refine wpList_app _ sl_int rfl _ _ rfl wo.heap.size A2 k c2 (zs.map (Value.int .i64)) rfl (HO4.out.alloc _) (w4.heap.size + 1) (some ⟨w4.heap.size, 0, none⟩) 1 1 [.int .i64 (-16)] rfl rfl rd_new (by simp [Value.oneCell']) (by omega) (by simp; omega) ?_; intro V' cv' w6 hown3 hg3 hat3)
              have hK3 := Keeps.of_grown hg3
              have hl3 : ∀ y ∈ (Value.slice A2 k c2).ownBlock.toList, wo.heap.size ≤ y := fun y hy => (own_base HO4.out (by simpa using hy)).1
              go_roundg (n - k)
              case measure => omega
              case rel =>
                refine ⟨k + 1, V', cv', zs ++ [(-16)], by omega, by omega, by go_num, rfl, by simp [HL.out], ?_, by rw [List.map_append]; exact hown3, ?_, ?_⟩
                · intro z hz
                  rcases List.mem_append.1 hz with h | h
                  · exact HZ.out z h
                  · rw [List.mem_singleton.1 h]; exact ⟨by omega, by omega⟩
                · refine (HD4.out.keeps (w' := w4.alloc (.cells #[.int .i64 (-16)] 3)) ((Keeps.refl [] _).alloc _) (by simp) (by simp)).keeps hK3 (fun hm => by have := hl3 b hm; omega) (fun y hy => by have := hl3 y hy; omega)
                · exact (HK4.out.alloc _).step hK3 (fun y hy => .inr (hl3 y hy))
        · obtain rfl : k = n := by omega
          have hown := isN_own (l := (Value.slice A i c).ownBlock.toList ++ [b]) (xs := zs) (v := .slice A2 k c2) rfl (by rw [HL.out]; exact HOWN.out)
          have hob := HO.out.blocks
          have hzI : IsI wr ((Value.slice A i c).ownBlock.toList ++ [b]) (.slice A2 k c2) zs := hown.isL (fun y hy => by
            rcases List.mem_append.1 hy with h | h
            · exact (hob y h).2
            · rw [List.mem_singleton.1 h]; omega)
          have hO2 := HO.out.keep HKR2.out (fun y hy => by rw [List.mem_singleton.1 hy]; omega)
          have hC2 : ∀ x ∈ M ++ [zs], x.length = k ∧ ∀ z ∈ x, EntOk z := fun x hx => by
            rcases List.mem_append.1 hx with h | h
            · exact HMP.out x h
            · rw [List.mem_singleton.1 h]; exact ⟨HL.out, HZ.out⟩
          have hK3 := HKR.out.trans HKR2.out
          have hz3 : w.heap.size ≤ wr.heap.size := hK3.size
          have hD2 := HDR2.out
          have HZI := Lib.hid hzI
          have HO2 := Lib.hid hO2
          have HC2 := Lib.hid hC2
          have HK3 := Lib.hid hK3
          have HD2 := Lib.hid hD2
          have HOB := Lib.hid hob
          clear hzI hO2 hC2 hK3 hD2 hob
          clear hown
          go_wp2_with (at_builtin; refine wpList_push sl_rowsi rfl _ _ rfl (w := wr) (u := .slice A2 k c2) (y := zs) (v := .slice A i c) rfl rfl HO2.out HZI.out (m := i + 1) (by rw [HML.out]) (by omega) hz3 (w0 := w) (l0 := [b]) (Nat.le_refl _) HK3.out ?_; intro V' c' w4 hown4 hg4 hk4)
          have hD4 : Deck w4 b B := HD2.out.keeps hg4 (fun hm => by have := (HOB.out b hm).1; omega) (fun y hy => by have := (HOB.out y hy).1; omega)
          have HOWN4 := Lib.hid hown4
          have HK4 := Lib.hid hk4
          have HD4 := Lib.hid hD4
          clear hown4 hk4 hD4
          clear hg4
          go_roundg (r - i)
          case measure => omega
          case rel => exact ⟨i + 1, V', c', M ++ [zs], by omega, by omega, by go_num, rfl, by rw [List.length_append, HML.out]; rfl, HC2.out, HOWN4.out, HD4.out, HK4.out⟩
    · obtain rfl : i = r := by omega
      have hI : IsII wo [b] (.slice A i c) M := HO.out.isL (fun y hy => by rw [List.mem_singleton.1 hy]; omega)
      have HI := Lib.hid hI
      clear hI
      go_wp2_with fail
      go_ret
      exact ⟨A, c, M, rfl, HML.out, HMP.out, HI.out, HDR.out, HKR.out⟩
end Go.Proofs.Ythpobeeccgmieaa
