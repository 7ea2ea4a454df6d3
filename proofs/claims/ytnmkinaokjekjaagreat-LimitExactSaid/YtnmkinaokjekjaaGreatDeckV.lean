/- The walks of the deck's vectors. -/
import Derived.Test.YtnmkinaokjekjaaGreatHas
namespace Go.Proofs.YtnmkinaokjekjaaGreat
set_option linter.unusedVariables false
open Go.RowKit

def OnePost (b B : Nat) (w : World) (e : Ending) (w' : World) : Prop := ∃ x : Bool, e = .returned (.bool x) ∧ Deck w' b B ∧ Keeps [b] w w'

set_option maxHeartbeats 400000 in
theorem one_any (w : World) (b B : Nat) (n : Int) (hD : Deck w b B) (hn : n ≤ 1000000000) :
    Calls Tryz.prog 45 #[.pointer (some ⟨b, 0, none⟩), .int .i64 n] w (OnePost b B w) := by
  have HD := Lib.hid hD
  clear hD
  go_enter Tryz.func45, Tryz.ntmps45
  go_wp2_with fail
  refine (next_any w b B n HD.out hn).mono ?_
  rintro e w1 ⟨x, rfl, _, _, hD1, hK1⟩
  have HD1 := Lib.hid hD1
  have HK1 := Lib.hid hK1
  clear hD1 hK1
  go_wp2_with fail
  go_ret
  exact ⟨_, rfl, HD1.out, HK1.out⟩


def VcOk (om : Bool) (y : Int) : Prop := (0 ≤ y ∧ y ≤ 4) ∨ (om = true ∧ y = 1099511627776) ∨ y = 1048576
def VecPost (n : Nat) (om : Bool) (b B : Nat) (w : World) (e : Ending) (w' : World) : Prop :=
  ∃ (A : Option Addr) (c : Nat) (zs : List Int), e = .returned (.slice A n c) ∧ zs.length = n ∧ (∀ z ∈ zs, VcOk om z) ∧ w'.ownsRow w.heap.size 3 1 (.slice A n c) n (zs.map (Value.int .i64)) ∧ Deck w' b B ∧ Keeps [b] w w'
set_option maxRecDepth 100000 in
set_option maxHeartbeats 4000000 in
theorem vector_any (w : World) (b B n : Nat) (om : Bool) (hD : Deck w b B) (hn : n ≤ 1000000) :
    Calls Tryz.prog 15 #[.pointer (some ⟨b, 0, none⟩), .int .i64 (n : Int), .bool om] w (VecPost n om b B w) := by
  unfold VecPost
  have hbl := hD.lt
  have HD := Lib.hid hD
  clear hD
  go_enter Tryz.func15, Tryz.ntmps15
  go_wp2_with fail
  go_loopg [7, 8] (n + 1) (fun g v i wr => ∃ (k : Nat) (A : Option Addr) (c : Nat) (zs : List Int), n + 1 ≤ k + g ∧ k ≤ n ∧ i = .int .i64 (k : Int) ∧ v = .slice A k c ∧ zs.length = k ∧ (∀ z ∈ zs, VcOk om z) ∧
    wr.ownsRow w.heap.size 3 1 (.slice A k c) k (zs.map (Value.int .i64)) ∧ Deck wr b B ∧ Keeps [b] w wr)
  case atStart => exact ⟨0, none, 0, [], by omega, by omega, rfl, rfl, rfl, by simp, World.ownsRow_nil _ _ _ _, HD.out, Keeps.refl _ _⟩
  case round =>
    obtain ⟨k, A, c, zs, hg, hk, rfl, rfl, hl, hz, hown, hDr, hKr⟩ := hrel
    have hzr := hKr.size
    have HL := Lib.hid hl
    have HZ := Lib.hid hz
    have HOWN := Lib.hid hown
    have HDR := Lib.hid hDr
    have HKR := Lib.hid hKr
    clear hl hz hown hDr hKr
    by_cases hlt : k < n
    · go_wp2_with fail
      refine (next_any wr b B 5 HDR.out (by omega)).mono ?_
      rintro e w1 ⟨x, rfl, _, hx1, hD1, hK1⟩
      have hx1 := hx1 (by omega)
      have hxo : VcOk om (x : Int) := .inl (by omega)
      have hKa := HKR.out.trans hK1
      have hO1 := own_keeps HOWN.out hK1 (fun y hy => own_ne HOWN.out (by simp at hy; omega))
      have HXO := Lib.hid hxo
      have HD1 := Lib.hid hD1
      have HKA := Lib.hid hKa
      have HO1 := Lib.hid hO1
      clear hxo hD1 hKa hO1
      clear hx1 hK1
      cases om with
      | false =>
        go_wp2_with fail
        refine (one_any w1 b B 25 HD1.out (by omega)).mono ?_
        rintro e w4 ⟨b2, rfl, hD4, hK⟩
        have hO4 := own_keeps HO1.out hK (fun y hy => own_ne HO1.out (by simp at hy; omega))
        have hK4 := (HKA.out).trans hK
        have hz4 := hK4.size
        have HD4 := Lib.hid hD4
        have HK4 := Lib.hid hK4
        have HO4 := Lib.hid hO4
        clear hD4 hK4 hO4
        clear hK
        cases b2 with
        | false =>
          go_wp2_with (at_builtin; refine wpList_app _ sl_int rfl _ _ rfl w.heap.size A k c (zs.map (Value.int .i64)) rfl (HO4.out.alloc _) (w4.heap.size + 1) (some ⟨w4.heap.size, 0, none⟩) 1 1 [.int .i64 (x : Int)] rfl rfl rd_new (by simp [Value.oneCell']) (by omega) (by simp; omega) ?_; intro V' cv' w6 hown3 hg3 hat3)
          have hK3 := Keeps.of_grown hg3
          have hl3 : ∀ y ∈ (Value.slice A k c).ownBlock.toList, w.heap.size ≤ y := fun y hy => (own_base HO4.out (by simpa using hy)).1
          go_roundg (n - k)
          case measure => omega
          case rel =>
            refine ⟨k + 1, V', cv', zs ++ [(x : Int)], by omega, by omega, by go_num, rfl, by simp [HL.out], ?_, by rw [List.map_append]; exact hown3, ?_, ?_⟩
            · intro z hz
              rcases List.mem_append.1 hz with h | h
              · exact HZ.out z h
              · rw [List.mem_singleton.1 h]; exact HXO.out
            · refine (HD4.out.keeps (w' := w4.alloc (.cells #[.int .i64 (x : Int)] 3)) ((Keeps.refl [] _).alloc _) (by simp) (by simp)).keeps hK3 (fun hm => by have := hl3 b hm; omega) (fun y hy => by have := hl3 y hy; omega)
            · exact (HK4.out.alloc _).step hK3 (fun y hy => .inr (hl3 y hy))
        | true =>
          go_wp2_with (at_builtin; refine wpList_app _ sl_int rfl _ _ rfl w.heap.size A k c (zs.map (Value.int .i64)) rfl (HO4.out.alloc _) (w4.heap.size + 1) (some ⟨w4.heap.size, 0, none⟩) 1 1 [.int .i64 1048576] rfl rfl rd_new (by simp [Value.oneCell']) (by omega) (by simp; omega) ?_; intro V' cv' w6 hown3 hg3 hat3)
          have hK3 := Keeps.of_grown hg3
          have hl3 : ∀ y ∈ (Value.slice A k c).ownBlock.toList, w.heap.size ≤ y := fun y hy => (own_base HO4.out (by simpa using hy)).1
          go_roundg (n - k)
          case measure => omega
          case rel =>
            refine ⟨k + 1, V', cv', zs ++ [1048576], by omega, by omega, by go_num, rfl, by simp [HL.out], ?_, by rw [List.map_append]; exact hown3, ?_, ?_⟩
            · intro z hz
              rcases List.mem_append.1 hz with h | h
              · exact HZ.out z h
              · rw [List.mem_singleton.1 h]; exact .inr (.inr rfl)
            · refine (HD4.out.keeps (w' := w4.alloc (.cells #[.int .i64 1048576] 3)) ((Keeps.refl [] _).alloc _) (by simp) (by simp)).keeps hK3 (fun hm => by have := hl3 b hm; omega) (fun y hy => by have := hl3 y hy; omega)
            · exact (HK4.out.alloc _).step hK3 (fun y hy => .inr (hl3 y hy))
      | true =>
        go_wp2_with fail
        refine (one_any w1 b B 5 HD1.out (by omega)).mono ?_
        rintro e w2 ⟨b1, rfl, hD2, hK2⟩
        have hO2 := own_keeps HO1.out hK2 (fun y hy => own_ne HO1.out (by simp at hy; omega))
        have hKb := HKA.out.trans hK2
        have HD2 := Lib.hid hD2
        have HKB := Lib.hid hKb
        have HO2 := Lib.hid hO2
        clear hD2 hKb hO2
        clear hK2
        cases b1 with
        | false =>
          go_wp2_with fail
          refine (one_any w2 b B 25 HD2.out (by omega)).mono ?_
          rintro e w4 ⟨b2, rfl, hD4, hK⟩
          have hO4 := own_keeps HO2.out hK (fun y hy => own_ne HO2.out (by simp at hy; omega))
          have hK4 := (HKB.out).trans hK
          have hz4 := hK4.size
          have HD4 := Lib.hid hD4
          have HK4 := Lib.hid hK4
          have HO4 := Lib.hid hO4
          clear hD4 hK4 hO4
          clear hK
          cases b2 with
          | false =>
            go_wp2_with (at_builtin; refine wpList_app _ sl_int rfl _ _ rfl w.heap.size A k c (zs.map (Value.int .i64)) rfl (HO4.out.alloc _) (w4.heap.size + 1) (some ⟨w4.heap.size, 0, none⟩) 1 1 [.int .i64 (x : Int)] rfl rfl rd_new (by simp [Value.oneCell']) (by omega) (by simp; omega) ?_; intro V' cv' w6 hown3 hg3 hat3)
            have hK3 := Keeps.of_grown hg3
            have hl3 : ∀ y ∈ (Value.slice A k c).ownBlock.toList, w.heap.size ≤ y := fun y hy => (own_base HO4.out (by simpa using hy)).1
            go_roundg (n - k)
            case measure => omega
            case rel =>
              refine ⟨k + 1, V', cv', zs ++ [(x : Int)], by omega, by omega, by go_num, rfl, by simp [HL.out], ?_, by rw [List.map_append]; exact hown3, ?_, ?_⟩
              · intro z hz
                rcases List.mem_append.1 hz with h | h
                · exact HZ.out z h
                · rw [List.mem_singleton.1 h]; exact HXO.out
              · refine (HD4.out.keeps (w' := w4.alloc (.cells #[.int .i64 (x : Int)] 3)) ((Keeps.refl [] _).alloc _) (by simp) (by simp)).keeps hK3 (fun hm => by have := hl3 b hm; omega) (fun y hy => by have := hl3 y hy; omega)
              · exact (HK4.out.alloc _).step hK3 (fun y hy => .inr (hl3 y hy))
          | true =>
            go_wp2_with (at_builtin; refine wpList_app _ sl_int rfl _ _ rfl w.heap.size A k c (zs.map (Value.int .i64)) rfl (HO4.out.alloc _) (w4.heap.size + 1) (some ⟨w4.heap.size, 0, none⟩) 1 1 [.int .i64 1048576] rfl rfl rd_new (by simp [Value.oneCell']) (by omega) (by simp; omega) ?_; intro V' cv' w6 hown3 hg3 hat3)
            have hK3 := Keeps.of_grown hg3
            have hl3 : ∀ y ∈ (Value.slice A k c).ownBlock.toList, w.heap.size ≤ y := fun y hy => (own_base HO4.out (by simpa using hy)).1
            go_roundg (n - k)
            case measure => omega
            case rel =>
              refine ⟨k + 1, V', cv', zs ++ [1048576], by omega, by omega, by go_num, rfl, by simp [HL.out], ?_, by rw [List.map_append]; exact hown3, ?_, ?_⟩
              · intro z hz
                rcases List.mem_append.1 hz with h | h
                · exact HZ.out z h
                · rw [List.mem_singleton.1 h]; exact .inr (.inr rfl)
              · refine (HD4.out.keeps (w' := w4.alloc (.cells #[.int .i64 1048576] 3)) ((Keeps.refl [] _).alloc _) (by simp) (by simp)).keeps hK3 (fun hm => by have := hl3 b hm; omega) (fun y hy => by have := hl3 y hy; omega)
              · exact (HK4.out.alloc _).step hK3 (fun y hy => .inr (hl3 y hy))
        | true =>
          go_wp2_with fail
          refine (one_any w2 b B 25 HD2.out (by omega)).mono ?_
          rintro e w4 ⟨b2, rfl, hD4, hK⟩
          have hO4 := own_keeps HO2.out hK (fun y hy => own_ne HO2.out (by simp at hy; omega))
          have hK4 := (HKB.out).trans hK
          have hz4 := hK4.size
          have HD4 := Lib.hid hD4
          have HK4 := Lib.hid hK4
          have HO4 := Lib.hid hO4
          clear hD4 hK4 hO4
          clear hK
          cases b2 with
          | false =>
            go_wp2_with (at_builtin; refine wpList_app _ sl_int rfl _ _ rfl w.heap.size A k c (zs.map (Value.int .i64)) rfl (HO4.out.alloc _) (w4.heap.size + 1) (some ⟨w4.heap.size, 0, none⟩) 1 1 [.int .i64 1099511627776] rfl rfl rd_new (by simp [Value.oneCell']) (by omega) (by simp; omega) ?_; intro V' cv' w6 hown3 hg3 hat3)
            have hK3 := Keeps.of_grown hg3
            have hl3 : ∀ y ∈ (Value.slice A k c).ownBlock.toList, w.heap.size ≤ y := fun y hy => (own_base HO4.out (by simpa using hy)).1
            go_roundg (n - k)
            case measure => omega
            case rel =>
              refine ⟨k + 1, V', cv', zs ++ [1099511627776], by omega, by omega, by go_num, rfl, by simp [HL.out], ?_, by rw [List.map_append]; exact hown3, ?_, ?_⟩
              · intro z hz
                rcases List.mem_append.1 hz with h | h
                · exact HZ.out z h
                · rw [List.mem_singleton.1 h]; exact .inr (.inl ⟨rfl, rfl⟩)
              · refine (HD4.out.keeps (w' := w4.alloc (.cells #[.int .i64 1099511627776] 3)) ((Keeps.refl [] _).alloc _) (by simp) (by simp)).keeps hK3 (fun hm => by have := hl3 b hm; omega) (fun y hy => by have := hl3 y hy; omega)
              · exact (HK4.out.alloc _).step hK3 (fun y hy => .inr (hl3 y hy))
          | true =>
            go_wp2_with (at_builtin; refine wpList_app _ sl_int rfl _ _ rfl w.heap.size A k c (zs.map (Value.int .i64)) rfl (HO4.out.alloc _) (w4.heap.size + 1) (some ⟨w4.heap.size, 0, none⟩) 1 1 [.int .i64 1048576] rfl rfl rd_new (by simp [Value.oneCell']) (by omega) (by simp; omega) ?_; intro V' cv' w6 hown3 hg3 hat3)
            have hK3 := Keeps.of_grown hg3
            have hl3 : ∀ y ∈ (Value.slice A k c).ownBlock.toList, w.heap.size ≤ y := fun y hy => (own_base HO4.out (by simpa using hy)).1
            go_roundg (n - k)
            case measure => omega
            case rel =>
              refine ⟨k + 1, V', cv', zs ++ [1048576], by omega, by omega, by go_num, rfl, by simp [HL.out], ?_, by rw [List.map_append]; exact hown3, ?_, ?_⟩
              · intro z hz
                rcases List.mem_append.1 hz with h | h
                · exact HZ.out z h
                · rw [List.mem_singleton.1 h]; exact .inr (.inr rfl)
              · refine (HD4.out.keeps (w' := w4.alloc (.cells #[.int .i64 1048576] 3)) ((Keeps.refl [] _).alloc _) (by simp) (by simp)).keeps hK3 (fun hm => by have := hl3 b hm; omega) (fun y hy => by have := hl3 y hy; omega)
              · exact (HK4.out.alloc _).step hK3 (fun y hy => .inr (hl3 y hy))
    · obtain rfl : k = n := by omega
      go_wp2_with fail
      go_ret
      exact ⟨A, c, zs, rfl, HL.out, HZ.out, HOWN.out, HDR.out, HKR.out⟩

def VecsPost (n : Nat) (most : Int) (om : Bool) (b B : Nat) (w : World) (e : Ending) (w' : World) : Prop :=
  ∃ (A : Option Addr) (m c : Nat) (C : List (List Int)), m = C.length ∧ e = .returned (.slice A m c) ∧ (m : Int) ≤ most ∧ (∀ x ∈ C, x.length = n ∧ ∀ z ∈ x, VcOk om z) ∧ IsII w' [b] (.slice A m c) C ∧ Deck w' b B ∧ Keeps [b] w w'
set_option maxHeartbeats 2000000 in
theorem vectors_any (w : World) (b B n : Nat) (om : Bool) (most : Int) (hD : Deck w b B) (hn : n ≤ 100) (hm : 0 ≤ most ∧ most ≤ 100) :
    Calls Tryz.prog 9 #[.pointer (some ⟨b, 0, none⟩), .int .i64 (n : Int), .int .i64 most, .bool om] w (VecsPost n most om b B w) := by
  unfold VecsPost
  have hbl := hD.lt
  have HD := Lib.hid hD
  clear hD
  obtain ⟨hm1, hm2⟩ := hm
  go_enter Tryz.func9, Tryz.ntmps9
  go_wp2_with fail
  refine (next_any w b B (most + 1) HD.out (by omega)).mono ?_
  rintro e w1 ⟨k0, rfl, _, hk0, hD1, hK1⟩
  have hk0 := hk0 (by omega)
  have hz1 := hK1.size
  have HD1 := Lib.hid hD1
  have HK1 := Lib.hid hK1
  clear hD1 hK1
  go_wp2_with fail
  go_loopg [9, 10] (k0 + 1) (fun gh sv kv wr => ∃ (k : Nat) (A : Option Addr) (m c : Nat) (C : List (List Int)), k < gh ∧ m + k ≤ k0 ∧ kv = .int .i64 (k : Int) ∧ sv = .slice A m c ∧ m = C.length ∧ (∀ x ∈ C, x.length = n ∧ ∀ z ∈ x, VcOk om z) ∧ OwL IsI [] 22 w1.heap.size wr [b] (.slice A m c) C ∧ Deck wr b B ∧ Keeps [b] w1 wr)
  case atStart => exact ⟨k0, none, 0, 0, [], by omega, by omega, rfl, rfl, rfl, by simp, OwL.nil, HD1.out, Keeps.refl _ _⟩
  case round =>
    obtain ⟨k, A, m, c, C, hgh, hmk, rfl, rfl, hmC, hCp, hO, hDr, hkr⟩ := hrel
    have hzr := hkr.size
    have HMC := Lib.hid hmC
    have HCP := Lib.hid hCp
    have HO := Lib.hid hO
    have HDR := Lib.hid hDr
    have HKR := Lib.hid hkr
    clear hmC hCp hO hDr hkr
    by_cases hlt : 0 < k
    · have ht1 : decide ((0 : Int) < (k : Int)) = true := decide_eq_true (by omega)
      go_wp2_with fail
      refine (vector_any wr b B n om HDR.out (by omega)).mono ?_
      rintro e w2 ⟨Z, cz, zs, rfl, hzl, hzr2, hown, hD2, hK2⟩
      have hz2 := hK2.size
      have hown := isN_own (l := (Value.slice A m c).ownBlock.toList ++ [b]) (xs := zs) (v := .slice Z n cz) rfl (by rw [hzl]; exact hown)
      have hob := HO.out.blocks
      have hzI : IsI w2 ((Value.slice A m c).ownBlock.toList ++ [b]) (.slice Z n cz) zs := hown.isL (fun y hy => by
        rcases List.mem_append.1 hy with h | h
        · exact (hob y h).2
        · rw [List.mem_singleton.1 h]; omega)
      have hO2 := HO.out.keep hK2 (fun y hy => by rw [List.mem_singleton.1 hy]; omega)
      have hC2 : ∀ x ∈ C ++ [zs], x.length = n ∧ ∀ z ∈ x, VcOk om z := fun x hx => by
        rcases List.mem_append.1 hx with h | h
        · exact HCP.out x h
        · rw [List.mem_singleton.1 h]; exact ⟨hzl, hzr2⟩
      have hK3 := HKR.out.trans hK2
      have hz3 : w1.heap.size ≤ w2.heap.size := hK3.size
      have HZI := Lib.hid hzI
      have HO2 := Lib.hid hO2
      have HC2 := Lib.hid hC2
      have HK3 := Lib.hid hK3
      have HD2 := Lib.hid hD2
      have HOB := Lib.hid hob
      clear hzI hO2 hC2 hK3 hD2 hob
      clear hown hzl hzr2 hK2
      go_wp2_with (at_builtin; refine wpList_push sl_rowsi rfl _ _ rfl (w := w2) (u := .slice Z n cz) (y := zs) (v := .slice A m c) rfl rfl HO2.out HZI.out (m := m + 1) (by rw [← HMC.out]) (by omega) hz3 (w0 := w1) (l0 := [b]) (Nat.le_refl _) HK3.out ?_; intro V' c' w4 hown4 hg4 hk4)
      have hD4 : Deck w4 b B := HD2.out.keeps hg4 (fun hm => by have := (HOB.out b hm).1; omega) (fun y hy => by have := (HOB.out y hy).1; omega)
      have HOWN4 := Lib.hid hown4
      have HK4 := Lib.hid hk4
      have HD4 := Lib.hid hD4
      clear hown4 hk4 hD4
      clear hg4
      have hkk : (k : Int) - 1 = ((k - 1 : Nat) : Int) := by omega
      have HKK := Lib.hid hkk
      clear hkk
      go_roundg k
      case measure => omega
      case rel => exact ⟨k - 1, V', m + 1, c', C ++ [zs], by omega, by omega, by rw [← HKK.out], rfl, by simp [← HMC.out], HC2.out, HOWN4.out, HD4.out, HK4.out⟩
    · have ht1 : decide ((0 : Int) < (k : Int)) = false := decide_eq_false (by omega)
      have hI : IsII wr [b] (.slice A m c) C := HO.out.isL (fun y hy => by rw [List.mem_singleton.1 hy]; omega)
      have hk := HK1.out.trans HKR.out
      have HI := Lib.hid hI
      have HK := Lib.hid hk
      clear hI hk
      go_wp2_with fail
      go_ret
      exact ⟨A, m, c, C, HMC.out, rfl, by omega, HCP.out, HI.out, HDR.out, HK.out⟩
end Go.Proofs.YtnmkinaokjekjaaGreat
