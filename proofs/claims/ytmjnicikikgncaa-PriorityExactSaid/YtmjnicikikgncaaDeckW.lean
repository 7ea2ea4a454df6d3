/- The deck's words, in the words of Rep; literals. -/
import Derived.Test.YtmjnicikikgncaaDeck
import Derived.Test.YtmjnicikikgncaaOwnI
import Derived.Test.YtmjnicikikgncaaNow
namespace Go.Proofs.Ytmjnicikikgncaa
set_option linter.unusedVariables false
open Go.RowKit

/-- A literal of numbers. -/
theorem isI_lit {w : World} {us : Array Value} {e : TypeId} {l : List Nat} (zs : List Int) {n : Nat} (hn : n = zs.length) (hu : us = (zs.map (Value.int .i64)).toArray) (hl : ∀ x ∈ l, x < w.heap.size) : IsI (w.alloc (.cells us e)) l (.slice (some ⟨w.heap.size, 0, none⟩) n n) zs := by
  subst hn
  refine isL_new (xs := zs) hl (by rw [hu]; simp) fun i hi => ?_
  show _ = _
  rw [hu]
  simp [List.getD_eq_getElem?_getD, hi]

theorem Deck.kept {w w' : World} {b B : Nat} (h : Deck w b B) (k : Keeps [] w w') : Deck w' b B := h.keeps k (by simp) (by simp)

def WordPost (letters most : Int) (b B : Nat) (w : World) (e : Ending) (w' : World) : Prop :=
  ∃ (A : Option Addr) (n c : Nat) (zs : List Int), e = .returned (.slice A n c) ∧ n = zs.length ∧ (n : Int) ≤ most ∧ (∀ z ∈ zs, 0 ≤ z ∧ z ≤ max (letters - 1) 0) ∧ IsI w' [b] (.slice A n c) zs ∧ Deck w' b B ∧ Keeps [b] w w'

set_option maxHeartbeats 1000000 in
theorem word_any (w : World) (b B : Nat) (letters most : Int) (hD : Deck w b B) (hm : 0 ≤ most ∧ most ≤ 1000) (hl : 0 ≤ letters ∧ letters ≤ 1000) :
    Calls Try.prog 12 #[.pointer (some ⟨b, 0, none⟩), .int .i64 letters, .int .i64 most] w (WordPost letters most b B w) := by
  have hbl := hD.lt
  have HD := Lib.hid hD
  clear hD
  obtain ⟨hm1, hm2⟩ := hm
  obtain ⟨hl1, hl2⟩ := hl
  go_enter Try.func12, Try.ntmps12
  go_wp2_with fail
  refine (next_any w b B (most + 1) HD.out (by omega)).mono ?_
  rintro e w1 ⟨n, rfl, _, hn, hD1, hK1⟩
  have hn := hn (by omega)
  have hz1 := hK1.size
  have HD1 := Lib.hid hD1
  have HK1 := Lib.hid hK1
  clear hD1 hK1
  go_wp2_with fail
  refine (small_any w1 b B n (letters - 1) HD1.out (by omega) (by omega)).mono ?_
  rintro e w2 ⟨A, c, zs, rfl, hzl, hzr, hown, hD2, hK2⟩
  have hown := isN_own (l := [b]) (xs := zs) (v := .slice A n c) rfl (by rw [hzl]; exact hown)
  have hz : IsI w2 [b] (.slice A n c) zs := hown.isL (by simp; omega)
  have hK := HK1.out.trans hK2
  have HZL := Lib.hid hzl
  have HZR := Lib.hid hzr
  have HZ := Lib.hid hz
  have HD2 := Lib.hid hD2
  have HK := Lib.hid hK
  clear hzl hzr hz hD2 hK
  clear hown hK2
  go_wp2_with fail
  go_ret
  exact ⟨A, n, c, zs, rfl, HZL.out.symm, by omega, HZR.out, HZ.out, HD2.out, HK.out⟩
end Go.Proofs.Ytmjnicikikgncaa
