/- The walk of multiset.most: the greatest number of rows that can be matched. -/
import Derived.Test.YtpnkaicbcbimaaaSearch
import Derived.Test.YtpnkaicbcbimaaaClone
import Derived.Test.YtpnkaicbcbimaaaRepeat
namespace Go.Proofs.Ytpnkaicbcbimaaa
set_option linter.unusedVariables false
open Go.RowKit Kuhn

def MostPost (E : Nat → Nat → Bool) (m : Nat) (used : Nat → Bool) (lo n : Nat) (w : World) (e : Ending) (w' : World) : Prop :=
  ∃ k : Nat, e = .returned (.int .i64 k) ∧ IsMax E m used lo n k ∧ Below w.heap.size w w'

theorem bools_one (m : Nat) (f : Nat → Bool) : ∀ u ∈ (List.range m).map (fun c => Value.bool (f c)), u.oneCell' = true := by
  intro u hu
  obtain ⟨c, _, rfl⟩ := List.mem_map.1 hu
  rfl
theorem getD_map_range {α : Type} (m : Nat) (f : Nat → α) (d : α) {i : Nat} (hi : i < m) : ((List.range m).map f).getD i d = f i := by
  rw [List.getD_eq_getElem?_getD]; simp [hi]
theorem Rd.congr {w : World} {B n : Nat} {A : Option Addr} {f g : Nat → Value} (h : Rd w B A n f) (e : ∀ i, i < n → f i = g i) : Rd w B A n g := fun hn => by
  obtain ⟨a, ha, hb, hc⟩ := h hn
  exact ⟨a, ha, hb, fun i hi => by rw [← e i hi]; exact hc i hi⟩
theorem Own.congr {w : World} {b n : Nat} {f g : Nat → Value} (h : Own w b n f) (e : ∀ i, i < n → f i = g i) : Own w b n g := fun i hi => by
  rw [← e i hi]; exact h i hi

/-- A clone of truths, in the words of functions. -/
theorem clone_bools_fn (w : World) (B n c : Nat) (A : Option Addr) (f : Nat → Bool) (hr : Rd w B A n (fun i => .bool (f i))) (hn : n ≤ 1000000) (hA : A = none → c = 0) :
    Calls Try.prog 33 #[.slice A n c] w fun e w' => ∃ A' c' g, e = .returned (.slice A' n c') ∧ w.heap.size ≤ g ∧ (0 < n → A' = some ⟨g, 0, none⟩) ∧ Own w' g n (fun i => .bool (f i)) ∧ Below w.heap.size w w' := by
  refine (clone_bools w B n c A ((List.range n).map fun c => .bool (f c)) (by simp) (hr.congr fun i hi => by rw [getD_map_range n _ _ hi]) (bools_one n f) hn hA).mono ?_
  rintro e w' ⟨A', c', rfl, hown, hb⟩
  obtain ⟨g, hg, h0, ho⟩ := own_of_own hown undef
  exact ⟨A', c', g, rfl, hg, fun h => (h0 h).1, ho.congr fun i hi => getD_map_range n _ _ hi, hb⟩

set_option maxHeartbeats 1000000 in
theorem most_any (w : World) (E : Nat → Nat → Bool) (n m B B' lo tc cu : Nat) (A U : Option Addr) (used : Nat → Bool) (hT : Tab w B A n m E) (hU : Rd w B' U m (fun c => .bool (used c))) (hU0 : U = none → cu = 0)
    (hB : B ≤ w.heap.size) (hB' : B' ≤ w.heap.size) (hm : m ≤ 1000) (hn : n ≤ 1000) (hlo : lo ≤ n) :
    Calls Try.prog 27 #[.slice A n tc, .int .i64 (lo : Int), .slice U m cu] w (MostPost E m used lo n w) := by
  have HT := Lib.hid hT
  have HU := Lib.hid hU
  have HU0 := Lib.hid hU0
  clear hT hU hU0
  go_enter Try.func27, Try.ntmps27
  go_wp2_with fail
  refine (repeat_one (w.alloc (.cells #[.int .i64 (-1)] 3)) m 1 (-1) ⟨w.heap.size, 0, none⟩ (by simp) hm).mono ?_
  rintro e w1 ⟨g, rfl, hg, hg1, hO, hb1⟩
  simp only [World.size_alloc] at hg hb1
  have hb := ((Below.refl _ w).alloc (Nat.le_refl _) (.cells #[.int .i64 (-1)] 3)).trans (hb1.mono (by omega))
  have hz1 := hb.size
  have HO := Lib.hid hO
  clear hO hb1
  go_wp2_with fail
  go_loopg [8, 9] (n + 1 - lo) (fun gh cn ri wr => ∃ (i k : Nat) (o : Nat → Int) (F D C : Nat → Bool), n + 1 ≤ i + gh ∧ lo ≤ i ∧ i ≤ n ∧ ri = .int .i64 i ∧ cn = .int .i64 k ∧ k ≤ i ∧ Inv E m used lo i o k F D C ∧ Own wr g m (fun c => .int .i64 (o c)) ∧ g < wr.heap.size ∧ Below w.heap.size w wr)
  case atStart => exact ⟨lo, 0, _, _, _, _, by omega, by omega, hlo, rfl, rfl, by omega, Inv.start used lo, HO.out, hg1, hb⟩
  case round =>
    obtain ⟨i, k, o, F, D, C, hgh, hi1, hi2, rfl, rfl, hki, hI, hO, hgr, hbr⟩ := hrel
    have HI := Lib.hid hI
    have HOo := Lib.hid hO
    clear hI hO HO
    have hzr := hbr.size
    by_cases hlt : i < n
    · go_wp2_with fail
      refine (clone_bools_fn wr B' m cu U used (HU.out.below (hbr.mono hB')) (by omega) HU0.out).mono ?_
      rintro e w2 ⟨A', c', g2, rfl, hg2, hA', hO2, hb2⟩
      have HO2 := Lib.hid hO2
      have HA' := Lib.hid hA'
      clear hO2 hA'
      have hz2 := hb2.size
      have hB2 := hbr.trans (hb2.mono (by omega))
      go_wp2_with fail
      refine (search_any E m n B g g2 m c' tc A (some ⟨g, 0, none⟩) A' o (by omega) (by omega) (by omega) (fun _ => rfl) HA'.out (fun c hc => ?_) hm (unseen used m + 1) i used w2 (by omega) hlt (TabG.below HT.out (hB2.mono hB)) ?_ HO2.out).mono ?_
      · rcases HI.out.val c with h | ⟨r, h1, _, h2, _⟩
        · exact .inl h
        · exact .inr ⟨r, h1, by omega⟩
      · exact HOo.out.keep (l := []) ⟨hb2.os, hb2.tape, hb2.output, hb2.size, fun k hk _ => hb2.block k hk⟩ (by simp)
      rintro e w3 ⟨b, o', s', rfl, hs, hO3, hO4, hK⟩
      have hB3 := hB2.trans (hK.below (B := w.heap.size) (by simp; omega) (by omega))
      have hz3 := hK.size
      have HS := Lib.hid hs
      have HO3 := Lib.hid hO3
      clear hs hO3 hO4 hK hbr hb2
      cases b with
      | true =>
        go_wp2_with fail
        go_roundg (n - i)
        case measure => omega
        case rel => exact ⟨i + 1, k + 1, o', F, D, C, by omega, by omega, by omega, by go_num, by go_num, by omega, HI.out.yes hi1 HS.out, HO3.out, by omega, hB3⟩
      | false =>
        go_wp2_with fail
        go_roundg (n - i)
        case measure => omega
        case rel =>
          obtain ⟨e, F', D', C', hI'⟩ := HI.out.no HS.out
          exact ⟨i + 1, k, o', F', D', C', by omega, by omega, by omega, by go_num, rfl, by omega, by rw [e]; exact hI', HO3.out, by omega, hB3⟩
    · obtain rfl : i = n := by omega
      go_wp2_with fail
      go_ret
      exact ⟨k, rfl, HI.out.max, hbr⟩
end Go.Proofs.Ytpnkaicbcbimaaa
