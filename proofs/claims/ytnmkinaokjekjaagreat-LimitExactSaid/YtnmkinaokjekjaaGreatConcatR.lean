/- slices.Grow at nil and slices.Concat at rows, in the words of Rep. -/
import Derived.Test.YtnmkinaokjekjaaGreatOwnI
import Derived.Test.YtnmkinaokjekjaaGreatCloneR
import Derived.Test.YtnmkinaokjekjaaGreatNow
import Derived.Lib.AppendZeros
import Derived.WalkSpells
namespace Go.Proofs.YtnmkinaokjekjaaGreat
set_option linter.unusedVariables false
open Go.RowKit

theorem own_empty {w : World} {base g c : Nat} {e : TypeId} {cur : Array Value} (hg : base ≤ g) (hh : w.heap[g]? = some (.cells cur e (0, 0))) (hc : c ≤ maxLen) (hs : cur.size = c) : w.ownsRow base e 1 (.slice (some ⟨g, 0, none⟩) 0 c) 0 [] :=
  ⟨rfl, .inr ⟨g, c, cur, rfl, hg, hh, Nat.zero_le _, hc, by omega, by simp⟩⟩

def GrowPost (ty : TypeId) (w : World) (e : Ending) (w' : World) : Prop := ∃ A c, e = .returned (.slice A 0 c) ∧ w'.ownsRow w.heap.size ty 1 (.slice A 0 c) 0 [] ∧ Keeps [] w w'

set_option maxHeartbeats 2000000 in
set_option maxRecDepth 100000 in
theorem grow_rows (w : World) (n : Nat) (hn : n ≤ 1000000000) : Calls Tryz.prog 83 #[.slice none 0 0, .int .i64 (n : Int)] w (GrowPost 22 w) := by
  unfold GrowPost
  by_cases h0 : n = 0
  · subst h0
    go_enter Tryz.func83, Tryz.ntmps83
    go_wp2_with fail
    go_ret
    exact ⟨none, 0, rfl, World.ownsRow_nil _ _ _ _, Keeps.refl _ _⟩
  · obtain ⟨i, hi, hz, hs, hb⟩ := info_parts sl_rowsi.hi
    have hbb := sl_rowsi.hb
    have hmul : n * i.bytes ≤ 64000000000 := by
      rw [hb]
      have := Nat.mul_le_mul hn hbb; omega
    have hrz : ∀ ty, (Builtin.append_ #[23, 3] ty #[.slice none 0 0, .int .i64 (n : Int)]).run Tryz.prog w = _ := fun ty =>
      Lib.run_append_nil_zeros w 23 3 ty 22 i _ .i64 .i64 sl_rowsi.ht Tryz.underlying3 hi hz n (by omega) (by rw [hs]; omega) (by omega) (by omega)
    have hG1 := grownCap_ge w n 0 22
    have hG2 := grownCap_le_maxLen w n 0 22 (by unfold maxLen; omega)
    have hm := sl_rowsi.hz
    generalize hGe : grownCap w n 0 22 = G at *
    have HM := Lib.hid hm
    have hG3 : G ≤ 9223372036854775807 := by unfold maxLen at hG2; omega
    have HGE := Lib.hid hGe
    have HI := Lib.hid hi
    have HZ := Lib.hid hz
    have HS := Lib.hid hs
    have HB := Lib.hid hb
    have HG2 := Lib.hid hG2
    clear hGe hi hz hs hb hG2
    clear hm hbb
    have hgt : (n : Int) > 0 := by omega
    have hlt : ¬ ((n : Int) < 0) := by omega
    go_enter Tryz.func83, Tryz.ntmps83
    go_wp2_with (at_builtin; refine Lib.wpList_append_run _ rfl _ _ _ _ rfl _ _ rfl rfl _ _ (hrz _) ?_)
    all_goals
      go_ret
      refine ⟨_, G, rfl, own_empty (Nat.le_refl _) (heap_alloc_new _ _) HG2.out ?_, ((Keeps.refl [] w).drew).alloc _⟩
      simp [Builtin.zeroCells]
      try omega

abbrev IsIII : Rp (List (List (List Int))) := IsL IsII []
theorem flat_take {α : Type} (xss : List (List α)) {i : Nat} (hi : i < xss.length) : (xss.take (i + 1)).flatten = (xss.take i).flatten ++ xss.getD i [] := by
  rw [List.take_succ_eq_append_getElem hi, List.flatten_append]
  simp [List.getD_eq_getElem?_getD, hi]
theorem flat_take_le {α : Type} (xss : List (List α)) (i : Nat) : (xss.take i).flatten.length ≤ xss.flatten.length := by
  have h : xss.flatten = (xss.take i).flatten ++ (xss.drop i).flatten := by rw [← List.flatten_append, List.take_append_drop]
  rw [h, List.length_append]; omega

set_option maxHeartbeats 2000000 in
theorem concat_is {w : World} {l : List Nat} {v : Value} {xss : List (List (List Int))} (h : IsIII w l v xss) (hn : xss.length ≤ 1000000) (hs : xss.flatten.length ≤ 1000000) :
    Calls Tryz.prog 50 #[v] w (RetO IsI [] 22 l xss.flatten w) := by
  unfold RetO
  obtain ⟨A, c, V, rfl, _, _, hc, hv⟩ := h
  generalize hnn : xss.length = n at *
  generalize htot : xss.flatten.length = tot at *
  have HC := Lib.hid hc
  have HV := Lib.hid hv
  have HNN := Lib.hid hnn
  have HTOT := Lib.hid htot
  clear hc hv hnn htot
  go_enter Tryz.func50, Tryz.ntmps50
  go_wp2_with fail
  go_loopg [3, 5, 11] (n + 1) (fun gh sv _ iv wr => ∃ i k : Nat, n + 1 ≤ i + gh ∧ i ≤ n ∧ iv = .int .i64 (i : Int) ∧ sv = .int .i64 (k : Int) ∧ k ≤ tot ∧ k = (xss.take i).flatten.length ∧ w = wr)
  case atStart => exact ⟨0, 0, by omega, by omega, rfl, rfl, by omega, by simp, rfl⟩
  case round =>
    obtain ⟨i, k, hgh, hi, rfl, rfl, hk, hke, rfl⟩ := hrel
    have HKE := Lib.hid hke
    clear hke
    by_cases hlt : i < n
    · obtain ⟨a, rfl, ha⟩ := HC.out.at_ hlt
      obtain ⟨Ai, ci, Ui, hvi, _⟩ := (show IsII w l (V i) (xss.getD i []) from HV.out i hlt)
      have hfl := flat_take xss (i := i) (by rw [HNN.out]; exact hlt)
      have hle := flat_take_le xss (i + 1)
      have hlen : k + (xss.getD i []).length ≤ tot := by
        rw [hfl, List.length_append, HTOT.out, ← HKE.out] at hle; exact hle
      rw [hvi] at ha
      generalize hm : (xss.getD i []).length = m at *
      have HFL := Lib.hid hfl
      have HM := Lib.hid hm
      clear hfl hm
      clear hvi hle
      go_wp2_with fail
      go_roundg (n - i)
      case measure => omega
      case rel => exact ⟨i + 1, k + m, by omega, by omega, by go_num, by go_num, hlen, by rw [HFL.out, List.length_append, ← HKE.out, HM.out], rfl⟩
    · obtain rfl : i = n := by omega
      have hkt : k = tot := by rw [HKE.out, ← HTOT.out, ← HNN.out, List.take_length]
      subst hkt
      clear hlt
      go_wp2_with fail
      refine (grow_rows w k (by omega)).mono ?_
      rintro e w1 ⟨A1, c1, rfl, hown, hk1⟩
      have hO : OwL IsI [] 22 w.heap.size w1 l (.slice A1 0 c1) [] := ⟨[], rfl, hown, fun i hi => absurd hi (by simp)⟩
      have HO := Lib.hid hO
      have HK1 := Lib.hid hk1
      clear hO hk1
      clear hown
      go_wp2_with fail
      go_loopg [6, 8, 27] (i + 1) (fun gh sv _ jv wr => ∃ (j : Nat) (A' : Option Addr) (c' : Nat) (ys : List (List Int)), i + 1 ≤ j + gh ∧ j ≤ i ∧ jv = .int .i64 (j : Int) ∧ sv = .slice A' ys.length c' ∧ ys = (xss.take j).flatten ∧ OwL IsI [] 22 w.heap.size wr l (.slice A' ys.length c') ys ∧ Keeps [] w wr)
      case atStart => exact ⟨0, A1, c1, [], by omega, by omega, rfl, rfl, by simp, HO.out, HK1.out⟩
      case round =>
        obtain ⟨j, A', c', ys, hgh', hj, rfl, rfl, hys, hO, hkr⟩ := hrel
        have hyl : ys.length ≤ k := by rw [hys, ← HTOT.out]; exact flat_take_le _ _
        generalize hyn : ys.length = yn at *
        have HYS := Lib.hid hys
        have HO := Lib.hid hO
        have HKR := Lib.hid hkr
        have HYN := Lib.hid hyn
        clear hys hO hkr hyn
        by_cases hlt : j < i
        · obtain ⟨a, rfl, ha⟩ := (HC.out.keeps (HKR.out.nil l)).at_ hlt
          have hx0 : IsII w l (V j) (xss.getD j []) := HV.out j hlt
          have hx0' := hx0
          obtain ⟨Aj, cj, Uj, hvj, _⟩ := hx0'
          have hfl := flat_take xss (i := j) (by rw [HNN.out]; exact hlt)
          have hle := flat_take_le xss (j + 1)
          have hlen : yn + (xss.getD j []).length ≤ k := by
            rw [hfl, List.length_append, HTOT.out, ← HYS.out, HYN.out] at hle; exact hle
          rw [hvj] at ha hx0
          have hx : IsL IsI [] wr ((Value.slice A' yn c').ownBlock.toList ++ l) (.slice Aj (xss.getD j []).length cj) (xss.getD j []) := HO.out.putw hx0 HKR.out (Nat.le_refl _)
          have hz := HKR.out.size
          generalize xss.getD j [] = x at *
          generalize hm : x.length = m at *
          have HFL := Lib.hid hfl
          have HM := Lib.hid hm
          have HX := Lib.hid hx
          clear hfl hm hx
          clear hvj hle hx0
          go_wp2_with (at_builtin; refine wpList_join sl_rowsi rfl _ _ rfl rfl rfl HO.out HX.out (m := yn + m) (by rw [HYN.out, HM.out]) (by omega) hz (w0 := w) (l0 := []) (Nat.le_refl _) HKR.out ?_; intro V' c'' w3 hown hkk hk3)
          have hl : (ys ++ x).length = yn + m := by rw [List.length_append, HYN.out, HM.out]
          have HL := Lib.hid hl
          clear hl
          go_roundg (i - j)
          case measure => omega
          case rel => exact ⟨j + 1, V', c'', ys ++ x, by omega, by omega, by go_num, by rw [HL.out], by rw [HFL.out, ← HYS.out], by rw [HL.out]; exact hown, hk3⟩
        · obtain rfl : j = i := by omega
          go_wp2_with fail
          go_ret
          have hys2 : ys = xss.flatten := by rw [HYS.out, ← HNN.out, List.take_length]
          subst hys2
          have hkn : yn = k := by rw [← HYN.out, HTOT.out]
          subst hkn
          exact ⟨A', c', rfl, HO.out, HKR.out⟩

/-- Concat of two slices that lie in a new pair of cells. -/
def CatPost (l : List Nat) (xs : List (List Int)) (W : World) (e : Ending) (w' : World) : Prop := ∃ A n c, n = xs.length ∧ e = .returned (.slice A n c) ∧ OwL IsI [] 22 W.heap.size w' l (.slice A n c) xs ∧ Keeps [] W w'
theorem concat2_is {W : World} {l : List Nat} {u1 u2 : Value} {a b : List (List Int)} {ty : TypeId} (hl : ∀ x ∈ l, x < W.heap.size) (h1 : IsII W l u1 a) (h2 : IsII W l u2 b) (hn : a.length ≤ 100000) (hm : b.length ≤ 100000) :
    Calls Tryz.prog 50 #[.slice (some ⟨W.heap.size, 0, none⟩) 2 2] (W.alloc (.cells #[u1, u2] ty)) (CatPost l (a ++ b) W) := by
  have hp : IsIII (W.alloc (.cells #[u1, u2] ty)) l (.slice (some ⟨W.heap.size, 0, none⟩) 2 2) [a, b] := isL_new (xs := [a, b]) hl rfl fun i hi => by
    have : i = 0 ∨ i = 1 := by simp at hi; omega
    rcases this with rfl | rfl
    · exact h1
    · exact h2
  have hfl : [a, b].flatten = a ++ b := by simp
  have hc := concat_is hp (by simp) (by rw [hfl, List.length_append]; omega)
  rw [hfl] at hc
  refine hc.mono ?_
  rintro e w' ⟨A, c, rfl, hO, hk⟩
  exact ⟨A, _, c, rfl, rfl, hO.low (by simp), ((Keeps.refl [] W).alloc _).trans hk⟩
end Go.Proofs.YtnmkinaokjekjaaGreat
