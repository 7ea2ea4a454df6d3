/- The walk of the reference's headed. -/
import Derived.Test.YtfhommegkogahaaMerged2
namespace Go.Proofs.Ytfhommegkogahaa
set_option linter.unusedVariables false
open Go.RowKit

set_option maxRecDepth 100000 in
set_option maxHeartbeats 4000000 in
theorem headed_is {w : World} {l : List Nat} {lv : Value} {ys : List (List Int)} {x : Int} (hl : ∀ y ∈ l, y < w.heap.size) (h : IsII w l lv ys) (hn : ys.length ≤ 1000000) (hx : ∀ y ∈ ys, y.length ≤ 1000) :
    Calls Try.prog 58 #[.int .i64 x, lv] w (MrgPost l (ys.map (x :: ·)) w) := by
  unfold MrgPost
  obtain ⟨A, c, U, rfl, _, _, hyc, hyr⟩ := h
  generalize hnn : ys.length = n at *
  have HYC := Lib.hid hyc
  have HYR := Lib.hid hyr
  have HX := Lib.hid hx
  have HL := Lib.hid hl
  have HNN := Lib.hid hnn
  clear hyc hyr hx hl hnn
  go_enter Try.func58, Try.ntmps58
  go_wp2_with fail
  go_loopg [5, 6] (n + 1) (fun gh sv jv wr => ∃ (j : Nat) (V4 : Option Addr) (c4 : Nat), n + 1 ≤ j + gh ∧ j ≤ n ∧ jv = .int .i64 (j : Int) ∧ sv = .slice V4 j c4 ∧ OwL IsI [] 22 w.heap.size wr l (.slice V4 j c4) ((ys.take j).map (x :: ·)) ∧ Keeps [] w wr)
  case atStart => exact ⟨0, none, 0, by omega, by omega, rfl, rfl, by simpa using OwL.nil, Keeps.refl _ _⟩
  case round =>
    obtain ⟨j, V4, c4, hgh4, hj, rfl, rfl, hO4, hk4⟩ := hrel
    have hz4 := hk4.size
    have HO4 := Lib.hid hO4
    have HK4 := Lib.hid hk4
    clear hO4 hk4
    by_cases hltj : j < n
    · obtain ⟨p3, rfl, hp3⟩ := (HYC.out.keeps (HK4.out.nil l)).at_ hltj
      have hrow3 : IsI w l (U j) (ys.getD j []) := HYR.out j hltj
      have hzl := HX.out _ (getD_mem (d := []) (show j < ys.length by rw [HNN.out]; exact hltj))
      have hrow : IsI wr ((Value.slice V4 j c4).ownBlock.toList ++ l) (U j) (ys.getD j []) := Rok.keeps (Rok.weak hrow3 fun y hy => by
        rcases List.mem_append.1 hy with h | h
        · exact .inr (HO4.out.blocks y h).1
        · exact .inl h) (HK4.out.nil _)
      have htk : (ys.take (j + 1)).map (x :: ·) = (ys.take j).map (x :: ·) ++ [x :: ys.getD j []] := by
        have hjz : j < ys.length := by rw [HNN.out]; exact hltj
        rw [List.take_succ_eq_append_getElem hjz, List.map_append]
        congr 1
        simp [List.getD_eq_getElem?_getD, hjz]
      have hlen4 : ((ys.take j).map (x :: ·)).length = j := by
        rw [List.length_map, List.length_take, HNN.out]; omega
      have hbl4 : ∀ y ∈ (Value.slice V4 j c4).ownBlock.toList ++ l, y < wr.heap.size := HO4.out.putb fun y hy => Nat.lt_of_lt_of_le (HL.out y hy) hz4
      obtain ⟨Ur, cr, hUr, _⟩ := hrow.open
      rw [hUr] at hp3 hrow
      generalize ys.getD j [] = z at *
      generalize hzm : z.length = m at *
      have hp3a : (wr.alloc (.cells #[.int .i64 x] 3)).cell? (p3.add j) = some (.slice Ur m cr) := ((Keeps.refl [] wr).alloc _).read hp3 (by simp)
      have hown1 : OwL IsN 0 3 wr.heap.size (wr.alloc (.cells #[.int .i64 x] 3)) ((Value.slice V4 j c4).ownBlock.toList ++ l) (.slice (some ⟨wr.heap.size, 0, none⟩) 1 1) [x] := OwL.made1 rfl
      have hu1 : IsL IsN 0 (wr.alloc (.cells #[.int .i64 x] 3)) ((Value.slice (some ⟨wr.heap.size, 0, none⟩) 1 1).ownBlock.toList ++ ((Value.slice V4 j c4).ownBlock.toList ++ l)) (.slice Ur m cr) z := Rok.keeps (R := IsL IsN 0) (Rok.weak (R := IsL IsN 0) hrow fun y hy => by
        rcases List.mem_append.1 hy with h | h
        · have : y = wr.heap.size := by simpa [Value.ownBlock] using h
          exact .inr (by omega)
        · exact .inl h) (((Keeps.refl [] wr).alloc _).nil _)
      have HROW := Lib.hid hrow
      have HTK := Lib.hid htk
      have HLEN4 := Lib.hid hlen4
      have HBL4 := Lib.hid hbl4
      have HZM := Lib.hid hzm
      have HOWN1 := Lib.hid hown1
      have HU1 := Lib.hid hu1
      clear hrow htk hlen4 hbl4 hzm hown1 hu1
      clear hUr hrow3
      go_wp2_with (first
        | (have _t := hcp; at_builtin; refine wpList_pushg sl_rowsi rfl _ _ rfl (w := w5) (y := x :: z) rfl rfl hO5 hcp (m := j + 1) (by rw [HLEN4.out]) (by omega) hb5 ?_; intro V6 c6 w6 hown6 hg6 hb6)
        | (at_builtin; refine wpList_join sl_int rfl _ _ rfl rfl rfl HOWN1.out HU1.out (m := 1 + m) (by rw [HZM.out]; rfl) (by omega) (by simp) (w0 := wr) (l0 := []) (Nat.le_refl _) ((Keeps.refl _ _).alloc _) ?_; intro V5 c5 w5 hown5 hkk5 hk5; have hcp : IsI w5 ((Value.slice V4 j c4).ownBlock.toList ++ l) (.slice V5 (1 + m) c5) (x :: z) := hown5.isL HBL4.out; have hO5 := HO4.out.new hk5; have hb5 := Nat.le_trans hz4 hk5.size))
      have g1 := (HK4.out.trans hk5).step hg6 fun y hy => .inr (HO4.out.blocks y hy).1
      go_roundg (n - j)
      case measure => omega
      case rel => exact ⟨j + 1, V6, c6, by omega, by omega, by go_num, rfl, by rw [HTK.out]; exact hown6, g1⟩
    · obtain rfl : j = n := by omega
      have hO5 := HO4.out
      rw [show ys.take j = ys by rw [← HNN.out, List.take_length]] at hO5
      have HO5 := Lib.hid hO5
      clear hO5
      go_wp2_with fail
      go_ret
      exact ⟨V4, j, c4, by rw [List.length_map, HNN.out], rfl, HO5.out, HK4.out⟩
end Go.Proofs.Ytfhommegkogahaa
