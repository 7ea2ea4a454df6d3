/- The walks of the reference's fixed and Match. -/
import Derived.Test.YtpnkaicbcbimaaaRef
import Derived.Test.YtpnkaicbcbimaaaFix
import Derived.Test.YtpnkaicbcbimaaaGrid
namespace Go.Proofs.Ytpnkaicbcbimaaa
set_option linter.unusedVariables false
open Go.RowKit Kuhn

theorem slice_blk {w : World} {base n c : Nat} {e : TypeId} {A : Option Addr} {xs : List Value} (h : w.ownsRow base e 1 (.slice A n c) n xs) (hn : 0 < n) : ∃ G, A = some ⟨G, 0, none⟩ := by
  obtain ⟨g, _, h0, _⟩ := own_of_own h undef
  exact ⟨g, (h0 hn).1⟩

theorem Sat.congr {E E' : Nat → Nat → Bool} {m lo hi : Nat} {used : Nat → Bool} (he : ∀ r c, r < hi → c < m → E r c = E' r c) (h : Sat E m used lo hi) : Sat E' m used lo hi := by
  obtain ⟨M, ⟨a, b, d⟩, hl⟩ := h
  refine ⟨M, ⟨a, b, fun p hp => ?_⟩, hl⟩
  obtain ⟨c1, c2, c3, c4, c5⟩ := d p hp
  exact ⟨c1, c2, c3, by rw [← he _ _ c2 c3]; exact c4, c5⟩

def FixedPost (n m row col : Nat) (F : Nat → Nat → Bool) (w : World) (e : Ending) (w' : World) : Prop :=
  ∃ (R : Nat → Option Addr) (C : Nat → Nat) (F' : Nat → Nat → Bool), e = .returned (.slice (some ⟨w.heap.size, 0, none⟩) n n) ∧ Grid w' (w.heap.size + 1) w.heap.size n R (fun _ => m) C F' ∧
    (∀ r q, r < n → q < m → F' r q = (F r q && (decide (r = row) == decide (q = col)))) ∧ Below w.heap.size w w'

set_option maxHeartbeats 2000000 in
theorem fixed_any (w : World) (n m row col c B : Nat) (A : Option Addr) (F : Nat → Nat → Bool) (hT : Tab w B A n m F) (hB : B ≤ w.heap.size) (hn : n ≤ 1000) (hm : m ≤ 1000) (hrow : row < n) (hcol : col < m) :
    Calls Try.prog 29 #[.slice A n c, .int .i64 (row : Int), .int .i64 (col : Int)] w (FixedPost n m row col F w) := by
  obtain ⟨a, rfl, hab⟩ : ∃ a, A = some a ∧ a.block < B := by
    obtain ⟨R0, C0, hR0, _⟩ := hT
    obtain ⟨a, h1, h2, _⟩ := hR0.at_ hrow
    exact ⟨a, h1, h2⟩
  obtain ⟨Rt, Ct, hRt, hEt⟩ := hT
  have HRt := Lib.hid hRt
  have HEt := Lib.hid hEt
  clear hRt hEt
  have hmk := run_make_n sl_rowsb n (by omega)
  go_enter Try.func29, Try.ntmps29
  go_wp2_with fail
  have hG0 := Lib.hid (Grid.start w n)
  have hBl0 : Below w.heap.size w (w.alloc (.cells (madeCells (Value.slice none 0 0).cells n) 26)) := (Below.refl _ _).alloc (Nat.le_refl _) _
  clear hmk
  go_loopg [8] (n + 1) (fun gh iv wr => ∃ (i : Nat) (R : Nat → Option Addr) (ln C : Nat → Nat) (F' : Nat → Nat → Bool), n + 1 ≤ i + gh ∧ i ≤ n ∧ iv = .int .i64 (i : Int) ∧
    Grid wr (w.heap.size + 1) w.heap.size n R ln C F' ∧ (∀ r, r < i → ln r = m ∧ ∀ q, q < m → F' r q = (F r q && (decide (r = row) == decide (q = col)))) ∧ Below w.heap.size w wr)
  case atStart => exact ⟨0, _, _, _, _, by omega, by omega, rfl, hG0.out, fun q hq => by omega, hBl0⟩
  case round =>
    obtain ⟨i, R, ln, C, F', hgi, hi, rfl, hG, hF, hbl⟩ := hrel
    have HG := Lib.hid hG
    have HF := Lib.hid hF
    have HBl := Lib.hid hbl
    have hzr := hbl.size
    clear hG hF hbl hG0 hBl0
    by_cases hlti : i < n
    · obtain ⟨a2, ha2, _, hrc⟩ := (HRt.out.below (HBl.out.mono hB)).at_ hlti
      obtain rfl : a = a2 := by injection ha2
      clear ha2
      have hsrc : Hid (Rd wr B (Rt i) m (fun j => ((List.range m).map fun j => Value.bool (F i j)).getD j undef)) := ((HEt.out i hlti).below (HBl.out.mono hB)).congr fun j hj => (getD_map_range m (fun j => Value.bool (F i j)) undef hj).symm
      have HT1 : Hid (wr.cell? ⟨w.heap.size, i, none⟩ = some (.slice (R i) (ln i) (C i))) := (HG.out.top i hlti).1
      have HT2 : Hid (wr.frozen? ⟨w.heap.size, i, none⟩ = false) := (HG.out.top i hlti).2
      have HIn := Lib.hid HG.out.inn
      go_wp2_with (at_builtin; refine wpList_app _ sl_bool rfl _ _ rfl (w.heap.size + 1) none 0 0 [] rfl (World.ownsRow_nil _ _ _ _) B (Rt i) m (Ct i) ((List.range m).map fun j => .bool (F i j)) rfl (by simp) hsrc.out (bools_one m (F i)) (by omega) HIn.out ?_; intro V' c' w3 ho3 hg3 hat3; have hs1 := (Keeps.of_grown hg3).read HT1.out (by simp [Value.ownBlock]); have hs2 := ((Keeps.of_grown hg3).frozen (p := ⟨w.heap.size, i, none⟩) (lt_of_cell HT1.out) (by simp [Value.ownBlock])).trans HT2.out)
      simp only [Nat.zero_add, List.nil_append] at ho3 hat3
      have hk3 : Keeps [] wr w3 := Keeps.of_grown hg3
      have hG4 := HG.out.put hlti (Keeps.refl _ _) ho3 hk3 (fun y hy => by
        rcases hat3 with h | h
        · rw [h] at hy; cases hy
        · rw [h] at hy; injection hy with hy; omega)
      have hB4 : Below w.heap.size w (w3.setCell ⟨w.heap.size, i, none⟩ (.slice V' m c')) := Below.setCell (HBl.out.grown hg3 hzr (fun y hy => by cases hy)) (by simp) _
      have HG4 := Lib.hid hG4
      have HB4 := Lib.hid hB4
      clear hG4 hB4 ho3 hg3 hat3 hs1 hs2 hk3 hrc
      generalize w3.setCell ⟨w.heap.size, i, none⟩ (.slice V' m c') = w4 at *
      have hF4 : Hid (∀ r, r < i → upd ln i m r = m ∧ ∀ q, q < m → upd F' i (F i) r q = (F r q && (decide (r = row) == decide (q = col)))) := fun r hr => by
        rw [upd_ne _ _ (by omega), upd_ne _ _ (by omega)]; exact HF.out r hr
      have hFi : Hid (∀ q, q < m → upd F' i (F i) i q = F i q) := fun q _ => by rw [upd_same]
      have hlni : Hid (upd ln i m i = m) := upd_same _ _ _
      generalize upd R i V' = R2 at *
      generalize upd ln i m = ln2 at *
      generalize upd C i c' = C2 at *
      generalize upd F' i (F i) = F2 at *
      go_loopg [9] (m + 1) (fun gh jv wr => ∃ (j : Nat) (F2 : Nat → Nat → Bool), m + 1 ≤ j + gh ∧ j ≤ m ∧ jv = .int .i64 (j : Int) ∧ Grid wr (w.heap.size + 1) w.heap.size n R2 ln2 C2 F2 ∧
        (∀ r, r < i → ln2 r = m ∧ ∀ q, q < m → F2 r q = (F r q && (decide (r = row) == decide (q = col)))) ∧ (∀ q, q < m → F2 i q = if q < j then (F i q && (decide (i = row) == decide (q = col))) else F i q) ∧ Below w.heap.size w wr)
      case atStart => exact ⟨0, F2, by omega, by omega, rfl, HG4.out, hF4.out, fun q hq => by rw [if_neg (by omega)]; exact hFi.out q hq, HB4.out⟩
      case round =>
        obtain ⟨j, F3, hgj, hj, rfl, hG, hF3, hFi3, hbl⟩ := hrel
        have HG3 := Lib.hid hG
        have HF3 := Lib.hid hF3
        have HFi3 := Lib.hid hFi3
        have HB3 := Lib.hid hbl
        have hzr3 := hbl.size
        clear hG hF3 hFi3 hbl HG4 hF4 hFi HB4
        obtain ⟨a2, ha2, _, hrc⟩ := (HRt.out.below (HB3.out.mono hB)).at_ hlti
        obtain rfl : a = a2 := by injection ha2
        clear ha2
        by_cases hltj : j < m
        · have hrow0 := HG3.out.row i hlti
          rw [hlni.out] at hrow0
          obtain ⟨G, hGR⟩ := slice_blk hrow0 (by omega)
          have htop : wr.cell? ⟨w.heap.size, i, none⟩ = some (.slice (some ⟨G, 0, none⟩) m (C2 i)) := by
            have : wr.cell? ⟨w.heap.size, i, none⟩ = some (.slice (R2 i) (ln2 i) (C2 i)) := (HG3.out.top i hlti).1
            rw [hGR, hlni.out] at this; exact this
          rw [hGR] at hrow0
          have hcl : wr.cell? ⟨G, j, none⟩ = some (.bool (F3 i j)) := by rw [hrow0.cellAt j (by omega)]; simp [hltj]
          have hfz := hrow0.frozenAt j
          have HGR := Lib.hid hGR
          have HS : Hid (Grid (wr.setCell ⟨G, j, none⟩ (.bool false)) (w.heap.size + 1) w.heap.size n R2 ln2 C2 (upd F3 i (upd (F3 i) j false))) := HG3.out.set_ (x := false) hlti hGR (by rw [hlni.out]; exact hltj)
          have hGb : w.heap.size ≤ G := by have := (own_base hrow0 (x := G) rfl).1; omega
          clear hrow0 hGR
          by_cases e1 : i = row
          · have t1 : ((i : Int) == (row : Int)) = true := by rw [beq_iff_eq]; omega
            have HE1 := Lib.hid e1
            clear e1
            by_cases e2 : j = col
            · have t2 : ((j : Int) == (col : Int)) = true := by rw [beq_iff_eq]; omega
              have HE2 := Lib.hid e2
              clear e2
              go_wp2_with fail
              go_roundg (m - j)
              case measure => omega
              case rel =>
                refine ⟨j + 1, F3, by omega, by omega, by go_num, HG3.out, HF3.out, fun q hq => ?_, HB3.out⟩
                rw [HFi3.out q hq]
                by_cases e : q = j
                · subst e; rw [if_neg (by omega), if_pos (by omega)]; simp [HE1.out, HE2.out]
                · by_cases e' : q < j
                  · rw [if_pos e', if_pos (by omega)]
                  · rw [if_neg e', if_neg (by omega)]
            · have t2 : ((j : Int) == (col : Int)) = false := by rw [beq_eq_false_iff_ne]; omega
              have HE2 := Lib.hid e2
              clear e2
              go_wp2_with fail
              go_roundg (m - j)
              case measure => omega
              case rel =>
                refine ⟨j + 1, _, by omega, by omega, by go_num, HS.out, fun r hr => ?_, fun q hq => ?_, HB3.out.setCell hGb _⟩
                · rw [upd_ne _ _ (by omega)]; exact HF3.out r hr
                · rw [upd_same]
                  by_cases e : q = j
                  · subst e; rw [upd_same, if_pos (by omega)]; simp [HE1.out, HE2.out]
                  · rw [upd_ne _ _ e, HFi3.out q hq]
                    by_cases e' : q < j
                    · rw [if_pos e', if_pos (by omega)]
                    · rw [if_neg e', if_neg (by omega)]
          · have t1 : ((i : Int) == (row : Int)) = false := by rw [beq_eq_false_iff_ne]; omega
            have HE1 := Lib.hid e1
            clear e1
            by_cases e2 : j = col
            · have t2 : ((j : Int) == (col : Int)) = true := by rw [beq_iff_eq]; omega
              have HE2 := Lib.hid e2
              clear e2
              go_wp2_with fail
              go_roundg (m - j)
              case measure => omega
              case rel =>
                refine ⟨j + 1, _, by omega, by omega, by go_num, HS.out, fun r hr => ?_, fun q hq => ?_, HB3.out.setCell hGb _⟩
                · rw [upd_ne _ _ (by omega)]; exact HF3.out r hr
                · rw [upd_same]
                  by_cases e : q = j
                  · subst e; rw [upd_same, if_pos (by omega)]; simp [HE1.out, HE2.out]
                  · rw [upd_ne _ _ e, HFi3.out q hq]
                    by_cases e' : q < j
                    · rw [if_pos e', if_pos (by omega)]
                    · rw [if_neg e', if_neg (by omega)]
            · have t2 : ((j : Int) == (col : Int)) = false := by rw [beq_eq_false_iff_ne]; omega
              have HE2 := Lib.hid e2
              clear e2
              go_wp2_with fail
              go_roundg (m - j)
              case measure => omega
              case rel =>
                refine ⟨j + 1, F3, by omega, by omega, by go_num, HG3.out, HF3.out, fun q hq => ?_, HB3.out⟩
                rw [HFi3.out q hq]
                by_cases e : q = j
                · subst e; rw [if_neg (by omega), if_pos (by omega)]; simp [HE1.out, HE2.out]
                · by_cases e' : q < j
                  · rw [if_pos e', if_pos (by omega)]
                  · rw [if_neg e', if_neg (by omega)]
        · obtain rfl : j = m := by omega
          go_wp2_with fail
          go_roundg (n - i)
          case measure => omega
          case rel =>
            refine ⟨i + 1, R2, ln2, C2, F3, by omega, by omega, by go_num, HG3.out, fun r hr => ?_, HB3.out⟩
            by_cases e : r = i
            · subst e
              exact ⟨hlni.out, fun q hq => by rw [HFi3.out q hq, if_pos hq]⟩
            · exact HF3.out r (by omega)
    · obtain rfl : i = n := by omega
      go_wp2_with fail
      go_ret
      exact ⟨R, C, F', rfl, HG.out.congr fun q hq => (HF.out q hq).1, fun r q hr hq => (HF.out r hr).2 q hq, HBl.out⟩
end Go.Proofs.Ytpnkaicbcbimaaa
