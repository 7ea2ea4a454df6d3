/- The walk of the reference's Match. -/
import Derived.Test.YtpnkaicbcbimaaaFixed
namespace Go.Proofs.Ytpnkaicbcbimaaa
set_option linter.unusedVariables false
open Go.RowKit Kuhn

def RMatchPost (E : Nat → Nat → Bool) (m n : Nat) (w : World) (e : Ending) (w' : World) : Prop :=
  (∃ (A : Option Addr) (c : Nat) (g : Nat → Nat), e = .returned (.tuple #[.slice A n c, .bool true]) ∧ (∀ i, i < n → Pick E m n g i) ∧ w'.ownsRow w.heap.size 3 1 (.slice A n c) n ((List.range n).map fun r => .int .i64 (g r)) ∧ Below w.heap.size w w') ∨
  (e = .returned (.tuple #[.slice none 0 0, .bool false]) ∧ ¬ Sat E m (fun _ => false) 0 n ∧ Below w.heap.size w w')

set_option maxHeartbeats 400000 in
theorem rmatch_no (w : World) (B n tc : Nat) (L : Nat → Nat) (A : Option Addr) (E : Nat → Nat → Bool) (hT : TabG w B A n L E) (hn : n ≤ 1000000000) (hL : ∀ i, i < n → L i ≤ 1000000000) (hv : vld n L = false) :
    Calls Try.prog 14 #[.slice A n tc] w fun e w' => e = .returned (.tuple #[.slice none 0 0, .bool false]) ∧ Below w.heap.size w w' := by
  have HT := Lib.hid hT
  have HV := Lib.hid hv
  have HL := Lib.hid hL
  clear hT hv hL
  go_enter Try.func14, Try.ntmps14
  go_wp2_with fail
  refine (rvalid_any w B n tc L A E HT.out hn HL.out).mono ?_
  rintro e w' ⟨rfl, q, rfl⟩
  rw [HV.out]
  go_wp2_with fail
  go_ret2
  exact ⟨rfl, below_drewN (Below.refl _ w) q⟩

theorem getD_map_int {n : Nat} (g : Nat → Nat) : ∀ u ∈ (List.range n).map (fun r => Value.int .i64 (g r : Int)), u.oneCell' = true := by
  intro u hu
  obtain ⟨c, _, rfl⟩ := List.mem_map.1 hu
  rfl

set_option maxHeartbeats 4000000 in
theorem rmatch_yes (w : World) (B n tc : Nat) (L : Nat → Nat) (A : Option Addr) (E : Nat → Nat → Bool) (hT : TabG w B A n L E) (hB : B ≤ w.heap.size) (hv : vld n L = true) :
    Calls Try.prog 14 #[.slice A n tc] w (RMatchPost E (colsOf n L) n w) := by
  obtain ⟨hn, hL⟩ := of_vld hv
  have hm := cols_le hv
  have HT' := Lib.hid (tab_of_vld hT hv)
  have HT := Lib.hid hT
  have HV := Lib.hid hv
  have HL := Lib.hid hL
  have H0 : Hid (n = 0 → colsOf n L = 0) := fun h => if_pos h
  clear hT hv hL
  generalize colsOf n L = m at *
  have hmk := run_make_n sl_rowsb n (by omega)
  go_enter Try.func14, Try.ntmps14
  go_wp2_with fail
  refine (rvalid_any w B n tc L A E HT.out (by omega) (fun i hi => by have := HL.out i hi; omega)).mono ?_
  rintro e w' ⟨rfl, q, rfl⟩
  rw [HV.out]
  go_wp2_with fail
  refine (rmost_any (w.drewN q) E n m B tc A (TabG.drewN HT'.out q) hB (by omega) (by omega) H0.out).mono ?_
  rintro e w1 ⟨k, rfl, hk, hb1'⟩
  have hb1 : Below w.heap.size w w1 := (below_drewN (Below.refl _ w) q).trans hb1'
  have hz1 := hb1.size
  have HSat := Lib.hid hk.sat
  have hkn := hk.le
  clear hk hb1'
  by_cases hfull : k = n
  · have hsat0 := HSat.out.1 (by omega)
    have HS0 := Lib.hid hsat0
    have hkn' : ¬ k < n := by omega
    have HF := Lib.hid hfull
    clear hfull hsat0
    go_wp2_with fail
    have hG0 := Lib.hid (Grid.start w1 n)
    have hBl0 : Below w.heap.size w (w1.alloc (.cells (madeCells (Value.slice none 0 0).cells n) 26)) := hb1.alloc hz1 _
    clear hmk
    go_loopg [5] (n + 1) (fun gh iv wr => ∃ (i : Nat) (R : Nat → Option Addr) (ln C : Nat → Nat) (F' : Nat → Nat → Bool), n + 1 ≤ i + gh ∧ i ≤ n ∧ iv = .int .i64 (i : Int) ∧
      Grid wr (w1.heap.size + 1) w1.heap.size n R ln C F' ∧ (∀ r, r < i → ln r = m ∧ ∀ q, q < m → F' r q = E r q) ∧ Below w.heap.size w wr)
    case atStart => exact ⟨0, _, _, _, _, by omega, by omega, rfl, hG0.out, fun q hq => by omega, hBl0⟩
    case round =>
      obtain ⟨i, R, ln, C, F', hgi, hi, rfl, hG, hF, hbl⟩ := hrel
      have HG := Lib.hid hG
      have HFe := Lib.hid hF
      have HBl := Lib.hid hbl
      have hzr := hbl.size
      clear hG hF hbl hG0 hBl0
      by_cases hlti : i < n
      · obtain ⟨Rt, Ct, hRt, hEt⟩ := HT'.out
        obtain ⟨a, rfl, _, hrc⟩ := (hRt.below (HBl.out.mono hB)).at_ hlti
        have hEi := (hEt i hlti).below (HBl.out.mono hB)
        clear hRt hEt
        generalize Rt i = Ri at *
        generalize Ct i = Ci at *
        clear Rt Ct
        have hsrc : Hid (Rd wr B Ri m (fun j => ((List.range m).map fun j => Value.bool (E i j)).getD j undef)) := hEi.congr fun j hj => (getD_map_range m (fun j => Value.bool (E i j)) undef hj).symm
        have HT1 : Hid (wr.cell? ⟨w1.heap.size, i, none⟩ = some (.slice (R i) (ln i) (C i))) := (HG.out.top i hlti).1
        have HT2 : Hid (wr.frozen? ⟨w1.heap.size, i, none⟩ = false) := (HG.out.top i hlti).2
        have HIn := Lib.hid HG.out.inn
        clear hEi
        go_wp2_with (at_builtin; refine wpList_app _ sl_bool rfl _ _ rfl (w1.heap.size + 1) none 0 0 [] rfl (World.ownsRow_nil _ _ _ _) B Ri m Ci ((List.range m).map fun j => .bool (E i j)) rfl (by simp) hsrc.out (bools_one m (E i)) (by omega) HIn.out ?_; intro V' c' w3 ho3 hg3 hat3; have hs1 := (Keeps.of_grown hg3).read HT1.out (by simp [Value.ownBlock]); have hs2 := ((Keeps.of_grown hg3).frozen (p := ⟨w1.heap.size, i, none⟩) (lt_of_cell HT1.out) (by simp [Value.ownBlock])).trans HT2.out)
        go_roundg (n - i)
        case measure => omega
        case rel =>
          simp only [Nat.zero_add, List.nil_append] at ho3 hat3
          have hk3 : Keeps [] wr w3 := Keeps.of_grown hg3
          refine ⟨i + 1, upd R i V', upd ln i m, upd C i c', upd F' i (E i), by omega, by omega, by go_num, HG.out.put hlti (Keeps.refl _ _) ho3 hk3 (fun y hy => ?_), fun q hq => ?_, ?_⟩
          · rcases hat3 with h | h
            · rw [h] at hy; cases hy
            · rw [h] at hy; injection hy with hy; omega
          · by_cases e : q = i
            · subst e; rw [upd_same, upd_same]; exact ⟨rfl, fun _ _ => rfl⟩
            · rw [upd_ne _ _ e, upd_ne _ _ e]; exact HFe.out q (by omega)
          · exact Below.setCell (HBl.out.grown hg3 hzr (fun y hy => by cases hy)) (by simp; omega) _
      · obtain rfl : i = n := by omega
        have hG2 : Hid (Grid wr (w1.heap.size + 1) w1.heap.size i R (fun _ => m) C F') := HG.out.congr fun q hq => (HFe.out q hq).1
        have hin := HG.out.inn
        go_wp2_with fail
        go_loopg [4, 6, 7] (i + 1) (fun gh lv ov iv wr => ∃ (r gl : Nat) (R : Nat → Option Addr) (C : Nat → Nat) (F : Nat → Nat → Bool) (Ao : Option Addr) (co : Nat) (g : Nat → Nat), i + 1 ≤ r + gh ∧ r ≤ i ∧ iv = .int .i64 (r : Int) ∧ lv = .slice (some ⟨gl, 0, none⟩) i i ∧ ov = .slice Ao r co ∧
          Grid wr (gl + 1) gl i R (fun _ => m) C F ∧ (∀ p q, p < i → q < m → F p q = FixT E g r p q) ∧ wr.ownsRow w.heap.size 3 1 (.slice Ao r co) r ((List.range r).map fun p => .int .i64 (g p : Int)) ∧ (Value.slice Ao r co).ownBlock ≠ some gl ∧
          (∀ p, p < r → Pick E m i g p) ∧ Sat E m (usedOf g r) r i ∧ w.heap.size ≤ gl ∧ Below w.heap.size w wr)
        case atStart => exact ⟨0, w1.heap.size, R, C, F', none, 0, fun _ => 0, by omega, by omega, rfl, rfl, rfl, hG2.out, fun p q hp hq => by rw [FixT.zero]; exact (HFe.out p hp).2 q hq, World.ownsRow_nil _ _ _ _, (by simp [Value.ownBlock]), fun p hp => by omega, by rw [usedOf_zero]; exact HS0.out, hz1, HBl.out⟩
        case round =>
          obtain ⟨r, gl, R3, C3, F3, Ao, co, g, hgr, hr, rfl, rfl, rfl, hG3, hF3, hO3, hne3, hP3, hS3, hgl, hb3⟩ := hrel
          have HG3 := Lib.hid hG3
          have HF3 := Lib.hid hF3
          have HO3 := Lib.hid hO3
          have HNe3 := Lib.hid hne3
          have HP3 := Lib.hid hP3
          have HS3 := Lib.hid hS3
          have HB3 := Lib.hid hb3
          have hzr3 := hb3.size
          clear hG3 hF3 hO3 hne3 hP3 hS3 hb3 hG2
          by_cases hltr : r < i
          · obtain ⟨a, rfl⟩ : ∃ a, A = some a := by
              obtain ⟨R0, C0, hR0, _⟩ := HT'.out
              obtain ⟨a, h1, _⟩ := hR0.at_ hltr
              exact ⟨a, h1⟩
            go_wp2_with fail
            go_loopg [4, 6, 8] (m + 1) (fun gh lv ov cv wr => ∃ (j : Nat), m + 1 ≤ j + gh ∧ j ≤ m ∧ cv = .int .i64 (j : Int) ∧ lv = .slice (some ⟨gl, 0, none⟩) i i ∧ ov = .slice Ao r co ∧
              Grid wr (gl + 1) gl i R3 (fun _ => m) C3 F3 ∧ wr.ownsRow w.heap.size 3 1 (.slice Ao r co) r ((List.range r).map fun p => .int .i64 (g p : Int)) ∧ Below w.heap.size w wr ∧
              (∀ j', j' < j → E r j' = true → usedOf g r j' = false → ¬ Sat E m (upd (usedOf g r) j' true) (r + 1) i))
            case atStart => exact ⟨0, by omega, by omega, rfl, rfl, rfl, HG3.out, HO3.out, HB3.out, fun j hj => by omega⟩
            case round =>
              obtain ⟨j, hgj, hj, rfl, rfl, rfl, hG4, hO4, hb4, hnone⟩ := hrel
              have HG4 := Lib.hid hG4
              have HO4 := Lib.hid hO4
              have HB4 := Lib.hid hb4
              have HN := Lib.hid hnone
              have hzr4 := hb4.size
              have hin4 := hG4.inn
              clear hG4 hO4 hb4 hnone
              obtain ⟨Rt, Ct, hRt, _⟩ := HT'.out
              obtain ⟨a2, ha2, _, hrc⟩ := (hRt.below (HB4.out.mono hB)).at_ hltr
              obtain rfl : a = a2 := by injection ha2
              clear ha2 hRt
              by_cases hltj : j < m
              · have hrow0 := HG4.out.row r hltr
                obtain ⟨G, hGR⟩ := slice_blk hrow0 (by omega)
                have htop : wr.cell? ⟨gl, r, none⟩ = some (.slice (some ⟨G, 0, none⟩) m (C3 r)) := by
                  have : wr.cell? ⟨gl, r, none⟩ = some (.slice (R3 r) m (C3 r)) := (HG4.out.top r hltr).1
                  rw [hGR] at this; exact this
                rw [hGR] at hrow0
                have hcl : wr.cell? ⟨G, j, none⟩ = some (.bool (F3 r j)) := by rw [hrow0.cellAt j (by omega)]; simp [hltj]
                have hFx : Hid (F3 r j = (E r j && !usedOf g r j)) := by rw [HF3.out r j hltr hltj]; exact FixT.row
                clear hrow0 hGR
                cases hFj : F3 r j with
                | false =>
                  rw [hFj] at hcl
                  have HFj : Hid ((E r j && !usedOf g r j) = false) := by rw [← hFx.out]; exact hFj
                  clear hFj
                  go_wp2_with fail
                  go_roundg (m - j)
                  case measure => omega
                  case rel => exact ⟨j + 1, by omega, by omega, by go_num, rfl, rfl, HG4.out, HO4.out, HB4.out, fun j' hj' h1 h2 => by
                    by_cases e : j' = j
                    · subst e; have := HFj.out; rw [h1, h2] at this; cases this
                    · exact HN.out j' (by omega) h1 h2⟩
                | true =>
                  rw [hFj] at hcl
                  have hEU : E r j = true ∧ usedOf g r j = false := by
                    have := hFx.out; rw [hFj] at this
                    simpa using this.symm
                  have HEU := Lib.hid hEU
                  clear hFj hEU
                  go_wp2_with fail
                  refine (fixed_any wr i m r j i wr.heap.size (some ⟨gl, 0, none⟩) F3 (HG4.out.tab (by omega)) (Nat.le_refl _) (by omega) (by omega) hltr hltj).mono ?_
                  rintro e w5 ⟨R5, C5, F5, rfl, hG5, hF5, hb5⟩
                  have hz5 := hb5.size
                  have hin5 := hG5.inn
                  have HG5 := Lib.hid hG5
                  have hF5' : ∀ p q, p < i → q < m → F5 p q = FixT E (upd g r j) (r + 1) p q := fun p q hp hq => by
                    rw [hF5 p q hp hq, HF3.out p q hp hq]
                    refine (FixT.succ (fun p hp e => ?_) p q).symm
                    exact of_decide_eq_false HEU.out.2 ⟨p, hp, e⟩
                  have HF5 := Lib.hid hF5'
                  have HK5 : Hid (∀ l, Keeps l wr w5) := fun l => Keeps.of_below hb5
                  have HB5 : Hid (Below w.heap.size w w5) := HB4.out.trans (hb5.mono hzr4)
                  clear hG5 hF5 hF5' hb5
                  go_wp2_with fail
                  refine (rmost_any w5 F5 i m w5.heap.size i (some ⟨wr.heap.size, 0, none⟩) (HG5.out.tab (by omega)) (Nat.le_refl _) (by omega) (by omega) (by omega)).mono ?_
                  rintro e w6 ⟨k6, rfl, hk6, hb6⟩
                  have hz6 := hb6.size
                  have hk6le := hk6.le
                  have hcon : ∀ p, p < r → g p = upd g r j p := fun p hp => (upd_ne _ _ (by omega)).symm
                  have HPk : Hid (∀ p, p < r + 1 → upd g r j p < m ∧ E p (upd g r j p) = true ∧ ∀ k, k < p → upd g r j k ≠ upd g r j p) := fun p hp => by
                    by_cases e : p = r
                    · subst e
                      rw [upd_same]
                      refine ⟨hltj, HEU.out.1, fun k hk => ?_⟩
                      rw [upd_ne _ _ (by omega)]
                      exact fun e => of_decide_eq_false HEU.out.2 ⟨k, hk, e⟩
                    · rw [upd_ne _ _ e]
                      obtain ⟨c1, c2, c3, _⟩ := HP3.out p (by omega)
                      exact ⟨c1, c2, fun k hk => by rw [upd_ne _ _ (by omega)]; exact fun e => of_decide_eq_false c3 ⟨k, hk, e⟩⟩
                  have HSt : Hid (k6 = i ↔ Sat E m (upd (usedOf g r) j true) (r + 1) i) := by
                    have h1 := hk6.sat
                    have h2 := Sat.all (E := E) (m := m) (n := i) (g := upd g r j) (i := r + 1) (by omega) HPk.out
                    rw [usedOf_succ] at h2
                    constructor
                    · intro e; exact h2.1 (Sat.congr HF5.out (h1.1 (by omega)))
                    · intro h; have := h1.2 (Sat.congr (fun p q hp hq => (HF5.out p q hp hq).symm) (h2.2 h)); omega
                  have HK6 : Hid (∀ l, Keeps l w5 w6) := fun l => Keeps.of_below hb6
                  have HB6 : Hid (Below w.heap.size w w6) := HB5.out.trans (hb6.mono (by omega))
                  have HO6 := Lib.hid (own_keeps (own_keeps HO4.out (HK5.out []) (by simp)) (HK6.out []) (by simp))
                  clear hk6 hb6
                  by_cases hfl : k6 = i
                  · have ht : ((k6 : Int) == (i : Int)) = true := by rw [beq_iff_eq]; omega
                    have hs := HSt.out.1 hfl
                    have HSr := Lib.hid hs
                    clear hs hfl
                    go_wp2_with (at_builtin; refine wpList_app _ sl_int rfl _ _ rfl w.heap.size Ao r co ((List.range r).map fun p => .int .i64 (g p : Int)) rfl (HO6.out.alloc _) (w6.heap.size + 1) (some ⟨w6.heap.size, 0, none⟩) 1 1 [.int .i64 (j : Int)] rfl rfl rd_new (by simp [Value.oneCell']) (by omega) (by simp; omega) ?_; intro V' cv' w7 ho7 hg7 hat7)
                    go_roundg (i - r)
                    case measure => omega
                    case rel =>
                      have hkg := Keeps.of_grown hg7
                      have hlow : ∀ z ∈ (Value.slice Ao r co).ownBlock.toList, (Value.slice Ao r co).ownBlock = some z ∧ w.heap.size ≤ z ∧ z < wr.heap.size := fun z hz => by
                        have h := own_base HO4.out (show (Value.slice Ao r co).ownBlock = some z by simpa using hz)
                        exact ⟨by simpa using hz, h.1, h.2⟩
                      have hG6 := (HG5.out.keeps (HK6.out []) (by simp)).keeps ((Keeps.refl [] _).alloc (.cells #[.int .i64 (j : Int)] 3)) (by simp)
                      refine ⟨r + 1, wr.heap.size, R5, C5, F5, V', cv', upd g r j, by omega, by omega, by go_num, rfl, rfl, hG6.keeps hkg fun z hz => ⟨by have := (hlow z hz).2.2; omega, .inl (by have := (hlow z hz).2.2; omega)⟩, HF5.out, ?_, ?_, fun p hp => ?_, ?_, by omega, ?_⟩
                      · have e : (List.range (r + 1)).map (fun p => Value.int .i64 ((upd g r j p : Nat) : Int)) = (List.range r).map (fun p => Value.int .i64 (g p : Int)) ++ [.int .i64 (j : Int)] := map_range_upd g g (fun a _ => .int .i64 ((a : Nat) : Int)) r j j
                        rw [e]; exact ho7
                      · rcases hat7 with h | h
                        · rw [h]; intro hc; have := (hlow wr.heap.size (by rw [hc]; simp)).2.2; omega
                        · rw [h]; intro hc; injection hc with hc; simp at hc; omega
                      · by_cases e : p = r
                        · subst e
                          refine ⟨by rw [upd_same]; exact hltj, by rw [upd_same]; exact HEU.out.1, ?_, ?_⟩
                          · rw [upd_same, ← usedOf_congr hcon]; exact HEU.out.2
                          · rw [upd_same, ← usedOf_congr hcon]; exact HN.out
                        · exact (HP3.out p (by omega)).congr fun k hk => hcon k (by omega)
                      · rw [usedOf_succ]; exact HSr.out
                      · exact (HB6.out.alloc (by omega) _).grown hg7 (by simp; omega) (fun z hz => (hlow z (by rw [hz]; simp)).2.1)
                  · have ht : ((k6 : Int) == (i : Int)) = false := by rw [beq_eq_false_iff_ne]; omega
                    have hns : ¬ Sat E m (upd (usedOf g r) j true) (r + 1) i := fun h => hfl (HSt.out.2 h)
                    have HNs := Lib.hid hns
                    clear hns hfl
                    go_wp2_with fail
                    go_roundg (m - j)
                    case measure => omega
                    case rel => exact ⟨j + 1, by omega, by omega, by go_num, rfl, rfl, (HG4.out.keeps (HK5.out []) (by simp)).keeps (HK6.out []) (by simp), HO6.out, HB6.out, fun j' hj' h1 h2 => by
                      by_cases e : j' = j
                      · subst e; exact HNs.out
                      · exact HN.out j' (by omega) h1 h2⟩
              · exfalso
                obtain rfl : j = m := by omega
                obtain ⟨c, c1, c2, c3, c4⟩ := HS3.out.step hltr
                exact HN.out c c1 c2 c3 c4
          · obtain rfl : r = i := by omega
            go_wp2_with fail
            go_ret2
            exact .inl ⟨Ao, co, g, rfl, HP3.out, HO3.out, HB3.out⟩
  · have hlt : k < n := by omega
    have hns : ¬ Sat E m (fun _ => false) 0 n := fun h => hfull (by have := HSat.out.2 h; omega)
    have HNs := Lib.hid hns
    clear hns hfull
    go_wp2_with fail
    go_ret2
    exact .inr ⟨rfl, HNs.out, hb1⟩
end Go.Proofs.Ytpnkaicbcbimaaa
