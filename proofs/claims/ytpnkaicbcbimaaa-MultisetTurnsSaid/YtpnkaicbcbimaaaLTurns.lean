/- The walk of coverabilitylaw03.MultisetTurns. -/
import Derived.Test.YtpnkaicbcbimaaaLMatches
import Derived.Test.YtpnkaicbcbimaaaGrid
namespace Go.Proofs.Ytpnkaicbcbimaaa
set_option linter.unusedVariables false
open Go.RowKit Kuhn

theorem sat_max {E E' : Nat → Nat → Bool} {m m' n n' k k' : Nat} (h : IsMax E m (fun _ => false) 0 n k) (h' : IsMax E' m' (fun _ => false) 0 n' k')
    (f : Nat × Nat → Nat × Nat) (hf : ∀ M, Mat E m (fun _ => false) 0 n M → Mat E' m' (fun _ => false) 0 n' (M.map f)) : k ≤ k' := by
  obtain ⟨⟨M, hM, rfl⟩, _⟩ := h
  have := h'.2.bound (hf M hM)
  simpa using this
theorem mat_turn {E E' : Nat → Nat → Bool} {m n : Nat} (he : ∀ r c, r < n → c < m → E' c r = E r c) : ∀ M, Mat E m (fun _ => false) 0 n M → Mat E' n (fun _ => false) 0 m (M.map fun p => (p.2, p.1)) := by
  rintro M ⟨a, b, c⟩
  refine ⟨by rw [List.map_map]; exact b, by rw [List.map_map]; exact a, fun p hp => ?_⟩
  obtain ⟨q, hq, rfl⟩ := List.mem_map.1 hp
  obtain ⟨_, h2, h3, h4, _⟩ := c q hq
  exact ⟨Nat.zero_le _, h3, h2, by rw [he _ _ h2 h3]; exact h4, rfl⟩
theorem mat_back {E E' : Nat → Nat → Bool} {m n : Nat} (he : ∀ r c, r < n → c < m → E' (n - 1 - r) c = E r c) : ∀ M, Mat E m (fun _ => false) 0 n M → Mat E' m (fun _ => false) 0 n (M.map fun p => (n - 1 - p.1, p.2)) := by
  rintro M ⟨a, b, c⟩
  refine ⟨?_, by rw [List.map_map]; exact b, fun p hp => ?_⟩
  · have e : ((M.map fun p => (n - 1 - p.1, p.2)).map (·.1)) = (M.map (·.1)).map fun r => n - 1 - r := by rw [List.map_map, List.map_map]; rfl
    rw [e]
    refine nodup_map a fun x hx y hy e => ?_
    obtain ⟨p, hp, rfl⟩ := List.mem_map.1 hx
    obtain ⟨q, hq, rfl⟩ := List.mem_map.1 hy
    have := (c p hp).2.1
    have := (c q hq).2.1
    omega
  · obtain ⟨q, hq, rfl⟩ := List.mem_map.1 hp
    obtain ⟨_, h2, h3, h4, _⟩ := c q hq
    exact ⟨Nat.zero_le _, by show n - 1 - q.1 < n; omega, h3, by rw [he _ _ h2 h3]; exact h4, rfl⟩

set_option maxHeartbeats 4000000 in
theorem turns_law (w : World) (len cap : Nat) (A0 : Option Addr) (l : Nat → Int) (hR : Rd w w.heap.size A0 len (fun i => .int .i64 (l i))) :
    Calls Try.prog 7 #[.slice A0 len cap] w fun e w' => e = .returned (.bool true) ∧ Below w.heap.size w w' := by
  have HR := Lib.hid hR
  clear hR
  by_cases hlen : len ≤ 400
  · have hd : decide ((len : Int) ≤ 400) = true := by simp; omega
    go_enter Try.func7, Try.ntmps7
    go_wp2_with fail
    refine (awake_any w).mono ?_
    rintro e w1 ⟨rfl, hb1⟩
    have hz1 := hb1.size
    go_wp2_with fail
    refine (few_any w1 A0 len cap).mono ?_
    rintro e w' ⟨rfl, rfl⟩
    rw [hd]
    go_wp2_with fail
    refine (new_any w1 w.heap.size A0 len cap l (HR.out.below hb1) hlen hz1).mono ?_
    rintro e w2 ⟨rfl, hD2, hb2⟩
    have hz2 := hb2.size
    have hbl2 := hD2.lt
    have HD2 := Lib.hid hD2
    have hB2 := hb1.trans (hb2.mono hz1)
    clear hD2 hb1 hb2
    generalize w1.heap.size = b at *
    go_wp2_with fail
    refine (next_any w2 b w.heap.size 7 HD2.out (by omega)).mono ?_
    rintro e w3 ⟨n', rfl, _, hn, hD3, hK3⟩
    have hn := hn (by omega)
    have hz3 := hK3.size
    have HD3 := Lib.hid hD3
    have HK3 := Lib.hid hK3
    clear hD3 hK3
    obtain ⟨n, hn'⟩ : ∃ n : Nat, n = 1 + n' := ⟨_, rfl⟩
    have hne : (1 : Int) + (n' : Int) = (n : Int) := by omega
    have hn7 : n ≤ 7 := by omega
    have hn1 : 1 ≤ n := by omega
    clear hn' hn
    go_wp2_with fail
    refine (next_any w3 b w.heap.size 7 HD3.out (by omega)).mono ?_
    rintro e w4 ⟨m', rfl, _, hm, hD4, hK4⟩
    have hm := hm (by omega)
    have hz4 := hK4.size
    have HD4 := Lib.hid hD4
    have HK4 := Lib.hid (HK3.out.trans hK4)
    clear hD4 hK4
    obtain ⟨m, hm'⟩ : ∃ m : Nat, m = 1 + m' := ⟨_, rfl⟩
    have hme : (1 : Int) + (m' : Int) = (m : Int) := by omega
    have hm7 : m ≤ 7 := by omega
    have hm1 : 1 ≤ m := by omega
    clear hm' hm
    go_wp2_with fail
    refine (table_any w4 b w.heap.size n m HD4.out (by omega) (by omega)).mono ?_
    rintro e w5 ⟨A, c, E, rfl, hT5, hD5, hK5⟩
    have hz5 := hK5.size
    have HT5 := Lib.hid hT5.tab
    have HB5 : Hid (Below w.heap.size w w5) := hB2.trans ((HK4.out.trans hK5).below (by simp; omega) (by omega))
    clear hT5 hD5 hK5 hB2 hme hne
    obtain ⟨Rt, Ct, hRt, hEt⟩ := id HT5.out
    obtain ⟨a, rfl, hab, _⟩ := hRt.at_ (k := 0) (by omega)
    have HRt := Lib.hid hRt
    have HEt := Lib.hid hEt
    clear hRt hEt
    have hmk := run_make_n sl_rowsb m (by omega)
    go_wp2_with fail
    have hG0 := Lib.hid (Grid.start w5 m)
    have hBl0 : Below w5.heap.size w5 (w5.alloc (.cells (madeCells (Value.slice none 0 0).cells m) 26)) := (Below.refl _ _).alloc (Nat.le_refl _) _
    clear hmk
    go_loopg [8, 41] (n + 1) (fun gh bv iv wr => ∃ (i : Nat) (Ab : Option Addr) (cb : Nat) (R : Nat → Option Addr) (C : Nat → Nat) (F : Nat → Nat → Bool), n + 1 ≤ i + gh ∧ i ≤ n ∧ iv = .int .i64 (i : Int) ∧ bv = .slice Ab i cb ∧
      Grid wr (w5.heap.size + 1) w5.heap.size m R (fun _ => i) C F ∧ (∀ q r, q < m → r < i → F q r = E r q) ∧
      wr.ownsRow (w5.heap.size + 1) 26 1 (.slice Ab i cb) i ((List.range i).map fun r => .slice (Rt (n - 1 - r)) m (Ct (n - 1 - r))) ∧ Below w5.heap.size w5 wr)
    case atStart => exact ⟨0, none, 0, _, _, _, by omega, by omega, rfl, rfl, hG0.out, fun q r _ hr => by omega, World.ownsRow_nil _ _ _ _, hBl0⟩
    case round =>
      obtain ⟨i, Ab, cb, R, C, F, hgi, hi, rfl, rfl, hG, hF, hbk, hbl⟩ := hrel
      have HG := Lib.hid hG
      have HF := Lib.hid hF
      have HBk := Lib.hid hbk
      have HBl := Lib.hid hbl
      clear hG hF hbk hbl hG0 hBl0
      by_cases hlti : i < n
      · obtain ⟨a2, ha2, _, hrc⟩ := (HRt.out.below HBl.out).at_ hlti
        obtain rfl : a = a2 := by injection ha2
        clear ha2
        go_wp2_with fail
        go_loopg [49] (m + 1) (fun gh jv wr => ∃ (j : Nat) (R : Nat → Option Addr) (ln C : Nat → Nat) (F : Nat → Nat → Bool), m + 1 ≤ j + gh ∧ j ≤ m ∧ jv = .int .i64 (j : Int) ∧
          Grid wr (w5.heap.size + 1) w5.heap.size m R ln C F ∧ (∀ q, q < m → ln q = if q < j then i + 1 else i) ∧ (∀ q r, q < m → r < ln q → F q r = E r q) ∧
          wr.ownsRow (w5.heap.size + 1) 26 1 (.slice Ab i cb) i ((List.range i).map fun r => .slice (Rt (n - 1 - r)) m (Ct (n - 1 - r))) ∧ Below w5.heap.size w5 wr)
        case atStart => exact ⟨0, R, fun _ => i, C, F, by omega, by omega, rfl, HG.out, fun q hq => rfl, HF.out, HBk.out, HBl.out⟩
        case round =>
          obtain ⟨j, R2, ln, C2, F2, hgj, hj, rfl, hG2, hln, hF2, hbk2, hbl2⟩ := hrel
          have HG2 := Lib.hid hG2
          have HLn := Lib.hid hln
          have HF2 := Lib.hid hF2
          have HBk2 := Lib.hid hbk2
          have HBl2 := Lib.hid hbl2
          have hz2r := hbl2.size
          clear hG2 hln hF2 hbk2 hbl2 hrc
          by_cases hltj : j < m
          · obtain ⟨a2, ha2, _, hrc⟩ := (HRt.out.below HBl2.out).at_ hlti
            obtain rfl : a = a2 := by injection ha2
            clear ha2
            obtain ⟨a3, ha3, _, hec⟩ := ((HEt.out i hlti).below HBl2.out).at_ hltj
            rw [ha3] at hrc
            clear ha3
            have ht1 : wr.cell? ⟨w5.heap.size, j, none⟩ = some (.slice (R2 j) (ln j) (C2 j)) := (HG2.out.top j hltj).1
            have ht2 : wr.frozen? ⟨w5.heap.size, j, none⟩ = false := (HG2.out.top j hltj).2
            have hrow := HG2.out.row j hltj
            have HLj : Hid (ln j = i) := (HLn.out j hltj).trans (if_neg (by omega))
            have hlj : ln j ≤ 7 := by rw [HLj.out]; omega
            have HRow : Hid ((wr.alloc (.cells #[.bool (E i j)] 4)).drew.ownsRow (w5.heap.size + 1) 4 1 (.slice (R2 j) (ln j) (C2 j)) (ln j) ((List.range (ln j)).map fun r => .bool (F2 j r))) := hrow.alloc _
            have HRd : Hid (Rd (wr.alloc (.cells #[.bool (E i j)] 4)).drew (wr.heap.size + 1) (some ⟨wr.heap.size, 0, none⟩) 1 (fun i' => [Value.bool (E i j)].getD i' undef)) := rd_new
            have HOne : Hid (∀ u ∈ [Value.bool (E i j)], u.oneCell' = true) := by intro u hu; rw [List.mem_singleton.1 hu]; rfl
            have HIn : Hid (w5.heap.size + 1 ≤ (wr.alloc (.cells #[.bool (E i j)] 4)).drew.heap.size) := by have := HG2.out.inn; show _ ≤ (wr.alloc _).heap.size; simp; omega
            have HNE : Hid (w5.heap.size ∉ (Value.slice (R2 j) (ln j) (C2 j)).ownBlock.toList) := fun hm => own_ne hrow (show w5.heap.size < w5.heap.size + 1 by omega) (by simpa using hm)
            have HS1 : Hid ((wr.alloc (.cells #[.bool (E i j)] 4)).drew.cell? ⟨w5.heap.size, j, none⟩ = some (.slice (R2 j) (ln j) (C2 j))) := (World.cell?_alloc_lt wr _ ⟨w5.heap.size, j, none⟩ (lt_of_cell ht1)).trans ht1
            have HS2 : Hid ((wr.alloc (.cells #[.bool (E i j)] 4)).drew.frozen? ⟨w5.heap.size, j, none⟩ = false) := (World.frozen?_alloc_old wr _ ⟨w5.heap.size, j, none⟩ (Nat.ne_of_lt (lt_of_cell ht1))).trans ht2
            have HLt : Hid (w5.heap.size < (wr.alloc (.cells #[.bool (E i j)] 4)).drew.heap.size) := lt_of_cell HS1.out
            have hA1 : (wr.alloc (.cells #[.bool (E i j)] 4)).cell? ⟨w5.heap.size, j, none⟩ = some (.slice (R2 j) (ln j) (C2 j)) := HS1.out
            have hA2 := (World.cell?_alloc_lt wr (.cells #[.bool (E i j)] 4) (a.add i) (lt_of_cell hrc)).trans hrc
            have hA3 := (World.cell?_alloc_lt wr (.cells #[.bool (E i j)] 4) (a3.add j) (lt_of_cell hec)).trans hec
            clear hrow
            go_wp2_with fail
            go_region_law (refine step_app _ sl_bool rfl (.tmp 57) (.tmp 65) rfl (w5.heap.size + 1) (R2 j) (ln j) (C2 j) ((List.range (ln j)).map fun r => .bool (F2 j r)) rfl HRow.out (wr.heap.size + 1) (some ⟨wr.heap.size, 0, none⟩) 1 1 [.bool (E i j)] rfl rfl HRd.out HOne.out (by omega) HIn.out ?_; intro V' c' w3 ho3 hg3 hat3; have hs1 := (Keeps.of_grown hg3).read HS1.out HNE.out; have hs2 := ((Keeps.of_grown hg3).frozen (p := ⟨w5.heap.size, j, none⟩) HLt.out HNE.out).trans HS2.out)
            go_wp2_with fail
            all_goals
              go_roundg (m - j)
              case measure => omega
              case rel =>
                have hkg := Keeps.of_grown hg3
                have hk1 : Keeps [] wr (wr.alloc (.cells #[.bool (E i j)] 4)).drew := ((Keeps.refl _ _).alloc _).drew
                have hlow : ∀ y ∈ (Value.slice (R2 j) (ln j) (C2 j)).ownBlock.toList, (Value.slice (R2 j) (ln j) (C2 j)).ownBlock = some y ∧ w5.heap.size + 1 ≤ y := fun y hy => ⟨by simpa using hy, (own_base HRow.out (by simpa using hy)).1⟩
                refine ⟨j + 1, upd R2 j V', upd ln j (ln j + 1), upd C2 j c', upd F2 j (upd (F2 j) (ln j) (E i j)), by omega, by omega, by go_num, HG2.out.append hltj hk1 ho3 hg3 hat3, fun q hq => ?_, fun q r hq hr => ?_, ?_, ?_⟩
                · by_cases e : q = j
                  · subst e; rw [upd_same, if_pos (by omega), HLj.out]
                  · rw [upd_ne _ _ e, HLn.out q hq]
                    by_cases e2 : q < j
                    · rw [if_pos e2, if_pos (by omega)]
                    · rw [if_neg e2, if_neg (by omega)]
                · by_cases e : q = j
                  · subst e
                    rw [upd_same] at hr ⊢
                    by_cases e2 : r = ln q
                    · subst e2; rw [upd_same, HLj.out]
                    · rw [upd_ne _ _ e2]; exact HF2.out q r hq (by omega)
                  · rw [upd_ne _ _ e] at hr ⊢; exact HF2.out q r hq hr
                · refine ownsRow_setCell_below ?_ (by show w5.heap.size < w5.heap.size + 1; omega) _
                  have hb1 := own_keeps HBk2.out hk1 (by simp)
                  exact own_keeps hb1 hkg fun y hy => own_type_ne HRow.out hb1 (by decide) (hlow y hy).1
                · refine Below.setCell ?_ (by simp) _
                  exact ((HBl2.out.alloc (by omega) _).drew).grown hg3 (by show _ ≤ (wr.alloc _).heap.size; simp; omega) (fun y hy => by have := (own_base HRow.out hy).1; omega)
          · obtain rfl : j = m := by omega
            obtain ⟨y, hy⟩ : ∃ y : Nat, y = n - 1 - i := ⟨_, rfl⟩
            have hyi : (n : Int) - 1 - (i : Int) = (y : Int) := by omega
            have hyn : y < n := by omega
            have HY := Lib.hid hy
            clear hy
            obtain ⟨a2, ha2, _, hrc⟩ := (HRt.out.below HBl2.out).at_ hyn
            obtain rfl : a = a2 := by injection ha2
            clear ha2
            go_wp2_with (at_builtin; refine wpList_app _ sl_rowsb rfl _ _ rfl (w5.heap.size + 1) Ab i cb ((List.range i).map fun r => .slice (Rt (n - 1 - r)) j (Ct (n - 1 - r))) rfl (HBk2.out.alloc _) (wr.heap.size + 1) (some ⟨wr.heap.size, 0, none⟩) 1 1 [.slice (Rt y) j (Ct y)] rfl rfl rd_new (by simp [Value.oneCell']) (by omega) (by simp; have := HG2.out.inn; omega) ?_; intro V' cv' w3 hown3 hg3 hat3)
            go_roundg (n - i)
            case measure => omega
            case rel =>
              have hkg := Keeps.of_grown hg3
              have hlow : ∀ z ∈ (Value.slice Ab i cb).ownBlock.toList, (Value.slice Ab i cb).ownBlock = some z ∧ w5.heap.size + 1 ≤ z := fun z hz => ⟨by simpa using hz, (own_base HBk2.out (by simpa using hz)).1⟩
              have hln1 : ∀ q, q < j → ln q = i + 1 := fun q hq => by rw [HLn.out q hq, if_pos hq]
              have hg1 : Grid (wr.alloc (.cells #[.slice (Rt y) j (Ct y)] 26)) (w5.heap.size + 1) w5.heap.size j R2 ln C2 F2 := HG2.out.keeps ((Keeps.refl [] _).alloc _) (by simp)
              refine ⟨i + 1, V', cv', R2, C2, F2, by omega, by omega, by go_num, rfl, (hg1.keeps hkg fun z hz => ⟨by have := (hlow z hz).2; omega, .inr fun q hq => own_type_ne HBk2.out (HG2.out.row q hq) (by decide) (hlow z hz).1⟩).congr hln1, fun q r hq hr => HF2.out q r hq (by rw [hln1 q hq]; exact hr), ?_, ?_⟩
              · rw [List.range_succ, List.map_append, List.map_cons, List.map_nil, ← HY.out]
                exact hown3
              · exact (HBl2.out.alloc (by omega) _).grown hg3 (by simp; omega) (fun z hz => by have := (own_base HBk2.out hz).1; omega)
      · obtain rfl : i = n := by omega
        have hzw := HBl.out.size
        have hT1 : TabG wr wr.heap.size (some a) i (fun _ => m) E := (TabG.below HT5.out HBl.out).more hzw
        have hT2 : TabG wr wr.heap.size (some ⟨w5.heap.size, 0, none⟩) m (fun _ => i) F := HG.out.tab (by have := HG.out.inn; omega)
        have hT3 : TabG wr wr.heap.size Ab i (fun _ => m) (fun r q => E (i - 1 - r) q) :=
          ⟨fun r => Rt (i - 1 - r), fun r => Ct (i - 1 - r), (rd_of_own HBk.out undef).congr fun r hr => getD_map_range i _ _ hr, fun r hr => ((HEt.out (i - 1 - r) (by omega)).below HBl.out).more hzw⟩
        have HT1 := Lib.hid hT1
        have HT2 := Lib.hid hT2
        have HT3 := Lib.hid hT3
        clear hT1 hT2 hT3
        go_wp2_with fail
        refine (mostall_yes wr wr.heap.size i c (fun _ => m) (some a) E HT1.out (Nat.le_refl _) (vld_const (by omega) (by omega))).mono ?_
        rintro e w6 ⟨k1, rfl, hk1, hb6⟩
        have hz6 := hb6.size
        have HK1 := Lib.hid hk1
        clear hk1
        go_wp2_with fail
        refine (mostall_yes w6 wr.heap.size m m (fun _ => i) _ F (TabG.below HT2.out hb6) hz6 (vld_const (by omega) (by omega))).mono ?_
        rintro e w7 ⟨k2, rfl, hk2, hb7⟩
        have hz7 := hb7.size
        have HK2 := Lib.hid hk2
        clear hk2
        go_wp2_with fail
        refine (mostall_yes w7 wr.heap.size i cb (fun _ => m) Ab _ (TabG.below (TabG.below HT3.out hb6) (hb7.mono hz6)) (by omega) (vld_const (by omega) (by omega))).mono ?_
        rintro e w8 ⟨k3, rfl, hk3, hb8⟩
        have HK3' := Lib.hid hk3
        clear hk3
        have e12 : k1 = k2 := by
          have h1 := HK1.out
          have h2 := HK2.out
          rw [cols_const (by omega)] at h1 h2
          exact Nat.le_antisymm (sat_max h1 h2 _ (mat_turn fun r q hr hq => HF.out q r hq hr)) (sat_max h2 h1 _ (mat_turn fun r q hr hq => (HF.out r q hr hq).symm))
        have e13 : k1 = k3 := by
          have h1 := HK1.out
          have h3 := HK3'.out
          rw [cols_const (by omega)] at h1 h3
          refine Nat.le_antisymm (sat_max h1 h3 _ (mat_back fun r q hr hq => ?_)) (sat_max h3 h1 _ (mat_back fun r q hr hq => rfl))
          show E (i - 1 - (i - 1 - r)) q = E r q
          rw [show i - 1 - (i - 1 - r) = r by omega]
        subst e12
        subst e13
        go_wp2_with fail
        go_ret
        exact ⟨rfl, HB5.out.trans ((((HBl.out.trans (hb6.mono hzw)).trans (hb7.mono (by omega))).trans (hb8.mono (by omega))).mono (by omega))⟩
  · have hd : decide ((len : Int) ≤ 400) = false := by simp; omega
    go_enter Try.func7, Try.ntmps7
    go_wp2_with fail
    refine (awake_any w).mono ?_
    rintro e w1 ⟨rfl, hb1⟩
    go_wp2_with fail
    refine (few_any w1 A0 len cap).mono ?_
    rintro e w' ⟨rfl, rfl⟩
    rw [hd]
    go_wp2_with fail
    refine (awake_any w1).mono ?_
    rintro e w2 ⟨rfl, hb2⟩
    go_wp2_with fail
    go_ret
    exact ⟨rfl, hb1.trans (hb2.mono hb1.size)⟩
end Go.Proofs.Ytpnkaicbcbimaaa
