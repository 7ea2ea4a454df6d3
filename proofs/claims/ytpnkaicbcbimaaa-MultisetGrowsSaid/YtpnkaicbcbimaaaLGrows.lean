/- The walk of coverabilitylaw03.MultisetGrows. -/
import Derived.Test.YtpnkaicbcbimaaaLMatches
import Derived.Test.YtpnkaicbcbimaaaGrid
namespace Go.Proofs.Ytpnkaicbcbimaaa
set_option linter.unusedVariables false
open Go.RowKit Kuhn

theorem more_max {E E' : Nat → Nat → Bool} {m n x y k k' : Nat} (h : IsMax E m (fun _ => false) 0 n k) (h' : IsMax E' m (fun _ => false) 0 n k')
    (hE : ∀ r c, r < n → c < m → E' r c = (E r c || (decide (r = x) && decide (c = y)))) : k ≤ k' ∧ k' ≤ k + 1 := by
  obtain ⟨⟨M, hM, rfl⟩, hc⟩ := h
  obtain ⟨⟨M', hM', rfl⟩, hc'⟩ := h'
  constructor
  · refine hc'.bound ⟨hM.1, hM.2.1, fun p hp => ?_⟩
    obtain ⟨a1, a2, a3, a4, a5⟩ := hM.2.2 p hp
    exact ⟨a1, a2, a3, by rw [hE _ _ a2 a3, a4]; rfl, a5⟩
  · have hlt := hc.bound (M := M'.filter fun p => !(decide (p.1 = x) && decide (p.2 = y))) ⟨hM'.1.sublist (List.filter_sublist.map _), hM'.2.1.sublist (List.filter_sublist.map _), fun p hp => by
      obtain ⟨hp, hn⟩ := List.mem_filter.1 hp
      obtain ⟨a1, a2, a3, a4, a5⟩ := hM'.2.2 p hp
      rw [hE _ _ a2 a3] at a4
      refine ⟨a1, a2, a3, ?_, a5⟩
      cases he : E p.1 p.2 with
      | true => rfl
      | false => rw [he] at a4; simp only [Bool.false_or] at a4; rw [a4] at hn; cases hn⟩
    have h1 : (M'.filter fun p => decide (p.1 = x) && decide (p.2 = y)).length ≤ 1 := by
      rw [← List.length_map (f := (·.1))]
      refine nodup_le (l' := [x]) (hM'.1.sublist (List.filter_sublist.map _)) fun r hr => ?_
      obtain ⟨p, hp, rfl⟩ := List.mem_map.1 hr
      have := (List.mem_filter.1 hp).2
      simp only [Bool.and_eq_true, decide_eq_true_eq] at this
      rw [this.1]; exact List.mem_singleton_self _
    have e := List.countP_eq_countP_filter_add M' (fun _ => true) (fun p => decide (p.1 = x) && decide (p.2 = y))
    simp only [List.countP_true] at e
    omega
theorem wide_max {E E' : Nat → Nat → Bool} {m n k k' : Nat} (h : IsMax E m (fun _ => false) 0 n k) (h' : IsMax E' (m + 1) (fun _ => false) 0 n k')
    (hE : ∀ r c, r < n → c < m → E' r c = E r c) : k ≤ k' ∧ k' ≤ k + 1 := by
  obtain ⟨⟨M, hM, rfl⟩, hc⟩ := h
  obtain ⟨⟨M', hM', rfl⟩, hc'⟩ := h'
  constructor
  · refine hc'.bound ⟨hM.1, hM.2.1, fun p hp => ?_⟩
    obtain ⟨a1, a2, a3, a4, a5⟩ := hM.2.2 p hp
    exact ⟨a1, a2, by omega, by rw [hE _ _ a2 a3]; exact a4, a5⟩
  · have hlt := hc.bound (M := M'.filter fun p => !decide (p.2 = m)) ⟨hM'.1.sublist (List.filter_sublist.map _), hM'.2.1.sublist (List.filter_sublist.map _), fun p hp => by
      obtain ⟨hp, hn⟩ := List.mem_filter.1 hp
      obtain ⟨a1, a2, a3, a4, a5⟩ := hM'.2.2 p hp
      have hn : p.2 ≠ m := by simpa using hn
      have a3' : p.2 < m := by omega
      exact ⟨a1, a2, a3', by rw [← hE _ _ a2 a3']; exact a4, a5⟩⟩
    have h1 : (M'.filter fun p => decide (p.2 = m)).length ≤ 1 := by
      rw [← List.length_map (f := (·.2))]
      refine nodup_le (l' := [m]) (hM'.2.1.sublist (List.filter_sublist.map _)) fun r hr => ?_
      obtain ⟨p, hp, rfl⟩ := List.mem_map.1 hr
      have := (List.mem_filter.1 hp).2
      simp only [decide_eq_true_eq] at this
      show p.2 ∈ [m]
      rw [this]; exact List.mem_singleton_self _
    have e := List.countP_eq_countP_filter_add M' (fun _ => true) (fun p => decide (p.2 = m))
    simp only [List.countP_true] at e
    omega
theorem max_cols {E : Nat → Nat → Bool} {m n k : Nat} (h : IsMax E m (fun _ => false) 0 n k) : k ≤ m := by
  obtain ⟨⟨M, hM, rfl⟩, _⟩ := h
  rw [← List.length_map (f := (·.2))]
  have := nodup_le (l' := List.range m) hM.2.1 fun r hr => by
    obtain ⟨p, hp, rfl⟩ := List.mem_map.1 hr
    exact List.mem_range.2 (hM.2.2 p hp).2.2.1
  simpa using this
/-- The worlds between two draws of the deck: nothing but the deck has turned; cells of rows are as they were. -/
structure St (b B g k m : Nat) (G C : Nat → Nat) (F : Nat → Nat → Bool) (w0 w : World) : Prop where
  deck : Deck w b B
  keep : Keeps [b] w0 w
  top : ∀ q, q < k → w.cell? ⟨g, q, none⟩ = some (.slice (some ⟨G q, 0, none⟩) m (C q))
  cell : ∀ q, q < k → ∀ y, y < m → w.cell? ⟨G q, y, none⟩ = some (.bool (F q y))
  fz : ∀ q, q < k → ∀ y, y < m → w.frozen? ⟨G q, y, none⟩ = false
theorem St.drew {b B g k m : Nat} {G C : Nat → Nat} {F : Nat → Nat → Bool} {w0 w : World} (h : St b B g k m G C F w0 w) : St b B g k m G C F w0 w.drew := ⟨h.deck.keeps (l := []) (Keeps.refl _ _).drew (by simp) (by simp), h.keep.drew, h.top, h.cell, h.fz⟩
def NextSt (b B g k m : Nat) (G C : Nat → Nat) (F : Nat → Nat → Bool) (w0 : World) (n : Nat) (e : Ending) (w : World) : Prop :=
  ∃ x : Nat, e = .returned (.int .i64 (x : Int)) ∧ x < n ∧ St b B g k m G C F w0 w
theorem next_st {b B g k m n : Nat} {G C : Nat → Nat} {F : Nat → Nat → Bool} {w0 w : World} (h : St b B g k m G C F w0 w) (hg : b ≠ g) (hG : ∀ q, q < k → G q ≠ b) (hn : 0 < n) (hn' : n ≤ 1000) (hm : 0 < m) :
    Calls Try.prog 12 #[.pointer (some ⟨b, 0, none⟩), .int .i64 (n : Int)] w (NextSt b B g k m G C F w0 n) := by
  refine (next_any w b B n h.deck (by omega)).mono ?_
  rintro e w' ⟨x, rfl, _, hx, hD, hK⟩
  have hx := hx (by omega)
  refine ⟨x, rfl, by omega, hD, h.keep.trans hK, fun q hq => hK.read (h.top q hq) (by simpa using fun e => hg e.symm), fun q hq y hy => hK.read (h.cell q hq y hy) (by simpa using hG q hq), fun q hq y hy => ?_⟩
  exact (hK.frozen (p := ⟨G q, y, none⟩) (lt_of_cell (h.cell q hq y hy)) (by simpa using hG q hq)).trans (h.fz q hq y hy)
theorem slice_blk {w : World} {base n c : Nat} {e : TypeId} {A : Option Addr} {xs : List Value} (h : w.ownsRow base e 1 (.slice A n c) n xs) (hn : 0 < n) : ∃ G, A = some ⟨G, 0, none⟩ := by
  obtain ⟨g, _, h0, _⟩ := own_of_own h undef
  exact ⟨g, (h0 hn).1⟩

set_option maxHeartbeats 4000000 in
theorem grows_law (w : World) (len cap : Nat) (A0 : Option Addr) (l : Nat → Int) (hR : Rd w w.heap.size A0 len (fun i => .int .i64 (l i))) :
    Calls Try.prog 5 #[.slice A0 len cap] w fun e w' => e = .returned (.bool true) ∧ Below w.heap.size w w' := by
  have HR := Lib.hid hR
  clear hR
  by_cases hlen : len ≤ 400
  · have hd : decide ((len : Int) ≤ 400) = true := by simp; omega
    go_enter Try.func5, Try.ntmps5
    go_wp2_with fail
    refine (awake_any w).mono ?_
    rintro e w1 ⟨rfl, hb1⟩
    have hz1 := hb1.size
    go_wp2_with fail
    refine (few_any w1 A0 len cap).mono ?_
    rintro e w' ⟨rfl, rfl⟩
    rw [hd]
    go_wp2_with fail
    refine (new_any w1 w.heap.size A0 len cap l (HR.out.below hb1) hlen hz1).mono ?_
    rintro e w2 ⟨rfl, hD2, hb2⟩
    have hz2 := hb2.size
    have hbl2 := hD2.lt
    have HD2 := Lib.hid hD2
    have hB2 := hb1.trans (hb2.mono hz1)
    clear hD2 hb1 hb2
    generalize w1.heap.size = b at *
    go_wp2_with fail
    refine (next_any w2 b w.heap.size 6 HD2.out (by omega)).mono ?_
    rintro e w3 ⟨n', rfl, _, hn, hD3, hK3⟩
    have hn := hn (by omega)
    have hz3 := hK3.size
    have HD3 := Lib.hid hD3
    have HK3 := Lib.hid hK3
    clear hD3 hK3
    obtain ⟨n, hn'⟩ : ∃ n : Nat, n = 1 + n' := ⟨_, rfl⟩
    have hne : (1 : Int) + (n' : Int) = (n : Int) := by omega
    have hn7 : n ≤ 6 := by omega
    have hn1 : 1 ≤ n := by omega
    clear hn' hn
    go_wp2_with fail
    refine (next_any w3 b w.heap.size 6 HD3.out (by omega)).mono ?_
    rintro e w4 ⟨m', rfl, _, hm, hD4, hK4⟩
    have hm := hm (by omega)
    have hz4 := hK4.size
    have HD4 := Lib.hid hD4
    have HK4 := Lib.hid (HK3.out.trans hK4)
    clear hD4 hK4
    obtain ⟨m, hm'⟩ : ∃ m : Nat, m = 1 + m' := ⟨_, rfl⟩
    have hme : (1 : Int) + (m' : Int) = (m : Int) := by omega
    have hm7 : m ≤ 6 := by omega
    have hm1 : 1 ≤ m := by omega
    clear hm' hm
    go_wp2_with fail
    refine (table_any w4 b w.heap.size n m HD4.out (by omega) (by omega)).mono ?_
    rintro e w5 ⟨A, c, E, rfl, hT5, hD5, hK5⟩
    have hz5 := hK5.size
    have HT5 := Lib.hid hT5.tab
    have HO5 := Lib.hid hT5
    have HD5 := Lib.hid hD5
    have HB5 : Hid (Below w.heap.size w w5) := hB2.trans ((HK4.out.trans hK5).below (by simp; omega) (by omega))
    clear hT5 hD5 hK5 hB2 hme hne
    obtain ⟨Rt, Ct, hRt, hEt⟩ := id HT5.out
    obtain ⟨a, rfl, hab, _⟩ := hRt.at_ (k := 0) (by omega)
    have HRt := Lib.hid hRt
    have HEt := Lib.hid hEt
    clear hRt hEt
    have hbl5 := HD5.out.lt
    have hmk := run_make_n sl_rowsb n (by omega)
    go_wp2_with fail
    have hG0 := Lib.hid (Grid.start w5 n)
    have hBl0 : Below w5.heap.size w5 (w5.alloc (.cells (madeCells (Value.slice none 0 0).cells n) 26)) := (Below.refl _ _).alloc (Nat.le_refl _) _
    clear hmk
    go_loopg [41] (n + 1) (fun gh iv wr => ∃ (i : Nat) (R : Nat → Option Addr) (ln C : Nat → Nat) (F : Nat → Nat → Bool), n + 1 ≤ i + gh ∧ i ≤ n ∧ iv = .int .i64 (i : Int) ∧
      Grid wr (w5.heap.size + 1) w5.heap.size n R ln C F ∧ (∀ q, q < i → ln q = m ∧ ∀ r, r < m → F q r = E q r) ∧ Below w5.heap.size w5 wr)
    case atStart => exact ⟨0, _, _, _, _, by omega, by omega, rfl, hG0.out, fun q hq => by omega, hBl0⟩
    case round =>
      obtain ⟨i, R, ln, C, F, hgi, hi, rfl, hG, hF, hbl⟩ := hrel
      have HG := Lib.hid hG
      have HF := Lib.hid hF
      have HBl := Lib.hid hbl
      have hzr := hbl.size
      clear hG hF hbl hG0 hBl0
      by_cases hlti : i < n
      · obtain ⟨a2, ha2, _, hrc⟩ := (HRt.out.below HBl.out).at_ hlti
        obtain rfl : a = a2 := by injection ha2
        clear ha2
        have hsrc : Hid (Rd wr w5.heap.size (Rt i) m (fun j => ((List.range m).map fun j => Value.bool (E i j)).getD j undef)) := ((HEt.out i hlti).below HBl.out).congr fun j hj => (getD_map_range m (fun j => Value.bool (E i j)) undef hj).symm
        have ht1 : wr.cell? ⟨w5.heap.size, i, none⟩ = some (.slice (R i) (ln i) (C i)) := (HG.out.top i hlti).1
        have ht2 : wr.frozen? ⟨w5.heap.size, i, none⟩ = false := (HG.out.top i hlti).2
        have HT1 := Lib.hid ht1
        have HT2 := Lib.hid ht2
        have HIn := Lib.hid HG.out.inn
        clear ht1 ht2
        go_wp2_with (at_builtin; refine wpList_app _ sl_bool rfl _ _ rfl (w5.heap.size + 1) none 0 0 [] rfl (World.ownsRow_nil _ _ _ _) w5.heap.size (Rt i) m (Ct i) ((List.range m).map fun j => .bool (E i j)) rfl (by simp) hsrc.out (bools_one m (E i)) (by omega) HIn.out ?_; intro V' c' w3 ho3 hg3 hat3; have hs1 := (Keeps.of_grown hg3).read HT1.out (by simp [Value.ownBlock]); have hs2 := ((Keeps.of_grown hg3).frozen (p := ⟨w5.heap.size, i, none⟩) (lt_of_cell HT1.out) (by simp [Value.ownBlock])).trans HT2.out)
        go_roundg (n - i)
        case measure => omega
        case rel =>
          simp only [Nat.zero_add, List.nil_append] at ho3 hat3
          have hk3 : Keeps [] wr w3 := Keeps.of_grown hg3
          refine ⟨i + 1, upd R i V', upd ln i m, upd C i c', upd F i (E i), by omega, by omega, by go_num, HG.out.put hlti (Keeps.refl _ _) ho3 hk3 (fun y hy => ?_), fun q hq => ?_, ?_⟩
          · rcases hat3 with h | h
            · rw [h] at hy; cases hy
            · rw [h] at hy; injection hy with hy; omega
          · by_cases e : q = i
            · subst e; rw [upd_same, upd_same]; exact ⟨rfl, fun _ _ => rfl⟩
            · rw [upd_ne _ _ e, upd_ne _ _ e]; exact HF.out q (by omega)
          · refine Below.setCell ?_ (by simp) _
            exact HBl.out.grown hg3 hzr (fun y hy => by cases hy)
      · obtain rfl : i = n := by omega
        have hD6 := HD5.out.keeps (l := []) (Keeps.of_below HBl.out) (by simp) (by simp)
        have hG6 : Grid wr (w5.heap.size + 1) w5.heap.size i R (fun _ => m) C F := HG.out.congr fun q hq => (HF.out q hq).1
        obtain ⟨G, hGR⟩ : ∃ G : Nat → Nat, ∀ q, q < i → R q = some ⟨G q, 0, none⟩ := by
          have : ∀ q, ∃ G, q < i → R q = some ⟨G, 0, none⟩ := fun q => by
            by_cases hq : q < i
            · obtain ⟨G, h⟩ := slice_blk (hG6.row q hq) hm1
              exact ⟨G, fun _ => h⟩
            · exact ⟨0, fun h => absurd h hq⟩
          obtain ⟨G, h⟩ := Classical.skolem.1 this
          exact ⟨G, h⟩
        have hGb : ∀ q, q < i → w5.heap.size + 1 ≤ G q := fun q hq => (own_base (hG6.row q hq) (by rw [hGR q hq]; rfl)).1
        have hS0 : St b w.heap.size w5.heap.size i m G C F wr wr.drew := by
          refine St.drew ⟨hD6, Keeps.refl _ _, fun q hq => by rw [← hGR q hq]; exact (hG6.top q hq).1, fun q hq y hy => ?_, fun q hq y hy => ?_⟩
          · have h := hG6.row q hq
            rw [hGR q hq] at h
            rw [h.cellAt y (by omega)]
            simp [hy]
          · have h := hG6.row q hq
            rw [hGR q hq] at h
            exact h.frozenAt y
        have HS0 := Lib.hid hS0
        have HG6 := Lib.hid hG6
        have HGb := Lib.hid hGb
        have HGR := Lib.hid hGR
        clear hS0 hG6 hGb hGR
        go_wp2_with fail
        go_region_with (first
          | (go_at_call_of 12 (Value.int IntKind.i64 (i : Int)); refine (next_st (n := i) (by first | exact hSy | exact HS0.out) (by omega) (fun q hq => by have := HGb.out q hq; omega) (by omega) (by omega) hm1).mono ?_; rintro e w7 ⟨x, rfl, hx, hSx⟩; have t1 := hSx.top x hx; first | (have c1 := hSx.cell x hx y hy; have f1 := hSx.fz x hx y hy; have hSf := hSx) | skip)
          | (go_at_call_of 12 (Value.int IntKind.i64 (m : Int)); refine (next_st (n := m) (by first | exact hSx | exact HS0.out) (by omega) (fun q hq => by have := HGb.out q hq; omega) (by omega) (by omega) hm1).mono ?_; rintro e w8 ⟨y, rfl, hy, hSy⟩; first | (have t2 := hSy.top x hx; have c1 := hSy.cell x hx y hy; have f1 := hSy.fz x hx y hy; have hSf := hSy) | skip))
        all_goals
          obtain ⟨hDf, hKf, _, _, _⟩ := hSf
          have hGx := HGb.out x hx
          have hG7 := (HG6.out.keeps hKf (by simp; omega)).set_ (x := true) hx (HGR.out x hx) hy
          have hD7 := hDf.keeps ((Keeps.refl [G x] _).setCell (p := ⟨G x, y, none⟩) (by simp) (.bool true)) (by simp; omega) (by simp; omega)
          have hK7 := ((Keeps.of_below (l := [b]) HBl.out).trans hKf).step ((Keeps.refl [G x] _).setCell (p := ⟨G x, y, none⟩) (by simp) (.bool true)) (by simp; omega)
          have HG7 := Lib.hid hG7
          have HD7 := Lib.hid hD7
          have HK7 := Lib.hid hK7
          clear hDf hKf hG7 hD7 hK7 t1 c1 f1 hSx hSy
          go_wp2_with fail
          go_loopg [9, 65] (i + 1) (fun gh bv iv wr => ∃ (j : Nat) (Aw : Option Addr) (cw : Nat) (Rw : Nat → Option Addr) (Cw : Nat → Nat) (Fw : Nat → Nat → Bool), i + 1 ≤ j + gh ∧ j ≤ i ∧ iv = .int .i64 (j : Int) ∧ bv = .slice Aw j cw ∧
            Grid wr (w5.heap.size + 1) w5.heap.size i R (fun _ => m) C (upd F x (upd (F x) y true)) ∧ Deck wr b w.heap.size ∧ Keeps [b] w5 wr ∧
            wr.ownsRow (w5.heap.size + 1) 26 1 (.slice Aw j cw) j ((List.range j).map fun r => .slice (Rw r) (m + 1) (Cw r)) ∧ RowsB wr (w5.heap.size + 1) j (m + 1) Rw Cw Fw ∧ (∀ r q, r < j → q < m → Fw r q = E r q))
          case atStart => exact ⟨0, none, 0, fun _ => none, fun _ => 0, fun _ _ => false, by omega, by omega, rfl, rfl, HG7.out, HD7.out, HK7.out, World.ownsRow_nil _ _ _ _, fun r hr => by omega, fun r q hr => by omega⟩
          case round =>
            obtain ⟨j, Aw, cw, Rw, Cw, Fw, hgj, hj, rfl, rfl, hGw, hDw, hKw, hOw, hRw, hFw⟩ := hrel
            have hzw := hKw.size
            have HGw := Lib.hid hGw
            have HDw := Lib.hid hDw
            have HKw := Lib.hid hKw
            have HOw := Lib.hid hOw
            have HRw := Lib.hid hRw
            have HFw := Lib.hid hFw
            have HTw := Lib.hid (HO5.out.keeps hKw (by simp; omega))
            clear hGw hDw hKw hOw hRw hFw
            have hin := HGw.out.inn
            by_cases hltj : j < i
            · obtain ⟨R9, C9, hR9, hE9⟩ := HTw.out.tab
              obtain ⟨a2, ha2, _, hrc⟩ := hR9.at_ hltj
              obtain rfl : a = a2 := by injection ha2
              have hE9j := hE9 j hltj
              clear ha2 hR9 hE9
              generalize R9 j = Rj at *
              generalize C9 j = Cj at *
              have hsrc : Hid (Rd wr wr.heap.size Rj m (fun q => ((List.range m).map fun q => Value.bool (E j q)).getD q undef)) := hE9j.congr fun q hq => (getD_map_range m (fun q => Value.bool (E j q)) undef hq).symm
              clear hE9j
              go_wp2_with (at_builtin; refine wpList_app _ sl_bool rfl _ _ rfl wr.heap.size none 0 0 [] rfl (World.ownsRow_nil _ _ _ _) wr.heap.size Rj m Cj ((List.range m).map fun q => .bool (E j q)) rfl (by simp) hsrc.out (bools_one m (E j)) (by omega) (Nat.le_refl _) ?_; intro V1 c1 w1 ho1 hg1 hat1)
              simp only [Nat.zero_add, List.nil_append] at ho1
              have hz1 := hg1.size
              have hk1 : Keeps [b] wr w1 := (Keeps.refl _ _).step (Keeps.of_grown hg1) (by simp [Value.ownBlock])
              have hD1 := HDw.out.keeps (Keeps.of_grown hg1) (by simp [Value.ownBlock]) (by simp [Value.ownBlock])
              have HO1 := Lib.hid ho1
              have HK1 := Lib.hid hk1
              have HD1 := Lib.hid hD1
              clear ho1 hk1 hD1 hg1 hat1
              refine (one_any w1 b w.heap.size 2 HD1.out (by omega)).mono ?_
              rintro e w9 ⟨v, rfl, hD2, hK2⟩
              have hz2 := hK2.size
              have HO2 := Lib.hid (own_keeps HO1.out hK2 (fun z hz => own_ne HO1.out (by simp at hz; omega)))
              have HK2 := Lib.hid (HK1.out.trans hK2)
              have HD2 := Lib.hid hD2
              clear hD2 hK2
              go_wp2_with (first
                | (at_builtin; refine wpList_app _ sl_bool rfl (.tmp 73) (.tmp 76) rfl wr.heap.size V1 m c1 ((List.range m).map fun q => .bool (E j q)) rfl (HO2.out.alloc _) (w9.heap.size + 1) (some ⟨w9.heap.size, 0, none⟩) 1 1 [.bool v] rfl rfl rd_new (by simp [Value.oneCell']) (by omega) (by simp; omega) ?_; intro V2 c2 w10 ho3 hg3 hat3; have HKa := Lib.hid ((HK2.out.alloc (.cells #[.bool v] 4)).step (Keeps.of_grown hg3) (fun z hz => .inr (own_base HO2.out (by simpa using hz)).1)); have hz10 := HKa.out.size; have HDa := Lib.hid ((HD2.out.keeps (w' := w9.alloc (.cells #[.bool v] 4)) ((Keeps.refl [] _).alloc _) (by simp) (by simp)).keeps (Keeps.of_grown hg3) (fun hm => by have := (own_base HO2.out (by simpa using hm)).1; omega) (fun z hz => by have := (own_base HO2.out (by simpa using hz)).1; omega)); have HO3 := Lib.hid ho3; clear ho3 hg3 hat3)
                | (at_builtin; refine wpList_app _ sl_rowsb rfl (.tmp 68) (.tmp 78) rfl (w5.heap.size + 1) Aw j cw ((List.range j).map fun r => .slice (Rw r) (m + 1) (Cw r)) rfl ((own_keeps HOw.out HKa.out (fun z hz => own_ne HOw.out (by simp at hz; omega))).alloc _) (w10.heap.size + 1) (some ⟨w10.heap.size, 0, none⟩) 1 1 [.slice V2 (m + 1) c2] rfl rfl rd_new (by simp [Value.oneCell']) (by omega) (by simp; omega) ?_; intro V3 c3 w11 ho4 hg4 hat4))
              go_roundg (i - j)
              case measure => omega
              case rel =>
                have hkb := Keeps.of_grown hg4
                have hOwa := own_keeps HOw.out HKa.out (fun z hz => own_ne HOw.out (by simp at hz; omega))
                have hlow : ∀ z ∈ (Value.slice Aw j cw).ownBlock.toList, (Value.slice Aw j cw).ownBlock = some z ∧ w5.heap.size + 1 ≤ z := fun z hz => ⟨by simpa using hz, (own_base HOw.out (by simpa using hz)).1⟩
                have hKc := (HKa.out.alloc (.cells #[.slice V2 (m + 1) c2] 26))
                refine ⟨j + 1, V3, c3, upd Rw j V2, upd Cw j c2, upd Fw j (upd (E j) m v), by omega, by omega, by go_num, rfl, ?_, ?_, ?_, ?_, ?_, fun r q hr hq => ?_⟩
                · exact (HGw.out.keeps hKc (by simp; omega)).keeps hkb fun z hz => ⟨by have := (hlow z hz).2; omega, .inr fun q hq => own_type_ne hOwa ((HGw.out.keeps HKa.out (by simp; omega)).row q hq) (by decide) (hlow z hz).1⟩
                · exact (HDa.out.keeps (w' := w10.alloc (.cells #[.slice V2 (m + 1) c2] 26)) ((Keeps.refl [] _).alloc _) (by simp) (by simp)).keeps hkb (fun hm => by have := (hlow b hm).2; omega) (fun z hz => by have := (hlow z hz).2; omega)
                · exact (HKw.out.trans hKc).step hkb (fun z hz => .inr (by have := (hlow z hz).2; omega))
                · have e := map_range_upd Rw Cw (fun a c => .slice a (m + 1) c) j V2 c2
                  rw [e]; exact ho4
                · intro r hr
                  by_cases e : r = j
                  · subst e
                    rw [upd_same, upd_same, upd_same]
                    have e2 : (List.range (m + 1)).map (fun q => Value.bool (upd (E r) m v q)) = ((List.range m).map fun q => .bool (E r q)) ++ [.bool v] := map_range_upd (E r) (E r) (fun a _ => .bool a) m v v
                    rw [e2]
                    exact (own_keeps (HO3.out.alloc _) hkb fun z hz => own_type_ne hOwa HO3.out (by decide) (hlow z hz).1).mono_base (by omega)
                  · rw [upd_ne _ _ e, upd_ne _ _ e, upd_ne _ _ e]
                    have h0 := own_keeps (HRw.out r (by omega)) HKa.out (fun z hz => own_ne (HRw.out r (by omega)) (by simp at hz; omega))
                    exact own_keeps (h0.alloc _) hkb fun z hz => own_type_ne hOwa h0 (by decide) (hlow z hz).1
                · by_cases e : r = j
                  · subst e; rw [upd_same, upd_ne _ _ (by omega)]
                  · rw [upd_ne _ _ e]; exact HFw.out r q (by omega) hq
            · obtain rfl : j = i := by omega
              have hT1 : TabG wr wr.heap.size (some a) j (fun _ => m) E := HTw.out.tab
              have hT2 : TabG wr wr.heap.size (some ⟨w5.heap.size, 0, none⟩) j (fun _ => m) (upd F x (upd (F x) y true)) := HGw.out.tab (by omega)
              have hT3 : TabG wr wr.heap.size Aw j (fun _ => m + 1) Fw := tab_of_own HOw.out HRw.out
              have HT1 := Lib.hid hT1
              have HT2 := Lib.hid hT2
              have HT3 := Lib.hid hT3
              clear hT1 hT2 hT3
              go_wp2_with fail
              refine (mostall_yes wr wr.heap.size j c (fun _ => m) (some a) E HT1.out (Nat.le_refl _) (vld_const (by omega) (by omega))).mono ?_
              rintro e w6 ⟨k1, rfl, hk1, hb6⟩
              have hz6 := hb6.size
              have HK1 := Lib.hid hk1
              clear hk1
              go_wp2_with fail
              refine (mostall_yes w6 wr.heap.size j j (fun _ => m) _ _ (TabG.below HT2.out hb6) hz6 (vld_const (by omega) (by omega))).mono ?_
              rintro e w7 ⟨k2, rfl, hk2, hb7⟩
              have hz7 := hb7.size
              have HK2 := Lib.hid hk2
              clear hk2
              go_wp2_with fail
              refine (mostall_yes w7 wr.heap.size j cw (fun _ => m + 1) Aw _ (TabG.below (TabG.below HT3.out hb6) (hb7.mono hz6)) (by omega) (vld_const (by omega) (by omega))).mono ?_
              rintro e w8 ⟨k3, rfl, hk3, hb8⟩
              have HK3' := Lib.hid hk3
              clear hk3
              obtain ⟨a1, a2, a3, a4, a5, a6⟩ : k1 ≤ k2 ∧ k2 ≤ k1 + 1 ∧ k1 ≤ k3 ∧ k3 ≤ k1 + 1 ∧ k1 ≤ j ∧ k1 ≤ m := by
                have h1 := HK1.out
                have h2 := HK2.out
                have h3 := HK3'.out
                rw [cols_const (by omega)] at h1 h2 h3
                have b1 := more_max (x := x) (y := y) h1 h2 fun r q hr hq => by
                  by_cases e1 : r = x
                  · subst e1
                    rw [upd_same]
                    by_cases e2 : q = y
                    · subst e2; rw [upd_same]; simp
                    · rw [upd_ne _ _ e2, (HF.out r hr).2 q hq]; simp [e2]
                  · rw [upd_ne _ _ e1, (HF.out r hr).2 q hq]; simp [e1]
                have b2 := wide_max h1 h3 fun r q hr hq => HFw.out r q hr hq
                have b3 := h1.le
                have b4 := max_cols h1
                exact ⟨b1.1, b1.2, b2.1, b2.2, by omega, b4⟩
              go_wp2_with fail
              all_goals
                go_ret
                exact ⟨rfl, HB5.out.trans ((((HKw.out.below (B := w.heap.size) (by simp; omega) (by omega)).trans (hb6.mono (by omega))).trans (hb7.mono (by omega))).trans (hb8.mono (by omega)))⟩
  · have hd : decide ((len : Int) ≤ 400) = false := by simp; omega
    go_enter Try.func5, Try.ntmps5
    go_wp2_with fail
    refine (awake_any w).mono ?_
    rintro e w1 ⟨rfl, hb1⟩
    go_wp2_with fail
    refine (few_any w1 A0 len cap).mono ?_
    rintro e w' ⟨rfl, rfl⟩
    rw [hd]
    go_wp2_with fail
    refine (awake_any w1).mono ?_
    rintro e w2 ⟨rfl, hb2⟩
    go_wp2_with fail
    go_ret
    exact ⟨rfl, hb1.trans (hb2.mono hb1.size)⟩
end Go.Proofs.Ytpnkaicbcbimaaa
