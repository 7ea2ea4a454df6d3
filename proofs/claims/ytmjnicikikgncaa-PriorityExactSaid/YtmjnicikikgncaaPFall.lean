/- The walks of priority.falling and Falling. -/
import Derived.Test.YtmjnicikikgncaaPFallL
import Derived.Test.YtmjnicikikgncaaPDrops
namespace Go.Proofs.Ytmjnicikikgncaa
set_option linter.unusedVariables false
open Go.RowKit

def FalPost (l : List Nat) (zs : List (List Int)) (w : World) (e : Ending) (w' : World) : Prop :=
  ∃ V n c, n = zs.length ∧ e = .returned (.slice V n c) ∧ OwL IsI [] 22 w.heap.size w' l (.slice V n c) zs ∧ Keeps [] w w'

set_option maxRecDepth 100000 in
set_option maxHeartbeats 4000000 in
theorem falling_is : ∀ (k : Nat) {w : World} {l : List Nat} {rv : Value} {r : List Int} {below : Int} (hk7 : k ≤ 7) (hbk : below ≤ k) (hr6 : r.length ≤ 6) (hr0 : ∀ x ∈ r, 0 ≤ x) (hl : ∀ y ∈ l, y < w.heap.size) (hr : IsI w l rv r),
    Calls Try.prog 47 #[rv, .int .i64 below] w (FalPost l (fallL r k below) w) := by
  intro k
  induction k with
  | zero =>
    intro w l rv r below hk7 hbk hr6 hr0 hl hr
    unfold FalPost
    obtain ⟨R, c, rfl, _, _, h1⟩ := hr.open
    generalize hn : r.length = n at *
    have hz : fallL r 0 below = [] := rfl
    generalize fallL r 0 below = zs at *
    have H1 := Lib.hid h1
    have HR := Lib.hid hr
    have HR0 := Lib.hid hr0
    have HL := Lib.hid hl
    have HN := Lib.hid hn
    have HZ := Lib.hid hz
    clear h1 hr hr0 hl hn hz
    go_enter Try.func47, Try.ntmps47
    go_wp2_with fail
    go_loopg [5, 6, 7, 12] (n + 1) (fun gh sv _ _ iv wr => ∃ i : Nat, n + 1 ≤ i + gh ∧ i ≤ n ∧ iv = .int .i64 (i : Int) ∧ sv = .slice none 0 0 ∧ w = wr)
    case atStart => exact ⟨0, by omega, by omega, rfl, rfl, rfl⟩
    case round =>
      obtain ⟨i, hgh, hi, rfl, rfl, rfl⟩ := hrel
      by_cases hlt : i < n
      · obtain ⟨p, rfl, hp⟩ := H1.out.at_ hlt
        have h0 := HR0.out _ (getD_mem (d := 0) (show i < r.length by rw [HN.out]; exact hlt))
        generalize r.getD i 0 = x at *
        have hge : below ≤ x := by have : below ≤ 0 := hbk; omega
        go_wp2_with fail
        go_roundg (n - i)
        case measure => omega
        case rel => exact ⟨i + 1, by omega, by omega, by go_num, rfl, rfl⟩
      · obtain rfl : i = n := by omega
        go_wp2_with fail
        go_ret
        exact ⟨none, 0, 0, by rw [HZ.out]; rfl, rfl, by rw [HZ.out]; exact OwL.nil, Keeps.refl _ _⟩
  | succ k ih =>
    intro w l rv r below hk7 hbk hr6 hr0 hl hr
    unfold FalPost
    have hrec := fun (W : World) (l' : List Nat) (x : Int) (hx : x ≤ k) (hl' : ∀ y ∈ l', y < W.heap.size) (kW : Keeps [] w W) (hw : ∀ y ∈ l', y ∈ l ∨ w.heap.size ≤ y) => ih (w := W) (l := l') (below := x) (by omega) hx hr6 hr0 hl' (Rok.keeps (Rok.weak hr hw) (kW.nil l'))
    obtain ⟨R, c, rfl, _, _, h1⟩ := hr.open
    have hall := fallP_all r k below
    have hfl := fun i (hi : i ≤ 6) => fallP_len (r := r) hr6 (k := k) (i := i) (below := below) hi
    have hN : fallN (k + 1) ≤ 335922 := fallN_le hk7
    have hlen := fallL_len (r := r) hr6
    have hwd := fallL_words hr0
    generalize hn : r.length = n at *
    generalize fallL r (k + 1) below = zs0 at *
    have H1 := Lib.hid h1
    have HR := Lib.hid hr
    have HR0 := Lib.hid hr0
    have HL := Lib.hid hl
    have HN := Lib.hid hn
    have HREC := Lib.hid hrec
    have HALL := Lib.hid hall
    have HFL := Lib.hid hfl
    have HLEN := Lib.hid hlen
    have HWD := Lib.hid hwd
    have HN := Lib.hid hN
    clear h1 hr hr0 hl hn hrec hall hfl hlen hwd hN
    clear ih
    go_enter Try.func47, Try.ntmps47
    go_wp2_with fail
    go_loopg [5, 6, 7, 9, 12] (n + 1) (fun gh sv _ _ _ iv wr => ∃ (i k2 : Nat) (V : Option Addr) (cv : Nat), n + 1 ≤ i + gh ∧ i ≤ n ∧ iv = .int .i64 (i : Int) ∧ sv = .slice V k2 cv ∧ (fallP r k below i).length = k2 ∧ OwL IsI [] 22 w.heap.size wr l (.slice V k2 cv) (fallP r k below i) ∧ Keeps [] w wr)
    case atStart => exact ⟨0, 0, none, 0, by omega, by omega, rfl, rfl, by simp [fallP], by simpa [fallP] using OwL.nil, Keeps.refl _ _⟩
    case round =>
      obtain ⟨i, k2, V, cv, hgh, hi, rfl, rfl, hpl, hO, hkr⟩ := hrel
      have hz := hkr.size
      have hk2b : k2 ≤ 335922 := by rw [← hpl]; exact Nat.le_trans (HFL.out i (by omega)) HN.out
      have HPL := Lib.hid hpl
      have HO := Lib.hid hO
      have HKR := Lib.hid hkr
      clear hpl hO hkr
      by_cases hlt : i < n
      · obtain ⟨p, rfl, hp⟩ := (H1.out.keeps (HKR.out.nil l)).at_ hlt
        by_cases hxb : r.getD i 0 < below
        · have hyes := fallP_yes (r := r) (k := k) (below := below) (i := i) hxb
          have hxk : r.getD i 0 ≤ k := by omega
          have hlz := HLEN.out k (r.getD i 0)
          have hwz := HWD.out k (r.getD i 0)
          have hNk : fallN k ≤ 335922 := fallN_le (by omega)
          have hrec := fun W l' => HREC.out W l' (r.getD i 0) hxk
          generalize r.getD i 0 = x at *
          generalize fallL r k x = zs at *
          generalize hPi : fallP r k below i = Ps at *
          have hone : IsI (wr.alloc (.cells #[.int .i64 (i : Int)] 3)) ((Value.slice V k2 cv).ownBlock.toList ++ l) (.slice (some ⟨wr.heap.size, 0, none⟩) 1 1) [(i : Int)] := isL_new (w := wr) (xs := [(i : Int)]) (fun y hy => by
            rcases List.mem_append.1 hy with h | h
            · exact (HO.out.blocks y h).2
            · exact Nat.lt_of_lt_of_le (HL.out y h) hz) rfl fun j hj => by
              have e : j = 0 := by simpa using hj
              subst e; rfl
          have hkA : Keeps [] wr (wr.alloc (.cells #[.int .i64 (i : Int)] 3)) := (Keeps.refl _ _).alloc _
          have hOA := HO.out.new hkA
          have hkwA := HKR.out.trans hkA
          have hzA := hkwA.size
          have HYES := Lib.hid hyes
          have HLZ := Lib.hid hlz
          have HWZ := Lib.hid hwz
          have HNK := Lib.hid hNk
          have HREC := Lib.hid hrec
          have HONE := Lib.hid hone
          have HOA := Lib.hid hOA
          have HKWA := Lib.hid hkwA
          have HPI := Lib.hid hPi
          clear hyes hlz hwz hNk hrec hone hOA hkwA hPi
          clear hkA
          go_wp2_with (at_builtin; refine wpList_push sl_rowsi rfl _ _ rfl (w := wr.alloc (.cells #[.int .i64 (i : Int)] 3)) (y := [(i : Int)]) rfl (by simp [Act.eval]) HOA.out HONE.out (m := k2 + 1) (by rw [HPL.out]) (by omega) hzA (w0 := w) (l0 := []) (Nat.le_refl _) HKWA.out ?_; intro V2 c2 w2 hown2 hg2 hk2)
          have hz2 := hk2.size
          have hb2 : ∀ y ∈ (Value.slice V2 (k2 + 1) c2).ownBlock.toList ++ l, y < w2.heap.size := hown2.putb fun y hy => Nat.lt_of_lt_of_le (HL.out y hy) hz2
          have hw2 : ∀ y ∈ (Value.slice V2 (k2 + 1) c2).ownBlock.toList ++ l, y ∈ l ∨ w.heap.size ≤ y := fun y hy => by
            rcases List.mem_append.1 hy with h | h
            · exact .inr (hown2.blocks y h).1
            · exact .inl h
          have hcall := HREC.out w2 _ hb2 hk2 hw2
          have HOWN2 := Lib.hid hown2
          have HK2 := Lib.hid hk2
          have HCALL := Lib.hid hcall
          have HB2 := Lib.hid hb2
          clear hown2 hk2 hcall hb2
          clear hw2 hg2
          go_wp2_with fail
          refine HCALL.out.mono ?_
          rintro e w3 ⟨V3, n3, c3, hn3, rfl, hO3, hk3⟩
          have hL3 := hO3.isL HB2.out
          obtain ⟨Y1, cy1, U, hey, _, _, hyc, hyr⟩ := hL3
          injection hey with e1 e2 e3
          subst e1; subst e3
          rw [← hn3] at hyc hyr
          have hown3 := HOWN2.out.new hk3
          have hkw3 := HK2.out.trans hk3
          have hz3 := hkw3.size
          have hn3b : n3 ≤ 335922 := by rw [hn3]; exact Nat.le_trans HLZ.out HNK.out
          have HN3 := Lib.hid hn3
          have HYC := Lib.hid hyc
          have HYR := Lib.hid hyr
          have HOWN3 := Lib.hid hown3
          have HKW3 := Lib.hid hkw3
          clear hn3 hyc hyr hown3 hkw3
          clear e2 hO3 hk3
          go_wp2_with fail
          go_loopg [5, 9, 29] (n3 + 1) (fun gh sv _ jv wr => ∃ (j k4 : Nat) (V4 : Option Addr) (c4 : Nat), n3 + 1 ≤ j + gh ∧ j ≤ n3 ∧ k4 = k2 + 1 + j ∧ jv = .int .i64 (j : Int) ∧ sv = .slice V4 k4 c4 ∧ OwL IsI [] 22 w.heap.size wr l (.slice V4 k4 c4) (Ps ++ [[(i : Int)]] ++ (zs.take j).map ((i : Int) :: ·)) ∧ Keeps [] w wr ∧ Keeps ((Value.slice V2 (k2 + 1) c2).ownBlock.toList) w3 wr ∧ ∀ y ∈ (Value.slice V4 k4 c4).ownBlock.toList, y ∈ (Value.slice V2 (k2 + 1) c2).ownBlock.toList ∨ w3.heap.size ≤ y)
          case atStart => exact ⟨0, k2 + 1, V2, c2, by omega, by omega, by omega, rfl, rfl, by simpa using HOWN3.out, HKW3.out, Keeps.refl _ _, fun y hy => .inl hy⟩
          case round =>
            obtain ⟨j, k4, V4, c4, hgh4, hj, hk4e, rfl, rfl, hO4, hk4, hk34, hb4⟩ := hrel
            have hz4 := hk4.size
            have HK4E := Lib.hid hk4e
            have HO4 := Lib.hid hO4
            have HK4 := Lib.hid hk4
            have HK34 := Lib.hid hk34
            have HB4 := Lib.hid hb4
            clear hk4e hO4 hk4 hk34 hb4
            by_cases hltj : j < n3
            · have hk34l := HK34.out
              obtain ⟨p3, rfl, hp3⟩ := (HYC.out.keeps (hk34l.more (l' := (Value.slice V2 (k2 + 1) c2).ownBlock.toList ++ l) fun y hy => List.mem_append.2 (.inl hy))).at_ hltj
              have hrow3 : IsI w3 ((Value.slice V2 (k2 + 1) c2).ownBlock.toList ++ l) (U j) (zs.getD j []) := HYR.out j hltj
              have hzl : (zs.getD j []).length ≤ 100 := by
                have := HWZ.out _ (getD_mem (d := []) (show j < zs.length by rw [← HN3.out]; exact hltj)); omega
              have hrow : IsI wr ((Value.slice V4 k4 c4).ownBlock.toList ++ l) (U j) (zs.getD j []) := by
                have g1 : IsI w3 ((Value.slice V4 k4 c4).ownBlock.toList ++ ((Value.slice V2 (k2 + 1) c2).ownBlock.toList ++ l)) (U j) (zs.getD j []) := Rok.weak hrow3 fun y hy => by
                  rcases List.mem_append.1 hy with h | h
                  · exact (HB4.out y h).imp (fun h => List.mem_append.2 (.inl h)) id
                  · exact .inl h
                exact Rok.weak (Rok.keeps g1 (hk34l.more fun y hy => List.mem_append.2 (.inr (List.mem_append.2 (.inl hy))))) fun y hy => .inl (by
                  rcases List.mem_append.1 hy with h | h
                  · exact List.mem_append.2 (.inl h)
                  · exact List.mem_append.2 (.inr (List.mem_append.2 (.inr h))))
              have htk : (zs.take (j + 1)).map ((i : Int) :: ·) = (zs.take j).map ((i : Int) :: ·) ++ [(i : Int) :: zs.getD j []] := by
                have hjz : j < zs.length := by rw [← HN3.out]; exact hltj
                rw [List.take_succ_eq_append_getElem hjz, List.map_append]
                congr 1
                simp [List.getD_eq_getElem?_getD, hjz]
              have hlen4 : (Ps ++ [[(i : Int)]] ++ (zs.take j).map ((i : Int) :: ·)).length = k4 := by
                rw [List.length_append, List.length_append, HPL.out, List.length_map, List.length_take, ← HN3.out, HK4E.out]; simp; omega
              have hbl4 : ∀ y ∈ (Value.slice V4 k4 c4).ownBlock.toList ++ l, y < wr.heap.size := HO4.out.putb fun y hy => Nat.lt_of_lt_of_le (HL.out y hy) hz4
              obtain ⟨Ur, cr, hUr, _⟩ := hrow.open
              rw [hUr] at hp3 hrow
              generalize zs.getD j [] = z at *
              generalize hzm : z.length = m at *
              have hown1 : OwL IsN 0 3 wr.heap.size (wr.alloc (.cells #[.int .i64 (i : Int)] 3)) ((Value.slice V4 k4 c4).ownBlock.toList ++ l) (.slice (some ⟨wr.heap.size, 0, none⟩) 1 1) [(i : Int)] := OwL.made1 rfl
              have hu1 : IsL IsN 0 (wr.alloc (.cells #[.int .i64 (i : Int)] 3)) ((Value.slice (some ⟨wr.heap.size, 0, none⟩) 1 1).ownBlock.toList ++ ((Value.slice V4 k4 c4).ownBlock.toList ++ l)) (.slice Ur m cr) z := Rok.keeps (R := IsL IsN 0) (Rok.weak (R := IsL IsN 0) hrow fun y hy => by
                rcases List.mem_append.1 hy with h | h
                · have : y = wr.heap.size := by simpa [Value.ownBlock] using h
                  exact .inr (by omega)
                · exact .inl h) (((Keeps.refl [] wr).alloc _).nil _)
              have hk4b : k4 + 1 ≤ 1000000000 := by rw [HK4E.out]; omega
              have HROW := Lib.hid hrow
              have HTK := Lib.hid htk
              have HLEN4 := Lib.hid hlen4
              have HBL4 := Lib.hid hbl4
              have HZM := Lib.hid hzm
              have HOWN1 := Lib.hid hown1
              have HU1 := Lib.hid hu1
              clear hrow htk hlen4 hbl4 hzm hown1 hu1
              clear hUr hrow3 hk34l
              go_wp2_with (first
                | (have _t := hcp; at_builtin; refine wpList_pushg sl_rowsi rfl _ _ rfl (w := w5) (y := (i : Int) :: z) rfl rfl hO5 hcp (m := k4 + 1) (by rw [HLEN4.out]) hk4b hb5 ?_; intro V6 c6 w6 hown6 hg6 hb6)
                | (at_builtin; refine wpList_join sl_int rfl _ _ rfl rfl rfl HOWN1.out HU1.out (m := 1 + m) (by rw [HZM.out]; rfl) (by omega) (by simp) (w0 := wr) (l0 := []) (Nat.le_refl _) ((Keeps.refl _ _).alloc _) ?_; intro V5 c5 w5 hown5 hkk5 hk5; have hcp : IsI w5 ((Value.slice V4 k4 c4).ownBlock.toList ++ l) (.slice V5 (1 + m) c5) ((i : Int) :: z) := hown5.isL HBL4.out; have hO5 := HO4.out.new hk5; have hb5 := Nat.le_trans hz4 hk5.size))
              have g1 := (HK4.out.trans hk5).step hg6 fun y hy => .inr (HO4.out.blocks y hy).1
              have g2 := (HK34.out.trans (hk5.nil _)).step hg6 fun y hy => HB4.out y hy
              have g3 := HK34.out.size
              have g4 := hk5.size
              go_roundg (n3 - j)
              case measure => omega
              case rel => exact ⟨j + 1, k4 + 1, V6, c6, by omega, by omega, by rw [HK4E.out]; omega, by go_num, rfl, by rw [HTK.out, ← List.append_assoc]; exact hown6, g1, g2, fun y hy => by
                rcases hb6 y hy with h | h
                · exact HB4.out y h
                · exact .inr (by omega)⟩
            · obtain rfl : j = n3 := by omega
              have hall2 : zs.take j = zs := by rw [HN3.out, List.take_length]
              have hO5 := HO4.out
              rw [hall2] at hO5
              have hfx : Ps ++ [[(i : Int)]] ++ zs.map ((i : Int) :: ·) = fallP r k below (i + 1) := by rw [HYES.out]; unfold fallX; rw [List.append_assoc]; rfl
              rw [hfx] at hO5
              have hpl2 : (fallP r k below (i + 1)).length = k4 := by
                rw [← hfx, List.length_append, List.length_append, HPL.out, List.length_map, ← HN3.out, HK4E.out]; rfl
              have HO5 := Lib.hid hO5
              have HPL2 := Lib.hid hpl2
              clear hO5 hpl2
              clear hall2 hfx
              go_wp2_with fail
              go_roundg (n - i)
              case measure => omega
              case rel => exact ⟨i + 1, k4, V4, c4, by omega, by omega, by go_num, rfl, HPL2.out, HO5.out, HK4.out⟩
        · have hno := fallP_no (r := r) (k := k) (below := below) (i := i) hxb
          generalize r.getD i 0 = x at *
          have hge : below ≤ x := by omega
          have HNO := Lib.hid hno
          clear hno
          go_wp2_with fail
          go_roundg (n - i)
          case measure => omega
          case rel => exact ⟨i + 1, k2, V, cv, by omega, by omega, by go_num, rfl, by rw [HNO.out]; exact HPL.out, by rw [HNO.out]; exact HO.out, HKR.out⟩
      · obtain rfl : i = n := by omega
        have hfin : fallP r k below i = zs0 := HALL.out.symm
        have hO2 := HO.out
        have hp2 := HPL.out
        rw [hfin] at hO2 hp2
        have HO2 := Lib.hid hO2
        have HP2 := Lib.hid hp2
        clear hO2 hp2
        clear hfin
        go_wp2_with fail
        go_ret
        exact ⟨V, k2, cv, HP2.out.symm, rfl, HO2.out, HKR.out⟩
end Go.Proofs.Ytmjnicikikgncaa
