/- The walk of the reference's falling. -/
import Derived.Test.YtmjnicikikgncaaPFall
import Derived.Test.YtmjnicikikgncaaPRef
import Derived.Test.YtmjnicikikgncaaPutL
import Derived.Test.YtmjnicikikgncaaNow
namespace Go.Proofs.Ytmjnicikikgncaa
set_option linter.unusedVariables false
open Go.RowKit

set_option maxRecDepth 100000 in
set_option maxHeartbeats 4000000 in
theorem rfalling_is : ∀ (k : Nat) {w : World} {l : List Nat} {rv : Value} {r : List Int} {below : Int} (hk7 : k ≤ 7) (hbk : below ≤ k) (hbl : -9223372036854775807 ≤ below) (hr6 : r.length ≤ 6) (hr0 : ∀ x ∈ r, 0 ≤ x) (hl : ∀ y ∈ l, y < w.heap.size) (hr : IsI w l rv r),
    Calls Try.prog 48 #[rv, .int .i64 (below - 1)] w (FalPost l ([] :: fallL r k below) w) := by
  intro k
  induction k with
  | zero =>
    intro w l rv r below hk7 hbk hbl hr6 hr0 hl hr
    unfold FalPost
    obtain ⟨R, c, rfl, _, _, h1⟩ := hr.open
    generalize hn : r.length = n at *
    have hz : fallL r 0 below = [] := rfl
    generalize fallL r 0 below = zs at *
    obtain ⟨mo, hmo⟩ : ∃ mo : Int, below - 1 = mo := ⟨_, rfl⟩
    rw [hmo]
    have hmo2 : mo < 0 := by have : below ≤ 0 := hbk; omega
    have hone : OwL IsI [] 22 w.heap.size (w.alloc (.cells #[.slice none 0 0] 22)) l (.slice (some ⟨w.heap.size, 0, none⟩) 1 1) [[]] := OwL.made1 IsI.nil
    have hkA : Keeps [] w (w.alloc (.cells #[.slice none 0 0] 22)) := (Keeps.refl _ _).alloc _
    have H1 := Lib.hid h1
    have HR := Lib.hid hr
    have HR0 := Lib.hid hr0
    have HL := Lib.hid hl
    have HN := Lib.hid hn
    have HZ := Lib.hid hz
    have HONE := Lib.hid hone
    have HKA := Lib.hid hkA
    clear h1 hr hr0 hl hn hz hone hkA
    clear hmo
    go_enter Try.func48, Try.ntmps48
    go_wp2_with fail
    go_loopg [5, 6] (n + 1) (fun gh sv iv wr => ∃ i : Nat, n + 1 ≤ i + gh ∧ i ≤ n ∧ iv = .int .i64 (i : Int) ∧ sv = .slice (some ⟨w.heap.size, 0, none⟩) 1 1 ∧ w.alloc (.cells #[.slice none 0 0] 22) = wr)
    case atStart => exact ⟨0, by omega, by omega, rfl, rfl, rfl⟩
    case round =>
      obtain ⟨i, hgh, hi, rfl, rfl, hwr⟩ := hrel
      have hkr : Keeps [] w wr := by rw [← hwr]; exact HKA.out
      have hO : OwL IsI [] 22 w.heap.size wr l (.slice (some ⟨w.heap.size, 0, none⟩) 1 1) [[]] := by rw [← hwr]; exact HONE.out
      have HKR := Lib.hid hkr
      have HO := Lib.hid hO
      have HWR := Lib.hid hwr
      clear hkr hO hwr
      by_cases hlt : i < n
      · obtain ⟨p, rfl, hp⟩ := (H1.out.keeps (HKR.out.nil l)).at_ hlt
        have h0 := HR0.out _ (getD_mem (d := 0) (show i < r.length by rw [HN.out]; exact hlt))
        generalize r.getD i 0 = x at *
        have hge : decide (mo < x) = true := decide_eq_true (by omega)
        have hge2 : mo < x := by omega
        go_wp2_with fail
        go_roundg (n - i)
        case measure => omega
        case rel => exact ⟨i + 1, by omega, by omega, by go_num, rfl, HWR.out⟩
      · obtain rfl : i = n := by omega
        go_wp2_with fail
        go_ret
        exact ⟨_, 1, 1, by rw [HZ.out]; rfl, rfl, by rw [HZ.out]; exact HO.out, HKR.out⟩
  | succ k ih =>
    intro w l rv r below hk7 hbk hbl hr6 hr0 hl hr
    unfold FalPost
    have hrec := fun (W : World) (l' : List Nat) (x : Int) (hx : x ≤ k) (hx0 : 0 ≤ x) (hl' : ∀ y ∈ l', y < W.heap.size) (kW : Keeps [] w W) (hw : ∀ y ∈ l', y ∈ l ∨ w.heap.size ≤ y) => ih (w := W) (l := l') (below := x) (by omega) hx (by omega) hr6 hr0 hl' (Rok.keeps (Rok.weak hr hw) (kW.nil l'))
    obtain ⟨R, c, rfl, _, _, h1⟩ := hr.open
    have hall := fallP_all r k below
    have hfl := fun i (hi : i ≤ 6) => fallP_len (r := r) hr6 (k := k) (i := i) (below := below) hi
    have hnn : fallN (k + 1) ≤ 335922 := fallN_le hk7
    have hlen := fallL_len (r := r) hr6
    have hwd := fallL_words hr0
    generalize hn : r.length = n at *
    generalize fallL r (k + 1) below = zs0 at *
    obtain ⟨mo, hmo⟩ : ∃ mo : Int, below - 1 = mo := ⟨_, rfl⟩
    rw [hmo]
    have hone : OwL IsI [] 22 w.heap.size (w.alloc (.cells #[.slice none 0 0] 22)) l (.slice (some ⟨w.heap.size, 0, none⟩) 1 1) [[]] := OwL.made1 IsI.nil
    have hkA : Keeps [] w (w.alloc (.cells #[.slice none 0 0] 22)) := (Keeps.refl _ _).alloc _
    have H1 := Lib.hid h1
    have HR := Lib.hid hr
    have HR0 := Lib.hid hr0
    have HL := Lib.hid hl
    have HN := Lib.hid hn
    have HREC := Lib.hid hrec
    have HALL := Lib.hid hall
    have HFL := Lib.hid hfl
    have HLEN := Lib.hid hlen
    have HWD := Lib.hid hwd
    have HNN := Lib.hid hnn
    have HONE := Lib.hid hone
    have HKA := Lib.hid hkA
    clear h1 hr hr0 hl hn hrec hall hfl hlen hwd hnn hone hkA
    clear ih
    go_enter Try.func48, Try.ntmps48
    go_wp2_with fail
    go_loopg [5, 6] (n + 1) (fun gh sv iv wr => ∃ (i k2 : Nat) (V : Option Addr) (cv : Nat), n + 1 ≤ i + gh ∧ i ≤ n ∧ iv = .int .i64 (i : Int) ∧ sv = .slice V k2 cv ∧ 1 + (fallP r k below i).length = k2 ∧ OwL IsI [] 22 w.heap.size wr l (.slice V k2 cv) ([] :: fallP r k below i) ∧ Keeps [] w wr)
    case atStart => exact ⟨0, 1, _, 1, by omega, by omega, rfl, rfl, by simp [fallP], by simpa [fallP] using HONE.out, HKA.out⟩
    case round =>
      obtain ⟨i, k2, V, cv, hgh, hi, rfl, rfl, hpl, hO, hkr⟩ := hrel
      have hz := hkr.size
      have hk2b : k2 ≤ 335923 := by rw [← hpl]; have := Nat.le_trans (HFL.out i (by omega)) HNN.out; omega
      have HPL := Lib.hid hpl
      have HO := Lib.hid hO
      have HKR := Lib.hid hkr
      clear hpl hO hkr
      by_cases hlt : i < n
      · obtain ⟨p, rfl, hp⟩ := (H1.out.keeps (HKR.out.nil l)).at_ hlt
        have hx0 := HR0.out _ (getD_mem (d := 0) (show i < r.length by rw [HN.out]; exact hlt))
        by_cases hxb : r.getD i 0 < below
        · have hyes := fallP_yes (r := r) (k := k) (below := below) (i := i) hxb
          have hxk : r.getD i 0 ≤ k := by omega
          have hlz := HLEN.out k (r.getD i 0)
          have hwz := HWD.out k (r.getD i 0)
          have hNk : fallN k ≤ 335922 := fallN_le (by omega)
          have hrec := fun W l' => HREC.out W l' (r.getD i 0) hxk hx0
          generalize r.getD i 0 = x at *
          generalize fallL r k x = zs at *
          generalize hPi : fallP r k below i = Ps at *
          have hb2 : ∀ y ∈ (Value.slice V k2 cv).ownBlock.toList ++ l, y < wr.heap.size := HO.out.putb fun y hy => Nat.lt_of_lt_of_le (HL.out y hy) hz
          have hw2 : ∀ y ∈ (Value.slice V k2 cv).ownBlock.toList ++ l, y ∈ l ∨ w.heap.size ≤ y := fun y hy => by
            rcases List.mem_append.1 hy with h | h
            · exact .inr (HO.out.blocks y h).1
            · exact .inl h
          have hcall := hrec wr _ hb2 HKR.out hw2
          have hle : decide (mo < x) = false := by simp; omega
          have hle2 : x ≤ mo := by omega
          obtain ⟨ys, hys⟩ : ∃ ys : List (List Int), [] :: zs = ys := ⟨_, rfl⟩
          rw [hys] at hcall
          have hfx : fallX (i : Int) zs = ys.map ((i : Int) :: ·) := by rw [← hys]; rfl
          have hyl : ys.length ≤ 335923 := by rw [← hys, List.length_cons]; omega
          have hwy : ∀ z ∈ ys, z.length ≤ k := fun z hz => by
            rw [← hys] at hz
            rcases List.mem_cons.1 hz with e | e
            · rw [e]; simp
            · exact hwz z e
          rw [hfx] at hyes
          have HYES := Lib.hid hyes
          have HWY := Lib.hid hwy
          have HNK := Lib.hid hNk
          have HPI := Lib.hid hPi
          have HCALL := Lib.hid hcall
          have HB2 := Lib.hid hb2
          clear hyes hwy hNk hPi hcall hb2
          clear hfx hys hrec hlz hwz hw2
          go_wp2_with fail
          refine HCALL.out.mono ?_
          rintro e w3 ⟨V3, n3, c3, hn3, rfl, hO3, hk3⟩
          have hL3 := hO3.isL HB2.out
          obtain ⟨Y1, cy1, U, hey, _, _, hyc, hyr⟩ := hL3
          injection hey with e1 e2 e3
          subst e1; subst e3
          rw [← hn3] at hyc hyr hyl
          have hown3 := HO.out.new hk3
          have hkw3 := HKR.out.trans hk3
          have hz3 := hkw3.size
          have HN3 := Lib.hid hn3
          have HYC := Lib.hid hyc
          have HYR := Lib.hid hyr
          have HOWN3 := Lib.hid hown3
          have HKW3 := Lib.hid hkw3
          clear hn3 hyc hyr hown3 hkw3
          clear e2 hO3 hk3
          go_wp2_with fail
          go_loopg [5, 8] (n3 + 1) (fun gh sv jv wr => ∃ (j k4 : Nat) (V4 : Option Addr) (c4 : Nat), n3 + 1 ≤ j + gh ∧ j ≤ n3 ∧ k4 = k2 + j ∧ jv = .int .i64 (j : Int) ∧ sv = .slice V4 k4 c4 ∧ OwL IsI [] 22 w.heap.size wr l (.slice V4 k4 c4) ([] :: Ps ++ (ys.take j).map ((i : Int) :: ·)) ∧ Keeps [] w wr ∧ Keeps ((Value.slice V k2 cv).ownBlock.toList) w3 wr ∧ ∀ y ∈ (Value.slice V4 k4 c4).ownBlock.toList, y ∈ (Value.slice V k2 cv).ownBlock.toList ∨ w3.heap.size ≤ y)
          case atStart => exact ⟨0, k2, V, cv, by omega, by omega, by omega, rfl, rfl, by simpa [HPI.out] using HOWN3.out, HKW3.out, Keeps.refl _ _, fun y hy => .inl hy⟩
          case round =>
            obtain ⟨j, k4, V4, c4, hgh4, hj, hk4e, rfl, rfl, hO4, hk4, hk34, hb4⟩ := hrel
            have hz4 := hk4.size
            have HK4E := Lib.hid hk4e
            have HO4 := Lib.hid hO4
            have HK4 := Lib.hid hk4
            have HK34 := Lib.hid hk34
            have HB4 := Lib.hid hb4
            clear hk4e hO4 hk4 hk34 hb4
            by_cases hltj : j < n3
            · have hk34l := HK34.out
              obtain ⟨p3, rfl, hp3⟩ := (HYC.out.keeps (hk34l.more (l' := (Value.slice V k2 cv).ownBlock.toList ++ l) fun y hy => List.mem_append.2 (.inl hy))).at_ hltj
              have hrow3 : IsI w3 ((Value.slice V k2 cv).ownBlock.toList ++ l) (U j) (ys.getD j []) := HYR.out j hltj
              have hzl : (ys.getD j []).length ≤ 100 := by
                have := HWY.out _ (getD_mem (d := []) (show j < ys.length by rw [← HN3.out]; exact hltj)); omega
              have hrow : IsI wr ((Value.slice V4 k4 c4).ownBlock.toList ++ l) (U j) (ys.getD j []) := by
                have g1 : IsI w3 ((Value.slice V4 k4 c4).ownBlock.toList ++ ((Value.slice V k2 cv).ownBlock.toList ++ l)) (U j) (ys.getD j []) := Rok.weak hrow3 fun y hy => by
                  rcases List.mem_append.1 hy with h | h
                  · exact (HB4.out y h).imp (fun h => List.mem_append.2 (.inl h)) id
                  · exact .inl h
                exact Rok.weak (Rok.keeps g1 (hk34l.more fun y hy => List.mem_append.2 (.inr (List.mem_append.2 (.inl hy))))) fun y hy => .inl (by
                  rcases List.mem_append.1 hy with h | h
                  · exact List.mem_append.2 (.inl h)
                  · exact List.mem_append.2 (.inr (List.mem_append.2 (.inr h))))
              have htk : (ys.take (j + 1)).map ((i : Int) :: ·) = (ys.take j).map ((i : Int) :: ·) ++ [(i : Int) :: ys.getD j []] := by
                have hjz : j < ys.length := by rw [← HN3.out]; exact hltj
                rw [List.take_succ_eq_append_getElem hjz, List.map_append]
                congr 1
                simp [List.getD_eq_getElem?_getD, hjz]
              have hlen4 : ([] :: Ps ++ (ys.take j).map ((i : Int) :: ·)).length = k4 := by
                have := HPL.out
                have := HK4E.out
                rw [List.length_append, List.length_cons, List.length_map, List.length_take, ← HN3.out]; omega
              have hbl4 : ∀ y ∈ (Value.slice V4 k4 c4).ownBlock.toList ++ l, y < wr.heap.size := HO4.out.putb fun y hy => Nat.lt_of_lt_of_le (HL.out y hy) hz4
              obtain ⟨Ur, cr, hUr, _⟩ := hrow.open
              rw [hUr] at hp3 hrow
              generalize ys.getD j [] = z at *
              generalize hzm : z.length = m at *
              have hp3a : (wr.alloc (.cells #[.int .i64 (i : Int)] 3)).cell? (p3.add j) = some (.slice Ur m cr) := ((Keeps.refl [] wr).alloc _).read hp3 (by simp)
              have hown1 : OwL IsN 0 3 wr.heap.size (wr.alloc (.cells #[.int .i64 (i : Int)] 3)) ((Value.slice V4 k4 c4).ownBlock.toList ++ l) (.slice (some ⟨wr.heap.size, 0, none⟩) 1 1) [(i : Int)] := OwL.made1 rfl
              have hu1 : IsL IsN 0 (wr.alloc (.cells #[.int .i64 (i : Int)] 3)) ((Value.slice (some ⟨wr.heap.size, 0, none⟩) 1 1).ownBlock.toList ++ ((Value.slice V4 k4 c4).ownBlock.toList ++ l)) (.slice Ur m cr) z := Rok.keeps (R := IsL IsN 0) (Rok.weak (R := IsL IsN 0) hrow fun y hy => by
                rcases List.mem_append.1 hy with h | h
                · have : y = wr.heap.size := by simpa [Value.ownBlock] using h
                  exact .inr (by omega)
                · exact .inl h) (((Keeps.refl [] wr).alloc _).nil _)
              have hk4b : k4 + 1 ≤ 1000000000 := by rw [HK4E.out]; omega
              have HROW := Lib.hid hrow
              have HTK := Lib.hid htk
              have HLEN4 := Lib.hid hlen4
              have HBL4 := Lib.hid hbl4
              have HZM := Lib.hid hzm
              have HOWN1 := Lib.hid hown1
              have HU1 := Lib.hid hu1
              clear hrow htk hlen4 hbl4 hzm hown1 hu1
              clear hUr hrow3 hk34l
              go_wp2_with (first
                | (have _t := hcp; at_builtin; refine wpList_pushg sl_rowsi rfl _ _ rfl (w := w5) (y := (i : Int) :: z) rfl rfl hO5 hcp (m := k4 + 1) (by rw [HLEN4.out]) hk4b hb5 ?_; intro V6 c6 w6 hown6 hg6 hb6)
                | (at_builtin; refine wpList_join sl_int rfl _ _ rfl rfl rfl HOWN1.out HU1.out (m := 1 + m) (by rw [HZM.out]; rfl) (by omega) (by simp) (w0 := wr) (l0 := []) (Nat.le_refl _) ((Keeps.refl _ _).alloc _) ?_; intro V5 c5 w5 hown5 hkk5 hk5; have hcp : IsI w5 ((Value.slice V4 k4 c4).ownBlock.toList ++ l) (.slice V5 (1 + m) c5) ((i : Int) :: z) := hown5.isL HBL4.out; have hO5 := HO4.out.new hk5; have hb5 := Nat.le_trans hz4 hk5.size))
              have g1 := (HK4.out.trans hk5).step hg6 fun y hy => .inr (HO4.out.blocks y hy).1
              have g2 := (HK34.out.trans (hk5.nil _)).step hg6 fun y hy => HB4.out y hy
              have g3 := HK34.out.size
              have g4 := hk5.size
              go_roundg (n3 - j)
              case measure => omega
              case rel => exact ⟨j + 1, k4 + 1, V6, c6, by omega, by omega, by rw [HK4E.out]; omega, by go_num, rfl, by rw [HTK.out, ← List.append_assoc]; exact hown6, g1, g2, fun y hy => by
                rcases hb6 y hy with h | h
                · exact HB4.out y h
                · exact .inr (by omega)⟩
            · obtain rfl : j = n3 := by omega
              have hall2 : ys.take j = ys := by rw [HN3.out, List.take_length]
              have hO5 := HO4.out
              rw [hall2] at hO5
              have hfx : [] :: Ps ++ ys.map ((i : Int) :: ·) = [] :: fallP r k below (i + 1) := by rw [HYES.out]; rfl
              rw [hfx] at hO5
              have hpl2 : 1 + (fallP r k below (i + 1)).length = k4 := by
                have := HPL.out
                have := HK4E.out
                rw [HYES.out, List.length_append, List.length_map, ← HN3.out]; omega
              have HO5 := Lib.hid hO5
              have HPL2 := Lib.hid hpl2
              clear hO5 hpl2
              clear hall2 hfx
              go_wp2_with fail
              go_roundg (n - i)
              case measure => omega
              case rel => exact ⟨i + 1, k4, V4, c4, by omega, by omega, by go_num, rfl, HPL2.out, HO5.out, HK4.out⟩
        · have hno := fallP_no (r := r) (k := k) (below := below) (i := i) hxb
          generalize r.getD i 0 = x at *
          have hge : decide (mo < x) = true := by simp; omega
          have hge2 : mo < x := by omega
          have HNO := Lib.hid hno
          clear hno
          go_wp2_with fail
          go_roundg (n - i)
          case measure => omega
          case rel => exact ⟨i + 1, k2, V, cv, by omega, by omega, by go_num, rfl, by rw [HNO.out]; exact HPL.out, by rw [HNO.out]; exact HO.out, HKR.out⟩
      · obtain rfl : i = n := by omega
        have hfin : fallP r k below i = zs0 := HALL.out.symm
        have hO2 := HO.out
        have hp2 := HPL.out
        rw [hfin] at hO2 hp2
        have HO2 := Lib.hid hO2
        have HP2 := Lib.hid hp2
        clear hO2 hp2
        clear hfin
        go_wp2_with fail
        go_ret
        exact ⟨V, k2, cv, by have h7 := HP2.out; show k2 = zs0.length + 1; omega, rfl, HO2.out, HKR.out⟩


def RFlgPost (r : List Int) (most : Int) (l : List Nat) (w : World) (e : Ending) (w' : World) : Prop :=
  Keeps [] w w' ∧ ((¬ PRanks r ∧ e = .returned (.tuple #[.slice none 0 0, .int .i64 2])) ∨
    ∃ A n c ys, PRanks r ∧ n = (ys : List (List Int)).length ∧ e = .returned (.tuple #[.slice A n c, .int .i64 0]) ∧ Asc ys ∧ (∀ x, x ∈ ys ↔ FallW r (min most 6 + 1) x) ∧ IsII w' l (.slice A n c) ys)
theorem take_mem' {L : List (List Int)} {q : Nat} {x : List Int} (hq : q < L.length) : x ∈ L.take (q + 1) ↔ x ∈ L.take q ∨ x = L.getD q [] := by
  rw [List.take_succ_eq_append_getElem hq, List.mem_append, List.mem_singleton]
  simp [List.getD_eq_getElem?_getD, hq]

set_option maxHeartbeats 2000000 in
theorem rfalling_all {w : World} {l : List Nat} {rv : Value} {r : List Int} {most : Int} (hl : ∀ y ∈ l, y < w.heap.size) (hr : IsI w l rv r) (hn : r.length ≤ 1000) (hmo : -9223372036854775808 ≤ most ∧ most ≤ 9223372036854775807) : Calls Try.prog 27 #[rv, .int .i64 most] w (RFlgPost r most l w) := by
  unfold RFlgPost
  obtain ⟨R, c, rfl, _, _, h1⟩ := hr.open
  have hma := rranks_is hr (by omega)
  obtain ⟨hm1, hm2⟩ := hmo
  by_cases hva : PRanks r
  · rw [prB_true.2 hva] at hma
    have hr0 : ∀ x ∈ r, 0 ≤ x := fun x hx => (hva.2 x hx).1
    have hrun := fun (W : World) (k : Keeps [] w W) => rfalling_is 7 (w := W) (l := l) (r := r) (below := min most 6 + 1) (Nat.le_refl _) (by omega) (by omega) hva.1.2 hr0 (fun y hy => Nat.lt_of_lt_of_le (hl y hy) k.size) (hr.new k)
    simp only [show min most 6 + 1 - 1 = min most 6 by omega] at hrun
    have hmem := fallL_mem hr0 7 (min most 6 + 1) (by omega)
    have hlen := fallL_len hva.1.2 7 (min most 6 + 1)
    have hN : fallN 7 ≤ 335922 := fallN_le (Nat.le_refl _)
    have hx : ∀ x ∈ fallL r 7 (min most 6 + 1), x.length ≤ 1000000 := fun x hx => by have := fallL_words hr0 7 _ x hx; omega
    have hlen := Nat.le_trans hlen hN
    have hmem2 : ∀ x, (x ≠ [] ∧ x ∈ [] :: fallL r 7 (min most 6 + 1)) ↔ FallW r (min most 6 + 1) x := fun x => by
      rw [← hmem x, List.mem_cons]
      constructor
      · rintro ⟨h1, h2 | h2⟩
        · exact absurd h2 h1
        · exact h2
      · exact fun h => ⟨((hmem x).1 h).1, .inr h⟩
    have hx2 : ∀ x ∈ [] :: fallL r 7 (min most 6 + 1), x.length ≤ 1000000 := fun x h => by
      rcases List.mem_cons.1 h with e | e
      · rw [e]; simp
      · exact hx x e
    have hlen2 : ([] :: fallL r 7 (min most 6 + 1)).length ≤ 335923 := by rw [List.length_cons]; omega
    have hput := fun W (k : Keeps [] w W) (u v : Value) L x => put_is (w := W) (l := l) (lv := u) (vv := v) (L := L) (v := x) (fun y hy => Nat.lt_of_lt_of_le (hl y hy) k.size)
    clear hmem hx hlen
    generalize [] :: fallL r 7 (min most 6 + 1) = zs at *
    generalize hrn : r.length = rn at *
    have H1 := Lib.hid h1
    have HR := Lib.hid hr
    have HMA := Lib.hid hma
    have HVA := Lib.hid hva
    have HL := Lib.hid hl
    have HRUN := Lib.hid hrun
    have HMEM2 := Lib.hid hmem2
    have HX2 := Lib.hid hx2
    have HPUT := Lib.hid hput
    have HR0 := Lib.hid hr0
    have HRN := Lib.hid hrn
    clear h1 hr hma hva hl hrun hmem2 hx2 hput hr0 hrn
    clear hN
    have hmn1 : min most 6 ≤ 6 := by omega
    have hmn2 : -9223372036854775808 ≤ min most 6 := by omega
    go_enter Try.func27, Try.ntmps27
    go_wp2_with fail
    refine HMA.out.mono ?_
    rintro e w1 ⟨rfl, hk1⟩
    have hcr := HRUN.out w1 hk1
    have HCR := Lib.hid hcr
    have HK1 := Lib.hid hk1
    clear hcr hk1
    go_wp2_with fail
    refine HCR.out.mono ?_
    rintro e w2 ⟨V, k0, c0, hk0, rfl, hO, hk2⟩
    have hk2 := HK1.out.trans hk2
    have hLL := hO.isL (fun y hy => by have := HL.out y hy; have := HK1.out.size; omega)
    obtain ⟨Y1, cy1, U, hey, _, _, hyc, hyr⟩ := hLL
    injection hey with e1 e2 e3
    subst e1; subst e3
    rw [← hk0] at hyc hyr hlen2
    have HK0 := Lib.hid hk0
    have HYC := Lib.hid hyc
    have HYR := Lib.hid hyr
    have HK2 := Lib.hid hk2
    clear hk0 hyc hyr hk2
    clear e2 hO
    go_wp2_with fail
    go_loopg [7, 8] (k0 + 1) (fun gh sv iv wr => ∃ (i k2 : Nat) (V : Option Addr) (cv : Nat) (ys : List (List Int)), k0 + 1 ≤ i + gh ∧ i ≤ k0 ∧ k2 ≤ i ∧ iv = .int .i64 (i : Int) ∧ sv = .slice V k2 cv ∧ ys.length = k2 ∧ Asc ys ∧ (∀ x, x ∈ ys ↔ x ≠ [] ∧ x ∈ zs.take i) ∧ IsII wr l (.slice V k2 cv) ys ∧ Keeps [] w2 wr)
    case atStart => exact ⟨0, 0, none, 0, [], by omega, by omega, by omega, rfl, rfl, rfl, List.Pairwise.nil, fun x => by simp, IsII.nil, Keeps.refl _ _⟩
    case round =>
      obtain ⟨i, k2, V, cv, ys, hgh, hi, hki, rfl, rfl, hlen, hasc, hmem, hO, hkr⟩ := hrel
      have HLEN := Lib.hid hlen
      have HASC := Lib.hid hasc
      have HMEM := Lib.hid hmem
      have HO := Lib.hid hO
      have HKR := Lib.hid hkr
      clear hlen hasc hmem hO hkr
      by_cases hlt : i < k0
      · obtain ⟨p, rfl, hp⟩ := (HYC.out.keeps (HKR.out.nil l)).at_ hlt
        have hrow : IsI w2 l (U i) (zs.getD i []) := HYR.out i hlt
        have hmz : zs.getD i [] ∈ zs := getD_mem (by rw [← HK0.out]; exact hlt)
        have hxl := HX2.out _ hmz
        have htk := fun x => take_mem' (L := zs) (q := i) (x := x) (by rw [← HK0.out]; exact hlt)
        obtain ⟨Ur, cr, hUr, _⟩ := hrow.open
        rw [hUr] at hp hrow
        generalize zs.getD i [] = z at *
        generalize hzm : z.length = m at *
        have HROW := Lib.hid hrow
        have HTK := Lib.hid htk
        have HZM := Lib.hid hzm
        have HMZ := Lib.hid hmz
        clear hrow htk hzm hmz
        clear hUr
        by_cases hm0 : m = 0
        · have hd : decide ((0 : Int) < (m : Int)) = false := decide_eq_false (by omega)
          have hd2 : decide (0 < m) = false := decide_eq_false (by omega)
          have hze : z = [] := List.eq_nil_of_length_eq_zero (by rw [HZM.out]; exact hm0)
          have hmem2' : ∀ x, x ∈ ys ↔ x ≠ [] ∧ x ∈ zs.take (i + 1) := fun x => by
            rw [HMEM.out x, HTK.out x, hze]
            exact ⟨fun h => ⟨h.1, .inl h.2⟩, fun h => ⟨h.1, h.2.elim id fun e => absurd e h.1⟩⟩
          have HMEM2' := Lib.hid hmem2'
          have HZE := Lib.hid hze
          clear hmem2' hze
          have hm00 : ¬ 0 < m := by omega
          clear hm0
          go_wp2_with fail
          go_roundg (k0 - i)
          case measure => omega
          case rel => exact ⟨i + 1, k2, V, cv, ys, by omega, by omega, by omega, by go_num, rfl, HLEN.out, HASC.out, HMEM2'.out, HO.out, HKR.out⟩
        · have hd : decide ((0 : Int) < (m : Int)) = true := decide_eq_true (by omega)
          have hd2 : decide (0 < m) = true := decide_eq_true (by omega)
          have hkw := HK2.out.trans HKR.out
          have hcp := HPUT.out wr hkw _ _ ys z HO.out (IsI.new HROW.out HKR.out) (by rw [HLEN.out]; omega) (fun x hx => HX2.out x (List.mem_of_mem_take ((HMEM.out x).1 hx).2)) (by rw [HZM.out]; exact hxl)
          have hle3 := putL_len (L := ys) (v := z)
          have hasc3 := putL_asc (v := z) HASC.out
          have hne : z ≠ [] := fun e => hm0 (by rw [← HZM.out, e]; rfl)
          have hm3 : ∀ x, x ∈ putL ys z ↔ x ≠ [] ∧ x ∈ zs.take (i + 1) := fun x => by
            rw [mem_putL, HMEM.out x, HTK.out x]
            constructor
            · rintro (e | ⟨h1, h2⟩)
              · exact ⟨by rw [e]; exact hne, .inr e⟩
              · exact ⟨h1, .inl h2⟩
            · rintro ⟨h1, h2 | h2⟩
              · exact .inr ⟨h1, h2⟩
              · exact .inl h2
          rw [HLEN.out] at hle3
          generalize hys2 : putL ys z = ys2 at *
          have HYS2 := Lib.hid hys2
          have HCP := Lib.hid hcp
          have HASC3 := Lib.hid hasc3
          have HM3 := Lib.hid hm3
          have HNE := Lib.hid hne
          have HKW := Lib.hid hkw
          clear hys2 hcp hasc3 hm3 hne hkw
          go_wp2_with fail
          refine HCP.out.mono ?_
          rintro e w4 ⟨A4, n4, c4, rfl, hI4, hk4⟩
          have hk4 := HKR.out.trans hk4
          rw [HYS2.out] at hI4
          have hn4 : n4 = ys2.length := by
            obtain ⟨A', c', V', hv, _⟩ := hI4
            injection hv
          have HI4 := Lib.hid hI4
          have HK4 := Lib.hid hk4
          have HN4 := Lib.hid hn4
          clear hI4 hk4 hn4
          go_wp2_with fail
          go_roundg (k0 - i)
          case measure => omega
          case rel => exact ⟨i + 1, n4, A4, c4, ys2, by omega, by omega, by rw [HN4.out]; omega, by go_num, rfl, HN4.out.symm, HASC3.out, HM3.out, HI4.out, HK4.out⟩
      · obtain rfl : i = k0 := by omega
        have hfin : ∀ x, x ∈ ys ↔ FallW r (min most 6 + 1) x := fun x => by
          rw [HMEM.out x, HK0.out, List.take_length]; exact HMEM2.out x
        have HFIN := Lib.hid hfin
        clear hfin
        go_wp2_with fail
        go_ret2
        exact ⟨HK2.out.trans HKR.out, .inr ⟨V, k2, cv, ys, HVA.out, HLEN.out.symm, rfl, HASC.out, HFIN.out, HO.out⟩⟩
  · rw [prB_false.2 hva] at hma
    generalize hrn : r.length = rn at *
    have H1 := Lib.hid h1
    have HR := Lib.hid hr
    have HMA := Lib.hid hma
    have HVA := Lib.hid hva
    have HL := Lib.hid hl
    have HRN := Lib.hid hrn
    clear h1 hr hma hva hl hrn
    go_enter Try.func27, Try.ntmps27
    go_wp2_with fail
    refine HMA.out.mono ?_
    rintro e w1 ⟨rfl, hk1⟩
    have HK1 := Lib.hid hk1
    clear hk1
    go_wp2_with fail
    go_ret2
    exact ⟨HK1.out, .inl ⟨HVA.out, rfl⟩⟩
end Go.Proofs.Ytmjnicikikgncaa
