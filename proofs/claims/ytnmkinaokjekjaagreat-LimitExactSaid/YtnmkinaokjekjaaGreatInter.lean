/- The walk of limit's Intersect. -/
import Derived.Test.YtnmkinaokjekjaaGreatUnion
import Derived.Test.YtnmkinaokjekjaaGreatJoin
namespace Go.Proofs.YtnmkinaokjekjaaGreat
set_option linter.unusedVariables false
open Go.RowKit

def prodL (n : Nat) (a b : List (List Int)) : List (List Int) := a.flatMap fun x => b.map fun y => minV n x y
theorem mem_prodL {n : Nat} {a b : List (List Int)} {z : List Int} : z ∈ prodL n a b ↔ ∃ x ∈ a, ∃ y ∈ b, z = minV n x y := by
  unfold prodL
  rw [List.mem_flatMap]
  exact ⟨fun ⟨x, h1, h2⟩ => by obtain ⟨y, h3, h4⟩ := List.mem_map.1 h2; exact ⟨x, h1, y, h3, h4.symm⟩, fun ⟨x, h1, y, h2, e⟩ => ⟨x, h1, List.mem_map.2 ⟨y, h2, e.symm⟩⟩⟩
theorem len_prodL (n : Nat) (a b : List (List Int)) : (prodL n a b).length = a.length * b.length := by
  unfold prodL
  induction a with
  | nil => simp
  | cons x a ih => simp [List.flatMap_cons, ih, Nat.succ_mul, Nat.add_comm]
theorem take_snoc {xs : List (List Int)} {k : Nat} (hk : k < xs.length) : xs.take (k + 1) = xs.take k ++ [xs.getD k []] := by
  rw [List.take_succ_eq_append_getElem hk]
  simp [List.getD_eq_getElem?_getD, hk]
theorem prodL_snoc (n : Nat) (a b : List (List Int)) (x : List Int) : prodL n (a ++ [x]) b = prodL n a b ++ b.map fun y => minV n x y := by simp [prodL]
theorem minV_val {n : Nat} {x y : List Int} (hx : VVal x) (hy : VVal y) (h1 : x.length = n) (h2 : y.length = n) : VVal (minV n x y) := ⟨by rw [minV_len, ← h1]; exact hx.few, fun z hz => by
  unfold minV at hz
  obtain ⟨i, hi, e⟩ := List.mem_map.1 hz
  rw [List.mem_range] at hi
  have g1 := hx.el _ (getD_mem (d := 0) (show i < x.length by omega))
  have g2 := hy.el _ (getD_mem (d := 0) (show i < y.length by omega))
  unfold VEl at *
  rw [← e]; omega⟩
set_option maxRecDepth 100000 in
set_option maxHeartbeats 8000000 in
theorem intersect_is {w : World} {l : List Nat} {av bv : Value} {a b : List (List Int)} {n : Int} (hlw : ∀ y ∈ l, y < w.heap.size) (ha : IsII w l av a) (hn : a.length ≤ 100000000) (hL : ∀ x ∈ a, x.length ≤ 1000000) (hb : IsII w l bv b) (hm : b.length ≤ 100000000) (hM : ∀ x ∈ b, x.length ≤ 1000000) :
    Calls Tryz.prog 22 #[.int .i64 n, av, bv] w (SetPost n a b (prodL n.toNat a b) l w) := by
  unfold SetPost
  have egg := enters_of Tryz.func67 (by kernel_rfl) rfl
  have hck := check2_is (n := n) hlw ha hn hL hb hm hM
  have helF := fun h => ckE_el (n := n) (a := a) (b := b) h
  have ha' := ha
  obtain ⟨A0, c0, V, rfl, _, _, hca, hva⟩ := ha'
  have hb' := hb
  obtain ⟨B0, d0, U, rfl, _, _, hcb, hvb⟩ := hb'
  generalize ckE n a b = z at *
  by_cases h0 : z = 0
  · subst h0
    obtain ⟨_, f1, f2, hel⟩ := helF rfl
    have hel2 : ∀ x ∈ prodL n.toNat a b, VVal x ∧ x.length = n.toNat := fun x hx => by
      obtain ⟨u, hu, v, hv, rfl⟩ := mem_prodL.1 hx
      have g1 := hel u (.inl hu)
      have g2 := hel v (.inr hv)
      exact ⟨minV_val g1.1 g2.1 g1.2 g2.2, minV_len⟩
    have hsm : ∀ x ∈ prodL n.toNat a b, x.length ≤ 1000000 := fun x hx => by have := (hel2 x hx).1.few; omega
    have hpl : (prodL n.toNat a b).length ≤ 65536 := by rw [len_prodL]; exact Nat.mul_le_mul f1 f2
    have hred := fun W (k : Keeps [] w W) lv (hI : IsII W l lv (prodL n.toNat a b)) => reduced_is (gr := 66) (fun y hy => Nat.lt_of_lt_of_le (hlw y hy) k.size) covF_G egg (ordG hel2) (fun x hx => ⟨hsm x hx, hsm x hx⟩) hI (by omega)
    clear helF
    generalize hnt : n.toNat = nt at *
    generalize han : a.length = an at *
    generalize hbn : b.length = bn at *
    have HCK := Lib.hid hck
    have HRED := Lib.hid hred
    have HLW := Lib.hid hlw
    have HL := Lib.hid hL
    have HM := Lib.hid hM
    have HA := Lib.hid ha
    have HB := Lib.hid hb
    have HEL := Lib.hid hel
    have HEL2 := Lib.hid hel2
    have HSM := Lib.hid hsm
    have HCA := Lib.hid hca
    have HCB := Lib.hid hcb
    have HVA := Lib.hid hva
    have HVB := Lib.hid hvb
    have HPL := Lib.hid hpl
    have HAN := Lib.hid han
    have HBN := Lib.hid hbn
    have HNT := Lib.hid hnt
    clear hck hred hlw hL hM ha hb hel hel2 hsm hca hcb hva hvb hpl han hbn hnt
    go_enter Tryz.func22, Tryz.ntmps22
    go_wp2_with fail
    refine HCK.out.mono ?_
    rintro e w1 ⟨rfl, hk1⟩
    have HK1 := Lib.hid hk1
    clear hk1
    go_wp2_with fail
    go_loopg [9, 25] (an + 1) (fun gh sv kv wr => ∃ (k : Nat) (A' : Option Addr) (m c' : Nat) (ys : List (List Int)), an + 1 ≤ k + gh ∧ k ≤ an ∧ kv = .int .i64 (k : Int) ∧ sv = .slice A' m c' ∧ m = ys.length ∧ m ≤ k * 256 ∧ ys = prodL nt (a.take k) b ∧ OwL IsI [] 22 w.heap.size wr l (.slice A' m c') ys ∧ Keeps [] w wr)
    case atStart => exact ⟨0, none, 0, 0, [], by omega, by omega, rfl, rfl, rfl, by omega, rfl, OwL.nil, HK1.out⟩
    case round =>
      obtain ⟨k, A', m, c', ys, hgh, hk, rfl, rfl, hm, hmk, hys, hO, hkr⟩ := hrel
      have HM := Lib.hid hm
      have HYS := Lib.hid hys
      have HO := Lib.hid hO
      have HKR := Lib.hid hkr
      clear hm hys hO hkr
      by_cases hlt : k < an
      · obtain ⟨pa, ea, hpa⟩ := (HCA.out.keeps (HKR.out.nil l)).at_ hlt
        have hxm := getD_mem (d := []) (show k < a.length by rw [HAN.out]; exact hlt)
        have hx := HVA.out k hlt
        obtain ⟨Ax, cx, ex, _⟩ := (show IsI w l (V k) (a.getD k []) from hx).open
        have hxe := HEL.out _ (.inl hxm)
        rw [ex] at hpa hx
        rw [hxe.2] at hpa hx
        subst ea
        have HX := Lib.hid hx
        have HXE := Lib.hid hxe
        clear hx hxe
        clear ex
        go_wp2_with fail
        clear hpa
        go_loopg [9, 31] (bn + 1) (fun gh sv jv wr => ∃ (j : Nat) (A' : Option Addr) (m c' : Nat) (zs : List (List Int)), bn + 1 ≤ j + gh ∧ j ≤ bn ∧ jv = .int .i64 (j : Int) ∧ sv = .slice A' m c' ∧ m = zs.length ∧ m ≤ k * 256 + j ∧ zs = ys ++ (b.take j).map (fun y => minV nt (a.getD k []) y) ∧ OwL IsI [] 22 w.heap.size wr l (.slice A' m c') zs ∧ Keeps [] w wr)
        case atStart => exact ⟨0, A', m, c', ys, by omega, by omega, rfl, rfl, HM.out, by omega, by simp, HO.out, HKR.out⟩
        case round =>
          obtain ⟨j, A2, m2, c2, zs, hgh2, hj, rfl, rfl, hm2, hmj, hzs, hO2, hk2⟩ := hrel
          have HM2 := Lib.hid hm2
          have HZS := Lib.hid hzs
          have HO2 := Lib.hid hO2
          clear hm2 hzs hO2
          by_cases hltj : j < bn
          · obtain ⟨pb, eb, hpb⟩ := (HCB.out.keeps (hk2.nil l)).at_ hltj
            have hym := getD_mem (d := []) (show j < b.length by rw [HBN.out]; exact hltj)
            have hy := HVB.out j hltj
            obtain ⟨By, cy, ey, _⟩ := (show IsI w l (U j) (b.getD j []) from hy).open
            have hye := HEL.out _ (.inr hym)
            rw [ey] at hpb hy
            rw [hye.2] at hpb hy
            subst eb
            have hmin := min_is (IsI.new HX.out hk2) (IsI.new hy hk2) HXE.out.1 hye.1 HXE.out.2 hye.2
            have hts := take_snoc (show j < b.length by rw [HBN.out]; exact hltj)
            have HK2 := Lib.hid hk2
            have HMIN := Lib.hid hmin
            have HYE := Lib.hid hye
            have HTS := Lib.hid hts
            clear hmin hye hts
            clear hy ey hk2 hym
            go_wp2_with fail
            refine HMIN.out.mono ?_
            rintro e w4 ⟨g, rfl, hgI, hk4⟩
            have hk5 := HK2.out.trans hk4
            have hz5 := hk5.size
            have hO5 := HO2.out.new hk4
            have hob := HO2.out.blocks
            have hgi := hgI ((Value.slice A2 m2 c2).ownBlock.toList ++ l) (fun y hy => by
              rcases List.mem_append.1 hy with h | h
              · exact (hob y h).2
              · exact Nat.lt_of_lt_of_le (HLW.out y h) HK2.out.size)
            have HK5 := Lib.hid hk5
            have HO5 := Lib.hid hO5
            have HGI := Lib.hid hgi
            clear hk5 hO5 hgi
            clear hgI hk4 hob
            go_wp2_with (at_builtin; refine wpList_push sl_rowsi rfl _ _ rfl (w := w4) (u := .slice (some ⟨g, 0, none⟩) nt nt) (y := minV nt (a.getD k []) (b.getD j [])) (v := .slice A2 m2 c2) rfl rfl HO5.out HGI.out (m := m2 + 1) (by rw [← HM2.out]) (by omega) hz5 (w0 := w) (l0 := []) (Nat.le_refl _) HK5.out ?_; intro V' c' w6 hown6 hg6 hk6)
            have HOWN6 := Lib.hid hown6
            have HK6 := Lib.hid hk6
            clear hown6 hk6
            clear hg6
            go_roundg (bn - j)
            case measure => omega
            case rel => exact ⟨j + 1, V', m2 + 1, c', zs ++ [minV nt (a.getD k []) (b.getD j [])], by omega, by omega, by go_num, rfl, by simp [← HM2.out], by omega, by rw [HTS.out, List.map_append, HZS.out]; simp, HOWN6.out, HK6.out⟩
          · obtain rfl : j = bn := by omega
            have hts := take_snoc (show k < a.length by rw [HAN.out]; exact hlt)
            have htb : b.take j = b := List.take_of_length_le (by rw [HBN.out]; exact Nat.le_refl _)
            have HK2 := Lib.hid hk2
            have HTS := Lib.hid hts
            have HTB := Lib.hid htb
            clear hts htb
            clear hk2
            go_wp2_with fail
            go_roundg (an - k)
            case measure => omega
            case rel => exact ⟨k + 1, A2, m2, c2, zs, by omega, by omega, by go_num, rfl, HM2.out, by have := f2; omega, by rw [HTS.out, prodL_snoc, HZS.out, HTB.out, HYS.out], HO2.out, HK2.out⟩
      · obtain rfl : k = an := by omega
        have hta : a.take k = a := List.take_of_length_le (by rw [HAN.out]; exact Nat.le_refl _)
        have hys2 := HYS.out
        rw [hta] at hys2
        subst hys2
        have hI : IsII wr l (.slice A' m c') (prodL nt a b) := HO.out.isL HLW.out
        have hk0 := HKR.out
        have HI := Lib.hid hI
        clear hI
        clear hta
        go_wp2_with fail
        refine (greatest_is wr).mono ?_
        rintro e w2 ⟨rfl, hk2⟩
        have hk5 := HKR.out.trans hk2
        have hr := HRED.out w2 hk5 _ (IsII.new HI.out hk2)
        have HK5 := Lib.hid hk5
        have HR := Lib.hid hr
        clear hk5 hr
        clear hk2 hk0
        go_wp2_with fail
        refine HR.out.mono ?_
        rintro e w5 ⟨A, q, c, out, hq, rfl, hasc, hys, hO, hk6⟩
        have hI : IsII w5 l (.slice A q c) out := hO.isL (fun y hy => Nat.lt_of_lt_of_le (HLW.out y hy) HK5.out.size)
        have hk7 := HK5.out.trans hk6
        have HK7 := Lib.hid hk7
        have HI := Lib.hid hI
        have HQ := Lib.hid hq
        have HASC := Lib.hid hasc
        have HYS := Lib.hid hys
        clear hk7 hI hq hasc hys
        clear hk6 hO
        go_wp2_with fail
        refine (limited_any A q c w5).mono ?_
        rintro e w6 ⟨he, rfl⟩
        by_cases h256 : 256 < q
        · rw [if_pos h256] at he
          subst he
          go_wp2_with fail
          go_ret2
          exact ⟨HK7.out, .inr ⟨by first | rfl | trivial, out, HASC.out, HYS.out, .inl ⟨by rw [← HQ.out]; exact h256, rfl⟩⟩⟩
        · rw [if_neg h256] at he
          subst he
          go_wp2_with fail
          go_ret2
          exact ⟨HK7.out, .inr ⟨by first | rfl | trivial, out, HASC.out, HYS.out, .inr ⟨by rw [← HQ.out]; omega, A, q, c, HQ.out, rfl, HI.out⟩⟩⟩
  · have hbz : (z != 0) = true := by simpa using h0
    have HCK := Lib.hid hck
    have H0 := Lib.hid h0
    clear hck h0
    go_enter Tryz.func22, Tryz.ntmps22
    go_wp2_with fail
    refine HCK.out.mono ?_
    rintro e w1 ⟨rfl, hk1⟩
    have HK1 := Lib.hid hk1
    clear hk1
    go_wp2_with fail
    go_ret2
    exact ⟨HK1.out, .inl ⟨H0.out, rfl⟩⟩
end Go.Proofs.YtnmkinaokjekjaaGreat
