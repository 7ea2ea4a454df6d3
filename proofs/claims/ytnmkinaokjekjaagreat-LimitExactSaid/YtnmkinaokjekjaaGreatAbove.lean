/- The walk of limit's Above. -/
import Derived.Test.YtnmkinaokjekjaaGreatBelow
namespace Go.Proofs.YtnmkinaokjekjaaGreat
set_option linter.unusedVariables false
open Go.RowKit

def AbvPost (n : Int) (C : List (List Int)) (l : List Nat) (w : World) (e : Ending) (w' : World) : Prop :=
  Keeps [] w w' ∧ ((cornE n vvB C ≠ 0 ∧ e = .returned (.tuple #[.slice none 0 0, .int .i64 (cornE n vvB C)])) ∨ (cornE n vvB C = 0 ∧ ∃ out, Bey vltB turnA (List.replicate n.toNat 0) C out ∧ ((eachL n vfB out ≠ 0 ∧ e = .returned (.tuple #[.slice none 0 0, .int .i64 1])) ∨ (eachL n vfB out = 0 ∧ OutL l out e w'))))
set_option maxRecDepth 100000 in
set_option maxHeartbeats 4000000 in
theorem above_walk {w : World} {l : List Nat} {cv : Value} {C : List (List Int)} {n : Int} (hl : ∀ y ∈ l, y < w.heap.size) (h : IsII w l cv C) (hn : C.length ≤ 1000000000) (hC : ∀ x ∈ C, x.length ≤ 1000000) :
    Calls Tryz.prog 26 #[.int .i64 n, cv] w (AbvPost n C l w) := by
  unfold AbvPost
  have egv := enters_of Tryz.func66 (by kernel_rfl) rfl
  have egf := enters_of Tryz.func46 (by kernel_rfl) rfl
  have ega := enters_of Tryz.func60 (by kernel_rfl) rfl
  have egt := enters_of Tryz.func61 (by kernel_rfl) rfl
  have egb := enters_of Tryz.func56 (by kernel_rfl) rfl
  have hcor := fun W (k : Keeps [] w W) => corners_is (n := n) (gc := 67) rightF_V egv (h.new k) hn hC
  have h' := h
  obtain ⟨A0, c0, V, rfl, _⟩ := h'
  generalize hz : cornE n vvB C = z at *
  have HCOR := Lib.hid hcor
  have HC := Lib.hid hC
  have HL := Lib.hid hl
  have H := Lib.hid h
  clear hcor hC hl h
  by_cases h0 : z = 0
  · subst h0
    obtain ⟨⟨hn1, hn4⟩, hc12, hcs⟩ := cornE_zero.1 hz
    obtain ⟨m, rfl⟩ : ∃ m : Nat, n = (m : Int) := ⟨n.toNat, by omega⟩
    have hcs2 : ∀ c ∈ C, SmV m 1048576 c := fun c hc => ⟨by have := (hcs c hc).1; omega, fun z hz => (vvB_true.1 (hcs c hc).2).el z hz⟩
    have hbp := beyA (n := m) (K := 1048576) (C := C) (by omega) hcs2
    have hcd : ∀ c ∈ C, c.length = m ∧ ∀ z ∈ c, DB z := fun c hc => ⟨(hcs2 c hc).len, fun z hz => by
      rcases (hcs2 c hc).el z hz with h | h
      · unfold DB; omega
      · unfold DB; unfold OM at h; omega⟩
    have hQ : ∀ x, UpV m (1048576 + 1) x → x.length = m ∧ ∀ z ∈ x, DB z := fun x hx => ⟨hx.len, fun z hz => by have := hx.el z hz; unfold DB; omega⟩
    have hbey := fun W (k : Keeps [] w W) bv (hb : IsI W l bv (List.replicate m 0)) => beyond_is (gr := 46) (fun y hy => Nat.lt_of_lt_of_le (HL.out y hy) k.size) (covF_A m (by omega)) ega above2_turn egt hbp hQ hcd (by omega) (by omega) hc12 hb (H.out.new k)
    have heach := fun out (hby : Bey vltB turnA (List.replicate m 0) C out) W A q c (hI : IsII W l (.slice A q c) out) => each_is (n := (m : Int)) (gc := 60) rightF_F egf hI (by
        have h1 := bey_len hby hbp
        have h2 : m ^ C.length ≤ 4 ^ 12 := Nat.le_trans (Nat.pow_le_pow_left (by omega) _) (Nat.pow_le_pow_right (by omega) hc12)
        omega) (fun x hx => by rw [(bey_P hby hbp x hx).len]; omega)
    have HZ := Lib.hid hz
    generalize hCn : C.length = K at *
    have HEA := Lib.hid heach
    have HBEY := Lib.hid hbey
    have HCS := Lib.hid hcs
    have HCS2 := Lib.hid hcs2
    have HBP := Lib.hid hbp
    have HCD := Lib.hid hcd
    have HQ := Lib.hid hQ
    have HCN := Lib.hid hCn
    clear hbey hcs hcs2 hbp hcd hQ hCn
    clear hz heach
    go_enter Tryz.func26, Tryz.ntmps26
    go_wp2_with fail
    refine (greatest_is w).mono ?_
    rintro e w1 ⟨rfl, hk1⟩
    have hc := HCOR.out w1 hk1
    have HK1 := Lib.hid hk1
    have HC := Lib.hid hc
    clear hk1 hc
    go_wp2_with fail
    refine HC.out.mono ?_
    rintro e w2 ⟨rfl, hk2⟩
    have hk3 := HK1.out.trans hk2
    have HK3 := Lib.hid hk3
    clear hk3
    clear hk2
    go_upto_region 5 with fail
    have hal : Keeps [] w2 (w2.alloc (.cells #[.func (.func 46) #[] #[], .func (.func 60) #[] #[]] 55)) := (Keeps.refl _ _).alloc _
    have hs0 := World.cell?_alloc_new w2 #[.func (.func 46) #[] #[], .func (.func 60) #[] #[]] 55 0
    have hs1 := World.cell?_alloc_new w2 #[.func (.func 46) #[] #[], .func (.func 60) #[] #[]] 55 1
    have hlt : Hid (w2.heap.size + 1 = (w2.alloc (.cells #[.func (.func 46) #[] #[], .func (.func 60) #[] #[]] 55)).heap.size) := by unfold Hid; simp
    have hKa := HK3.out.trans hal
    generalize w2.alloc (.cells #[.func (.func 46) #[] #[], .func (.func 60) #[] #[]] 55) = wa at *
    haveI kba : KB [] wa w := ⟨hKa⟩
    have hmk := run_make_n sl_int m (by omega)
    have hla : ∀ y ∈ l, y < wa.heap.size := fun y hy => Nat.lt_of_lt_of_le (HL.out y hy) hKa.size
    have hmade : IsI (wa.alloc (.cells (madeCells #[Value.int .i64 0] m) 3)) l (.slice (some ⟨wa.heap.size, 0, none⟩) m m) (List.replicate m 0) := Own.isI (f := fun _ => 0) (own_made wa (.int .i64 0) rfl m 3) (fun hm => by have := hla _ hm; omega) (Nat.le_refl _) (by simp) (fun i hi => by simp [List.getD_eq_getElem?_getD, hi])
    have hz2 := HK3.out.size
    have HMADE := Lib.hid hmade
    have HKA := Lib.hid hKa
    have HLA := Lib.hid hla
    clear hmade hKa hla
    clear hal
    go_region_held3 (fun W => W.cell? ⟨w2.heap.size, 0, none⟩ = some (.func (.func 46) #[] #[]) ∧ W.cell? ⟨w2.heap.size, 1, none⟩ = some (.func (.func 60) #[] #[])) (exact ⟨cell_now (a := wa) [] hs0 (by simp), cell_now (a := wa) [] hs1 (by simp)⟩) (first
      | (refine step_callw 56 #[.tmp 17, .tmp 19, .tmp 20, .func 61] #[55, 22, 23, 68] rfl egb (HBEY.out _ (kf [] w _) (.slice (some ⟨wa.heap.size, 0, none⟩) m m) (IsI.new HMADE.out (kf [] _ _))) (by first | rfl | (simp [Region.wanted, yielded]; done) | simp [Region.wanted, yielded, Act.put]) (by first | (simp [Act.eval]; done) | (simp only [Act.eval, Act.put]; simp; done) | simp [Act.eval, Act.put]) ?_; rintro e w5 ⟨A, q, c, out, hq, rfl, hby, hI, hk8⟩; refine ⟨_, rfl, ?_⟩; have HQQ := Lib.hid hq; clear hq; haveI kb5 : KB [] w5 _ := ⟨hk8⟩))
    all_goals
      have hk9 : Keeps [] w w5 := kf [] w w5
      have hs0 := cell_now (a := wa) (c := w5) [] hs0 (by simp)
      have hs1 := cell_now (a := wa) (c := w5) [] hs1 (by simp)
      have hea := HEA.out out hby w5 A q c hI
      generalize hez : eachL (m : Int) vfB out = ez at *
      have HK9 := Lib.hid hk9
      have HBY := Lib.hid hby
      have HI := Lib.hid hI
      have HEA := Lib.hid hea
      have HEZ := Lib.hid hez
      clear hk9 hby hI hea hez
      clear hk8
      by_cases he0 : ez = 0
      · subst he0
        go_wp2_with fail
        with_reducible refine HEA.out.mono ?_
        rintro e w6 ⟨rfl, hk10⟩
        have hI6 := IsII.new HI.out hk10
        have hk11 := HK9.out.trans hk10
        have HI6 := Lib.hid hI6
        have HK11 := Lib.hid hk11
        clear hI6 hk11
        clear hk10
        go_wp2_with fail
        refine (limited_any A q c w6).mono ?_
        rintro e w7 ⟨he, rfl⟩
        by_cases h256 : 256 < q
        · rw [if_pos h256] at he
          subst he
          go_wp2_with fail
          go_ret2
          exact ⟨HK11.out, .inr ⟨by first | rfl | trivial, out, HBY.out, .inr ⟨HEZ.out, .inl ⟨by rw [← HQQ.out]; exact h256, rfl⟩⟩⟩⟩
        · rw [if_neg h256] at he
          subst he
          go_wp2_with fail
          go_ret2
          exact ⟨HK11.out, .inr ⟨by first | rfl | trivial, out, HBY.out, .inr ⟨HEZ.out, .inr ⟨by rw [← HQQ.out]; omega, A, q, c, HQQ.out, rfl, HI6.out⟩⟩⟩⟩
      · have hb : (ez != 0) = true := by simpa using he0
        have HE0 := Lib.hid he0
        clear he0
        go_wp2_with fail
        refine HEA.out.mono ?_
        rintro e w6 ⟨rfl, hk10⟩
        have hk11 := HK9.out.trans hk10
        have HK11 := Lib.hid hk11
        clear hk11
        clear hk10
        go_wp2_with fail
        go_ret2
        exact ⟨HK11.out, .inr ⟨by first | rfl | trivial, out, HBY.out, .inl ⟨by rw [HEZ.out]; exact HE0.out, rfl⟩⟩⟩
  · have hb : (z != 0) = true := by simpa using h0
    have HZ := Lib.hid hz
    have H0 := Lib.hid h0
    clear hz h0
    go_enter Tryz.func26, Tryz.ntmps26
    go_wp2_with fail
    refine (greatest_is w).mono ?_
    rintro e w1 ⟨rfl, hk1⟩
    have hc := HCOR.out w1 hk1
    have HK1 := Lib.hid hk1
    have HC := Lib.hid hc
    clear hk1 hc
    go_wp2_with fail
    refine HC.out.mono ?_
    rintro e w2 ⟨rfl, hk2⟩
    have hk3 := HK1.out.trans hk2
    have HK3 := Lib.hid hk3
    clear hk3
    clear hk2
    go_wp2_with fail
    go_ret2
    exact ⟨HK3.out, .inl ⟨H0.out, rfl⟩⟩
end Go.Proofs.YtnmkinaokjekjaaGreat
