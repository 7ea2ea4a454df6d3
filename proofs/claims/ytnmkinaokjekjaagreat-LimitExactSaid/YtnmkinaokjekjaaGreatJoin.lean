/- The walk of vector.Min. -/
import Derived.Test.YtnmkinaokjekjaaGreatVecF
import Derived.Test.YtnmkinaokjekjaaGreatOwnI
import Derived.Test.YtnmkinaokjekjaaGreatBeyL
namespace Go.Proofs.YtnmkinaokjekjaaGreat
set_option linter.unusedVariables false
open Go.RowKit

def minV (n : Nat) (a b : List Int) : List Int := (List.range n).map fun i => min (a.getD i 0) (b.getD i 0)
theorem minV_at {n : Nat} {a b : List Int} {i : Nat} (hi : i < n) : (minV n a b).getD i 0 = min (a.getD i 0) (b.getD i 0) := by
  unfold minV
  simp [List.getD_eq_getElem?_getD, hi]
theorem minV_len {n : Nat} {a b : List Int} : (minV n a b).length = n := by simp [minV]
set_option maxHeartbeats 400000 in
theorem min1_is (W : World) (x y : Int) (hx : -1 ≤ x ∧ x ≤ 1099511627776) (hy : -1 ≤ y ∧ y ≤ 1099511627776) : Calls Tryz.prog 85 #[.int .i64 x, .int .i64 y] W (fun e w' => e = .returned (.int .i64 (min x y)) ∧ W = w') := by
  obtain ⟨hx1, hx2⟩ := hx
  obtain ⟨hy1, hy2⟩ := hy
  go_enter Tryz.func85, Tryz.ntmps85
  go_wp2_with fail
  go_ret
  exact ⟨rfl, rfl⟩
def MinPost (n : Nat) (z : List Int) (w : World) (e : Ending) (w' : World) : Prop :=
  ∃ g, e = .returned (.tuple #[.slice (some ⟨g, 0, none⟩) n n, .int .i64 0]) ∧ (∀ l', (∀ y ∈ l', y < w.heap.size) → IsI w' l' (.slice (some ⟨g, 0, none⟩) n n) z) ∧ Keeps [] w w'
set_option maxRecDepth 100000 in
set_option maxHeartbeats 2000000 in
theorem join_is {w : World} {l : List Nat} {av bv : Value} {a b : List Int} {n : Nat} (ha : IsI w l av a) (hb : IsI w l bv b) (hva : VVal a) (hvb : VVal b) (hla : a.length = n) (hlb : b.length = n) :
    Calls Tryz.prog 84 #[av, bv, .func (.func 66) #[] #[], .func (.func 85) #[] #[]] w (MinPost n (minV n a b) w) := by
  unfold MinPost
  have egv := enters_of Tryz.func66 (by kernel_rfl) rfl
  have egm := enters_of Tryz.func85 (by kernel_rfl) rfl
  have hn6 : n ≤ 6 := by rw [← hla]; exact hva.few
  have h1 := valid_is ha (by omega)
  have h2 := fun W (k : Keeps [] w W) => valid_is (hb.new k) (by omega)
  rw [vvB_true.2 hva] at h1
  rw [vvB_true.2 hvb] at h2
  have hea : ∀ i, i < n → -1 ≤ a.getD i 0 ∧ a.getD i 0 ≤ 1099511627776 := fun i hi => by
    have := hva.el _ (getD_mem (d := 0) (show i < a.length by omega))
    unfold VEl at this; omega
  have heb : ∀ i, i < n → -1 ≤ b.getD i 0 ∧ b.getD i 0 ≤ 1099511627776 := fun i hi => by
    have := hvb.el _ (getD_mem (d := 0) (show i < b.length by omega))
    unfold VEl at this; omega
  obtain ⟨A, c, rfl, _, _, hca⟩ := ha.open
  obtain ⟨B, c', rfl, _, _, hcb⟩ := hb.open
  rw [hla] at h1 hca ⊢
  rw [hlb] at h2 hcb ⊢
  have H1 := Lib.hid h1
  have H2 := Lib.hid h2
  have HEA := Lib.hid hea
  have HEB := Lib.hid heb
  have HCA := Lib.hid hca
  have HCB := Lib.hid hcb
  clear h1 h2 hea heb hca hcb
  clear ha hb hva hvb hla hlb
  have hz0 := Nat.le_refl w.heap.size
  go_enter Tryz.func84, Tryz.ntmps84
  go_wp2_with fail
  refine H1.out.mono ?_
  rintro e w1 ⟨rfl, hk1⟩
  have hc2 := H2.out w1 hk1
  have HK1 := Lib.hid hk1
  have HC2 := Lib.hid hc2
  clear hk1 hc2
  go_wp2_with fail
  refine HC2.out.mono ?_
  rintro e w2 ⟨rfl, hk2⟩
  have hk3 := HK1.out.trans hk2
  have hz3 := hk3.size
  have hmk := run_make_n sl_int n (by omega) w2
  have hO : Own (w2.alloc (.cells (madeCells #[Value.int .i64 0] n) 3)) w2.heap.size n (fun _ => .int .i64 0) := own_made w2 (.int .i64 0) rfl n 3
  have HK3 := Lib.hid hk3
  clear hk3
  clear hk2
  go_wp2_with fail
  have hg0 : w.heap.size ≤ w2.heap.size := hz3
  have hK4 := HK3.out.alloc (.cells (madeCells #[Value.int .i64 0] n) 3)
  have hzz : w2.heap.size < (w2.alloc (.cells (madeCells #[Value.int .i64 0] n) 3)).heap.size := by simp
  generalize w2.alloc (.cells (madeCells #[Value.int .i64 0] n) 3) = w3 at *
  generalize w2.heap.size = g at *
  have HK4 := Lib.hid hK4
  have HO := Lib.hid hO
  clear hK4 hO
  go_loopg [34] (n + 1) (fun gh kv wr => ∃ (k : Nat) (o : Nat → Int), n + 1 ≤ k + gh ∧ k ≤ n ∧ kv = .int .i64 (k : Int) ∧ (∀ i, i < k → o i = min (a.getD i 0) (b.getD i 0)) ∧ Own wr g n (fun i => .int .i64 (o i)) ∧ Keeps [g] w3 wr)
  case atStart => exact ⟨0, fun _ => 0, by omega, by omega, rfl, fun i hi => by omega, HO.out, Keeps.refl _ _⟩
  case round =>
    obtain ⟨k, o, hgh, hk, rfl, hall, hOr, hkr⟩ := hrel
    have hK5 : Keeps [] w wr := HK4.out.step hkr (fun q hq => .inr (by rw [List.mem_singleton.1 hq]; exact hg0))
    have HALL := Lib.hid hall
    clear hall
    by_cases hlt : k < n
    · obtain ⟨pa, ea, hpa⟩ := (HCA.out.keeps (hK5.nil l)).at_ hlt
      obtain ⟨pb, eb, hpb⟩ := (HCB.out.keeps (hK5.nil l)).at_ hlt
      obtain ⟨hx1, hx2⟩ := HEA.out k hlt
      obtain ⟨hy1, hy2⟩ := HEB.out k hlt
      have hmin := fun W => min1_is W (a.getD k 0) (b.getD k 0) ⟨hx1, hx2⟩ ⟨hy1, hy2⟩
      have hfz := (hOr k hlt).2
      have hcl := (hOr k hlt).1
      generalize hx : a.getD k 0 = x at *
      generalize hy : b.getD k 0 = y at *
      subst ea; subst eb
      have HMIN := Lib.hid hmin
      have HOR := Lib.hid hOr
      have HKR := Lib.hid hkr
      have HK5 := Lib.hid hK5
      have HX := Lib.hid hx
      have HY := Lib.hid hy
      clear hmin hOr hkr hK5 hx hy
      go_wp2_with fail
      refine (HMIN.out wr).mono ?_
      rintro e w4 ⟨rfl, rfl⟩
      go_wp2_with fail
      go_roundg (n - k)
      case measure => omega
      case rel =>
        refine ⟨k + 1, upd o k (min x y), by omega, by omega, by go_num, fun i hi => ?_, HOR.out.updInt hlt _, HKR.out.setCell (by simp) _⟩
        by_cases e : i = k
        · rw [e, HX.out, HY.out]; simp [upd]
        · simp only [upd, if_neg e]; exact HALL.out i (by omega)
    · obtain rfl : k = n := by omega
      have hI : ∀ l', (∀ y ∈ l', y < w.heap.size) → IsI wr l' (.slice (some ⟨g, 0, none⟩) k k) (minV k a b) := fun l' hl' => Own.isI hOr (fun hm => by have := hl' _ hm; omega) (Nat.le_refl _) minV_len (fun i hi => by rw [minV_at hi, HALL.out i hi])
      have HI := Lib.hid hI
      have HK5 := Lib.hid hK5
      clear hI hK5
      clear hOr hkr
      go_wp2_with fail
      go_ret2
      exact ⟨g, rfl, HI.out, HK5.out⟩
set_option maxRecDepth 100000 in
set_option maxHeartbeats 1000000 in
theorem min_is {w : World} {l : List Nat} {av bv : Value} {a b : List Int} {n : Nat} (ha : IsI w l av a) (hb : IsI w l bv b) (hva : VVal a) (hvb : VVal b) (hla : a.length = n) (hlb : b.length = n) :
    Calls Tryz.prog 51 #[av, bv] w (MinPost n (minV n a b) w) := by
  have hcall := join_is ha hb hva hvb hla hlb
  unfold MinPost at *
  obtain ⟨A, c, rfl, _⟩ := ha.open
  obtain ⟨B, c', rfl, _⟩ := hb.open
  rw [hla, hlb] at hcall
  rw [hla, hlb]
  have HCALL := Lib.hid hcall
  clear hcall
  clear ha hb hla hlb hva hvb
  go_enter Tryz.func51, Tryz.ntmps51
  go_wp2_with fail
  refine HCALL.out.mono ?_
  rintro e w1 ⟨g, rfl, hI, hk⟩
  have HI := Lib.hid hI
  have HK := Lib.hid hk
  clear hI hk
  go_wp2_with fail
  go_ret2
  exact ⟨g, rfl, HI.out, HK.out⟩
end Go.Proofs.YtnmkinaokjekjaaGreat
