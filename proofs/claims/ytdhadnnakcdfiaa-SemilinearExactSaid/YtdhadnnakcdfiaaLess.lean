/- The walk of semilinear's less: a vector less a multiple of another one. -/
import Derived.Test.YtdhadnnakcdfiaaCloneI
import Derived.Test.YtdhadnnakcdfiaaFuncs
import Derived.Test.YtdhadnnakcdfiaaRep
namespace Go.Proofs.Ytdhadnnakcdfiaa
set_option linter.unusedVariables false
open Go.RowKit

def LessPost (l : List Nat) (n : Nat) (v p : Nat → Int) (x : Int) (w : World) (e : Ending) (w' : World) : Prop :=
  Below w.heap.size w w' ∧ ((e = .returned (.tuple #[.slice none 0 0, .bool false]) ∧ ∃ i, i < n ∧ v i - x * p i < 0) ∨
    ∃ A c, e = .returned (.tuple #[.slice A n c, .bool true]) ∧ (A = none → c = 0) ∧ n ≤ c ∧ (∀ i, i < n → 0 ≤ v i - x * p i) ∧ RdL w' l A n (fun i => .int .i64 (v i - x * p i)))

theorem mul_le_of {x y : Int} (hx : 0 ≤ x ∧ x ≤ 1000) (hy : 0 ≤ y ∧ y ≤ 1000) : 0 ≤ x * y ∧ x * y ≤ 1000000 :=
  ⟨Int.mul_nonneg hx.1 hy.1, by have := Int.mul_le_mul hx.2 hy.2 hy.1 (by omega : (0:Int) ≤ 1000); omega⟩

set_option maxHeartbeats 1000000 in
theorem less_any (w : World) (l : List Nat) (hl : ∀ y ∈ l, y < w.heap.size) (B n c cp : Nat) (A Ap : Option Addr) (v p : Nat → Int) (x : Int) (hB : B ≤ w.heap.size) (hv : Rd w B A n (fun i => .int .i64 (v i))) (hA : A = none → c = 0) (hp : Rd w B Ap n (fun i => .int .i64 (p i)))
    (hn : n ≤ 1000) (hx : 0 ≤ x ∧ x ≤ 1000) (hvb : ∀ i, i < n → -1000 ≤ v i ∧ v i ≤ 1000) (hpb : ∀ i, i < n → 0 ≤ p i ∧ p i ≤ 1000) :
    Calls Try.prog 37 #[.slice A n c, .slice Ap n cp, .int .i64 x] w (LessPost l n v p x w) := by
  have HV := Lib.hid hv
  have HP := Lib.hid hp
  have HVB := Lib.hid hvb
  have HPB := Lib.hid hpb
  have HX := Lib.hid hx
  clear hv hp hvb hpb hx
  have hcl := clone_ints w B n c A ((List.range n).map fun i => .int .i64 (v i)) (by simp) (fun hn => by
    obtain ⟨a, e, hb, hc⟩ := HV.out hn
    exact ⟨a, e, hb, fun i hi => by rw [hc i hi]; simp [List.getD_eq_getElem?_getD, hi]⟩) (by intro u hu; obtain ⟨q, _, rfl⟩ := List.mem_map.1 hu; rfl) (by omega) hA
  go_enter Try.func37, Try.ntmps37
  go_wp2_with fail
  refine hcl.mono ?_
  rintro e w1 ⟨V, cv, rfl, hown, hb1⟩
  have hnone := cap_of_own hown
  obtain ⟨g, hg, hVg, hO⟩ := own_of_own hown undef
  have hO' : Own w1 g n (fun i => .int .i64 (v i)) := fun i hi => by
    have := hO i hi
    simpa [List.getD_eq_getElem?_getD, hi] using this
  have HO := Lib.hid hO'
  have HB1 := Lib.hid hb1
  have HN := Lib.hid hnone
  clear hO hO' hown hb1 hcl hnone
  go_wp2_with fail
  go_loopg [9, 10, 15] (n + 1) (fun gh _ _ iv wr => ∃ (i : Nat) (o : Nat → Int), n + 1 ≤ i + gh ∧ i ≤ n ∧ iv = .int .i64 (i : Int) ∧ (∀ r, r < i → o r = v r - x * p r ∧ 0 ≤ o r) ∧ (∀ r, i ≤ r → o r = v r) ∧ Own wr g n (fun q => .int .i64 (o q)) ∧ w1.heap.size ≤ wr.heap.size ∧ Below w.heap.size w wr)
  case atStart => exact ⟨0, v, by omega, by omega, rfl, fun r hr => by omega, fun r hr => rfl, HO.out, Nat.le_refl _, HB1.out⟩
  case round =>
    obtain ⟨i, o, hgh, hi, rfl, hd, hr, hOr, hsz, hb⟩ := hrel
    have HD := Lib.hid hd
    have HR := Lib.hid hr
    have HOr := Lib.hid hOr
    have HBr := Lib.hid hb
    clear hd hr hOr hb
    by_cases hlt : i < n
    · obtain ⟨rfl, hgl⟩ := hVg (by omega)
      obtain ⟨a, rfl, _, ha⟩ := (HP.out.belowW hB HBr.out).at_ hlt
      have ho1 : wr.cell? ⟨g, i, none⟩ = some (.int .i64 (o i)) := (HOr.out i hlt).1
      have ho2 : wr.frozen? ⟨g, i, none⟩ = false := (HOr.out i hlt).2
      have hmul := mul_le_of HX.out (HPB.out i hlt)
      have hvi := HVB.out i hlt
      have hoi := HR.out i (Nat.le_refl i)
      rw [hoi] at ho1
      generalize hpe : p i = pi at ha hmul
      generalize hve : v i = vi at ho1 hvi
      have HPE := Lib.hid hpe
      have HVE := Lib.hid hve
      clear hpe hve hoi
      by_cases hneg : vi - x * pi < 0
      · go_wp2_with fail
        go_ret2
        exact ⟨HBr.out.setCell (by show w.heap.size ≤ g; omega) _, .inl ⟨rfl, i, hlt, by rw [HPE.out, HVE.out]; exact hneg⟩⟩
      · go_wp2_with fail
        go_roundg (n - i)
        case measure => omega
        case rel =>
          refine ⟨i + 1, upd o i (vi - x * pi), by omega, by omega, by go_num, fun r hr => ?_, fun r hr => ?_, HOr.out.updInt hlt _, by simpa [World.setCell] using hsz, HBr.out.setCell (by show w.heap.size ≤ g; omega) _⟩
          · by_cases e : r = i
            · subst e; rw [upd_same, HPE.out, HVE.out]; exact ⟨rfl, by omega⟩
            · rw [upd_ne _ _ e]; exact HD.out r (by omega)
          · rw [upd_ne _ _ (by omega)]; exact HR.out r (by omega)
    · obtain rfl : i = n := by omega
      go_wp2_with fail
      go_ret2
      refine ⟨HBr.out, .inr ⟨_, _, rfl, HN.out.2, HN.out.1, fun r hr => by have := HD.out r hr; omega, fun h0 => ?_⟩⟩
      obtain ⟨rfl, hgl⟩ := hVg h0
      refine ⟨_, rfl, fun hm => by have := hl _ hm; simp at this; omega, fun r hr => ?_⟩
      rw [addz]
      show _ = some (Value.int .i64 (v r - x * p r))
      rw [← (HD.out r hr).1]
      exact (HOr.out r hr).1
end Go.Proofs.Ytdhadnnakcdfiaa
