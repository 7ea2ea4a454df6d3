/- The walk of limit's Union. -/
import Derived.Test.YtnmkinaokjekjaaGreatMaxS
import Derived.Test.YtnmkinaokjekjaaGreatConcatR
namespace Go.Proofs.YtnmkinaokjekjaaGreat
set_option linter.unusedVariables false
open Go.RowKit

def SetPost (n : Int) (a b L : List (List Int)) (l : List Nat) (w : World) (e : Ending) (w' : World) : Prop :=
  Keeps [] w w' ∧ ((ckE n a b ≠ 0 ∧ e = .returned (.tuple #[.slice none 0 0, .int .i64 (ckE n a b)])) ∨ (ckE n a b = 0 ∧ ∃ out, Asc out ∧ (∀ x, x ∈ out ↔ MaxOf covG L x) ∧ OutL l out e w'))
/-- What the check says of both lists. -/
theorem ckE_el {n : Int} {a b : List (List Int)} (h : ckE n a b = 0) : (0 ≤ n ∧ n ≤ 6) ∧ a.length ≤ 256 ∧ b.length ≤ 256 ∧ ∀ x, x ∈ a ∨ x ∈ b → VVal x ∧ x.length = n.toNat := by
  obtain ⟨hca, hcb⟩ := ckE_zero.1 h
  obtain ⟨hn0, hla⟩ := chkL_zero.1 hca
  obtain ⟨_, hlb⟩ := chkL_zero.1 hcb
  obtain ⟨_, h6, f1, e1, _⟩ := hla
  obtain ⟨_, _, f2, e2, _⟩ := hlb
  exact ⟨⟨hn0, by omega⟩, f1, f2, fun x hx => hx.elim (fun h => ⟨(e1 x h).2, (e1 x h).1⟩) (fun h => ⟨(e2 x h).2, (e2 x h).1⟩)⟩
set_option maxRecDepth 100000 in
set_option maxHeartbeats 4000000 in
theorem union_is {w : World} {l : List Nat} {av bv : Value} {a b : List (List Int)} {n : Int} (hlw : ∀ y ∈ l, y < w.heap.size) (ha : IsII w l av a) (hn : a.length ≤ 100000000) (hL : ∀ x ∈ a, x.length ≤ 1000000) (hb : IsII w l bv b) (hm : b.length ≤ 100000000) (hM : ∀ x ∈ b, x.length ≤ 1000000) :
    Calls Tryz.prog 20 #[.int .i64 n, av, bv] w (SetPost n a b (a ++ b) l w) := by
  unfold SetPost
  have egg := enters_of Tryz.func67 (by kernel_rfl) rfl
  have hck := check2_is (n := n) hlw ha hn hL hb hm hM
  have hel := fun h => ckE_el (n := n) (a := a) (b := b) h
  have ha' := ha
  obtain ⟨A0, c0, V, rfl, _⟩ := ha'
  have hb' := hb
  obtain ⟨B0, d0, U, rfl, _⟩ := hb'
  generalize ckE n a b = z at *
  by_cases h0 : z = 0
  · subst h0
    obtain ⟨_, f1, f2, hel⟩ := hel rfl
    have hel2 : ∀ x ∈ a ++ b, VVal x ∧ x.length = n.toNat := fun x hx => hel x (List.mem_append.1 hx)
    have hsm : ∀ x ∈ a ++ b, x.length ≤ 1000000 := fun x hx => by have := (hel2 x hx).1.few; omega
    have hcat := fun W (k : Keeps [] w W) => concat2_is (W := W) (l := l) (ty := 23) (fun y hy => Nat.lt_of_lt_of_le (hlw y hy) k.size) (ha.new k) (hb.new k) (by omega) (by omega)
    have hred := fun W (k : Keeps [] w W) lv (hI : IsII W l lv (a ++ b)) => reduced_is (gr := 66) (fun y hy => Nat.lt_of_lt_of_le (hlw y hy) k.size) covF_G egg (ordG hel2) (fun x hx => ⟨hsm x hx, hsm x hx⟩) hI (by rw [List.length_append]; omega)
    have HCK := Lib.hid hck
    have HCAT := Lib.hid hcat
    have HRED := Lib.hid hred
    have HLW := Lib.hid hlw
    have HL := Lib.hid hL
    have HM := Lib.hid hM
    have HA := Lib.hid ha
    have HB := Lib.hid hb
    have HEL := Lib.hid hel
    have HEL2 := Lib.hid hel2
    have HSM := Lib.hid hsm
    clear hck hcat hred hlw hL hM ha hb hel hel2 hsm
    go_enter Tryz.func20, Tryz.ntmps20
    go_wp2_with fail
    refine HCK.out.mono ?_
    rintro e w1 ⟨rfl, hk1⟩
    have HK1 := Lib.hid hk1
    clear hk1
    go_wp2_with fail
    refine (greatest_is w1).mono ?_
    rintro e w2 ⟨rfl, hk2⟩
    have hk3 := HK1.out.trans hk2
    have hc := HCAT.out w2 hk3
    have HK3 := Lib.hid hk3
    have HC := Lib.hid hc
    clear hk3 hc
    clear hk2
    go_wp2_with fail
    refine HC.out.mono ?_
    rintro e w3 ⟨A3, n3, c3, hn3, rfl, hO, hk4⟩
    have hk5 := HK3.out.trans hk4
    have hI : IsII w3 l (.slice A3 n3 c3) (a ++ b) := hO.isL (fun y hy => Nat.lt_of_lt_of_le (HLW.out y hy) HK3.out.size)
    have hr := HRED.out w3 hk5 _ hI
    have HK5 := Lib.hid hk5
    have HR := Lib.hid hr
    clear hk5 hr
    clear hk4 hO hI hn3
    go_wp2_with fail
    refine HR.out.mono ?_
    rintro e w5 ⟨A, q, c, out, hq, rfl, hasc, hys, hO, hk6⟩
    have hI : IsII w5 l (.slice A q c) out := hO.isL (fun y hy => Nat.lt_of_lt_of_le (HLW.out y hy) HK5.out.size)
    have hk7 := HK5.out.trans hk6
    have HK7 := Lib.hid hk7
    have HI := Lib.hid hI
    have HQ := Lib.hid hq
    have HASC := Lib.hid hasc
    have HYS := Lib.hid hys
    clear hk7 hI hq hasc hys
    clear hk6 hO
    go_wp2_with fail
    refine (limited_any A q c w5).mono ?_
    rintro e w6 ⟨he, rfl⟩
    by_cases h256 : 256 < q
    · rw [if_pos h256] at he
      subst he
      go_wp2_with fail
      go_ret2
      exact ⟨HK7.out, .inr ⟨by first | rfl | trivial, out, HASC.out, HYS.out, .inl ⟨by rw [← HQ.out]; exact h256, rfl⟩⟩⟩
    · rw [if_neg h256] at he
      subst he
      go_wp2_with fail
      go_ret2
      exact ⟨HK7.out, .inr ⟨by first | rfl | trivial, out, HASC.out, HYS.out, .inr ⟨by rw [← HQ.out]; omega, A, q, c, HQ.out, rfl, HI.out⟩⟩⟩
  · have hbz : (z != 0) = true := by simpa using h0
    have HCK := Lib.hid hck
    have H0 := Lib.hid h0
    clear hck h0
    go_enter Tryz.func20, Tryz.ntmps20
    go_wp2_with fail
    refine HCK.out.mono ?_
    rintro e w1 ⟨rfl, hk1⟩
    have HK1 := Lib.hid hk1
    clear hk1
    go_wp2_with fail
    go_ret2
    exact ⟨HK1.out, .inl ⟨H0.out, rfl⟩⟩
end Go.Proofs.YtnmkinaokjekjaaGreat
