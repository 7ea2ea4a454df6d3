/- The walk of the reference's Without. -/
import Derived.Test.YtmjnicikikgncaaStep
import Derived.Test.YtmjnicikikgncaaCmpL
import Derived.Test.YtmjnicikikgncaaNow
namespace Go.Proofs.Ytmjnicikikgncaa
set_option linter.unusedVariables false
open Go.RowKit

set_option maxRecDepth 100000 in
set_option maxHeartbeats 2000000 in
theorem without_is {w : World} {l : List Nat} {v : Value} {a : List Int} {i : Nat} (hl : ∀ x ∈ l, x < w.heap.size) (h : IsI w l v a) (hn : a.length ≤ 1000000) (hi : i < a.length) :
    Calls Try.prog 43 #[v, .int .i64 (i : Int)] w (RetL IsN 0 l (a.take i ++ a.drop (i + 1)) w) := by
  have hlen : (a.take i ++ a.drop (i + 1)).length = a.length - 1 := by simp; omega
  unfold RetL
  obtain ⟨A, c, rfl, hc, _, h1⟩ := h.open
  obtain ⟨A1, hs1, hT⟩ := slice_to sl_int (show IsL IsN 0 w l (.slice A a.length c) a from h) i (by omega)
  obtain ⟨A2, hs2, hD⟩ := slice_from sl_int (show IsL IsN 0 w l (.slice A a.length c) a from h) (i + 1) (by omega)
  have hs2 : ∀ (W : World), (Instr.slice 22 (.slice A a.length c) (some (.int .i64 ((i : Int) + 1))) none none).run Try.prog W = .ok (.slice A2 (a.length - (i + 1)) (c - (i + 1))) W := fun W => hs2 W
  rw [hlen]
  have htl : (a.take i).length = i := by rw [List.length_take]; omega
  have hdl : (a.drop (i + 1)).length = a.length - (i + 1) := by rw [List.length_drop]
  generalize a.length = n at *
  have hw1 : IntKind.i64.wrap ((i : Int) + 1) = (i : Int) + 1 := IntWalk.i64_in _ (by omega)
  have hnil : OwL IsN 0 3 w.heap.size w l (.slice none 0 0) [] := OwL.nil
  have HL := Lib.hid hl
  have H := Lib.hid h
  have H1 := Lib.hid h1
  have HT := Lib.hid hT
  have HD := Lib.hid hD
  have HTL := Lib.hid htl
  have HDL := Lib.hid hdl
  have HLEN := Lib.hid hlen
  have HNIL := Lib.hid hnil
  clear hl h h1 hT hD htl hdl hlen hnil
  go_enter Try.func43, Try.ntmps43
  go_wp2_with fail
  go_region_law (first
    | (have _t := hown1; refine step_join sl_int rfl (.tmp 8) (.tmp 12) rfl (v := .slice V1 i k1) (u := .slice A2 (n - (i + 1)) (c - (i + 1))) (by first | (simp [Act.eval]; done) | (simp only [Act.eval, Act.put]; simp; done) | simp [Act.eval, Act.put]) (by first | (simp [Act.eval]; done) | (simp only [Act.eval, Act.put]; simp; done) | simp [Act.eval, Act.put]) hown1 (hown1.putw (R := IsL IsN 0) HD.out hk1 (Nat.le_refl _)) (m := n - 1) (by rw [HTL.out, HDL.out]; omega) (by omega) hz1 (w0 := w) (l0 := []) (Nat.le_refl _) hk1 ?_; intro V2 k2 w2 hown2 hg2 hk2)
    | (refine step_join sl_int rfl (.const (.slice none 0 0)) (.tmp 7) rfl (w := w.drew) (l := l) (base := w.heap.size) (v := .slice none 0 0) (u := .slice A1 i c) (by first | (simp [Act.eval]; done) | (simp only [Act.eval, Act.put]; simp; done) | simp [Act.eval, Act.put]) (by first | (simp [Act.eval]; done) | (simp only [Act.eval, Act.put]; simp; done) | simp [Act.eval, Act.put]) OwL.nil (show IsL IsN 0 w.drew ([] ++ l) _ _ from Rok.keeps HT.out (((Keeps.refl [] w).drew).nil _)) (m := i) (by rw [HTL.out]; simp) (by omega) (Nat.le_refl _) (w0 := w) (l0 := []) (Nat.le_refl _) ((Keeps.refl [] w).drew) ?_; intro V1 k1 w1 hown1 hg1 hk1; rw [List.nil_append] at hown1; have hz1 := hk1.size))
  all_goals
    go_wp2_with fail
    go_ret
    exact ⟨_, _, rfl, by have := hown2.isL (fun y hy => HL.out y hy); exact this, hk2⟩
end Go.Proofs.Ytmjnicikikgncaa
