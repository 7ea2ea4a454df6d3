/- The walk of word.Drops. -/
import Derived.Test.YtfhommegkogahaaEmbed
import Derived.Test.YtfhommegkogahaaConcat
import Derived.Test.YtfhommegkogahaaStep
namespace Go.Proofs.Ytfhommegkogahaa
set_option linter.unusedVariables false
open Go.RowKit

def dropL (a : List Int) (i : Nat) : List Int := a.take i ++ a.drop (i + 1)
def dropsL (a : List Int) (n : Nat) : List (List Int) := (List.range n).map (dropL a)
theorem dropsL_succ (a : List Int) (n : Nat) : dropsL a (n + 1) = dropsL a n ++ [dropL a n] := by simp [dropsL, List.range_succ]
theorem dropsL_len (a : List Int) (n : Nat) : (dropsL a n).length = n := by simp [dropsL]
theorem dropL_len {a : List Int} {i : Nat} (h : i < a.length) : (dropL a i).length = a.length - 1 := by simp [dropL]; omega

/-- Words that are returned, ascending, each once, in the call's own memory. -/
def WordsPost (ty : TypeId) (l : List Nat) (p : List Int → Prop) (w : World) (e : Ending) (w' : World) : Prop :=
  ∃ A n c ys, n = (ys : List (List Int)).length ∧ e = .returned (.slice A n c) ∧ Asc ys ∧ (∀ x, x ∈ ys ↔ p x) ∧ OwL IsI [] ty w.heap.size w' l (.slice A n c) ys ∧ Keeps [] w w'
def IsDrop (a x : List Int) : Prop := WValid a ∧ ∃ i, i < a.length ∧ x = dropL a i

set_option maxRecDepth 100000 in
set_option maxHeartbeats 4000000 in
theorem drops_is {w : World} {l : List Nat} {av : Value} {a : List Int} (hl : ∀ x ∈ l, x < w.heap.size) (ha : IsI w l av a) (hn : a.length ≤ 1000000) : Calls Try.prog 12 #[av] w (WordsPost 22 l (IsDrop a) w) := by
  unfold WordsPost
  obtain ⟨A, c, rfl, _, _, h1⟩ := ha.open
  have hma := valid_is ha hn
  by_cases hva : WValid a
  · rw [wvB_true.2 hva] at hma
    have eg := enters_of Try.func30 (by kernel_rfl) rfl
    generalize hna : a.length = n at *
    have hn12 : n ≤ 12 := by rw [← hna]; exact hva.1
    have H1 := Lib.hid h1
    have HNA := Lib.hid hna
    have HA := Lib.hid ha
    have HMA := Lib.hid hma
    have HVA := Lib.hid hva
    have HL := Lib.hid hl
    clear h1 hna ha hma hva hl
    go_enter Try.func12, Try.ntmps12
    go_wp2_with fail
    refine HMA.out.mono ?_
    rintro e w1 ⟨rfl, hk1⟩
    have HK1 := Lib.hid hk1
    clear hk1
    go_wp2_with fail
    go_loopg [3, 4, 10] (n + 1) (fun gh sv _ kv wr => ∃ (k : Nat) (V : Option Addr) (cv : Nat), n + 1 ≤ k + gh ∧ k ≤ n ∧ kv = .int .i64 (k : Int) ∧ sv = .slice V k cv ∧ OwL IsI [] 22 w.heap.size wr l (.slice V k cv) (dropsL a k) ∧ Keeps [] w wr)
    case atStart => exact ⟨0, none, 0, by omega, by omega, rfl, rfl, OwL.nil, HK1.out⟩
    case round =>
      obtain ⟨k, V, cv, hgh, hk, rfl, rfl, hO, hkr⟩ := hrel
      have hz := hkr.size
      have HO := Lib.hid hO
      have HKR := Lib.hid hkr
      clear hO hkr
      by_cases hlt : k < n
      · have hkd : Keeps [] w wr.drew := HKR.out.drew
        have hOd : OwL IsI [] 22 w.heap.size wr.drew l (.slice V k cv) (dropsL a k) := HO.out.new ((Keeps.refl _ _).drew)
        have hb1 : ∀ x ∈ (Value.slice V k cv).ownBlock.toList ++ l, x < wr.drew.heap.size := hOd.putb fun x hx => Nat.lt_of_lt_of_le (HL.out x hx) hkd.size
        obtain ⟨A1, hs1, hT⟩ := slice_to sl_int (show IsL IsN 0 w l (.slice A n c) a from HA.out) k hk
        obtain ⟨A2, hs2, hD⟩ := slice_from sl_int (show IsL IsN 0 w l (.slice A n c) a from HA.out) (k + 1) (by omega)
        have hs2 : ∀ (W : World), (Instr.slice 22 (.slice A n c) (some (.int .i64 ((k : Int) + 1))) none none).run Try.prog W = .ok (.slice A2 (n - (k + 1)) (c - (k + 1))) W := fun W => by
          have := hs2 W; rwa [Int.natCast_succ] at this
        have hcat := concat2_is (ty := 22) hb1 (hOd.putw (R := IsI) hT hkd (Nat.le_refl _)) (hOd.putw (R := IsI) hD hkd (Nat.le_refl _)) (by rw [List.length_take, HNA.out]; omega) (by rw [List.length_drop, HNA.out]; omega)
        have hb9 : k + 1 ≤ 1000000000 := by omega
        have hdl := dropsL_len a k
        have hsuc := dropsL_succ a k
        have hw1 : IntKind.i64.wrap ((k : Int) + 1) = (k : Int) + 1 := IntWalk.i64_in _ (by omega)
        have HKD := Lib.hid hkd
        have HOD := Lib.hid hOd
        have HB1 := Lib.hid hb1
        have HT := Lib.hid hT
        have HD := Lib.hid hD
        have HCAT := Lib.hid hcat
        have HDL := Lib.hid hdl
        have HSUC := Lib.hid hsuc
        clear hkd hOd hb1 hT hD hcat hdl hsuc
        go_wp2_with fail
        go_region_law (first
          | (have _t := hcp; refine step_push sl_rowsi rfl (.tmp 13) (.tmp 23) rfl (w := wC) (v := .slice V k cv) (by first | (simp [Act.eval]; done) | (simp only [Act.eval, Act.put]; simp)) (by first | (simp [Act.eval]; done) | (simp only [Act.eval, Act.put]; simp)) hown1 hcp (m := k + 1) (by rw [HDL.out]) hb9 hkC.size (w0 := w) (l0 := []) (Nat.le_refl _) hkC ?_; intro V2 c2 w41 hown2 hg2 hk41)
          | (refine step_call1 rfl 30 (.tmp 21) #[28] rfl eg HCAT.out (by first | (simp [Act.eval]; done) | (simp only [Act.eval, Act.put]; simp)) ?_; rintro e wC ⟨Ac, nc, cc, hnc, rfl, hownC, hkC0⟩; refine ⟨_, rfl, ?_⟩; clear hnc; have hcp := hownC.isL HB1.out; have hkC := HKD.out.trans hkC0; have hown1 := HOD.out.new hkC0))
        all_goals
          clear hw1
          go_wp2_with fail
          go_roundg (n - k)
          case measure => omega
          case rel => exact ⟨k + 1, V2, c2, by omega, by omega, by go_num, rfl, by rw [HSUC.out]; exact hown2, hk41⟩
      · obtain rfl : k = n := by omega
        have hdl := dropsL_len a k
        have hx : ∀ x ∈ dropsL a k, x.length ≤ 1000000 := fun x hx => by
          obtain ⟨i, hi, rfl⟩ := List.mem_map.1 hx
          rw [dropL_len (by rw [HNA.out]; exact List.mem_range.1 hi), HNA.out]; omega
        have hsort := sorted_is HO.out (by rw [hdl]; omega) hx
        have hmem : ∀ x, x ∈ dropsL a k ↔ IsDrop a x := fun x => by
          unfold dropsL
          rw [List.mem_map]
          constructor
          · rintro ⟨i, hi, rfl⟩; exact ⟨HVA.out, i, by rw [HNA.out]; exact List.mem_range.1 hi, rfl⟩
          · rintro ⟨_, i, hi, rfl⟩; exact ⟨i, List.mem_range.2 (by rw [HNA.out] at hi; exact hi), rfl⟩
        have hbl := HO.out.blocks
        have HDL := Lib.hid hdl
        have HX := Lib.hid hx
        have HSORT := Lib.hid hsort
        have HMEM := Lib.hid hmem
        have HBL := Lib.hid hbl
        clear hdl hx hsort hmem hbl
        go_wp2_with fail
        refine HSORT.out.mono ?_
        rintro e w3 ⟨A', c', ys, rfl, hasc, hys, hO3, hk3⟩
        have hk4 := HKR.out.step hk3 fun x hx => .inr (HBL.out x hx).1
        have hys2 : ∀ x, x ∈ ys ↔ IsDrop a x := fun x => (hys x).trans (HMEM.out x)
        generalize hyl : ys.length = m at *
        have HASC := Lib.hid hasc
        have HYS2 := Lib.hid hys2
        have HO3 := Lib.hid hO3
        have HK4 := Lib.hid hk4
        have HYL := Lib.hid hyl
        clear hasc hys2 hO3 hk4 hyl
        clear hys hk3
        go_wp2_with fail
        go_ret
        exact ⟨A', m, c', ys, HYL.out.symm, rfl, HASC.out, HYS2.out, HO3.out, HK4.out⟩
  · rw [wvB_false.2 hva] at hma
    generalize hna : a.length = n at *
    have H1 := Lib.hid h1
    have HNA := Lib.hid hna
    have HA := Lib.hid ha
    have HMA := Lib.hid hma
    have HVA := Lib.hid hva
    have HL := Lib.hid hl
    clear h1 hna ha hma hva hl
    go_enter Try.func12, Try.ntmps12
    go_wp2_with fail
    refine HMA.out.mono ?_
    rintro e w1 ⟨rfl, hk1⟩
    have HK1 := Lib.hid hk1
    clear hk1
    go_wp2_with fail
    go_ret
    exact ⟨none, 0, 0, [], rfl, rfl, List.Pairwise.nil, fun x => ⟨(fun h => by cases h), fun h => absurd h.1 HVA.out⟩, OwL.nil, HK1.out⟩
end Go.Proofs.Ytfhommegkogahaa
