/- The walks of word.merged and of its closure. -/
import Derived.Test.YtfhommegkogahaaDrops
import Derived.Deep.RegionHeld3
namespace Go.Proofs.Ytfhommegkogahaa
set_option linter.unusedVariables false
open Go.RowKit

theorem Own.c0 {w : World} {g : Nat} {v : Value} (h : Own w g 1 (fun _ => v)) : w.cell? ⟨g, 0, none⟩ = some v := (h 0 (by omega)).1
theorem Own.f0 {w : World} {g : Nat} {v : Value} (h : Own w g 1 (fun _ => v)) : w.frozen? ⟨g, 0, none⟩ = false := (h 0 (by omega)).2
theorem Own.put0 {w : World} {g : Nat} {v : Value} (h : Own w g 1 (fun _ => v)) (u : Value) : Own (w.setCell ⟨g, 0, none⟩ u) g 1 (fun _ => u) := (h.set_ (j := 0) (by omega) u).congr fun i hi => by
  have : i = 0 := by omega
  simp [this]
theorem Own.new0 (w : World) (v : Value) (e : TypeId) : Own (w.alloc (.cells #[v] e)) w.heap.size 1 (fun _ => v) := fun i hi => by
  have : i = 0 := by omega
  subst this
  exact ⟨World.cell?_alloc_new _ _ _ _, World.frozen?_alloc_new _ _ _ _⟩

theorem mid1 {g : Nat} {ob l : List Nat} : ∀ y ∈ g :: ob, y ∈ ob ++ (g :: l) := fun y hy => by
  rcases List.mem_cons.1 hy with h | h
  · exact List.mem_append.2 (.inr (List.mem_cons.2 (.inl h)))
  · exact List.mem_append.2 (.inl h)
theorem mid2 {g : Nat} {ob ob' l : List Nat} : ∀ y ∈ g :: ob, y ∈ ob' ++ (ob ++ (g :: l)) := fun y hy => List.mem_append.2 (.inr (mid1 y hy))
theorem mid3 {g : Nat} {ob ob' l : List Nat} : ∀ y ∈ ob' ++ (g :: l), y ∈ ob' ++ (ob ++ (g :: l)) := fun y hy => by
  rcases List.mem_append.1 hy with h | h
  · exact List.mem_append.2 (.inl h)
  · exact List.mem_append.2 (.inr (List.mem_append.2 (.inr h)))
def BegPost (base g : Nat) (l : List Nat) (v : Value) (ys : List (List Int)) (W : World) (e : Ending) (W' : World) : Prop :=
  e = .returned (.tuple #[]) ∧ ∃ V n c, n = ys.length ∧ Own W' g 1 (fun _ => .slice V n c) ∧ OwL IsI [] 22 base W' (g :: l) (.slice V n c) ys ∧ Keeps (g :: v.ownBlock.toList) W W' ∧ (∀ y ∈ (Value.slice V n c).ownBlock.toList, y ∈ v.ownBlock.toList ∨ W.heap.size ≤ y)

set_option maxRecDepth 100000 in
set_option maxHeartbeats 4000000 in
theorem begin_is {W : World} {base g : Nat} {l : List Nat} {V : Option Addr} {n c : Nat} {ys rest : List (List Int)} {x : Int} {rv : Value} (hl : ∀ y ∈ g :: l, y < W.heap.size) (hb : base ≤ W.heap.size) (hg : (Value.slice V n c).ownBlock ≠ some g) (hyn : ys.length = n)
    (hc : Own W g 1 (fun _ => .slice V n c)) (hO : OwL IsI [] 22 base W (g :: l) (.slice V n c) ys) (hr : IsII W ((Value.slice V n c).ownBlock.toList ++ (g :: l)) rv rest) (hn : n + rest.length ≤ 1000000) (hx : ∀ r ∈ rest, r.length ≤ 1000) :
    Calls Try.prog 52 #[.int .i64 x, rv, .pointer (some ⟨g, 0, none⟩)] W (BegPost base g l (.slice V n c) (ys ++ rest.map (x :: ·)) W) := by
  unfold BegPost
  have hr' := hr
  obtain ⟨A, cr, U, rfl, _, _, hrc, hrv⟩ := hr'
  have eg := enters_of Try.func30 (by kernel_rfl) rfl
  generalize hm : rest.length = m at *
  have HL := Lib.hid hl
  have HG := Lib.hid hg
  have HYN := Lib.hid hyn
  have HC := Lib.hid hc
  have HO := Lib.hid hO
  have HR := Lib.hid hr
  have HX := Lib.hid hx
  have HM := Lib.hid hm
  have HRC := Lib.hid hrc
  have HRV := Lib.hid hrv
  clear hl hg hyn hc hO hr hx hm hrc hrv
  go_enter Try.func52, Try.ntmps52
  go_wp2_with fail
  go_loopg [6, 9] (m + 1) (fun gh _ kv wr => ∃ (k : Nat) (V' : Option Addr) (c' : Nat), m + 1 ≤ k + gh ∧ k ≤ m ∧ kv = .int .i64 (k : Int) ∧ Own wr g 1 (fun _ => .slice V' (n + k) c') ∧ OwL IsI [] 22 base wr (g :: l) (.slice V' (n + k) c') (ys ++ (rest.take k).map (x :: ·)) ∧
    Keeps (g :: (Value.slice V n c).ownBlock.toList) W wr ∧ ∀ y ∈ (Value.slice V' (n + k) c').ownBlock.toList, y ∈ (Value.slice V n c).ownBlock.toList ∨ W.heap.size ≤ y)
  case atStart => exact ⟨0, V, c, by omega, by omega, rfl, HC.out, by simpa using HO.out, Keeps.refl _ _, fun y hy => .inl hy⟩
  case round =>
    obtain ⟨k, V', c', hgh, hk, rfl, hcr, hOr, hkr, hbr⟩ := hrel
    have hzr := hkr.size
    by_cases hlt : k < m
    · obtain ⟨p, rfl, hp⟩ := (HRC.out.keeps (hkr.more mid1)).at_ hlt
      have hrow : IsI wr ((Value.slice V' (n + k) c').ownBlock.toList ++ (g :: l)) (U k) (rest.getD k []) := by
        have h1 : IsI W ((Value.slice V' (n + k) c').ownBlock.toList ++ ((Value.slice V n c).ownBlock.toList ++ (g :: l))) (U k) (rest.getD k []) := Rok.weak (HRV.out k hlt) fun y hy => by
          rcases List.mem_append.1 hy with h | h
          · exact (hbr y h).imp (fun h => by simp [h]) id
          · exact .inl h
        exact Rok.weak (Rok.keeps h1 (hkr.more mid2)) fun y hy => .inl (mid3 y hy)
      have hrl : (rest.getD k []).length ≤ 1000 := HX.out _ (getD_mem (by rw [HM.out]; exact hlt))
      have hob : g ∉ (Value.slice V' (n + k) c').ownBlock.toList := fun h => by
        rcases hbr g h with h | h
        · exact HG.out (by simpa using h)
        · have := HL.out g (by simp); omega
      have htk : (rest.take (k + 1)).map (x :: ·) = (rest.take k).map (x :: ·) ++ [x :: rest.getD k []] := by
        have hkr : k < rest.length := by rw [HM.out]; exact hlt
        rw [List.take_succ_eq_append_getElem hkr, List.map_append]
        congr 1
        simp [List.getD_eq_getElem?_getD, hkr]
      have hlen : (ys ++ (rest.take k).map (x :: ·)).length = n + k := by rw [List.length_append, HYN.out, List.length_map, List.length_take, HM.out]; omega
      have hl1 : ∀ y ∈ (Value.slice V' (n + k) c').ownBlock.toList ++ (g :: l), y < (wr.drew.alloc (.cells #[.int .i64 x] 3)).heap.size := fun y hy => by
        have : (wr.drew.alloc (.cells #[.int .i64 x] 3)).heap.size = wr.heap.size + 1 := World.size_alloc _ _
        rw [this]
        rcases List.mem_append.1 hy with h | h
        · have := (hOr.blocks y h).2; omega
        · have := HL.out y h; omega
      have hone : IsI (wr.drew.alloc (.cells #[.int .i64 x] 3)) ((Value.slice V' (n + k) c').ownBlock.toList ++ (g :: l)) (.slice (some ⟨wr.heap.size, 0, none⟩) 1 1) [x] := isL_new (w := wr.drew) (xs := [x]) (fun y hy => by
          rcases List.mem_append.1 hy with h | h
          · exact (hOr.blocks y h).2
          · exact Nat.lt_of_lt_of_le (HL.out y h) hzr) rfl fun i hi => by
        have e : i = 0 := by simpa using hi
        subst e; rfl
      have hkA : Keeps [] wr (wr.drew.alloc (.cells #[.int .i64 x] 3)) := ((Keeps.refl _ _).drew).alloc _
      have hcat := concat2_is (ty := 22) hl1 hone (hrow.new hkA) (by simp) (by omega)
      have hb9 : n + k + 1 ≤ 1000000000 := by omega
      have hbz : base ≤ wr.heap.size := by omega
      obtain ⟨Ur, cr2, hUr, _⟩ := hrow.open
      rw [hUr] at hp hcat
      have hc0 := hcr.c0
      have hgz : g < wr.heap.size := lt_of_cell hcr.c0
      generalize hrk : rest.getD k [] = r at *
      generalize hrn : r.length = rn at *
      have HCR := Lib.hid hcr
      have HOR := Lib.hid hOr
      have HKR := Lib.hid hkr
      have HBR := Lib.hid hbr
      have HROW := Lib.hid hrow
      have HRL := Lib.hid hrl
      have HOB := Lib.hid hob
      have HTK := Lib.hid htk
      have HLEN := Lib.hid hlen
      have HL1 := Lib.hid hl1
      have HONE := Lib.hid hone
      have HKA := Lib.hid hkA
      have HCAT := Lib.hid hcat
      have HRN := Lib.hid hrn
      have HRK := Lib.hid hrk
      clear hcr hOr hkr hbr hrow hrl hob htk hlen hl1 hone hkA hcat hrn hrk
      clear hUr
      go_wp2_with fail
      go_region_law (first
        | (have _t := hcp; refine step_pushg sl_rowsi rfl (.tmp 13) (.tmp 19) rfl (w := wC) (v := .slice V' (n + k) c') (by first | (simp [Act.eval]; done) | (simp only [Act.eval, Act.put]; simp)) (by first | (simp [Act.eval]; done) | (simp only [Act.eval, Act.put]; simp)) hown1 hcp (m := n + k + 1) (by rw [HLEN.out]) hb9 hbC ?_; intro V2 c2 w41 hown2 hg2 hb2; have hcg : Own w41 g 1 (fun _ => .slice V' (n + k) c') := hcC.keep hg2 HOB.out; have hcg0 := hcg.c0; have hcg1 := hcg.f0)
        | (refine step_call1 rfl 30 (.tmp 17) #[28] rfl eg HCAT.out (by first | (simp [Act.eval]; done) | (simp only [Act.eval, Act.put]; simp)) ?_; rintro e wC ⟨Ac, nc, cc, hnc, rfl, hownC, hkC0⟩; refine ⟨_, rfl, ?_⟩; clear hnc; have hcp := hownC.isL HL1.out; have hkC := HKA.out.trans hkC0; have hown1 := HOR.out.new hkC; have hcC := HCR.out.keep hkC (by simp); have hcC0 := hcC.c0; have hgC : g < wC.heap.size := lt_of_cell hcC0; have hbC := Nat.le_trans hbz hkC.size))
      all_goals
        go_wp2_with fail
        have hkW : Keeps (g :: (Value.slice V n c).ownBlock.toList) W w41 := (HKR.out.trans (hkC.nil _)).step hg2 fun y hy => by
          rcases HBR.out y hy with h | h
          · exact .inl (List.mem_cons.2 (.inr h))
          · exact .inr h
        have hzC := hkC.size
        have hk2 : Keeps [g] w41 (w41.setCell ⟨g, 0, none⟩ (.slice V2 (n + k + 1) c2)) := (Keeps.refl _ _).setCell (by simp) _
        have hgn : g ∉ (Value.slice V2 (n + k + 1) c2).ownBlock.toList := fun h => by
          rcases hb2 g h with h | h
          · exact HOB.out h
          · omega
        go_roundg (m - k)
        case measure => omega
        case rel => exact ⟨k + 1, V2, c2, by omega, by omega, by go_num, hcg.put0 _, by rw [HTK.out, ← List.append_assoc]; exact hown2.keeps hk2 (fun y hy => by
          rw [List.mem_singleton.1 hy]; exact ⟨.inl (by simp), fun e => hgn (by simpa using e)⟩), hkW.setCell (by simp) _, fun y hy => by
          rcases hb2 y hy with h | h
          · exact HBR.out y h
          · exact .inr (by omega)⟩
    · obtain rfl : k = m := by omega
      have hfin : rest.take k = rest := by rw [← HM.out, List.take_length]
      rw [hfin] at hOr
      have hlen : n + k = (ys ++ rest.map (x :: ·)).length := by rw [List.length_append, HYN.out, List.length_map, HM.out]
      have HCR := Lib.hid hcr
      have HOR := Lib.hid hOr
      have HKR := Lib.hid hkr
      have HBR := Lib.hid hbr
      have HLEN := Lib.hid hlen
      clear hcr hOr hkr hbr hlen
      clear hfin
      go_wp2_with fail
      go_end0
      exact ⟨rfl, V', n + k, c', HLEN.out, HCR.out, HOR.out, HKR.out, HBR.out⟩
end Go.Proofs.Ytfhommegkogahaa
