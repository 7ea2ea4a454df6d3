/- The walk of law 13's narrow. append of linear sets to a literal of one. Regions that draw their order, whose operations write nothing that there is: each operation is told by a RELATION of its value and the world that is kept when the world grows; whatever order is drawn, all relations hold at the end. Regions told by relations: the operations written out, one step each, and the steps' own laws. Words for the walk of SemilinearExact: literals of pairs of sets, lengths. A slice of numbers that came in, as a list. A slice of slices of numbers that came in, as a list of lists. Linear sets that came in. -/
import Derived.Test.YtdhadnnakcdfiaaE1
import Derived.Test.YtdhadnnakcdfiaaLin
import Derived.Test.YtdhadnnakcdfiaaPush
import Derived.Test.YtdhadnnakcdfiaaNow
import Derived.Orders
import Derived.Test.YtdhadnnakcdfiaaLinear
import Derived.Test.YtdhadnnakcdfiaaRep
import Derived.Deep.Matrix
import Derived.Lib.SmallJoins
import Derived.Deep.Slices
import Derived.Deep.Fields
import Derived.ChangeSame
namespace Go.Proofs.Ytdhadnnakcdfiaa
set_option linter.unusedVariables false
open Go.RowKit

def narB (s : Lin) : Bool := s.per.all (fun r => decide (r.length ≤ 12)) && (decide (s.base.length ≤ 12) && decide (s.per.length ≤ 12))
structure Nar (s : Lin) : Prop where
  row : ∀ r ∈ s.per, r.length ≤ 12
  base : s.base.length ≤ 12
  per : s.per.length ≤ 12
theorem narB_true {s : Lin} : narB s = true ↔ Nar s := by
  unfold narB
  rw [Bool.and_eq_true, Bool.and_eq_true, List.all_eq_true, decide_eq_true_eq, decide_eq_true_eq]
  exact ⟨fun h => ⟨fun r hr => by simpa using h.1 r hr, h.2.1, h.2.2⟩, fun h => ⟨fun r hr => by simpa using h.row r hr, h.base, h.per⟩⟩
theorem Nar.small {s : Lin} (h : Nar s) : s.Small := ⟨by have := h.base; omega, by have := h.per; omega, fun i hi => by have := h.row _ (getD_mem (d := []) hi); omega⟩
set_option maxRecDepth 100000 in
set_option maxHeartbeats 1000000 in
theorem narrow_is {w : World} {l : List Nat} {u pv : Value} {s : Lin} (h : IsLin w l u pv s) (hm : s.per.length ≤ maxLen) : Calls Try.prog 20 #[.agg #[u, pv]] w (BoolP (narB s) w) := by
  unfold BoolP
  have hyes : (∀ i, i < s.per.length → (s.per.getD i []).length ≤ 12) → narB s = (decide (s.base.length ≤ 12) && decide (s.per.length ≤ 12)) := fun h => by
    unfold narB
    rw [List.all_eq_true.2 (fun r hr => by obtain ⟨i, hi, rfl⟩ := mem_getD (d := []) hr; exact decide_eq_true (h i hi)), Bool.true_and]
  have hno : ∀ i, i < s.per.length → ¬ (s.per.getD i []).length ≤ 12 → narB s = false := fun i hi h => by
    rw [← Bool.not_eq_true, narB_true]
    exact fun h2 => h (h2.row _ (getD_mem hi))
  generalize narB s = Z at *
  obtain ⟨A, c, rfl, _⟩ := h.1.open
  have hp := h.2
  obtain ⟨Ap, cp, V, rfl, _⟩ := hp
  have hk0 : Keeps [] w (w.alloc (.cells #[.slice A s.base.length c, .slice Ap s.per.length cp] 29)) := (Keeps.refl _ _).alloc _
  have hpp := h.2.new hk0
  have hs0 := World.cell?_alloc_new w #[.slice A s.base.length c, .slice Ap s.per.length cp] 29 0
  have hs1 := World.cell?_alloc_new w #[.slice A s.base.length c, .slice Ap s.per.length cp] 29 1
  obtain ⟨Ap', cp', V', ev, _, _, hcell, hval⟩ := hpp
  injection ev with ev1 ev2 ev3
  subst ev1; subst ev3
  have hmx : s.per.length ≤ 9223372036854775807 := by unfold maxLen at hm; omega
  generalize hnb : s.base.length = nb at *
  generalize hmn : s.per.length = m at *
  clear ev2 h
  have HK0 := Lib.hid hk0
  have HCELL := Lib.hid hcell
  have HVAL := Lib.hid hval
  have HYES := Lib.hid hyes
  have HNO := Lib.hid hno
  have HNB := Lib.hid hnb
  have HMN := Lib.hid hmn
  have HM := Lib.hid hm
  clear hk0 hcell hval hyes hno hnb hmn hm
  go_enter Try.func20, Try.ntmps20
  go_wp2_with fail
  generalize w.alloc (.cells #[.slice A nb c, .slice Ap m cp] 29) = wb at *
  go_loopg [7] (m + 1) (fun gh kv wr => ∃ k : Nat, m + 1 ≤ k + gh ∧ k ≤ m ∧ kv = .int .i64 (k : Int) ∧ (∀ i, i < k → (s.per.getD i []).length ≤ 12) ∧ wb = wr)
  case atStart => exact ⟨0, by omega, by omega, rfl, fun i hi => by omega, rfl⟩
  case round =>
    obtain ⟨k, hgh, hk, rfl, hs, rfl⟩ := hrel
    by_cases hlt : k < m
    · obtain ⟨pa, epa, hpa⟩ := HCELL.out.at_ hlt
      have hx : IsI wb l (V' k) (s.per.getD k []) := HVAL.out k hlt
      obtain ⟨B, d, eb, _⟩ := hx.open
      rw [eb] at hpa
      subst epa
      by_cases hl : (s.per.getD k []).length ≤ 12
      · have hs2 : ∀ i, i < k + 1 → (s.per.getD i []).length ≤ 12 := fun i hi => by
          by_cases e : i = k
          · rw [e]; exact hl
          · exact hs i (by omega)
        generalize (s.per.getD k []).length = q at *
        have hd : decide ((12 : Int) < (q : Int)) = false := decide_eq_false (by omega)
        have HS := Lib.hid hs
        have HS2 := Lib.hid hs2
        have HX := Lib.hid hx
        clear hs hs2 hx
        clear eb
        go_wp2_with fail
        go_roundg (m - k)
        case measure => omega
        case rel => exact ⟨k + 1, by omega, by omega, by go_num, HS2.out, rfl⟩
      · have hz := HNO.out k hlt hl
        generalize (s.per.getD k []).length = q at *
        have hd : decide ((12 : Int) < (q : Int)) = true := decide_eq_true (by omega)
        have HS := Lib.hid hs
        have HZ := Lib.hid hz
        have HX := Lib.hid hx
        clear hs hz hx
        clear eb
        go_wp2_with fail
        go_ret
        exact ⟨ret_b2 HZ.out, HK0.out⟩
    · obtain rfl : k = m := by omega
      have hz := HYES.out hs
      by_cases h1 : nb ≤ 12
      · have d1 : decide ((nb : Int) ≤ 12) = true := decide_eq_true (by omega)
        rw [decide_eq_true h1, Bool.true_and] at hz
        have d2 : decide ((k : Int) ≤ 12) = decide (k ≤ 12) := by
          by_cases e : k ≤ 12
          · rw [decide_eq_true e]; exact decide_eq_true (by omega)
          · rw [decide_eq_false e]; exact decide_eq_false (by omega)
        generalize decide (k ≤ 12) = q at *
        have HS := Lib.hid hs
        have HZ := Lib.hid hz
        clear hs hz
        go_wp2_with fail
        go_ret
        exact ⟨ret_b2 HZ.out, HK0.out⟩
      · have d1 : decide ((nb : Int) ≤ 12) = false := decide_eq_false (by omega)
        rw [decide_eq_false h1, Bool.false_and] at hz
        have HS := Lib.hid hs
        have HZ := Lib.hid hz
        clear hs hz
        go_wp2_with fail
        go_ret
        exact ⟨ret_b2 HZ.out, HK0.out⟩
end Go.Proofs.Ytdhadnnakcdfiaa

namespace Go.Proofs.Ytdhadnnakcdfiaa
set_option linter.unusedVariables false
open Go.RowKit

theorem add_succ (a : Addr) (n : Nat) : a.add (n + 1) = ⟨(a.add n).block, (a.add n).off + 1, none⟩ := by
  unfold Addr.add
  by_cases h : n = 0
  · subst h; simp
  · simp [h]; omega
theorem lin_info : ∃ i, Try.prog.info? 29 = some i ∧ i.zero = some (.agg #[.slice none 0 0, .slice none 0 0]) ∧ i.size = 2 ∧ i.bytes = 48 := by
  have h : (Try.prog.info? 29).map (fun i => (i.zero, i.size, i.bytes)) = some (some (.agg #[.slice none 0 0, .slice none 0 0]), 2, 48) := by kernel_rfl
  cases hi : Try.prog.info? 29 with
  | none => rw [hi] at h; cases h
  | some i =>
    rw [hi] at h
    simp only [Option.map_some, Option.some.injEq, Prod.mk.injEq] at h
    exact ⟨i, rfl, h.1, h.2.1, h.2.2⟩
theorem append_lins {W : World} {l : List Nat} {g : Nat} {v2 : Value} {s : Lin} {raw : List Lin} {ty : TypeId} (hl : ∀ y ∈ l, y < W.heap.size) (h1 : IsLins W l (.slice (some ⟨g, 0, none⟩) 1 1) [s]) (h2 : IsLins W l v2 raw) (hn : raw.length ≤ 1000) :
    ∃ v' W', (Builtin.append_ #[39, 39] ty #[.slice (some ⟨g, 0, none⟩) 1 1, v2]).run Try.prog W = .ok v' W' ∧ IsLins W' l v' (s :: raw) ∧ Keeps [] W W' := by
  have ht : Try.prog.underlying 39 = some (.slice 29) := by kernel_rfl
  obtain ⟨i, hi, hz, hs, hb⟩ := lin_info
  obtain ⟨A, c, rfl, hc, hA, hcell⟩ := h2
  obtain ⟨A1, c1, e1, _, _, hc1⟩ := h1
  injection e1 with e2 e3 e4
  subst e2; subst e4
  obtain ⟨a1, ea1, hb1, hcs1⟩ := hc1 (by simp)
  injection ea1 with ea1
  subst ea1
  obtain ⟨u0, p0, hu0, hp0, hlin0⟩ := hcs1 0 (by simp)
  simp only [Nat.zero_mul, List.getD_cons_zero] at hu0 hp0 hlin0
  rw [addz] at hu0 hp0
  rcases Nat.eq_zero_or_pos raw.length with h0 | hpos
  · have hr : raw = [] := List.eq_nil_of_length_eq_zero h0
    subst hr
    refine ⟨_, W, ?_, ⟨some ⟨g, 0, none⟩, 1, rfl, by simp, (fun h => by cases h), fun _ => ⟨_, rfl, hb1, fun j hj => ?_⟩⟩, Keeps.refl _ _⟩
    · cases A <;> simp [Builtin.append_, run_underlying ht, sizeOf, typeInfo, hi, Builtin.lenOf, Builtin.firstCells, loadCells, loadCellsFrom, storeCells]
    · have : j = 0 := by simpa using hj
      subst this
      exact ⟨u0, p0, by simpa [addz] using hu0, by simpa [addz] using hp0, hlin0⟩
  · obtain ⟨a, rfl, hba, hcs⟩ := hcell hpos
    have hall : ∀ j, j < raw.length * 2 → ∃ v, W.cell? (a.add j) = some v := fun j hj => by
      obtain ⟨u, v, g1, g2, _⟩ := hcs (j / 2) (by omega)
      rcases Nat.mod_two_eq_zero_or_one j with e | e
      · exact ⟨u, by rw [show j = j / 2 * 2 by omega]; exact g1⟩
      · exact ⟨v, by rw [show j = j / 2 * 2 + 1 by omega, add_succ]; exact g2⟩
    have hnew : ∀ j u, ((List.range (raw.length * 2)).map fun j => (W.cell? (a.add j)).getD undef)[j]? = some u → W.cell? (a.add j) = some u := fun j u hj => by
      rw [List.getElem?_map] at hj
      by_cases h : j < raw.length * 2
      · rw [List.getElem?_range h] at hj
        obtain ⟨v, hv⟩ := hall j h
        simp only [Option.map_some, hv, Option.getD_some, Option.some.injEq] at hj
        rw [hv, hj]
      · rw [List.getElem?_eq_none (by simpa using h)] at hj; cases hj
    have hold : ∀ j u, [u0, p0][j]? = some u → W.cell? ((⟨g, 0, none⟩ : Addr).add j) = some u := fun j u hj => by
      rw [addz]
      have hlt := (List.getElem?_eq_some_iff.1 hj).1
      have hc : j = 0 ∨ j = 1 := by simp at hlt; omega
      rcases hc with rfl | rfl
      · simp at hj; rw [← hj]; exact hu0
      · simp at hj; rw [← hj]; exact hp0
    have hrun := run_append_grow (P := Try.prog) W _ ty _ i _ ht hi hz ⟨g, 0, none⟩ 1 1 [u0, p0] (by rw [hs]; rfl) hold a raw.length c ((List.range (raw.length * 2)).map fun j => (W.cell? (a.add j)).getD undef) (by rw [hs]; simp) hnew (by omega) (by omega) (growslice_fits (by omega) (by rw [hb]; omega))
    have hge := grownCap_ge W (1 + raw.length) 1 29
    have hkk : Keeps [] W (W.drew.alloc (.cells ([u0, p0].toArray ++ ((List.range (raw.length * 2)).map fun j => (W.cell? (a.add j)).getD undef).toArray ++ Builtin.zeroCells (Value.agg #[.slice none 0 0, .slice none 0 0]).cells (grownCap W (1 + raw.length) 1 29 - (1 + raw.length))) 29)) := ((Keeps.refl _ _).drew).alloc _
    refine ⟨_, _, hrun, ⟨some ⟨W.heap.size, 0, none⟩, grownCap W (1 + raw.length) 1 29, by rw [List.length_cons, Nat.add_comm raw.length 1], by rw [List.length_cons]; omega, (fun h => by cases h), fun _ => ⟨_, rfl, (fun hm => by have := hl _ hm; simp at this), fun j hj => ?_⟩⟩, hkk⟩
    have hat : ∀ k u, ([u0, p0] ++ (List.range (raw.length * 2)).map fun j => (W.cell? (a.add j)).getD undef)[k]? = some u → (W.drew.alloc (.cells ([u0, p0].toArray ++ ((List.range (raw.length * 2)).map fun j => (W.cell? (a.add j)).getD undef).toArray ++ Builtin.zeroCells (Value.agg #[.slice none 0 0, .slice none 0 0]).cells (grownCap W (1 + raw.length) 1 29 - (1 + raw.length))) 29)).cell? ⟨W.heap.size, k, none⟩ = some u := fun k u hk => by
      have h9 := World.cell?_alloc_new W.drew ([u0, p0].toArray ++ ((List.range (raw.length * 2)).map fun j => (W.cell? (a.add j)).getD undef).toArray ++ Builtin.zeroCells (Value.agg #[.slice none 0 0, .slice none 0 0]).cells (grownCap W (1 + raw.length) 1 29 - (1 + raw.length))) 29 k
      refine Eq.trans h9 ?_
      have hlt := (List.getElem?_eq_some_iff.1 hk).1
      have he : ∀ L : List Value, [u0, p0].toArray ++ L.toArray = ([u0, p0] ++ L).toArray := fun L => by simp
      rw [Array.getElem?_append_left (by simpa using hlt), he, List.getElem?_toArray]
      exact hk
    cases j with
    | zero =>
      refine ⟨u0, p0, ?_, ?_, hlin0.new hkk⟩
      · rw [Nat.zero_mul, addz]; exact hat 0 u0 (by simp)
      · rw [Nat.zero_mul, addz]; exact hat 1 p0 (by simp)
    | succ j =>
      have hj : j < raw.length := by simpa using hj
      obtain ⟨u, v, g1, g2, g3⟩ := hcs j hj
      refine ⟨u, v, ?_, ?_, by simpa using g3.new hkk⟩
      · rw [addz]
        refine hat _ u ?_
        rw [List.getElem?_append_right (by simp; omega)]
        simp only [List.length_cons, List.length_nil]
        rw [show (j + 1) * 2 - (0 + 1 + 1) = j * 2 by omega, List.getElem?_map, List.getElem?_range (by omega)]
        simp [g1]
      · rw [addz]
        refine hat _ v ?_
        show ([u0, p0] ++ _)[(j + 1) * 2 + 1]? = some v
        rw [List.getElem?_append_right (by simp; omega)]
        simp only [List.length_cons, List.length_nil]
        rw [show (j + 1) * 2 + 1 - (0 + 1 + 1) = j * 2 + 1 by omega, List.getElem?_map, List.getElem?_range (by omega)]
        rw [← add_succ] at g2
        simp [g2]
end Go.Proofs.Ytdhadnnakcdfiaa

namespace Go.Proofs.Ytdhadnnakcdfiaa
set_option linter.unusedVariables false
open Go.RowKit

def slotOf (o : Oper) (a : Act) : Value := match o.dst with
  | some d => a.tmps.getD d undef
  | none => undef
/-- What holds when these operations have come up. -/
structure RelAt (ops : Array Oper) (l0 : List Nat) (w0 : World) (a0 : Act) (Rel : Nat → Value → World → Prop) (listed : Array Bool) (a : Act) (w : World) : Prop where
  keeps : Keeps l0 w0 w
  size : a.tmps.size = a0.tmps.size
  defers : a.defers = a0.defers
  lsize : listed.size = ops.size
  done : ∀ (i : Nat) (o : Oper), ops[i]? = some o → listed.getD i true = true → Rel i (slotOf o a) w
  rest : ∀ (t : Tmp), (∀ (i : Nat) (o : Oper), ops[i]? = some o → o.dst = some t → listed.getD i true = false) → a.tmps.getD t undef = a0.tmps.getD t undef
def StepOk (P : Program) (ops : Array Oper) (l0 : List Nat) (w0 : World) (Rel : Nat → Value → World → Prop) (Q : Exit → Act → World → Prop) (i : Nat) (o : Oper) (a : Act) (w : World) : Prop :=
  if Region.wanted o (yielded ops a.tmps) = true then o.wp P a w (fun a' w' => ∃ v, a' = a.put o.dst v ∧ (o.dst = none → v = undef) ∧ Rel i v w' ∧ Keeps [] w w' ∧ Keeps l0 w0 w') Q else Rel i undef w
def putAll : List Oper → Nat → (Nat → Value) → Act → Act
  | [], _, _, a => a
  | o :: r, i, vs, a => putAll r (i + 1) vs (a.put o.dst (vs i))

theorem put_size (a : Act) (d : Option Tmp) (v : Value) : (a.put d v).tmps.size = a.tmps.size := by cases d <;> simp [Act.put]
theorem put_defers (a : Act) (d : Option Tmp) (v : Value) : (a.put d v).defers = a.defers := by cases d <;> rfl
theorem put_other (a : Act) (d : Option Tmp) (v : Value) (t : Tmp) (h : d ≠ some t) : (a.put d v).tmps.getD t undef = a.tmps.getD t undef := by
  cases d with
  | none => rfl
  | some d =>
    have hne : d ≠ t := fun e => h (by rw [e])
    simp [Act.put, Array.getD_eq_getD_getElem?, Array.getElem?_setIfInBounds, hne]
theorem put_same (a : Act) (d : Tmp) (v : Value) (h : d < a.tmps.size) : (a.put (some d) v).tmps.getD d undef = v := by
  simp [Act.put, Array.getD_eq_getD_getElem?, Array.getElem?_setIfInBounds, h]
theorem putAll_eq {vs : Nat → Value} {b : Act} : ∀ (l : List Oper) (i : Nat) (a : Act), (∀ k o, l[k]? = some o → vs (i + k) = slotOf o b) → a.tmps.size = b.tmps.size → a.defers = b.defers → (∀ t, (∀ o ∈ l, o.dst ≠ some t) → a.tmps.getD t undef = b.tmps.getD t undef) → putAll l i vs a = b
  | [], i, a, _, hs, hd, h => by
    have ht : a.tmps = b.tmps := by
      refine Array.ext hs fun t h1 h2 => ?_
      have := h t (by simp)
      simpa [Array.getD_eq_getD_getElem?, h1, h2] using this
    cases a; cases b
    simp only [putAll] at *
    simp_all
  | o :: r, i, a, hv, hs, hd, h => by
    refine putAll_eq r (i + 1) _ (fun k o' hk => ?_) (by rw [put_size, hs]) (by rw [put_defers, hd]) (fun t ht => ?_)
    · have := hv (k + 1) o' (by simpa using hk)
      rw [← this]; congr 1; omega
    · have h0 := hv 0 o (by simp)
      rw [Nat.add_zero] at h0
      by_cases e : o.dst = some t
      · by_cases hb : t < a.tmps.size
        · rw [e, put_same a t _ hb, h0]
          unfold slotOf; rw [e]
        · have h1 : (a.put o.dst (vs i)).tmps.getD t undef = undef := by
            have : ¬ t < (a.put o.dst (vs i)).tmps.size := by rw [put_size]; exact hb
            simp [Array.getD_eq_getD_getElem?, this]
          have h2 : b.tmps.getD t undef = undef := by
            have : ¬ t < b.tmps.size := by rw [← hs]; exact hb
            simp [Array.getD_eq_getD_getElem?, this]
          rw [h1, h2]
      · rw [put_other _ _ _ _ e]
        exact h t fun o' ho' => by
          rcases List.mem_cons.1 ho' with e2 | e2
          · rw [e2]; exact e
          · exact ht o' e2

section
variable {P : Program} {ops : Array Oper} {md : Region.Mode} {l0 : List Nat} {w0 : World} {a0 : Act} {Rel : Nat → Value → World → Prop} {Q : Exit → Act → World → Prop}
theorem all_listed {listed : Array Bool} (hl : listed.size = ops.size) (hlow : ∀ (i : Nat) (o : Oper), ops[i]? = some o → ∀ e ∈ o.after, Region.binds md e = true → e.on < i) (hr : Region.ready md ops listed = []) : ∀ i, listed.getD i true = true := by
  intro i
  induction i using Nat.strongRecOn with
  | ind i ih =>
    by_cases hi : i < ops.size
    · cases hb : listed.getD i true with
      | true => rfl
      | false =>
        have ho : ops[i]? = some ops[i] := Array.getElem?_eq_getElem hi
        have : i ∈ Region.ready md ops listed := mem_ready.2 ⟨hb, ops[i], ho, fun e he hbe => by
          have hlt := hlow i _ ho e he hbe
          have h1 := ih e.on hlt
          have h2 : e.on < listed.size := by omega
          simpa [Array.getD_eq_getD_getElem?, h2] using h1⟩
        rw [hr] at this
        cases this
    · have : ¬ i < listed.size := by omega
      simp [Array.getD_eq_getD_getElem?, this]
theorem getD_set_self {listed : Array Bool} {i : Nat} (h : i < listed.size) : (listed.setIfInBounds i true).getD i true = true := by
  simp [Array.getD_eq_getD_getElem?, Array.getElem?_setIfInBounds, h]
theorem getD_set_other {listed : Array Bool} {i j : Nat} (h : i ≠ j) : (listed.setIfInBounds i true).getD j true = listed.getD j true := by
  simp [Array.getD_eq_getD_getElem?, Array.getElem?_setIfInBounds, h]

theorem wpAny_rel (hdis : ∀ (i j : Nat) (oi oj : Oper) (d : Tmp), ops[i]? = some oi → ops[j]? = some oj → oi.dst = some d → oj.dst = some d → i = j) (hin : ∀ (i : Nat) (o : Oper) (d : Tmp), ops[i]? = some o → o.dst = some d → d < a0.tmps.size)
    (hlow : ∀ (i : Nat) (o : Oper), ops[i]? = some o → ∀ e ∈ o.after, Region.binds md e = true → e.on < i) (hmono : ∀ i v w w', Rel i v w → Keeps [] w w' → Rel i v w')
    (hstep : ∀ (i : Nat) (o : Oper), ops[i]? = some o → ∀ a w, Keeps l0 w0 w → (∀ e ∈ o.after, Region.binds md e = true → ∀ (oe : Oper), ops[e.on]? = some oe → Rel e.on (slotOf oe a) w) → (∀ (t : Tmp), (∀ (j : Nat) (oj : Oper), ops[j]? = some oj → oj.dst ≠ some t) → a.tmps.getD t undef = a0.tmps.getD t undef) → StepOk P ops l0 w0 Rel Q i o a w)
    (hend : ∀ (vs : Nat → Value) w, (∀ (i : Nat) (o : Oper), ops[i]? = some o → Rel i (vs i) w) → Keeps l0 w0 w → Q .normal (putAll ops.toList 0 vs a0) w) :
    ∀ (fuel : Nat) (listed : Array Bool) (a : Act) (w : World), RelAt ops l0 w0 a0 Rel listed a w → (∃ S : List Nat, (∀ i, listed.getD i true = false → i ∈ S) ∧ S.length ≤ fuel) → wpAny P md ops Q fuel listed a w := by
  have fin : ∀ (listed : Array Bool) (a : Act) (w : World), RelAt ops l0 w0 a0 Rel listed a w → (∀ i, listed.getD i true = true) → Q .normal a w := by
    intro listed a w h hall
    let vs : Nat → Value := fun i => match ops[i]? with
      | some o => slotOf o a
      | none => undef
    have hvs : ∀ (i : Nat) (o : Oper), ops[i]? = some o → vs i = slotOf o a := fun i o ho => by simp only [vs, ho]
    have he : putAll ops.toList 0 vs a0 = a := putAll_eq ops.toList 0 a0 (fun k o hk => by
      rw [Nat.zero_add]; exact hvs k o (by simpa using hk)) h.size.symm h.defers.symm (fun t ht => (h.rest t fun i o ho hd => absurd hd (ht o (by
        have := Array.mem_of_getElem? ho
        simpa using this))).symm)
    rw [← he]
    exact hend vs w (fun i o ho => by rw [hvs i o ho]; exact h.done i o ho (hall i)) h.keeps
  intro fuel
  induction fuel with
  | zero =>
    intro listed a w h ⟨S, hS, hl⟩
    have hS0 : S = [] := List.eq_nil_of_length_eq_zero (by omega)
    subst hS0
    have hall : ∀ i, listed.getD i true = true := fun i => by
      cases hb : listed.getD i true with
      | true => rfl
      | false => have := hS i hb; cases this
    refine ⟨?_, fin listed a w h hall⟩
    rw [List.eq_nil_iff_forall_not_mem]
    intro i hi
    have := (mem_ready.1 hi).1
    rw [hall i] at this; cases this
  | succ fuel ih =>
    intro listed a w h ⟨S, hS, hl⟩
    refine ⟨fun hr => fin listed a w h (all_listed h.lsize hlow hr), fun i hi => ?_⟩
    obtain ⟨hun, o, ho, hdeps⟩ := mem_ready.1 hi
    have his : i < ops.size := (Array.getElem?_eq_some_iff.1 ho).1
    have hil : i < listed.size := by rw [h.lsize]; exact his
    have hs := hstep i o ho a w h.keeps (fun e he hb oe hoe => h.done e.on oe hoe (by
      have h1 := hdeps e he hb
      have h2 : e.on < listed.size := by
        rcases Nat.lt_or_ge e.on listed.size with h' | h'
        · exact h'
        · simp [Array.getD_eq_getD_getElem?, Array.getElem?_eq_none h'] at h1
      simpa [Array.getD_eq_getD_getElem?, h2] using h1)) (fun t ht => h.rest t fun j oj hoj hd => absurd hd (ht j oj hoj))
    have key : ∀ v w', (o.dst = none → v = undef) → Rel i v w' → Keeps [] w w' → Keeps l0 w0 w' → wpAny P md ops Q fuel (listed.setIfInBounds i true) (a.put o.dst v) w' := by
      intro v w' hn hR hk hk0
      refine ih _ _ _ ⟨hk0, by rw [put_size, h.size], by rw [put_defers, h.defers], by simp [h.lsize], fun j oj hoj hlj => ?_, fun t ht => ?_⟩ ⟨S.erase i, fun j hj => ?_, ?_⟩
      · by_cases e : i = j
        · subst e
          rw [ho] at hoj
          injection hoj with hoj
          subst hoj
          have : slotOf o (a.put o.dst v) = v := by
            unfold slotOf
            cases hd : o.dst with
            | none => exact (hn hd).symm
            | some d => exact put_same a d v (by rw [h.size]; exact hin i o d ho hd)
          rw [this]; exact hR
        · rw [getD_set_other e] at hlj
          have : slotOf oj (a.put o.dst v) = slotOf oj a := by
            unfold slotOf
            cases hd : oj.dst with
            | none => rfl
            | some d => exact put_other a o.dst v d fun e2 => e (hdis i j o oj d ho hoj e2 hd)
          rw [this]
          exact hmono _ _ _ _ (h.done j oj hoj hlj) hk
      · have hne : o.dst ≠ some t := fun e => by
          have := ht i o ho e
          rw [getD_set_self hil] at this; cases this
        rw [put_other _ _ _ _ hne]
        refine h.rest t fun j oj hoj hd => ?_
        have := ht j oj hoj hd
        by_cases e : i = j
        · subst e; exact hun
        · rwa [getD_set_other e] at this
      · by_cases e : i = j
        · subst e; rw [getD_set_self hil] at hj; cases hj
        · rw [getD_set_other e] at hj
          exact (List.mem_erase_of_ne (fun e2 => e e2.symm)).2 (hS j hj)
      · have := List.length_erase_of_mem (hS i hun)
        have := List.length_pos_of_mem (hS i hun)
        omega
    unfold StepOk at hs
    unfold wpOp
    simp only [ho]
    split
    · rename_i hw
      rw [if_pos hw] at hs
      exact .inl (Oper.wp_mono (fun a' w' ⟨v, e, hn, hR, hk, hk0⟩ => by rw [e]; exact key v w' hn hR hk hk0) hs)
    · rename_i hw
      rw [if_neg hw] at hs
      exact key undef w (fun _ => rfl) hs (Keeps.refl _ _) h.keeps
/-- **Whatever order is drawn**: each operation, behind those that it waits for, makes its relation; then what follows is walked with all of them. -/
theorem wp_region_rel {id : Nat} (hm : P.follows .mixedOrders = true) (hdis : ∀ (i j : Nat) (oi oj : Oper) (d : Tmp), ops[i]? = some oi → ops[j]? = some oj → oi.dst = some d → oj.dst = some d → i = j) (hin : ∀ (i : Nat) (o : Oper) (d : Tmp), ops[i]? = some o → o.dst = some d → d < a0.tmps.size)
    (hlow : ∀ (i : Nat) (o : Oper), ops[i]? = some o → ∀ e ∈ o.after, Region.binds .any e = true → e.on < i) (hmono : ∀ i v w w', Rel i v w → Keeps [] w w' → Rel i v w')
    (hstep : ∀ (i : Nat) (o : Oper), ops[i]? = some o → ∀ a w, Keeps l0 w0 w → (∀ e ∈ o.after, Region.binds .any e = true → ∀ (oe : Oper), ops[e.on]? = some oe → Rel e.on (slotOf oe a) w) → (∀ (t : Tmp), (∀ (j : Nat) (oj : Oper), ops[j]? = some oj → oj.dst ≠ some t) → a.tmps.getD t undef = a0.tmps.getD t undef) → StepOk P ops l0 w0 Rel Q i o a w)
    (hend : ∀ (vs : Nat → Value) w, (∀ (i : Nat) (o : Oper), ops[i]? = some o → Rel i (vs i) w) → Keeps l0 w0 w → Q .normal (putAll ops.toList 0 vs a0) w) : (Code.region id ops true).wp P Q a0 w0 := by
  refine wp_region_any hm (wpAny_rel hdis hin hlow hmono hstep hend ops.size _ a0 _ ⟨(Keeps.refl l0 w0).drew, rfl, rfl, by simp, fun i o ho hl => ?_, fun t _ => rfl⟩ ⟨List.range ops.size, fun i hi => ?_, by simp⟩)
  · have his : i < ops.size := (Array.getElem?_eq_some_iff.1 ho).1
    simp [Array.getD_eq_getD_getElem?, his] at hl
  · rw [List.mem_range]
    rcases Nat.lt_or_ge i ops.size with h | h
    · exact h
    · simp [Array.getD_eq_getD_getElem?, Array.getElem?_eq_none (show (Array.replicate ops.size false).size ≤ i by simpa using h)] at hi
end
end Go.Proofs.Ytdhadnnakcdfiaa

namespace Go.Proofs.Ytdhadnnakcdfiaa
set_option linter.unusedVariables false
open Go.RowKit

def disB (l : List Oper) : Bool := (List.range l.length).all fun i => (List.range l.length).all fun j => i == j || (match (l[i]?).bind (·.dst), (l[j]?).bind (·.dst) with
  | some d, some d' => d != d'
  | _, _ => true)
def inB (l : List Oper) (n : Nat) : Bool := l.all fun o => match o.dst with
  | some d => decide (d < n)
  | none => true
def lowB (l : List Oper) : Bool := (List.range l.length).all fun i => match l[i]? with
  | some o => o.after.all fun e => !Region.binds .any e || decide (e.on < i)
  | none => true
def relB (l : List Oper) (n : Nat) : Bool := disB l && inB l n && lowB l
def MonoRel (R : Value → World → Prop) : Prop := ∀ v w w', R v w → Keeps [] w w' → R v w'
def MonoAll : List (Value → World → Prop) → Prop
  | [] => True
  | R :: r => MonoRel R ∧ MonoAll r
theorem MonoAll.mem : ∀ {Rs : List (Value → World → Prop)}, MonoAll Rs → ∀ R ∈ Rs, MonoRel R
  | [], _, R, h => by cases h
  | R' :: r, hm, R, h => by
    rcases List.mem_cons.1 h with e | e
    · rw [e]; exact hm.1
    · exact MonoAll.mem hm.2 R e
/-- Just this value. -/
def eqR (v : Value) : Value → World → Prop := fun u _ => u = v
theorem MonoRel.eq {v : Value} : MonoRel (eqR v) := fun _ _ _ h _ => h
theorem MonoRel.const {p : Value → Prop} : MonoRel fun v _ => p v := fun _ _ _ h _ => h
def relN (Rs : List (Value → World → Prop)) (i : Nat) : Value → World → Prop := Rs.getD i fun _ _ => True
/-- What an operation finds: the relations of those that it waits for. -/
def DepsOf (l : List Oper) (Rs : List (Value → World → Prop)) (o : Oper) (a : Act) (w : World) : Prop := ∀ e ∈ o.after.toList, Region.binds .any e = true → ∀ oe : Oper, l[e.on]? = some oe → relN Rs e.on (slotOf oe a) w
/-- A slot that the region does not write. -/
def OutOf (l : List Oper) (a0 a : Act) : Prop := ∀ t : Tmp, (l.all fun o => o.dst != some t) = true → a.tmps.getD t undef = a0.tmps.getD t undef
def RelWalk (P : Program) (l : List Oper) (l0 : List Nat) (w0 : World) (a0 : Act) (Rs : List (Value → World → Prop)) (Q : Exit → Act → World → Prop) : List Oper → Nat → Prop
  | [], _ => True
  | o :: r, i => (∀ a w, Keeps l0 w0 w → DepsOf l Rs o a w → OutOf l a0 a → StepOk P l.toArray l0 w0 (relN Rs) Q i o a w) ∧ RelWalk P l l0 w0 a0 Rs Q r (i + 1)
theorem RelWalk.at_ {P : Program} {l : List Oper} {l0 : List Nat} {w0 : World} {a0 : Act} {Rs : List (Value → World → Prop)} {Q : Exit → Act → World → Prop} : ∀ {r : List Oper} {k : Nat}, RelWalk P l l0 w0 a0 Rs Q r k → ∀ (i : Nat) (o : Oper), r[i]? = some o → ∀ a w, Keeps l0 w0 w → DepsOf l Rs o a w → OutOf l a0 a → StepOk P l.toArray l0 w0 (relN Rs) Q (k + i) o a w
  | [], _, _, i, o, h => by simp at h
  | o' :: r, k, hw, 0, o, h => by
    simp at h
    subst h
    exact hw.1
  | o' :: r, k, hw, i + 1, o, h => by
    have := RelWalk.at_ hw.2 i o (by simpa using h)
    rw [show k + (i + 1) = k + 1 + i by omega]
    exact this
theorem wp_region_rels {P : Program} {l : List Oper} {l0 : List Nat} {w0 : World} {a0 : Act} {Q : Exit → Act → World → Prop} {id : Nat} (Rs : List (Value → World → Prop)) (hm : P.follows .mixedOrders = true) (hB : relB l a0.tmps.size = true) (hmono : MonoAll Rs)
    (hwalk : RelWalk P l l0 w0 a0 Rs Q l 0) (hend : ∀ (vs : Nat → Value) w, (∀ i, i < l.length → relN Rs i (vs i) w) → Keeps l0 w0 w → Q .normal (putAll l 0 vs a0) w) : (Code.region id l.toArray true).wp P Q a0 w0 := by
  unfold relB at hB
  rw [Bool.and_eq_true, Bool.and_eq_true] at hB
  obtain ⟨⟨h1, h2⟩, h3⟩ := hB
  refine wp_region_rel (l0 := l0) (Rel := relN Rs) hm (fun i j oi oj d hi hj e1 e2 => ?_) (fun i o d hi e => ?_) (fun i o hi e he hb => ?_) (fun i v w w' hR hk => ?_) (fun i o hi a w hk hd ho => ?_) (fun vs w hR hk => ?_)
  · rw [List.getElem?_toArray] at hi hj
    unfold disB at h1
    have hil := (List.getElem?_eq_some_iff.1 hi).1
    have hjl := (List.getElem?_eq_some_iff.1 hj).1
    have := List.all_eq_true.1 (List.all_eq_true.1 h1 i (List.mem_range.2 hil)) j (List.mem_range.2 hjl)
    simp only [hi, hj, Option.bind_some, e1, e2, bne_self_eq_false, Bool.or_false, beq_iff_eq] at this
    exact this
  · rw [List.getElem?_toArray] at hi
    have := List.all_eq_true.1 h2 o (List.mem_of_getElem? hi)
    simpa [e] using this
  · rw [List.getElem?_toArray] at hi
    have hil := (List.getElem?_eq_some_iff.1 hi).1
    have := List.all_eq_true.1 h3 i (List.mem_range.2 hil)
    simp only [hi] at this
    have := Array.all_eq_true_iff_forall_mem.1 this e he
    simpa [hb] using this
  · unfold relN at *
    rcases Nat.lt_or_ge i Rs.length with h | h
    · have hm2 : Rs.getD i (fun _ _ => True) ∈ Rs := by
        simp [List.getD_eq_getElem?_getD, h]
      exact hmono.mem _ hm2 v w w' hR hk
    · have : Rs.getD i (fun _ _ => True) = fun _ _ => True := by simp [List.getD_eq_getElem?_getD, h]
      rw [this]; trivial
  · rw [List.getElem?_toArray] at hi
    have := RelWalk.at_ hwalk i o hi a w hk (fun e he hb oe hoe => hd e (by simpa using he) hb oe (by rw [List.getElem?_toArray]; exact hoe)) (fun t ht => ho t fun j oj hoj hd => by
      rw [List.getElem?_toArray] at hoj
      have := List.all_eq_true.1 ht oj (List.mem_of_getElem? hoj)
      simp [hd] at this)
    rwa [Nat.zero_add] at this
  · refine hend vs w (fun i hi => ?_) hk
    exact hR i l[i] (by rw [List.getElem?_toArray]; simp [hi])

section
variable {P : Program} {ops : Array Oper} {l0 : List Nat} {w0 : World} {Rel : Nat → Value → World → Prop} {Q : Exit → Act → World → Prop} {i : Nat} {o : Oper} {a : Act} {w : World}
/-- An operation that hands back a value, and may make memory. -/
theorem step_val (hg : Region.wanted o (yielded ops a.tmps) = true) {v : Value} {w' : World} (hr : (execOp a.eval o).run P w = .ok (.value v) w') (hn : o.dst ≠ none) (hR : Rel i v w') (hk : Keeps [] w w') (hk0 : Keeps l0 w0 w') : StepOk P ops l0 w0 Rel Q i o a w := by
  unfold StepOk
  rw [if_pos hg]
  unfold Oper.wp
  rw [hr]
  exact ⟨v, rfl, fun h => absurd h hn, hR, hk, hk0⟩
/-- A call. -/
theorem step_fun (hg : Region.wanted o (yielded ops a.tmps) = true) {f : FuncId} {args : Array Value} (hr : (execOp a.eval o).run P w = .ok (.enter f args) w) (hn : o.dst ≠ none) (hk0 : Keeps l0 w0 w) (hc : Calls P f args w fun e w' => ∃ v, e = .returned v ∧ Rel i v w' ∧ Keeps [] w w') : StepOk P ops l0 w0 Rel Q i o a w := by
  unfold StepOk
  rw [if_pos hg]
  unfold Oper.wp
  rw [hr]
  refine hc.mono ?_
  rintro e w' ⟨v, rfl, hR, hk⟩
  exact ⟨v, rfl, fun h => absurd h hn, hR, hk, hk0.trans (hk.nil _)⟩
/-- An operation that is not wanted. -/
theorem step_not (hg : Region.wanted o (yielded ops a.tmps) = false) (hR : Rel i undef w) : StepOk P ops l0 w0 Rel Q i o a w := by
  unfold StepOk
  rw [if_neg (by rw [hg]; simp)]
  exact hR
theorem yielded_of {ops : Array Oper} {a : Act} {j : Nat} {oj : Oper} {d : Tmp} {x : Bool} (hj : ops[j]? = some oj) (hd : oj.dst = some d) (h : slotOf oj a = .bool x) : yielded ops a.tmps j = some x := by
  unfold slotOf at h
  rw [hd] at h
  simp only at h
  unfold yielded
  rw [hj]
  simp only [Option.bind_some, hd]
  rcases Nat.lt_or_ge d a.tmps.size with hl | hl
  · have : a.tmps[d]? = some (.bool x) := by
      rw [Array.getElem?_eq_getElem hl]
      congr 1
      simpa [Array.getD_eq_getD_getElem?, hl] using h
    rw [this]
  · rw [Array.getD_eq_getD_getElem?, Array.getElem?_eq_none hl] at h
    simp [undef] at h
end
theorem DepsOf.get {l : List Oper} {Rs : List (Value → World → Prop)} {o : Oper} {a : Act} {w : World} (h : DepsOf l Rs o a w) (k : Nat) {e : Edge} (he : o.after.toList[k]? = some e) (hb : Region.binds .any e = true) {oe : Oper} (ho : l[e.on]? = some oe) : relN Rs e.on (slotOf oe a) w := h e (List.mem_of_getElem? he) hb oe ho
theorem wanted_of {ops : Array Oper} {a : Act} {o oj : Oper} {j : Nat} {d : Tmp} {x : Bool} (hg : o.guard = some (j, x)) (hj : ops[j]? = some oj) (hd : oj.dst = some d) (h : slotOf oj a = .bool x) : Region.wanted o (yielded ops a.tmps) = true := by
  unfold Region.wanted
  rw [hg]
  show (yielded ops a.tmps j == some x) = true
  rw [yielded_of hj hd h]
  cases x <;> rfl
theorem run_app_op {P : Program} {ρ : Operand → Value} {o : Oper} {s x : Operand} {t : TypeId} {u1 u2 v : Value} {w w' : World} (ho : o.op = .call { callee := .builtin .append, args := #[s, x], argTypes := #[t, t] }) (hs : ρ s = u1) (hx : ρ x = u2) (h : (Builtin.append_ #[t, t] o.type #[u1, u2]).run P w = .ok v w') : (execOp ρ o).run P w = .ok (.value v) w' := by
  unfold execOp
  simp only [ho]
  simp only [resolve, invoke, builtin, Sem.run_bind, Sem.run_pure, Result.andThen_ok, List.map_toArray, List.map_cons, List.map_nil, hs, hx, h]
end Go.Proofs.Ytdhadnnakcdfiaa

namespace Go.Proofs.Ytdhadnnakcdfiaa
set_option linter.unusedVariables false
open Go.RowKit

theorem lit_at {α : Type} {R : Rp α} {d : α} {w : World} {l : List Nat} {g n c : Nat} {xs : List α} (h : IsL R d w l (.slice (some ⟨g, 0, none⟩) n c) xs) {i : Nat} (hi : i < xs.length) : ∃ u, w.cell? ⟨g, i, none⟩ = some u ∧ R w l u (xs.getD i d) := by
  obtain ⟨A, c', V, e, _, _, h4, h5⟩ := h
  injection e with e1 e2 e3
  subst e1
  obtain ⟨a, e, _, h6⟩ := h4 (by omega)
  injection e with e
  subst e
  have := h6 i hi
  rw [addz] at this
  exact ⟨_, this, h5 i hi⟩
theorem Small4.nar {n : Nat} {s : Lin} (h : Small4 n s) (hn : n ≤ 4) : Nar s :=
  ⟨fun r hr => by have := (h.good.per r hr).len; omega, by have := h.good.base.len; omega, by have := h.good.few; omega⟩
theorem lin0_nar : Nar lin0 := ⟨fun r hr => (by cases hr), by simp [lin0], by simp [lin0]⟩
theorem shf_nar {n : Int} {s : Lin} {v : List Int} (h : Nar s) : Nar (shfF n s v).2 := by
  unfold shfF
  split
  · exact lin0_nar
  split
  · exact lin0_nar
  split
  · exact lin0_nar
  split
  · exact lin0_nar
  · exact ⟨h.row, by rw [addV_len]; exact h.base, h.per⟩
theorem sum_nar {n : Int} {a b : Lin} (ha : Nar a) (hb : Nar b) : Nar (sumF n a b).2 := by
  unfold sumF
  split
  · exact lin0_nar
  rename_i h0
  split
  · exact lin0_nar
  split
  · exact lin0_nar
  rename_i h3
  have h0 : chk2 n a b = 0 := by omega
  have hp := putF_inv ((chk2_zero.1 h0).1.all a (by simp)).asc b.per
  exact ⟨fun r hr => ((hp.2.1 r).1 hr).elim (ha.row r) (hb.row r), by rw [addV_len]; exact ha.base, by show (putF a.per b.per).length ≤ 12; omega⟩

theorem boxes2 (w : World) (o : Obj) (u v u' v' : Value) (t : TypeId) : BoxAt (((w.alloc o).alloc (.cells #[u, v] t)).alloc (.cells #[u', v'] t)).drew (w.heap.size + 1) u v ∧ BoxAt (((w.alloc o).alloc (.cells #[u, v] t)).alloc (.cells #[u', v'] t)).drew (w.heap.size + 1 + 1) u' v' ∧ Keeps [] w (((w.alloc o).alloc (.cells #[u, v] t)).alloc (.cells #[u', v'] t)).drew := by
  have h1 := ((BoxAt.start (w.alloc o) u v t).new ((Keeps.refl _ _).alloc (.cells #[u', v'] t))).new (Keeps.refl [] _).drew
  have h2 := (BoxAt.start ((w.alloc o).alloc (.cells #[u, v] t)) u' v' t).new (Keeps.refl [] _).drew
  rw [show (w.alloc o).heap.size = w.heap.size + 1 by simp] at h1
  rw [show ((w.alloc o).alloc (.cells #[u, v] t)).heap.size = w.heap.size + 1 + 1 by simp] at h2
  exact ⟨h1, h2, ((((Keeps.refl [] w).alloc _).alloc _).alloc _).drew⟩
/-- Pairs of sets in a literal: four cells each. -/
def PairAt (w : World) (l : List Nat) (g p : Nat) : Prop := ∃ A1 n1 c1 B1 m1 d1 A2 n2 c2 B2 m2 d2, ∃ s t : Lin,
  w.cell? ⟨g, p * 4, none⟩ = some (.slice A1 n1 c1) ∧ w.cell? ⟨g, p * 4 + 1, none⟩ = some (.slice B1 m1 d1) ∧ w.cell? ⟨g, p * 4 + 2, none⟩ = some (.slice A2 n2 c2) ∧ w.cell? ⟨g, p * 4 + 3, none⟩ = some (.slice B2 m2 d2) ∧
  IsLin w l (.slice A1 n1 c1) (.slice B1 m1 d1) s ∧ IsLin w l (.slice A2 n2 c2) (.slice B2 m2 d2) t ∧ Nar s ∧ Nar t
theorem PairAt.keeps {w w' : World} {l : List Nat} {g p : Nat} (h : PairAt w l g p) (k : Keeps l w w') (hg : g ∉ l) : PairAt w' l g p := by
  obtain ⟨A1, n1, c1, B1, m1, d1, A2, n2, c2, B2, m2, d2, s, t, h0, h1, h2, h3, h4, h5, h6, h7⟩ := h
  exact ⟨A1, n1, c1, B1, m1, d1, A2, n2, c2, B2, m2, d2, s, t, k.read h0 hg, k.read h1 hg, k.read h2 hg, k.read h3 hg, h4.keeps k, h5.keeps k, h6, h7⟩
theorem pairs_new {w : World} {l : List Nat} {Aa na ca Ba ma da Ab nb cb Bb mb db Ax nx cx Bx mx dx Ay ny cy By my dy} {a b x y : Lin} {ty : TypeId} (ha : IsLin w l (.slice Aa na ca) (.slice Ba ma da) a) (hb : IsLin w l (.slice Ab nb cb) (.slice Bb mb db) b) (hx : IsLin w l (.slice Ax nx cx) (.slice Bx mx dx) x) (hy : IsLin w l (.slice Ay ny cy) (.slice By my dy) y) (na' : Nar a) (nb' : Nar b) (nx' : Nar x) (ny' : Nar y) (p : Nat) (hp : p < 4) :
    PairAt (w.alloc (.cells #[.slice Aa na ca, .slice Ba ma da, .slice Ab nb cb, .slice Bb mb db, .slice Ax nx cx, .slice Bx mx dx, .slice Ay ny cy, .slice By my dy, .slice Ax nx cx, .slice Bx mx dx, .slice Aa na ca, .slice Ba ma da, .slice Ax nx cx, .slice Bx mx dx, .slice Ax nx cx, .slice Bx mx dx] ty)) l w.heap.size p := by
  have k : Keeps [] w (w.alloc (.cells #[.slice Aa na ca, .slice Ba ma da, .slice Ab nb cb, .slice Bb mb db, .slice Ax nx cx, .slice Bx mx dx, .slice Ay ny cy, .slice By my dy, .slice Ax nx cx, .slice Bx mx dx, .slice Aa na ca, .slice Ba ma da, .slice Ax nx cx, .slice Bx mx dx, .slice Ax nx cx, .slice Bx mx dx] ty)) := (Keeps.refl _ _).alloc _
  have hc := World.cell?_alloc_new w #[.slice Aa na ca, .slice Ba ma da, .slice Ab nb cb, .slice Bb mb db, .slice Ax nx cx, .slice Bx mx dx, .slice Ay ny cy, .slice By my dy, .slice Ax nx cx, .slice Bx mx dx, .slice Aa na ca, .slice Ba ma da, .slice Ax nx cx, .slice Bx mx dx, .slice Ax nx cx, .slice Bx mx dx] ty
  have hcase : p = 0 ∨ p = 1 ∨ p = 2 ∨ p = 3 := by omega
  rcases hcase with rfl | rfl | rfl | rfl
  · exact ⟨_, _, _, _, _, _, _, _, _, _, _, _, a, b, (hc 0), (hc 1), (hc 2), (hc 3), ha.new k, hb.new k, na', nb'⟩
  · exact ⟨_, _, _, _, _, _, _, _, _, _, _, _, x, y, (hc 4), (hc 5), (hc 6), (hc 7), hx.new k, hy.new k, nx', ny'⟩
  · exact ⟨_, _, _, _, _, _, _, _, _, _, _, _, x, a, (hc 8), (hc 9), (hc 10), (hc 11), hx.new k, ha.new k, nx', na'⟩
  · exact ⟨_, _, _, _, _, _, _, _, _, _, _, _, x, x, (hc 12), (hc 13), (hc 14), (hc 15), hx.new k, hx.new k, nx', nx'⟩
end Go.Proofs.Ytdhadnnakcdfiaa

namespace Go.Proofs.Ytdhadnnakcdfiaa
set_option linter.unusedVariables false
open Go.RowKit
theorem IsRow.isI {w : World} {a : Option Addr} {len cap : Nat} {zs : List Int} (h : IsRow .i64 w a len cap zs) : IsI w [] (.slice a len cap) (zs.take len) ∧ len = (zs.take len).length := by
  rcases h with ⟨rfl, rfl, rfl, rfl⟩ | ⟨x, rfl, h1, h2, h3, h4, _⟩
  · exact ⟨IsI.nil, rfl⟩
  · have hl : len = (zs.take len).length := by rw [List.length_take]; omega
    refine ⟨IsI.mk hl h1 (fun h => by cases h) fun hn => ⟨x, rfl, by simp, fun i hi => ?_⟩, hl⟩
    have := h4 i (by omega)
    rw [this]
    simp [List.getD_eq_getElem?_getD, List.getElem?_take, hi]
end Go.Proofs.Ytdhadnnakcdfiaa

namespace Go.Proofs.Ytdhadnnakcdfiaa
set_option linter.unusedVariables false
open Go.RowKit
def IsRows (w : World) (a : Option Addr) (len cap : Nat) (zs : List (List Int)) : Prop := IsII w [] (.slice a len cap) zs ∧ len = zs.length ∧ len ≤ maxLen
theorem IsRows.nil {w : World} : IsRows w none 0 0 [] := ⟨IsII.nil, rfl, Nat.zero_le _⟩
theorem IsRows.mk {w : World} {a : Addr} {len cap : Nat} {A : Nat → Option Addr} {L C : Nat → Nat} {Z : Nat → List Int} (hl : len ≤ cap) (hm : cap ≤ maxLen)
    (h : ∀ r, r < cap → w.cell? (a.add r) = some (.slice (A r) (L r) (C r)) ∧ L r ≤ C r ∧ C r ≤ maxLen ∧ (Z r).length = C r ∧ (∀ n ∈ Z r, (Lit.int .i64 n).wf = true) ∧ (A r = none → C r = 0) ∧
        ∀ a', A r = some a' → 0 ≤ a'.block ∧ ∀ c, c < C r → w.cell? (a'.add c) = some (.int .i64 ((Z r).getD c 0))) :
    ∃ zs, IsRows w (some a) len cap zs := by
  refine ⟨(List.range len).map fun r => (Z r).take (L r), ⟨some a, cap, fun r => .slice (A r) (L r) (C r), by simp, by simpa using hl, (fun h => by cases h), fun hn => ⟨a, rfl, by simp, fun i hi => ?_⟩, fun i hi => ?_⟩, by simp, by omega⟩
  · simp only [List.length_map, List.length_range] at hi
    exact (h i (by omega)).1
  · simp only [List.length_map, List.length_range] at hi
    obtain ⟨h1, h2, h3, h4, h5, h6, h7⟩ := h i (by omega)
    have e : ((List.range len).map fun r => (Z r).take (L r)).getD i [] = (Z i).take (L i) := by
      simp [List.getD_eq_getElem?_getD, hi]
    rw [e]
    have hll : L i = ((Z i).take (L i)).length := by rw [List.length_take]; omega
    refine IsI.mk hll h2 h6 fun hn => ?_
    cases ha : A i with
    | none => have := h6 ha; omega
    | some a' =>
      refine ⟨a', rfl, by simp, fun j hj => ?_⟩
      rw [(h7 a' ha).2 j (by omega)]
      simp [List.getD_eq_getElem?_getD, List.getElem?_take, hj]
end Go.Proofs.Ytdhadnnakcdfiaa

namespace Go.Proofs.Ytdhadnnakcdfiaa
set_option linter.unusedVariables false
open Go.ChangeShapes Go.WideShapes Go.ChangeAt Go.RowKit Go.Deep Go.Joins
section
variable {H : Type} {enc : TypeId × Value → H} {P : Program} {w : World} {base : Nat} {spare : Nat → Bool} {held : Bool}
/-- A slice of structs of one-cell fields: every field's own reading. -/
theorem open_fields {t e : TypeId} {fs : Array Field} {fuel : Nat} {cs : List Value} {x : DataW H × List MemPlace} (ht : P.underlying t = some (.slice e)) (he : P.underlying e = some (.struct fs))
    (hone : oneCellFields P fs = true) (hC : P.cellsOf e = fs.size) (h : DataW.trod enc P w base spare held fuel t cs = some x) :
    (cs = [.slice none 0 0]) ∨
    ∃ (a : Addr) (len cap : Nat), cs = [.slice (some a) len cap] ∧ len ≤ cap ∧ cap ≤ maxLen ∧
      ∀ i, i < len → ∃ (n : Nat), ∀ (j : Nat) (f : Field), fs[j]? = some f → ∃ (v : Value) (y : DataW H × List MemPlace), w.cell? (a.add (i * fs.size + j)) = some v ∧ DataW.trod enc P w base spare held n f.type [v] = some y := by
  rcases open_slice ht h with h0 | ⟨a, len, cap, m, n, D, Pl, hcs, hb, hl, hm, hmm, hx, hi⟩
  · exact .inl h0.1
  · refine .inr ⟨a, len, cap, hcs, hl, hm, fun i him => ?_⟩
    obtain ⟨cs', hc, ht'⟩ := hi i (by rw [hmm]; split <;> omega)
    rw [hC] at hc
    obtain ⟨ys, n', hn', hy, hlen, hyl, hf⟩ := DataW.trod_struct he ht'
    obtain ⟨_, hcl, hat⟩ := World.cells?_some hc
    refine ⟨n', fun j f hj => ?_⟩
    obtain ⟨ho, hk⟩ := hone_of hone j f hj
    have hjl : j < fs.size := (Array.getElem?_eq_some_iff.1 hj).1
    have hcell := hat j hjl
    have hv : cs'[j]? = some (cs'[j]'(by omega)) := List.getElem?_eq_getElem (by omega)
    have h1 := hf j f hj
    rw [ho, hk] at h1
    have hone' : (cs'.drop j).take 1 = [cs'[j]'(by omega)] := by
      rw [List.drop_eq_getElem_cons (by omega)]
      rfl
    rw [hone'] at h1
    have hys : ys[j]? = some (ys[j]'(by omega)) := List.getElem?_eq_getElem (by omega)
    refine ⟨_, _, ?_, h1.trans hys⟩
    rw [← Go.Deep.add_add, hcell, hv]
end
section
variable {H : Type} {enc : TypeId × Value → H} {w : World} {held : Bool} {n : Nat} {v : Value} {y : DataW H × List MemPlace}
theorem ints_of_trod (h : DataW.trod enc Try.prog w 0 (fun _ => true) held n 22 [v] = some y) : ∃ xs, IsI w [] v xs := by
  rcases open_ints Try.underlying22 Try.underlying3 (by kernel_rfl) h with ⟨hcs, _⟩ | ⟨x, l, c, zs, hcs, _, hl, hm, hz, _, hcell, hwz⟩
  · obtain rfl : v = .slice none 0 0 := by simpa using hcs
    exact ⟨[], IsI.nil⟩
  · obtain rfl : v = .slice (some x) l c := by simpa using hcs
    exact ⟨_, (IsRow.isI (.inr ⟨_, rfl, hl, hm, by simpa using hz, hcell, hwz⟩)).1⟩
theorem rows_of_trod (h : DataW.trod enc Try.prog w 0 (fun _ => true) held n 27 [v] = some y) : ∃ xs, IsII w [] v xs ∧ xs.length ≤ maxLen := by
  rcases Go.Deep.open_int_rows Try.underlying27 Try.underlying22 Try.underlying3 (by kernel_rfl) (by kernel_rfl) h with ⟨hcs, _⟩ | ⟨x, l, c, AA, LL, CC, ZZ, hcs, _, hl, hm, _, hcell⟩
  · obtain rfl : v = .slice none 0 0 := by simpa using hcs
    exact ⟨[], IsII.nil, by simp⟩
  · obtain rfl : v = .slice (some x) l c := by simpa using hcs
    obtain ⟨zs, h1, h2, h3⟩ := IsRows.mk hl hm hcell
    exact ⟨zs, h1, by omega⟩
/-- A linear set by value. -/
def LinArg (w : World) (v : Value) (s : Lin) : Prop := ∃ A q d B r e, v = .agg #[.slice A q d, .slice B r e] ∧ IsLin w [] (.slice A q d) (.slice B r e) s ∧ s.per.length ≤ maxLen
theorem lin_of_trod {r : Reach} {b0 : Nat} {d : DataW H} {p : List MemPlace} (hv : Value.okWide Try.prog w r b0 29 v) (h : DataW.Trod enc Try.prog w 0 (fun _ => true) held 29 v d p) : ∃ s, LinArg w v s := by
  obtain ⟨v0, v1, y0, y1, m, rfl, _, _, h0, h1⟩ := open_agg2 Try.underlying29 (by kernel_rfl) (by kernel_rfl) hv h
  obtain ⟨xs, hx⟩ := ints_of_trod h0
  obtain ⟨ys, hy, hm⟩ := rows_of_trod h1
  obtain ⟨A, c, rfl, _⟩ := hx.open
  have hy' := hy
  obtain ⟨B, c', V, rfl, _⟩ := hy'
  exact ⟨⟨xs, ys⟩, _, _, _, _, _, _, rfl, ⟨hx, hy⟩, hm⟩
/-- A slice of linear sets. -/
def LinsArg (w : World) (v : Value) (ss : List Lin) : Prop := IsLins w [] v ss ∧ ∀ s ∈ ss, s.per.length ≤ maxLen
theorem lins_of_trod {A : Option Addr} {k c : Nat} {d : DataW H} {p : List MemPlace} (h : DataW.Trod enc Try.prog w 0 (fun _ => true) held 39 (.slice A k c) d p) : ∃ ss, LinsArg w (.slice A k c) ss := by
  obtain ⟨fuel, h⟩ := h
  rcases open_fields Try.underlying39 Try.underlying29 (by kernel_rfl) (by kernel_rfl) h with hcs | ⟨a, len, cap, hcs, hl, hm, hi⟩
  · simp [Value.cells] at hcs
    obtain ⟨rfl, rfl, rfl⟩ := hcs
    exact ⟨[], ⟨none, 0, rfl, Nat.le_refl _, fun _ => rfl, fun h => absurd h (Nat.lt_irrefl 0)⟩, fun s hs => by cases hs⟩
  · simp [Value.cells] at hcs
    obtain ⟨rfl, rfl, rfl⟩ := hcs
    have key : ∀ i, i < k → ∃ s : Lin, s.per.length ≤ maxLen ∧ ∃ u v, w.cell? (a.add (i * 2)) = some u ∧ w.cell? ⟨(a.add (i * 2)).block, (a.add (i * 2)).off + 1, none⟩ = some v ∧ IsLin w [] u v s := by
      intro i hik
      obtain ⟨n, hf⟩ := hi i hik
      obtain ⟨u, y0, hu, h0⟩ := hf 0 _ rfl
      obtain ⟨v, y1, hv, h1⟩ := hf 1 _ rfl
      obtain ⟨xs, hx⟩ := ints_of_trod h0
      obtain ⟨ys, hy, hm⟩ := rows_of_trod h1
      refine ⟨⟨xs, ys⟩, hm, u, v, hu, ?_, hx, hy⟩
      rw [← hv]
      show _ = w.cell? (a.add (i * 2 + 1))
      rw [← add_of_add]
      rfl
    let f : Nat → Lin := fun i => if h : i < k then (key i h).choose else default
    have hf : ∀ i, i < k → (f i).per.length ≤ maxLen ∧ ∃ u v, w.cell? (a.add (i * 2)) = some u ∧ w.cell? ⟨(a.add (i * 2)).block, (a.add (i * 2)).off + 1, none⟩ = some v ∧ IsLin w [] u v (f i) := fun i hik => by
      simp only [f, hik, dif_pos]
      exact (key i hik).choose_spec
    have hg : ∀ i, i < k → ((List.range k).map f).getD i default = f i := fun i hik => by simp [List.getD_eq_getElem?_getD, hik]
    refine ⟨(List.range k).map f, ⟨some a, c, by simp, by simpa using hl, (fun h => by cases h), fun _ => ⟨a, rfl, by simp, fun i hik => ?_⟩⟩, fun s hs => ?_⟩
    · simp only [List.length_map, List.length_range] at hik
      rw [hg i hik]
      exact (hf i hik).2
    · obtain ⟨i, hik, rfl⟩ := List.mem_map.1 hs
      exact (hf i (List.mem_range.1 hik)).1
end
end Go.Proofs.Ytdhadnnakcdfiaa
