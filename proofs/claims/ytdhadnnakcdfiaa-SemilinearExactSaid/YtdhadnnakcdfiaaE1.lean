/- What semilinear's functions return, as functions of what they are given. Plain law: the first error of a linear set, case by case. The walks of the reference 13's numbers, zero and fault. The walks of the reference 13's valid, Check and less. The walks of the reference 13's times and Times. The walks of the reference 13's Times and Proves. The walks of the reference 13's Has and Within. The walk of the reference 13's Copy. The walks of the reference 13's moved and Shift. The walk of the reference's SameAll. The walks of the reference 13's Sum and Same. -/
import Derived.Test.YtdhadnnakcdfiaaSum
import Derived.Test.YtdhadnnakcdfiaaSumL
import Derived.Test.YtdhadnnakcdfiaaProvesS
import Derived.Test.YtdhadnnakcdfiaaWithin
import Derived.Test.YtdhadnnakcdfiaaShift2
import Derived.Test.YtdhadnnakcdfiaaHas
import Derived.Test.YtdhadnnakcdfiaaLMakes
import Derived.Test.YtdhadnnakcdfiaaPutL
import Derived.Test.YtdhadnnakcdfiaaQuietK
import Derived.Deep.QuietTactic
import Derived.Test.YtdhadnnakcdfiaaStep
import Derived.Deep.RegionHeld3
import Derived.Deep.DeepCutAuto
import Derived.StillTailTactics
import Derived.Test.YtdhadnnakcdfiaaNow
import Derived.Test.YtdhadnnakcdfiaaCmpL
import Derived.Test.YtdhadnnakcdfiaaPut
namespace Go.Proofs.Ytdhadnnakcdfiaa
set_option linter.unusedVariables false
open Go.RowKit

theorem ltv_asym {n : Nat} {f g : Nat → Int} (h : LtV n f g) (h' : LtV n g f) : False := by
  obtain ⟨k, _, h1, h2⟩ := h
  obtain ⟨j, _, g1, g2⟩ := h'
  rcases Nat.lt_trichotomy k j with e | e | e
  · have := g1 k e; omega
  · subst e; omega
  · have := h1 j e; omega
theorem ltv_of {n : Nat} {a b : List Int} (ha : a.length = n) (hb : b.length = n) (h : cmpL a b < 0) : LtV n (fun i => a.getD i 0) (fun i => b.getD i 0) := by
  unfold cmpL at h
  rw [if_pos (by rw [ha, hb])] at h
  have := lexc_vlt (by rw [ha, hb]) h
  unfold VLt at this
  rw [ha] at this
  exact this
theorem ltv_iff {n : Nat} {a b : List Int} (ha : a.length = n) (hb : b.length = n) : LtV n (fun i => a.getD i 0) (fun i => b.getD i 0) ↔ cmpL a b < 0 := by
  refine ⟨fun h => ?_, ltv_of ha hb⟩
  refine Decidable.byContradiction fun hn => ?_
  by_cases e : cmpL a b = 0
  · have := cmpL_zero.1 e
    subst this
    exact ltv_asym h h
  · exact ltv_asym h (ltv_of hb ha (by rw [cmpL_swap]; omega))
theorem asc_of_steps {l : List (List Int)} (h : ∀ i, i < l.length → 0 < i → cmpL (l.getD (i - 1) []) (l.getD i []) < 0) : Asc l := by
  unfold Asc
  rw [List.pairwise_iff_getElem]
  intro i j hi hj hij
  have key : ∀ d, i + d + 1 < l.length → cmpL (l.getD i []) (l.getD (i + d + 1) []) < 0 := by
    intro d
    induction d with
    | zero => intro hd; have := h (i + 1) hd (by omega); simpa using this
    | succ d ih => intro hd; exact cmpL_trans (ih (by omega)) (by have := h (i + (d + 1) + 1) hd (by omega); simpa [Nat.add_assoc] using this)
  have := key (j - i - 1) (by omega)
  rw [show i + (j - i - 1) + 1 = j by omega] at this
  simpa [List.getD_eq_getElem?_getD, hi, hj] using this
theorem Good.asc {n : Nat} {s : Lin} (h : Good n s) : Asc s.per := asc_of_steps fun i hi h0 =>
  (ltv_iff (h.per _ (getD_mem (d := []) (show i - 1 < s.per.length by omega))).len (h.per _ (getD_mem (d := []) hi)).len).1 (h.ord i (by omega) hi)

/-! Times. -/
theorem least_uniq {P : List (List Int)} {v k k' : List Int} (h : Least P v k) (h' : Least P v k') : k = k' := by
  have h1 := least_cmp h h'.1
  have h2 := least_cmp h' h.1
  rw [cmpL_swap] at h2
  exact cmpL_zero.1 (by omega)
open Classical in
noncomputable def timesF (s : Lin) (v : List Int) : Option (List Int) := if h : ∃ k, TPre s v ∧ Least s.per (subm v 1 s.base) k then some (Classical.choose h) else none
def TimP (o : Option (List Int)) (l : List Nat) (w : World) (e : Ending) (w' : World) : Prop := Keeps [] w w' ∧ ∃ A n c, n = (o.getD []).length ∧ e = .returned (.tuple #[.slice A n c, .bool o.isSome]) ∧ IsI w' l (.slice A n c) (o.getD [])
theorem TimesPost.fix {s : Lin} {v : List Int} {l : List Nat} {w : World} {e : Ending} {w' : World} (h : TimesPost s v l w e w') : TimP (timesF s v) l w e w' := by
  obtain ⟨hk, ⟨rfl, h⟩ | ⟨A, n, c, k, rfl, hp, hI, hl⟩⟩ := h
  · have : timesF s v = none := by
      unfold timesF
      rw [dif_neg]
      rintro ⟨k, h1, h2⟩
      exact h h1 k h2.1
    rw [this]
    exact ⟨hk, none, 0, 0, rfl, rfl, IsL.nil⟩
  · have : timesF s v = some k := by
      unfold timesF
      have hx : ∃ k, TPre s v ∧ Least s.per (subm v 1 s.base) k := ⟨k, hp, hl⟩
      rw [dif_pos hx]
      exact congrArg some (least_uniq (Classical.choose_spec hx).2 hl)
    rw [this]
    exact ⟨hk, A, n, c, by obtain ⟨_, _, _, e, _⟩ := hI; injection e, rfl, hI⟩
theorem timesF_len {s : Lin} {v : List Int} : ((timesF s v).getD []).length ≤ s.per.length := by
  unfold timesF
  split
  · rename_i h
    show (Classical.choose h).length ≤ _
    rw [(Classical.choose_spec h).2.1.len]; exact Nat.le_refl _
  · simp
noncomputable def dec (P : Prop) : Bool := @decide P (Classical.propDecidable P)
theorem dec_true {P : Prop} : dec P = true ↔ P := by unfold dec; exact @decide_eq_true_iff P (Classical.propDecidable P)
theorem dec_false {P : Prop} : dec P = false ↔ ¬ P := by rw [← Bool.not_eq_true, dec_true]
noncomputable def prvF (s : Lin) (v t : List Int) : Bool := dec (ProvesS s v t)
noncomputable def hasF (n : Int) (ss : List Lin) (v : List Int) : Bool := dec (GoodAll n ss ∧ ∃ s ∈ ss, HasIn s v)
noncomputable def witF (n : Int) (a b : Lin) : Bool := dec (WithinS n a b)
def BoolP (r : Bool) (w : World) (e : Ending) (w' : World) : Prop := e = .returned (.bool r) ∧ Keeps [] w w'
theorem bool_fix {P : Prop} {w w' : World} {e : Ending} (h : ∃ r : Bool, e = .returned (.bool r) ∧ (r = true ↔ P) ∧ Keeps [] w w') : BoolP (dec P) w e w' := by
  obtain ⟨r, rfl, hr, hk⟩ := h
  have : r = dec P := by rw [Bool.eq_iff_iff, hr, dec_true]
  rw [this]; exact ⟨rfl, hk⟩
theorem PrPost.fix {s : Lin} {v t : List Int} {w w' : World} {e : Ending} (h : PrPost s v t w e w') : BoolP (prvF s v t) w e w' := bool_fix h
theorem HasPost.fix {n : Int} {ss : List Lin} {v : List Int} {w w' : World} {e : Ending} (h : HasPost n ss v w e w') : BoolP (hasF n ss v) w e w' := bool_fix h
theorem WiPost.fix {n : Int} {a b : Lin} {w w' : World} {e : Ending} (h : WiPost n a b w e w') : BoolP (witF n a b) w e w' := bool_fix h

/-! Shift and Sum. -/
def LinP (l : List Nat) (z : Int) (s : Lin) (w : World) (e : Ending) (w' : World) : Prop := Keeps [] w w' ∧ ∃ A n c A' m c', n = s.base.length ∧ m = s.per.length ∧ e = .returned (.tuple #[.agg #[.slice A n c, .slice A' m c'], .int .i64 z]) ∧ IsI w' l (.slice A n c) s.base ∧ IsII w' l (.slice A' m c') s.per
def lin0 : Lin := ⟨[], []⟩
theorem LinP.zero {l : List Nat} {z : Int} {w w' : World} (hk : Keeps [] w w') : LinP l z lin0 w (.returned (.tuple #[.agg #[.slice none 0 0, .slice none 0 0], .int .i64 z])) w' := ⟨hk, none, 0, 0, none, 0, 0, rfl, rfl, rfl, IsL.nil, IsL.nil⟩
theorem isL_n {α : Type} {R : Rp α} {d : α} {w : World} {l : List Nat} {A : Option Addr} {n c : Nat} {xs : List α} (h : IsL R d w l (.slice A n c) xs) : n = xs.length := by obtain ⟨_, _, _, e, _⟩ := h; injection e
instance (m : Int) (v : List Int) : Decidable (InRng m v) := by unfold InRng; exact inferInstance
noncomputable def shfF (n : Int) (s : Lin) (v : List Int) : Int × Lin :=
  if chkL n [s] ≠ 0 then (chkL n [s], lin0) else if (v.length : Int) ≠ n then (3, lin0) else if ¬ InRng 16 v then (2, lin0) else if ¬ InRng 16 (addV s.base v) then (1, lin0) else (0, ⟨addV s.base v, s.per⟩)
theorem SftPost.fix {n : Int} {s : Lin} {v : List Int} {l : List Nat} {w w' : World} {e : Ending} (hl : ∀ y ∈ l, y < w.heap.size) (h : SftPost n s v l w e w') : LinP l (shfF n s v).1 (shfF n s v).2 w e w' := by
  obtain ⟨hk, ⟨z, rfl, h⟩ | ⟨A, n1, c, A', m, c', rfl, h1, h2, h3, h4, h5, h6⟩⟩ := h
  · have : shfF n s v = (z, lin0) := by
      unfold shfF
      rcases h with ⟨h, rfl⟩ | ⟨h, ⟨h2, rfl⟩ | ⟨h2, ⟨h3, rfl⟩ | ⟨h3, h4, rfl⟩⟩⟩
      · rw [if_pos h]
      · rw [if_neg (by omega), if_pos h2]
      · rw [if_neg (by omega), if_neg (by omega), if_pos h3]
      · rw [if_neg (by omega), if_neg (by omega), if_neg (fun h => h h3), if_pos h4]
    rw [this]; exact LinP.zero hk
  · have : shfF n s v = (0, ⟨addV s.base v, s.per⟩) := by
      unfold shfF
      rw [if_neg (by rw [chkL_zero.2 h1]; simp), if_neg (by omega), if_neg (fun h => h h3), if_neg (fun h => h h4)]
    have h7 : IsII w' l (.slice A' m c') s.per := h6.isL hl
    rw [this]; exact ⟨hk, A, n1, c, A', m, c', isL_n h5, isL_n h7, rfl, h5, h7⟩
def putF (a b : List (List Int)) : List (List Int) := b.foldl putL a
theorem putF_snoc (a b : List (List Int)) (x : List Int) : putF a (b ++ [x]) = putL (putF a b) x := by simp [putF, List.foldl_append]
theorem putF_inv {a : List (List Int)} (ha : Asc a) : ∀ (b : List (List Int)), Asc (putF a b) ∧ (∀ x, x ∈ putF a b ↔ x ∈ a ∨ x ∈ b) ∧ (putF a b).length ≤ a.length + b.length := by
  intro b
  rw [← List.reverse_reverse b]
  induction b.reverse with
  | nil => exact ⟨ha, fun x => by simp [putF], by simp [putF]⟩
  | cons v b ih =>
    rw [List.reverse_cons, putF_snoc]
    obtain ⟨h1, h2, h3⟩ := ih
    refine ⟨putL_asc h1, fun x => ?_, Nat.le_trans putL_len (by simp at h3 ⊢; omega)⟩
    rw [mem_putL, h2, List.mem_append, List.mem_singleton]
    constructor
    · rintro (h | h | h)
      · exact .inr (.inr h)
      · exact .inl h
      · exact .inr (.inl h)
    · rintro (h | h | h)
      · exact .inr (.inl h)
      · exact .inr (.inr h)
      · exact .inl h
noncomputable def sumF (n : Int) (a b : Lin) : Int × Lin :=
  if chk2 n a b ≠ 0 then (chk2 n a b, lin0) else if ¬ InRng 16 (addV a.base b.base) then (1, lin0) else if 3 < (putF a.per b.per).length then (1, lin0) else (0, ⟨addV a.base b.base, putF a.per b.per⟩)
theorem put_zs {n : Int} {a b : Lin} {zs : List (List Int)} (h0 : chk2 n a b = 0) (ha : Asc zs) (hm : ∀ x, x ∈ zs ↔ x ∈ a.per ∨ x ∈ b.per) : putF a.per b.per = zs := by
  have hp := putF_inv ((chk2_zero.1 h0).1.all a (by simp)).asc b.per
  exact asc_ext hp.1 ha fun x => (hp.2.1 x).trans (hm x).symm
theorem SumPost.fix {n : Int} {a b : Lin} {l : List Nat} {w w' : World} {e : Ending} (h : SumPost n a b l w e w') : LinP l (sumF n a b).1 (sumF n a b).2 w e w' := by
  obtain ⟨hk, ⟨z, rfl, h⟩ | ⟨A, n1, c, A', m, c', zs, rfl, hs, h5, h6⟩⟩ := h
  · have : sumF n a b = (z, lin0) := by
      unfold sumF
      rcases h with ⟨h, rfl⟩ | ⟨h, rfl, h2⟩
      · rw [if_pos h]
      · rw [if_neg (by omega)]
        by_cases h3 : InRng 16 (addV a.base b.base)
        · rw [if_neg (fun h => h h3)]
          rcases h2 with h2 | ⟨zs, h4, h5, h6⟩
          · exact absurd h3 h2
          · rw [put_zs h h4 h5, if_pos h6]
        · rw [if_pos h3]
    rw [this]; exact LinP.zero hk
  · have h0 : chk2 n a b = 0 := chk2_zero.2 ⟨hs.ga, hs.gb⟩
    have : sumF n a b = (0, ⟨addV a.base b.base, zs⟩) := by
      unfold sumF
      rw [if_neg (by omega), if_neg (fun h => h hs.rng), put_zs h0 hs.asc hs.mem, if_neg (by have := hs.few; omega)]
    rw [this]; exact ⟨hk, A, n1, c, A', m, c', isL_n h5, isL_n h6, rfl, h5, h6⟩
end Go.Proofs.Ytdhadnnakcdfiaa

namespace Go.Proofs.Ytdhadnnakcdfiaa
set_option linter.unusedVariables false
open Go.RowKit

def numB (v : List Int) (m : Int) : Bool := v.all fun x => decide (0 ≤ x ∧ x ≤ m)
theorem numB_true {v : List Int} {m : Int} : numB v m = true ↔ ∀ x ∈ v, 0 ≤ x ∧ x ≤ m := by
  unfold numB; rw [List.all_eq_true]; simp
theorem numB_false {v : List Int} {m : Int} : numB v m = false ↔ ¬ ∀ x ∈ v, 0 ≤ x ∧ x ≤ m := by rw [← Bool.not_eq_true, numB_true]
theorem numB_no {v : List Int} {m : Int} {i : Nat} (hi : i < v.length) (h : ¬ (0 ≤ v.getD i 0 ∧ v.getD i 0 ≤ m)) : numB v m = false := numB_false.2 fun h' => h (h' _ (getD_mem hi))
theorem numB_yes {v : List Int} {m : Int} (h : ∀ i, i < v.length → 0 ≤ v.getD i 0 ∧ v.getD i 0 ≤ m) : numB v m = true := numB_true.2 fun x hx => by
  obtain ⟨i, hi, rfl⟩ := mem_getD (d := 0) hx
  exact h i hi
theorem smallB_num {v : List Int} {m : Int} : SmallB v.length (fun i => v.getD i 0) m ↔ numB v m = true := (small_iff rfl).trans numB_true.symm
theorem zeroB_num {v : List Int} : ZeroB v.length (fun i => v.getD i 0) ↔ numB v 0 = true := by
  rw [numB_true]
  constructor
  · intro h x hx
    obtain ⟨i, hi, rfl⟩ := mem_getD (d := 0) hx
    have : v.getD i 0 = 0 := h i hi
    omega
  · intro h i hi
    have := h _ (getD_mem (d := 0) hi)
    show v.getD i 0 = 0
    omega
def LenOk (n : Nat) (s : Lin) : Prop := s.base.length = n ∧ ∀ i, i < s.per.length → (s.per.getD i []).length = n
def RngOk (s : Lin) : Prop := numB s.base 16 = true ∧ ∀ i, i < s.per.length → numB (s.per.getD i []) 16 = true ∧ numB (s.per.getD i []) 0 = false
theorem err3 {n : Nat} {s : Lin} (h : ¬ LenOk n s) : s.ls.err n = 3 := by
  unfold LS.err oneErr
  refine if_pos ?_
  by_cases e : s.base.length = n
  · refine .inr (Classical.byContradiction fun h' => h ⟨e, fun i hi => Decidable.byContradiction fun hn => h' ⟨i, hi, hn⟩⟩)
  · exact .inl e
theorem not_bad {n : Nat} {s : Lin} (h : LenOk n s) : ¬ OneBad n s.ls.nb s.ls.m s.ls.L := by
  rintro (h1 | ⟨i, hi, h1⟩)
  · exact h1 h.1
  · exact h1 (h.2 i hi)
theorem not_rng {s : Lin} (h : RngOk s) : ¬ OneRange s.ls.nb s.ls.m s.ls.b s.ls.L s.ls.P := by
  rintro (h1 | ⟨i, hi, h1⟩)
  · exact h1 (smallB_num.2 h.1)
  · rcases h1 with h1 | h1
    · exact h1 (smallB_num.2 (h.2 i hi).1)
    · have := zeroB_num.1 h1
      rw [(h.2 i hi).2] at this; cases this
theorem err2 {n : Nat} {s : Lin} (hl : LenOk n s) (h : ¬ RngOk s) : s.ls.err n = 2 := by
  unfold LS.err oneErr
  rw [if_neg (not_bad hl)]
  refine if_pos ?_
  refine Classical.byContradiction fun h' => h ⟨smallB_num.1 (Classical.byContradiction fun e => h' (.inl e)), fun i hi => ⟨smallB_num.1 (Classical.byContradiction fun e => h' (.inr ⟨i, hi, .inl e⟩)), ?_⟩⟩
  rw [← Bool.not_eq_true]
  exact fun e => h' (.inr ⟨i, hi, .inr (zeroB_num.2 e)⟩)
theorem err1 {n : Nat} {s : Lin} (hl : LenOk n s) (hr : RngOk s) (h : 3 < s.per.length) : s.ls.err n = 1 := by
  unfold LS.err oneErr
  rw [if_neg (not_bad hl), if_neg (not_rng hr)]
  exact if_pos h
theorem err4 {n : Nat} {s : Lin} (hl : LenOk n s) (hr : RngOk s) (h3 : s.per.length ≤ 3) {i : Nat} (h1 : 1 ≤ i) (hi : i < s.per.length) (h : 0 ≤ cmpL (s.per.getD (i - 1) []) (s.per.getD i [])) : s.ls.err n = 4 := by
  unfold LS.err oneErr
  rw [if_neg (not_bad hl), if_neg (not_rng hr), if_neg (show ¬ 3 < s.ls.m by show ¬ 3 < s.per.length; omega)]
  refine if_pos ⟨i, h1, hi, fun hlt => ?_⟩
  have := (ltv_iff (hl.2 (i - 1) (by omega)) (hl.2 i hi)).1 hlt
  omega
theorem err0 {n : Nat} {s : Lin} (hl : LenOk n s) (hr : RngOk s) (h3 : s.per.length ≤ 3) (h : ∀ i, 1 ≤ i → i < s.per.length → cmpL (s.per.getD (i - 1) []) (s.per.getD i []) < 0) : s.ls.err n = 0 := by
  unfold LS.err oneErr
  rw [if_neg (not_bad hl), if_neg (not_rng hr), if_neg (show ¬ 3 < s.ls.m by show ¬ 3 < s.per.length; omega)]
  refine if_neg ?_
  rintro ⟨i, h1, hi, hlt⟩
  have hi : i < s.per.length := hi
  exact hlt ((ltv_iff (hl.2 (i - 1) (by omega)) (hl.2 i hi)).2 (h i h1 hi))
end Go.Proofs.Ytdhadnnakcdfiaa

namespace Go.Proofs.Ytdhadnnakcdfiaa
set_option linter.unusedVariables false
open Go.RowKit

def IntP (z : Int) (w : World) (e : Ending) (w' : World) : Prop := e = .returned (.int .i64 z) ∧ Keeps [] w w'
theorem ret_b2 {a b : Bool} (h : b = a) : Ending.returned (.bool a) = .returned (.bool b) := by rw [h]
set_option maxHeartbeats 400000 in
theorem rnumbers_is {w : World} {l : List Nat} {av : Value} {a : List Int} (m : Int) (ha : IsI w l av a) (hn : a.length ≤ 1000000) : Calls Try.prog 50 #[av, .int .i64 m] w (BoolP (numB a m) w) := by
  unfold BoolP
  obtain ⟨A, c, rfl, _, _, h1⟩ := ha.open
  have hyes := fun h => numB_yes (v := a) (m := m) h
  have hno := fun i (hi : i < a.length) h => numB_no (m := m) hi h
  generalize numB a m = r at *
  generalize hnn : a.length = n at *
  have H1 := Lib.hid h1
  have HNN := Lib.hid hnn
  have HA := Lib.hid ha
  have HYES := Lib.hid hyes
  have HNO := Lib.hid hno
  clear h1 hnn ha hyes hno
  go_enter Try.func50, Try.ntmps50
  go_wp2_with fail
  go_loopg [5] (n + 1) (fun gh iv wr => ∃ k : Nat, n + 1 ≤ k + gh ∧ k ≤ n ∧ iv = .int .i64 (k : Int) ∧ (∀ i, i < k → 0 ≤ a.getD i 0 ∧ a.getD i 0 ≤ m) ∧ w = wr)
  case atStart => exact ⟨0, by omega, by omega, rfl, fun i hi => by omega, rfl⟩
  case round =>
    obtain ⟨k, hgh, hk, rfl, hs, rfl⟩ := hrel
    have HS := Lib.hid hs
    clear hs
    by_cases hlt : k < n
    · obtain ⟨p, rfl, hp⟩ := H1.out.at_ hlt
      generalize hx : a.getD k 0 = x at *
      by_cases h0 : x < 0
      · have d0 : decide (x < 0) = true := decide_eq_true h0
        have hd := HNO.out k hlt (by rw [hx]; omega)
        have HX := Lib.hid hx
        have HD := Lib.hid hd
        clear hx hd
        go_wp2_with fail
        go_ret
        exact ⟨ret_b2 HD.out, Keeps.refl _ _⟩
      · have d0 : decide (x < 0) = false := decide_eq_false h0
        by_cases h2 : m < x
        · have d1 : decide (m < x) = true := decide_eq_true h2
          have hd := HNO.out k hlt (by rw [hx]; omega)
          have HX := Lib.hid hx
          have HD := Lib.hid hd
          clear hx hd
          go_wp2_with fail
          go_ret
          exact ⟨ret_b2 HD.out, Keeps.refl _ _⟩
        · have d1 : decide (m < x) = false := decide_eq_false h2
          have h3 : ∀ i, i < k + 1 → 0 ≤ a.getD i 0 ∧ a.getD i 0 ≤ m := fun i hi => by
            by_cases e : i = k
            · rw [e, hx]; omega
            · exact HS.out i (by omega)
          have HX := Lib.hid hx
          have H3 := Lib.hid h3
          clear hx h3
          go_wp2_with fail
          go_roundg (n - k)
          case measure => omega
          case rel => exact ⟨k + 1, by omega, by omega, by go_num, H3.out, rfl⟩
    · obtain rfl : k = n := by omega
      have hd := HYES.out HS.out
      have HD := Lib.hid hd
      clear hd
      go_wp2_with fail
      go_ret
      exact ⟨ret_b2 HD.out, Keeps.refl _ _⟩
set_option maxHeartbeats 400000 in
theorem rzero_is {w : World} {l : List Nat} {av : Value} {a : List Int} (ha : IsI w l av a) (hn : a.length ≤ 1000000) : Calls Try.prog 67 #[av] w (BoolP (numB a 0) w) := by
  unfold BoolP
  have hc := rnumbers_is 0 ha hn
  unfold BoolP at hc
  obtain ⟨A, c, rfl, _⟩ := ha.open
  generalize numB a 0 = r at *
  generalize a.length = n at *
  have HC := Lib.hid hc
  have HA := Lib.hid ha
  clear hc ha
  go_enter Try.func67, Try.ntmps67
  go_wp2_with fail
  refine HC.out.mono ?_
  rintro e w1 ⟨rfl, hk1⟩
  have HK1 := Lib.hid hk1
  clear hk1
  go_wp2_with fail
  go_ret
  exact ⟨rfl, HK1.out⟩


set_option maxRecDepth 100000 in
set_option maxHeartbeats 8000000 in
theorem rfault_is {w : World} {l : List Nat} {u pv : Value} {s : Lin} {n : Nat} (h : IsLin w l u pv s) (hs : s.Small) (hn : n ≤ 1000000) :
    Calls Try.prog 48 #[.int .i64 (n : Int), .agg #[u, pv]] w (IntP (s.ls.err n) w) := by
  unfold IntP
  have e3 := err3 (n := n) (s := s)
  have e2 := err2 (n := n) (s := s)
  have e1 := err1 (n := n) (s := s)
  have e4 := fun hl hr h3 i => err4 (n := n) (s := s) hl hr h3 (i := i)
  have e0 := err0 (n := n) (s := s)
  have hsb := hs.b
  have hsm := hs.m
  have hsp := hs.p
  generalize s.ls.err n = Z at *
  obtain ⟨A, c, rfl, _⟩ := h.1.open
  have hp := h.2
  obtain ⟨Ap, cp, V, rfl, _⟩ := hp
  have hk0 : Keeps [] w (w.alloc (.cells #[.slice A s.base.length c, .slice Ap s.per.length cp] 29)) := (Keeps.refl _ _).alloc _
  have hb := h.1.new hk0
  have hpp := h.2.new hk0
  have hs0 := World.cell?_alloc_new w #[.slice A s.base.length c, .slice Ap s.per.length cp] 29 0
  have hs1 := World.cell?_alloc_new w #[.slice A s.base.length c, .slice Ap s.per.length cp] 29 1
  obtain ⟨Ap', cp', V', ev, _, _, hcell, hval⟩ := hpp
  injection ev with ev1 ev2 ev3
  subst ev1; subst ev3
  unfold LenOk at e3 e2 e1 e4 e0
  unfold RngOk at e2 e1 e4 e0
  generalize hnb : s.base.length = nb at *
  generalize hmn : s.per.length = m at *
  clear ev2 h
  by_cases hl0 : nb = n
  · subst hl0
    have d0 : ((nb : Int) != (nb : Int)) = false := by simp
    have E3 := Lib.hid e3
    have E2 := Lib.hid e2
    have E1 := Lib.hid e1
    have E4 := Lib.hid e4
    have E0 := Lib.hid e0
    have HK0 := Lib.hid hk0
    have HB := Lib.hid hb
    have HCELL := Lib.hid hcell
    have HVAL := Lib.hid hval
    have HS := Lib.hid hs
    have HSP := Lib.hid hsp
    have HNB := Lib.hid hnb
    have HMN := Lib.hid hmn
    clear e3 e2 e1 e4 e0 hk0 hb hcell hval hs hsp hnb hmn
    go_enter Try.func48, Try.ntmps48
    go_wp2_with fail
    have HS0 := Lib.hid hs0
    have HS1 := Lib.hid hs1
    clear hs0 hs1
    generalize w.alloc (.cells #[.slice A nb c, .slice Ap m cp] 29) = wb at *
    go_loopg [5] (m + 1) (fun gh iv wr => ∃ k : Nat, m + 1 ≤ k + gh ∧ k ≤ m ∧ iv = .int .i64 (k : Int) ∧ (∀ i, i < k → (s.per.getD i []).length = nb) ∧ Keeps [] wb wr)
    case atStart => exact ⟨0, by omega, by omega, rfl, fun i hi => by omega, Keeps.refl _ _⟩
    case round =>
      obtain ⟨k, hgh, hk, rfl, hall, hkr⟩ := hrel
      have hr1 := hkr.read HS1.out (by simp)
      have HALL := Lib.hid hall
      clear hall
      by_cases hlt : k < m
      · obtain ⟨pa, epa, hpa⟩ := (HCELL.out.keeps (hkr.nil l)).at_ hlt
        have hx : IsI wr l (V' k) (s.per.getD k []) := (HVAL.out k hlt).keeps (hkr.nil l)
        obtain ⟨B, d, eb, _⟩ := hx.open
        rw [eb] at hpa
        subst epa
        generalize hq : (s.per.getD k []).length = q at *
        by_cases hqn : q = nb
        · have d1 : ((q : Int) != (nb : Int)) = false := by rw [hqn]; simp
          have h2 : ∀ i, i < k + 1 → (s.per.getD i []).length = nb := fun i hi => by
            by_cases e : i = k
            · rw [e, hq, hqn]
            · exact HALL.out i (by omega)
          have HKR := Lib.hid hkr
          have H2 := Lib.hid h2
          have HQ := Lib.hid hq
          have HQN := Lib.hid hqn
          clear h2 hq hqn
          clear hkr hx eb
          go_wp2_with fail
          go_roundg (m - k)
          case measure => omega
          case rel => exact ⟨k + 1, by omega, by omega, by go_num, H2.out, HKR.out⟩
        · have d1 : ((q : Int) != (nb : Int)) = true := by
            have : (q : Int) ≠ (nb : Int) := by omega
            simpa using this
          have hz : Z = 3 := E3.out fun h => hqn (by rw [← hq]; exact h.2 k hlt)
          have HKR := Lib.hid hkr
          have HQ := Lib.hid hq
          have HQN := Lib.hid hqn
          have HZ := Lib.hid hz
          clear hq hqn hz
          clear hkr hx eb
          go_wp2_with fail
          go_ret
          exact ⟨ret_ni HZ.out, HK0.out.trans HKR.out⟩
      · obtain rfl : k = m := by omega
        have hlen : s.base.length = nb ∧ ∀ i, i < k → (s.per.getD i []).length = nb := ⟨HNB.out, HALL.out⟩
        have hr0 := hkr.read HS0.out (by simp)
        have hcall := rnumbers_is 16 (HB.out.new hkr) (by rw [HNB.out]; exact hsb)
        unfold BoolP at hcall
        cases hq : numB s.base 16 with
        | false =>
          have hz : Z = 2 := E2.out ⟨trivial, hlen.2⟩ fun h => by rw [hq] at h; cases h.1
          rw [hq] at hcall
          have HKR := Lib.hid hkr
          have HCALL := Lib.hid hcall
          have HZ := Lib.hid hz
          have HLEN := Lib.hid hlen
          clear hcall hz hlen
          clear hkr hq
          go_wp2_with fail
          refine HCALL.out.mono ?_
          rintro e w1 ⟨rfl, hk1⟩
          have hk2 := (HK0.out.trans HKR.out).trans hk1
          have HK2 := Lib.hid hk2
          clear hk2
          clear hk1 hr0 hr1
          go_wp2_with fail
          go_ret
          exact ⟨ret_ni HZ.out, HK2.out⟩
        | true =>
          rw [hq] at hcall
          have HKR := Lib.hid hkr
          have HNQ := Lib.hid hq
          have HCALL := Lib.hid hcall
          have HLEN := Lib.hid hlen
          clear hcall hlen
          clear hkr hq
          go_wp2_with fail
          refine HCALL.out.mono ?_
          rintro e w1 ⟨rfl, hk1⟩
          have hk2 := HKR.out.trans hk1
          have HK2 := Lib.hid hk2
          clear hk2
          clear hk1 hr0 hr1
          go_wp2_with fail
          go_loopg [6] (k + 1) (fun gh iv wr => ∃ j : Nat, k + 1 ≤ j + gh ∧ j ≤ k ∧ iv = .int .i64 (j : Int) ∧ (∀ i, i < j → numB (s.per.getD i []) 16 = true ∧ numB (s.per.getD i []) 0 = false) ∧ Keeps [] wb wr)
          case atStart => exact ⟨0, by omega, by omega, rfl, fun i hi => by omega, HK2.out⟩
          case round =>
            obtain ⟨j, hgh2, hj, rfl, hall2, hkr2⟩ := hrel
            have hr1 := hkr2.read HS1.out (by simp)
            have hall3 := hall2
            have HALL2 := Lib.hid hall2
            clear hall2
            by_cases hltj : j < k
            · obtain ⟨pa, epa, hpa⟩ := (HCELL.out.keeps (hkr2.nil l)).at_ hltj
              have hx : IsI wr l (V' j) (s.per.getD j []) := (HVAL.out j hltj).keeps (hkr2.nil l)
              have hxl := HSP.out j hltj
              have hc1 := rnumbers_is 16 hx hxl
              have hc2 := fun W (kp : Keeps [] wr W) => rzero_is (IsI.new hx kp) hxl
              unfold BoolP at hc1 hc2
              obtain ⟨B, d, eb, _⟩ := hx.open
              rw [eb] at hpa hc1 hc2
              subst epa
              have HKR2 := Lib.hid hkr2
              cases hq1 : numB (s.per.getD j []) 16 with
              | false =>
                have hz : Z = 2 := E2.out ⟨trivial, HLEN.out.2⟩ fun h => by have := (h.2 j hltj).1; rw [hq1] at this; cases this
                rw [hq1] at hc1
                have HC1 := Lib.hid hc1
                have HZ := Lib.hid hz
                have HC2 := Lib.hid hc2
                clear hc1 hz hc2
                clear hkr2 hq1 hx eb hall3
                go_wp2_with fail
                refine HC1.out.mono ?_
                rintro e w3 ⟨rfl, hk3⟩
                have hk4 := (HK0.out.trans HKR2.out).trans hk3
                have HK4 := Lib.hid hk4
                clear hk4
                clear hk3 hr1 hpa
                go_wp2_with fail
                go_ret
                exact ⟨ret_ni HZ.out, HK4.out⟩
              | true =>
                rw [hq1] at hc1
                cases hq2 : numB (s.per.getD j []) 0 with
                | true =>
                  have hz : Z = 2 := E2.out ⟨trivial, HLEN.out.2⟩ fun h => by have := (h.2 j hltj).2; rw [hq2] at this; cases this
                  rw [hq2] at hc2
                  have HC1 := Lib.hid hc1
                  have HZ := Lib.hid hz
                  have HC2 := Lib.hid hc2
                  clear hc1 hz hc2
                  clear hkr2 hq1 hq2 hx eb hall3
                  go_wp2_with fail
                  refine HC1.out.mono ?_
                  rintro e w3 ⟨rfl, hk3⟩
                  have hr3 := hk3.read hr1 (by simp)
                  have hp3 := hk3.read hpa (by simp)
                  have hcz := HC2.out w3 hk3
                  have hk4 := (HK0.out.trans HKR2.out).trans hk3
                  have HK4 := Lib.hid hk4
                  have HCZ := Lib.hid hcz
                  clear hk4 hcz
                  clear hk3 hr1 hpa
                  go_wp2_with fail
                  refine HCZ.out.mono ?_
                  rintro e w5 ⟨rfl, hk5⟩
                  have hk6 := HK4.out.trans hk5
                  have HK6 := Lib.hid hk6
                  clear hk6
                  clear hk5 hr3 hp3
                  go_wp2_with fail
                  go_ret
                  exact ⟨ret_ni HZ.out, HK6.out⟩
                | false =>
                  have h2 : ∀ i, i < j + 1 → numB (s.per.getD i []) 16 = true ∧ numB (s.per.getD i []) 0 = false := fun i hi => by
                    by_cases e : i = j
                    · rw [e]; exact ⟨hq1, hq2⟩
                    · exact HALL2.out i (by omega)
                  rw [hq2] at hc2
                  have HC1 := Lib.hid hc1
                  have H2 := Lib.hid h2
                  have HC2 := Lib.hid hc2
                  clear hc1 h2 hc2
                  clear hkr2 hq1 hq2 hx eb hall3
                  go_wp2_with fail
                  refine HC1.out.mono ?_
                  rintro e w3 ⟨rfl, hk3⟩
                  have hr3 := hk3.read hr1 (by simp)
                  have hp3 := hk3.read hpa (by simp)
                  have hcz := HC2.out w3 hk3
                  have hk4 := HKR2.out.trans hk3
                  have HK4 := Lib.hid hk4
                  have HCZ := Lib.hid hcz
                  clear hk4 hcz
                  clear hk3 hr1 hpa
                  go_wp2_with fail
                  refine HCZ.out.mono ?_
                  rintro e w5 ⟨rfl, hk5⟩
                  have hk6 := HK4.out.trans hk5
                  have HK6 := Lib.hid hk6
                  clear hk6
                  clear hk5 hr3 hp3
                  go_wp2_with fail
                  go_roundg (k - j)
                  case measure => omega
                  case rel => exact ⟨j + 1, by omega, by omega, by go_num, H2.out, HK6.out⟩
            · obtain rfl : j = k := by omega
              have HKR2 := Lib.hid hkr2
              have hrng : numB s.base 16 = true ∧ ∀ i, i < j → numB (s.per.getD i []) 16 = true ∧ numB (s.per.getD i []) 0 = false := ⟨HNQ.out, HALL2.out⟩
              by_cases h3 : 3 < j
              · have d3 : decide ((3 : Int) < (j : Int)) = true := decide_eq_true (by omega)
                have d4 : decide (3 < j) = true := decide_eq_true h3
                have hz : Z = 1 := E1.out ⟨trivial, HLEN.out.2⟩ hrng h3
                have HZ := Lib.hid hz
                have HRNG := Lib.hid hrng
                clear hz hrng
                clear hkr2 hall3
                go_wp2_with fail
                go_ret
                exact ⟨ret_ni HZ.out, HK0.out.trans HKR2.out⟩
              · have d3 : decide ((3 : Int) < (j : Int)) = false := decide_eq_false (by omega)
                have d4 : decide (3 < j) = false := decide_eq_false h3
                have HRNG := Lib.hid hrng
                clear hrng
                clear hkr2 hall3
                go_wp2_with fail
                clear hr1
                go_loopg [7] (j + 2) (fun gh iv wr => ∃ i : Nat, j + 2 ≤ i + gh ∧ i ≤ j + 1 ∧ 1 ≤ i ∧ iv = .int .i64 (i : Int) ∧ (∀ q, 1 ≤ q → q < i → q < j → cmpL (s.per.getD (q - 1) []) (s.per.getD q []) < 0) ∧ Keeps [] wb wr)
                case atStart => exact ⟨1, by omega, by omega, by omega, rfl, fun q h1 h2 => by omega, HKR2.out⟩
                case round =>
                  obtain ⟨i, hgh3, hi, hi1, rfl, hall4, hkr3⟩ := hrel
                  have hr1 := hkr3.read HS1.out (by simp)
                  have HKR3 := Lib.hid hkr3
                  have HALL4 := Lib.hid hall4
                  clear hall4
                  by_cases hlti : i < j
                  · obtain ⟨pa, epa, hpa2⟩ := (HCELL.out.keeps (hkr3.nil l)).at_ hlti
                    obtain ⟨pb, epb, hpa1⟩ := (HCELL.out.keeps (hkr3.nil l)).at_ (show i - 1 < j by omega)
                    obtain rfl : pa = pb := by rw [epa] at epb; injection epb
                    have hx1 : IsI wr l (V' (i - 1)) (s.per.getD (i - 1) []) := (HVAL.out (i - 1) (by omega)).keeps (hkr3.nil l)
                    have hx2 : IsI wr l (V' i) (s.per.getD i []) := (HVAL.out i hlti).keeps (hkr3.nil l)
                    have hcc := fun W (kp : Keeps [] wr W) => cmp_is (IsI.new hx1 kp) (IsI.new hx2 kp) (HSP.out _ (by omega)) (HSP.out _ hlti)
                    generalize hcme : cmpL (s.per.getD (i - 1) []) (s.per.getD i []) = cm at *
                    obtain ⟨B1, d1', ev1, _⟩ := hx1.open
                    obtain ⟨B2, d2', ev2, _⟩ := hx2.open
                    rw [ev1] at hpa1
                    rw [ev2] at hpa2
                    rw [ev1, ev2] at hcc
                    subst epa
                    have hp1 : (1 : Int) ≤ (i : Int) := by omega
                    have hp2 : (0 : Int) ≤ (i : Int) - 1 := by omega
                    have hw3 : IntKind.i64.wrap ((i : Int) - 1) = (i : Int) - 1 := IntWalk.i64_in _ (by omega)
                    have hw2 : ((i : Int) - 1).toNat = i - 1 := by omega
                    have hlk : i - 1 < j := by omega
                    have hp3 : (i : Int) - 1 < (j : Int) := by omega
                    have hp4 : (i : Int) < (j : Int) := by omega
                    have HCC := Lib.hid hcc
                    have HCME := Lib.hid hcme
                    clear hcc hcme
                    clear hkr3 hx1 hx2 ev1 ev2 epb
                    by_cases hcm : 0 ≤ cm
                    · have hd3 : decide ((0 : Int) ≤ cm) = true := decide_eq_true hcm
                      have hz : Z = 4 := E4.out ⟨trivial, HLEN.out.2⟩ HRNG.out (by omega) i hi1 hlti (by rw [HCME.out]; exact hcm)
                      have HZ := Lib.hid hz
                      have HCM := Lib.hid hcm
                      clear hz hcm
                      go_upto_region 20 with fail
                      refine wp_quietk (l0 := []) (by kernel_rfl) (by kernel_rfl) ?_
                      repeat ((with_reducible refine wpQuiet_step (fun K hK => ?_)); go_simp; first
                        | ((with_reducible refine hK _ ?_); clear hK K)
                        | (rw [if_neg (by intro h; cases h)]; (with_reducible refine hK _ ?_); clear hK K)
                        | (apply Exists.intro; refine ⟨fun W hW => ?_, hK _ ?_⟩
                           · first
                               | with_reducible exact Eq.refl _
                               | ((have hq0 := hW.read hr1 (by simp); have hq1 := hW.read hpa1 (by simp); have hq2 := hW.read hpa2 (by simp)); (try go_simp); with_reducible first | done | exact Eq.refl _ | exact ⟨Eq.refl _, Eq.refl _⟩)
                               | ((refine (HCC.out W hW).mono ?_; rintro e w10 ⟨rfl, hk⟩; exact ⟨Eq.refl _, hW.trans (quiet_keeps hk)⟩))
                           clear hK K))
                      with_reducible refine wpQuiet_nil ?_
                      intro w9 hk9
                      have hkk := (HK0.out.trans HKR3.out).trans hk9
                      have HKK := Lib.hid hkk
                      clear hkk
                      clear hk9 hpa1 hpa2 hr1 hw3 hw2 hp2
                      go_wp2_with fail
                      go_ret
                      exact ⟨ret_ni HZ.out, HKK.out⟩
                    · have hd3 : decide ((0 : Int) ≤ cm) = false := decide_eq_false hcm
                      have h5 : ∀ q, 1 ≤ q → q < i + 1 → q < j → cmpL (s.per.getD (q - 1) []) (s.per.getD q []) < 0 := fun q h1 h2 h3 => by
                        by_cases e : q = i
                        · rw [e, HCME.out]; omega
                        · exact HALL4.out q h1 (by omega) h3
                      have H5 := Lib.hid h5
                      have HCM := Lib.hid hcm
                      clear h5 hcm
                      go_upto_region 20 with fail
                      refine wp_quietk (l0 := []) (by kernel_rfl) (by kernel_rfl) ?_
                      repeat ((with_reducible refine wpQuiet_step (fun K hK => ?_)); go_simp; first
                        | ((with_reducible refine hK _ ?_); clear hK K)
                        | (rw [if_neg (by intro h; cases h)]; (with_reducible refine hK _ ?_); clear hK K)
                        | (apply Exists.intro; refine ⟨fun W hW => ?_, hK _ ?_⟩
                           · first
                               | with_reducible exact Eq.refl _
                               | ((have hq0 := hW.read hr1 (by simp); have hq1 := hW.read hpa1 (by simp); have hq2 := hW.read hpa2 (by simp)); (try go_simp); with_reducible first | done | exact Eq.refl _ | exact ⟨Eq.refl _, Eq.refl _⟩)
                               | ((refine (HCC.out W hW).mono ?_; rintro e w10 ⟨rfl, hk⟩; exact ⟨Eq.refl _, hW.trans (quiet_keeps hk)⟩))
                           clear hK K))
                      with_reducible refine wpQuiet_nil ?_
                      intro w9 hk9
                      have hkk := HKR3.out.trans hk9
                      have HKK := Lib.hid hkk
                      clear hkk
                      clear hk9 hpa1 hpa2 hr1 hw3 hw2 hp2
                      go_wp2_with fail
                      go_roundg (j + 1 - i)
                      case measure => omega
                      case rel => exact ⟨i + 1, by omega, by omega, by omega, by go_num, H5.out, HKK.out⟩
                  · have hz : Z = 0 := E0.out ⟨trivial, HLEN.out.2⟩ HRNG.out (by omega) fun q h1 h2 => HALL4.out q h1 (by omega) h2
                    have HZ := Lib.hid hz
                    clear hz
                    clear hkr3
                    go_wp2_with fail
                    go_ret
                    exact ⟨ret_ni HZ.out, HK0.out.trans HKR3.out⟩
  · have d0 : ((nb : Int) != (n : Int)) = true := by
      have : (nb : Int) ≠ (n : Int) := by omega
      simpa using this
    have hz : Z = 3 := e3 fun h => hl0 h.1
    have HZ := Lib.hid hz
    have HK0 := Lib.hid hk0
    have HL0 := Lib.hid hl0
    have E3 := Lib.hid e3
    have E2 := Lib.hid e2
    have E1 := Lib.hid e1
    have E4 := Lib.hid e4
    have E0 := Lib.hid e0
    have HB := Lib.hid hb
    have HCELL := Lib.hid hcell
    have HVAL := Lib.hid hval
    have HS := Lib.hid hs
    have HSP := Lib.hid hsp
    have HNB := Lib.hid hnb
    have HMN := Lib.hid hmn
    clear hz hk0 hl0 e3 e2 e1 e4 e0 hb hcell hval hs hsp hnb hmn
    go_enter Try.func48, Try.ntmps48
    go_wp2_with fail
    go_ret
    exact ⟨ret_ni HZ.out, HK0.out⟩
end Go.Proofs.Ytdhadnnakcdfiaa

namespace Go.Proofs.Ytdhadnnakcdfiaa
set_option linter.unusedVariables false
open Go.RowKit

theorem goodN_err {s : Lin} : GoodN s ↔ (1 ≤ s.base.length ∧ s.base.length ≤ 4) ∧ s.ls.err s.base.length = 0 := by
  constructor
  · intro h
    have h1 := h.lo
    have h2 := h.hi
    exact ⟨⟨by omega, by omega⟩, err_zero.2 h.good⟩
  · rintro ⟨⟨h1, h2⟩, h3⟩
    refine ⟨by omega, by omega, by simp, fun x hx => ?_⟩
    rw [List.mem_singleton.1 hx, Int.toNat_natCast]
    exact err_zero.1 h3
set_option maxHeartbeats 1000000 in
theorem rvalid_is {w : World} {l : List Nat} {u pv : Value} {s : Lin} (h : IsLin w l u pv s) (hs : s.Small) :
    Calls Try.prog 49 #[.agg #[u, pv]] w (BoolP (dec (GoodN s)) w) := by
  unfold BoolP
  have hf := fun W (k : Keeps [] w W) => rfault_is (n := s.base.length) (h.new k) hs hs.b
  unfold IntP at hf
  have hg := goodN_err (s := s)
  have hy : (1 ≤ s.base.length ∧ s.base.length ≤ 4) → s.ls.err s.base.length = 0 → dec (GoodN s) = true := fun h1 h2 => dec_true.2 (hg.2 ⟨h1, h2⟩)
  have hno1 : ¬ (1 ≤ s.base.length ∧ s.base.length ≤ 4) → dec (GoodN s) = false := fun h1 => dec_false.2 fun h2 => h1 (hg.1 h2).1
  have hno2 : s.ls.err s.base.length ≠ 0 → dec (GoodN s) = false := fun h1 => dec_false.2 fun h2 => h1 (hg.1 h2).2
  generalize s.ls.err s.base.length = Z at *
  generalize dec (GoodN s) = R at *
  obtain ⟨A, c, rfl, _⟩ := h.1.open
  have hp := h.2
  obtain ⟨Ap, cp, V, rfl, _⟩ := hp
  generalize hnb : s.base.length = nb at *
  generalize hmn : s.per.length = m at *
  have hk0 : Keeps [] w (w.alloc (.cells #[.slice A nb c, .slice Ap m cp] 29)) := (Keeps.refl _ _).alloc _
  have hf := hf _ hk0
  clear hg
  by_cases h1 : 1 ≤ nb
  · have d1 : decide ((1 : Int) ≤ (nb : Int)) = true := decide_eq_true (by omega)
    by_cases h4 : nb ≤ 4
    · have d4 : decide ((nb : Int) ≤ 4) = true := decide_eq_true (by omega)
      have hy := hy ⟨h1, h4⟩
      by_cases h0 : Z = 0
      · have hd := hy h0
        have d0 : (Z == 0) = true := by simpa using h0
        have HF := Lib.hid hf
        have HNO1 := Lib.hid hno1
        have HNO2 := Lib.hid hno2
        have HD := Lib.hid hd
        have HK0 := Lib.hid hk0
        have HS := Lib.hid hs
        have HNB := Lib.hid hnb
        have HMN := Lib.hid hmn
        have H := Lib.hid h
        have H0 := Lib.hid h0
        clear hf hno1 hno2 hd hk0 hs hnb hmn h h0
        clear hy
        go_enter Try.func49, Try.ntmps49
        go_wp2_with fail
        refine HF.out.mono ?_
        rintro e w1 ⟨rfl, hk1⟩
        have hk2 := HK0.out.trans hk1
        have HK2 := Lib.hid hk2
        clear hk2
        clear hk1
        go_wp2_with fail
        go_ret
        exact ⟨ret_b2 HD.out, HK2.out⟩
      · have hd := hno2 h0
        have d0 : (Z == 0) = false := by simpa using h0
        have HF := Lib.hid hf
        have HNO1 := Lib.hid hno1
        have HNO2 := Lib.hid hno2
        have HD := Lib.hid hd
        have HK0 := Lib.hid hk0
        have HS := Lib.hid hs
        have HNB := Lib.hid hnb
        have HMN := Lib.hid hmn
        have H := Lib.hid h
        have H0 := Lib.hid h0
        clear hf hno1 hno2 hd hk0 hs hnb hmn h h0
        clear hy
        go_enter Try.func49, Try.ntmps49
        go_wp2_with fail
        refine HF.out.mono ?_
        rintro e w1 ⟨rfl, hk1⟩
        have hk2 := HK0.out.trans hk1
        have HK2 := Lib.hid hk2
        clear hk2
        clear hk1
        go_wp2_with fail
        go_ret
        exact ⟨ret_b2 HD.out, HK2.out⟩
    · have d4 : decide ((nb : Int) ≤ 4) = false := decide_eq_false (by omega)
      have hd := hno1 fun h => h4 h.2
      have HF := Lib.hid hf
      have HNO1 := Lib.hid hno1
      have HNO2 := Lib.hid hno2
      have HD := Lib.hid hd
      have HK0 := Lib.hid hk0
      have HS := Lib.hid hs
      have HNB := Lib.hid hnb
      have HMN := Lib.hid hmn
      have H := Lib.hid h
      have HY := Lib.hid hy
      clear hf hno1 hno2 hd hk0 hs hnb hmn h hy
      go_enter Try.func49, Try.ntmps49
      go_wp2_with fail
      go_ret
      exact ⟨ret_b2 HD.out, HK0.out⟩
  · have d1 : decide ((1 : Int) ≤ (nb : Int)) = false := decide_eq_false (by omega)
    have hd := hno1 fun h => h1 h.1
    have HF := Lib.hid hf
    have HNO1 := Lib.hid hno1
    have HNO2 := Lib.hid hno2
    have HD := Lib.hid hd
    have HK0 := Lib.hid hk0
    have HS := Lib.hid hs
    have HNB := Lib.hid hnb
    have HMN := Lib.hid hmn
    have H := Lib.hid h
    have HY := Lib.hid hy
    clear hf hno1 hno2 hd hk0 hs hnb hmn h hy
    go_enter Try.func49, Try.ntmps49
    go_wp2_with fail
    go_ret
    exact ⟨ret_b2 HD.out, HK0.out⟩

set_option maxRecDepth 100000 in
set_option maxHeartbeats 2000000 in
theorem rcheck_is {w : World} {l : List Nat} {n : Int} {v : Value} {ss : List Lin} (h : IsLins w l v ss) (hs : ∀ s ∈ ss, s.Small) (hk : ss.length ≤ 1000000) :
    Calls Try.prog 22 #[.int .i64 n, v] w (CkPost n ss w) := by
  unfold CkPost
  have heq : chkL n ss = if n < 1 ∨ 4 < n then 2 else if 8 < ss.length then 1 else firstErr (fun i => (ss.getD i default).ls.err n.toNat) ss.length := rfl
  generalize chkL n ss = Z at *
  obtain ⟨A, c, rfl, _, _, hc⟩ := h
  generalize hnn : ss.length = m at *
  by_cases hn1 : n < 1
  · have d1 : decide (n < 1) = true := decide_eq_true hn1
    rw [if_pos (.inl hn1)] at heq
    have HEQ := Lib.hid heq
    have HNN := Lib.hid hnn
    have HC := Lib.hid hc
    have HS := Lib.hid hs
    clear heq hnn hc hs
    go_enter Try.func22, Try.ntmps22
    go_wp2_with fail
    go_ret
    exact ⟨ret_ni HEQ.out, Keeps.refl _ _⟩
  have d1 : decide (n < 1) = false := decide_eq_false hn1
  by_cases hn4 : 4 < n
  · have d2 : decide (4 < n) = true := decide_eq_true hn4
    rw [if_pos (.inr hn4)] at heq
    have HEQ := Lib.hid heq
    have HNN := Lib.hid hnn
    have HC := Lib.hid hc
    have HS := Lib.hid hs
    clear heq hnn hc hs
    go_enter Try.func22, Try.ntmps22
    go_wp2_with fail
    go_ret
    exact ⟨ret_ni HEQ.out, Keeps.refl _ _⟩
  have d2 : decide (4 < n) = false := decide_eq_false hn4
  rw [if_neg (by omega)] at heq
  by_cases h8 : 8 < m
  · have d3 : decide ((8 : Int) < (m : Int)) = true := decide_eq_true (by omega)
    have d4 : decide (8 < m) = true := decide_eq_true h8
    rw [if_pos h8] at heq
    have HEQ := Lib.hid heq
    have HNN := Lib.hid hnn
    have HC := Lib.hid hc
    have HS := Lib.hid hs
    clear heq hnn hc hs
    go_enter Try.func22, Try.ntmps22
    go_wp2_with fail
    go_ret
    exact ⟨ret_ni HEQ.out, Keeps.refl _ _⟩
  have d3 : decide ((8 : Int) < (m : Int)) = false := decide_eq_false (by omega)
  have d4 : decide (8 < m) = false := decide_eq_false h8
  rw [if_neg h8] at heq
  obtain ⟨q, rfl⟩ : ∃ q : Nat, n = (q : Int) := ⟨n.toNat, by omega⟩
  rw [Int.toNat_natCast] at heq
  have HEQ := Lib.hid heq
  have HNN := Lib.hid hnn
  have HC := Lib.hid hc
  have HS := Lib.hid hs
  clear heq hnn hc hs
  go_enter Try.func22, Try.ntmps22
  go_wp2_with fail
  go_loopg [5] (m + 1) (fun gh iv wr => ∃ k : Nat, m + 1 ≤ k + gh ∧ k ≤ m ∧ iv = .int .i64 (k : Int) ∧ (∀ i, i < k → (ss.getD i default).ls.err q = 0) ∧ Keeps [] w wr)
  case atStart => exact ⟨0, by omega, by omega, rfl, fun i hi => by omega, Keeps.refl _ _⟩
  case round =>
    obtain ⟨k, hgh, hkm, rfl, hall, hkr⟩ := hrel
    have HALL := Lib.hid hall
    clear hall
    by_cases hlt : k < m
    · obtain ⟨a, ea, hb, hcs⟩ := HC.out (by omega)
      obtain ⟨u, pv, hu, hv, hlin⟩ := hcs k hlt
      have hu2 := hkr.read hu (by simp)
      have hv2 := hkr.read hv (by simp)
      have hlin2 := hlin.new hkr
      have hsm := HS.out _ (getD_mem (d := default) (show k < ss.length by rw [HNN.out]; exact hlt))
      have hcall := rfault_is (n := q) hlin2 hsm (by omega)
      unfold IntP at hcall
      generalize hz0 : (ss.getD k default).ls.err q = z at *
      subst ea
      by_cases h0 : z = 0
      · subst h0
        have h2 : ∀ i, i < k + 1 → (ss.getD i default).ls.err q = 0 := fun i hi => by
          by_cases e : i = k
          · rw [e]; exact hz0
          · exact HALL.out i (by omega)
        have HKR := Lib.hid hkr
        have HCALL := Lib.hid hcall
        have H2 := Lib.hid h2
        have HLIN := Lib.hid hlin
        have HLIN2 := Lib.hid hlin2
        have HCS := Lib.hid hcs
        clear hcall h2 hlin hlin2 hcs
        clear hkr hz0 hu hv
        go_wp2_with fail
        refine HCALL.out.mono ?_
        rintro e w1 ⟨rfl, hk1⟩
        have hk2 := HKR.out.trans hk1
        have HK2 := Lib.hid hk2
        clear hk2
        clear hk1 hu2 hv2
        go_wp2_with fail
        go_roundg (m - k)
        case measure => omega
        case rel => exact ⟨k + 1, by omega, by omega, by go_num, H2.out, HK2.out⟩
      · have hb0 : (z != 0) = true := by simpa using h0
        have hd : Z = z := by
          rw [HEQ.out, firstErr_hit (f := fun i => (ss.getD i default).ls.err q) HALL.out (by rw [hz0]; exact h0) hlt]; exact hz0
        have HKR := Lib.hid hkr
        have HCALL := Lib.hid hcall
        have HD := Lib.hid hd
        have HLIN := Lib.hid hlin
        have HLIN2 := Lib.hid hlin2
        have HCS := Lib.hid hcs
        have H0 := Lib.hid h0
        clear hcall hd hlin hlin2 hcs h0
        clear hkr hz0 hu hv
        go_wp2_with fail
        refine HCALL.out.mono ?_
        rintro e w1 ⟨rfl, hk1⟩
        have hk2 := HKR.out.trans hk1
        have HK2 := Lib.hid hk2
        clear hk2
        clear hk1 hu2 hv2
        go_wp2_with fail
        go_ret
        exact ⟨ret_ni HD.out, HK2.out⟩
    · obtain rfl : k = m := by omega
      have hd : Z = 0 := by rw [HEQ.out]; exact firstErr_zero HALL.out
      have HKR := Lib.hid hkr
      have HD := Lib.hid hd
      clear hd
      clear hkr
      go_wp2_with fail
      go_ret
      exact ⟨ret_ni HD.out, HKR.out⟩

def LesP (n : Nat) (v b : List Int) (l : List Nat) (w : World) (e : Ending) (w' : World) : Prop :=
  Keeps [] w w' ∧ ((e = .returned (.tuple #[.slice none 0 0, .bool false]) ∧ ∃ i, i < n ∧ v.getD i 0 - 1 * b.getD i 0 < 0) ∨ ∃ A c, e = .returned (.tuple #[.slice A n c, .bool true]) ∧ (∀ i, i < n → 0 ≤ v.getD i 0 - 1 * b.getD i 0) ∧ IsI w' l (.slice A n c) (subm v 1 b))
set_option maxRecDepth 100000 in
set_option maxHeartbeats 4000000 in
theorem rless_is {w : World} {l lv lb : List Nat} {vv bv : Value} {v b : List Int} {n : Nat} (hlw : ∀ y ∈ l, y < w.heap.size) (hv : IsI w lv vv v) (hb : IsI w lb bv b) (hvo : VecOk n 64 v) (hbo : VecOk n 16 b) (hn : n ≤ 100) :
    Calls Try.prog 51 #[vv, bv] w (LesP n v b l w) := by
  unfold LesP
  have hvl := hvo.len
  have hbl := hbo.len
  have hvr : ∀ i, i < n → 0 ≤ v.getD i 0 ∧ v.getD i 0 ≤ 64 := fun i hi => getD_rng hvo.rng (by rw [hvl]; exact hi)
  have hbr : ∀ i, i < n → 0 ≤ b.getD i 0 ∧ b.getD i 0 ≤ 16 := fun i hi => getD_rng hbo.rng (by rw [hbl]; exact hi)
  obtain ⟨A, c, rfl, _, _, hca⟩ := hv.open
  obtain ⟨B, d, rfl, _, _, hcb⟩ := hb.open
  rw [hvl] at hca ⊢
  rw [hbl] at hcb ⊢
  have HCA := Lib.hid hca
  have HCB := Lib.hid hcb
  have HVL := Lib.hid hvl
  have HBL := Lib.hid hbl
  have HLW := Lib.hid hlw
  have HVR := Lib.hid hvr
  have HBR := Lib.hid hbr
  clear hca hcb hvl hbl hlw hvr hbr
  clear hvo hbo hv hb
  go_enter Try.func51, Try.ntmps51
  go_wp2_with fail
  go_loopg [6, 7] (n + 1) (fun gh sv kv wr => ∃ (k : Nat) (A' : Option Addr) (c' : Nat) (ys : List Int), n + 1 ≤ k + gh ∧ k ≤ n ∧ kv = .int .i64 (k : Int) ∧ sv = .slice A' k c' ∧ k = ys.length ∧ ys = (subm v 1 b).take k ∧ (∀ i, i < k → 0 ≤ v.getD i 0 - 1 * b.getD i 0) ∧ OwL IsN 0 3 w.heap.size wr l (.slice A' k c') ys ∧ Keeps [] w wr)
  case atStart => exact ⟨0, none, 0, [], by omega, by omega, rfl, rfl, rfl, by simp, fun i hi => by omega, OwL.nil, Keeps.refl _ _⟩
  case round =>
    obtain ⟨k, A', c', ys, hgh, hk, rfl, rfl, hky, hys, hge, hO, hkr⟩ := hrel
    by_cases hlt : k < n
    · obtain ⟨pa, rfl, hpa0⟩ := HCA.out.at_ hlt
      obtain ⟨pb, rfl, hpb0⟩ := HCB.out.at_ hlt
      have hpw : w.cell? (pa.add k) = some (.int .i64 (v.getD k 0)) ∧ w.cell? (pb.add k) = some (.int .i64 (b.getD k 0)) := ⟨hpa0, hpb0⟩
      have hsn : (subm v 1 b).take (k + 1) = (subm v 1 b).take k ++ [v.getD k 0 - b.getD k 0] := by
        have hl : k < (subm v 1 b).length := by rw [subm_len, HVL.out]; exact hlt
        rw [List.take_succ_eq_append_getElem hl]
        congr 2
        have := subm_get v 1 b (i := k) (by rw [HVL.out]; exact hlt)
        rw [List.getD_eq_getElem?_getD, List.getElem?_eq_getElem hl] at this
        simpa using this
      rw [← hys] at hsn
      have hx1 := HVR.out k hlt
      have hy1 := HBR.out k hlt
      have hpa := hkr.read hpw.1 (by simp)
      have hpb := hkr.read hpw.2 (by simp)
      have hno := fun h => (⟨k, hlt, h⟩ : ∃ i, i < n ∧ v.getD i 0 - 1 * b.getD i 0 < 0)
      have hyes : 0 ≤ v.getD k 0 - 1 * b.getD k 0 → ∀ i, i < k + 1 → 0 ≤ v.getD i 0 - 1 * b.getD i 0 := fun h i hi => by
        by_cases e : i = k
        · rw [e]; exact h
        · exact hge i (by omega)
      have HPW := Lib.hid hpw
      clear hpa0 hpb0 hpw hge
      generalize v.getD k 0 = x at *
      generalize b.getD k 0 = y at *
      have hdk : (k : Int) < (n : Int) := by omega
      by_cases hxy : x < y
      · have hd : decide (x < y) = true := decide_eq_true hxy
        have hbad := hno (by omega)
        have HKR := Lib.hid hkr
        have HBAD := Lib.hid hbad
        have HSN := Lib.hid hsn
        have HKY := Lib.hid hky
        have HYS := Lib.hid hys
        have HO := Lib.hid hO
        clear hbad hsn hky hys hO
        clear hkr hno hyes
        go_wp2_with fail
        go_quiet (fail)
        go_wp2_with fail
        go_ret2
        exact ⟨HKR.out.drewN _, .inl ⟨rfl, HBAD.out⟩⟩
      · have hd : decide (x < y) = false := decide_eq_false hxy
        have hge2 := hyes (by omega)
        have hw : IntKind.i64.wrap (x - y) = x - y := IntWalk.i64_in _ (by omega)
        have HKR := Lib.hid hkr
        have HSN := Lib.hid hsn
        have HKY := Lib.hid hky
        have HYS := Lib.hid hys
        have HO := Lib.hid hO
        have HGE2 := Lib.hid hge2
        clear hsn hky hys hO hge2
        clear hkr hno hyes
        go_wp2_with fail
        go_quiet (fail)
        have hkq : Keeps [] wr (wr.drewN nq) := (Keeps.refl _ _).drewN _
        have hpa := hkq.read hpa (by simp)
        have hpb := hkq.read hpb (by simp)
        have hO2 := HO.out.new hkq
        have hkw := HKR.out.trans hkq
        generalize wr.drewN nq = wq at *
        have hO3 : OwL IsN 0 3 w.heap.size wq.drew l (.slice A' k c') ys := hO2.new ((Keeps.refl _ _).drew)
        have hk3 : Keeps [] w wq.drew := hkw.drew
        have hz := hk3.size
        have hpa1 := ((Keeps.refl [] wq).drew).read hpa (by simp)
        have hpb1 := ((Keeps.refl [] wq).drew).read hpb (by simp)
        have hpa2 := (((Keeps.refl [] wq).alloc (.cells #[.int .i64 (x - y)] 3)).drew).read hpa (by simp)
        have hpb2 := (((Keeps.refl [] wq).alloc (.cells #[.int .i64 (x - y)] 3)).drew).read hpb (by simp)
        have HO3 := Lib.hid hO3
        have HK3 := Lib.hid hk3
        clear hO3 hk3
        clear hpa hpb hO2 hkw hkq
        go_upto_region 7 with fail
        go_region_held3 (fun W => W.cell? (pa.add k) = some (.int .i64 x) ∧ W.cell? (pb.add k) = some (.int .i64 y)) (first | exact ⟨hpa1, hpb1⟩ | exact ⟨hpa2, hpb2⟩ | exact f4 | go_keep) (first
          | (refine step_push sl_int rfl (.tmp 23) (.tmp 33) rfl (w := wq.drew) (v := .slice A' k c') (u := .int .i64 (x - y)) (y := x - y) (by first | (simp [Act.eval]; done) | (simp only [Act.eval, Act.put]; simp; done) | simp [Act.eval, Act.put]) (by first | (simp [Act.eval]; done) | (simp only [Act.eval, Act.put]; simp; done) | simp [Act.eval, Act.put]) HO3.out rfl (m := k + 1) (by rw [← HKY.out]) (by omega) hz (w0 := w) (l0 := []) (Nat.le_refl _) HK3.out ?_; intro V' c'' w4 hown hg4 hk4; have f4 : w4.cell? (pa.add k) = some (.int .i64 x) ∧ w4.cell? (pb.add k) = some (.int .i64 y) := ⟨hk4.read HPW.out.1 (by simp), hk4.read HPW.out.2 (by simp)⟩))
        all_goals
         have HOWN := Lib.hid hown
         have HK4 := Lib.hid hk4
         clear hown hk4
         clear f4 hg4 hpa1 hpb1 hpa2 hpb2
         go_wp2_with fail
         go_roundg (n - k)
         case measure => omega
         case rel => exact ⟨k + 1, V', c'', ys ++ [x - y], by omega, by omega, by go_num, rfl, by simp [← HKY.out], HSN.out.symm, HGE2.out, HOWN.out, HK4.out⟩
    · obtain rfl : k = n := by omega
      have ht : (subm v 1 b).take k = subm v 1 b := List.take_of_length_le (by rw [subm_len, HVL.out]; exact Nat.le_refl _)
      rw [ht] at hys
      have hI : IsI wr l (.slice A' k c') ys := hO.isL HLW.out
      rw [hys] at hI
      have HKR := Lib.hid hkr
      have HI := Lib.hid hI
      have HYS := Lib.hid hys
      have HKY := Lib.hid hky
      have HGE := Lib.hid hge
      clear hI hys hky hge
      clear hO hkr ht
      go_wp2_with fail
      go_ret2
      exact ⟨HKR.out, .inr ⟨A', c', rfl, HGE.out, HI.out⟩⟩
end Go.Proofs.Ytdhadnnakcdfiaa

namespace Go.Proofs.Ytdhadnnakcdfiaa
set_option linter.unusedVariables false
open Go.RowKit

theorem vec_num {n : Nat} {v : List Int} {m : Int} (h : VecOk n m v) : numB v m = true := numB_true.2 h.rng
set_option maxRecDepth 100000 in
set_option maxHeartbeats 8000000 in
theorem rtimes_is (n : Nat) (hn : n ≤ 100) (P : List (List Int)) : ∀ (w : World) (l : List Nat) (hl : ∀ y ∈ l, y < w.heap.size) (v : List Int) (pv vv : Value), IsII w [] pv P → IsI w [] vv v → (∀ p ∈ P, PerOk n p) → VecOk n 64 v → P.length ≤ 100 →
    Calls Try.prog 52 #[pv, vv] w (SolvePost P v l w) := by
  induction P with
  | nil =>
    intro w l hl v pv vv hP hv hp hok hm
    unfold SolvePost
    have hvn : v.length ≤ 100 := by rw [hok.len]; exact hn
    have hc1 := rnumbers_is 64 hv (by omega)
    have hc2 := fun W (k : Keeps [] w W) => rzero_is (hv.new k) (by omega)
    unfold BoolP at hc1 hc2
    rw [vec_num hok] at hc1
    obtain ⟨Ap, cp, V, rfl, _⟩ := hP
    obtain ⟨A, c, rfl, _⟩ := hv.open
    have hz1 : numB v 0 = true → Least [] v [] := fun h => least_nil fun i hi => by
      have := numB_true.1 h _ (getD_mem (d := 0) hi); omega
    have hz0 : numB v 0 = false → ∀ t, ¬ Makes [] v t := fun h t ht => numB_false.1 h fun x hx => by
      obtain ⟨i, hi, e⟩ := mem_getD (d := 0) hx
      have := (makes_nil.1 ht).2 i hi
      omega
    generalize numB v 0 = r at *
    generalize hvl : v.length = vl at *
    have HC1 := Lib.hid hc1
    have HC2 := Lib.hid hc2
    have HZ1 := Lib.hid hz1
    have HZ0 := Lib.hid hz0
    have HVL := Lib.hid hvl
    have HOK := Lib.hid hok
    have HV := Lib.hid hv
    clear hc1 hc2 hz1 hz0 hvl hok hv
    go_enter Try.func52, Try.ntmps52
    go_wp2_with fail
    refine HC1.out.mono ?_
    rintro e w1 ⟨rfl, hk1⟩
    have HK1 := Lib.hid hk1
    clear hk1
    go_wp2_with fail
    refine (HC2.out w1 HK1.out).mono ?_
    rintro e w2 ⟨rfl, hk2⟩
    have hk3 := HK1.out.trans hk2
    have HK3 := Lib.hid hk3
    clear hk3
    clear hk2
    cases r with
    | true =>
      go_wp2_with fail
      go_ret2
      exact ⟨HK3.out, .inr ⟨none, 0, 0, [], rfl, IsI.nil, HZ1.out (by first | rfl | trivial)⟩⟩
    | false =>
      go_wp2_with fail
      go_ret2
      exact ⟨HK3.out, .inl ⟨rfl, HZ0.out (by first | rfl | trivial)⟩⟩
  | cons p P ih0 =>
    intro w l hl v pv vv hP hv hp hok hm
    unfold SolvePost
    have ih := fun w' l' hl' v' pv' vv' h1 h2 h3 => ih0 w' l' hl' v' pv' vv' h1 h2 (fun q hq => hp q (List.mem_cons_of_mem _ hq)) h3 (by simp at hm; omega)
    unfold SolvePost at ih
    clear ih0
    have hp0 := hp p (List.mem_cons_self ..)
    have hn1 : 1 ≤ n := by obtain ⟨i, hi, _⟩ := hp0.nz; omega
    have hlen := hok.len
    have hpl := hp0.len
    have hpn : ∀ x ∈ p, 0 ≤ x := fun x hx => (hp0.rng x hx).1
    have hPn : ∀ q ∈ P, ∀ x ∈ q, 0 ≤ x := fun q hq x hx => ((hp q (List.mem_cons_of_mem _ hq)).rng x hx).1
    have hvb : ∀ i, i < n → 0 ≤ v.getD i 0 ∧ v.getD i 0 ≤ 64 := fun i hi => getD_rng hok.rng (by rw [hlen]; exact hi)
    have hpb : ∀ i, i < n → 0 ≤ p.getD i 0 ∧ p.getD i 0 ≤ 16 := fun i hi => getD_rng hp0.rng (by rw [hpl]; exact hi)
    have hc1 := rnumbers_is 64 hv (by omega)
    have hcp := fun W (k : Keeps [] w W) => copy_is (l := []) (hv.new k) (by omega)
    unfold BoolP at hc1
    unfold CloPost at hcp
    rw [vec_num hok] at hc1
    have hP' := hP
    obtain ⟨Ap, cp, V, rfl, _⟩ := hP'
    obtain ⟨A, c, rfl, _⟩ := hv.open
    rw [hlen] at hc1 hcp ⊢
    have hm1 : 0 < (p :: P).length := by simp
    generalize hml : (p :: P).length = m at *
    have ht : ((m : Int) == 0) = false := by simp; omega
    have hmi : (0 : Int) < (m : Int) := by omega
    have hmi0 : (0 : Int) ≤ (m : Int) := by omega
    have hPx := hP
    clear hP
    have HC1 := Lib.hid hc1
    have HCP := Lib.hid hcp
    have HOK := Lib.hid hok
    have HP0 := Lib.hid hp0
    have HP := Lib.hid hp
    have HML := Lib.hid hml
    have IH := Lib.hid ih
    have HL := Lib.hid hl
    have HPN := Lib.hid hpn
    have HLEN := Lib.hid hlen
    have HVB := Lib.hid hvb
    have HPB := Lib.hid hpb
    have HV := Lib.hid hv
    have HPL := Lib.hid hpl
    clear hc1 hcp hok hp0 hp hml ih hl hpn hlen hvb hpb hv hpl
    have HPX := Lib.hid hPx
    clear hPx
    have HPN1 := Lib.hid hPn
    clear hPn
    go_enter Try.func52, Try.ntmps52
    go_wp2_with fail
    refine HC1.out.mono ?_
    rintro e w1 ⟨rfl, hk1⟩
    have hcp := HCP.out w1 hk1
    have hP1 : IsII w1 [] (.slice Ap m cp) (p :: P) := HPX.out.new hk1
    have HK1 := Lib.hid hk1
    have HCP := Lib.hid hcp
    have HP1 := Lib.hid hP1
    clear hk1 hcp hP1
    go_wp2_with fail
    refine HCP.out.mono ?_
    rintro e w2 ⟨A6, c6, rfl, hO6, hk2⟩
    have hOc' := hO6.own (by rw [HLEN.out]; omega)
    rw [HLEN.out] at hOc'
    obtain ⟨g2, cg, e2, hcg, hg2, hg3, hO7⟩ := hOc'
    obtain ⟨rfl, rfl⟩ : A6 = some ⟨g2, 0, none⟩ ∧ c6 = cg := by injection e2 with e1 _ e3; exact ⟨e1, e3⟩
    have hk3 := HK1.out.trans hk2
    have hz1 := HK1.out.size
    have hL2 : IsII w2 [g2] (.slice Ap m cp) (p :: P) := by
      have h1 : IsII w1 [g2] (.slice Ap m cp) (p :: P) := Rok.weak HP1.out (fun y hy => .inr (by rw [List.mem_singleton.1 hy]; exact hg2))
      exact h1.new hk2
    obtain ⟨A1, hs1, hs2⟩ := slice_from sl_rowsi (show IsL IsI [] w2 [g2] (.slice Ap m cp) (p :: P) from hL2) 1 (by omega)
    have hs1' : ∀ (W : World), (Instr.slice 27 (.slice Ap m cp) (some (.int .i64 1)) none none).run Try.prog W = .ok (.slice A1 (m - 1) (cp - 1)) W := fun W => hs1 W
    simp only [List.drop_succ_cons, List.drop_zero] at hs2
    obtain ⟨A9, c9, V9, hv9, _, _, hc9, hr9⟩ := hL2
    injection hv9 with e91 e92 e93
    subst e91; subst e93
    rw [HML.out] at hc9 hr9
    obtain ⟨pa, epa, hpa⟩ := hc9.at0 hm1
    have hrow : IsI w2 [g2] (V9 0) p := hr9 0 hm1
    obtain ⟨Bp, dp, evp, _, _, hrp⟩ := hrow.open
    rw [evp] at hpa
    rw [HPL.out] at hpa hrp
    have hpb2 : pa.block ∉ [g2] := by
      obtain ⟨pa', e', hb', _⟩ := hc9 hm1
      rw [epa] at e'
      injection e' with e'
      subst e'
      exact hb'
    subst epa
    have hge0 : ∀ x : Nat, x < 0 → ∀ i, i < n → 0 ≤ v.getD i 0 - (x : Int) * p.getD i 0 := fun x hx => by omega
    have HK3 := Lib.hid hk3
    have HO7 := Lib.hid hO7
    have HS2 := Lib.hid hs2
    have HRP := Lib.hid hrp
    have HS1 := Lib.hid hs1
    clear hk3 hO7 hs2 hrp hs1
    have HPA := Lib.hid hpa
    clear hO6 hk2 e2 hc9 hr9 hrow evp e92 hpa
    go_wp2_with fail
    go_loopg [7] 70 (fun gh nv wr => ∃ k : Nat, 70 ≤ k + gh ∧ k ≤ 65 ∧ nv = .int .i64 (k : Int) ∧ (∀ x : Nat, x < k → ∀ t, ¬ Makes P (subm v x p) t) ∧ (∀ x : Nat, x < k → ∀ i, i < n → 0 ≤ v.getD i 0 - (x : Int) * p.getD i 0) ∧ Own wr g2 n (fun i => .int .i64 (v.getD i 0 - (k : Int) * p.getD i 0)) ∧ Keeps [g2] w2 wr)
    case atStart => exact ⟨0, by omega, by omega, rfl, fun x hx => by omega, fun x hx => by omega, HO7.out.congr fun i hi => by simp, Keeps.refl _ _⟩
    case round =>
      obtain ⟨k, hgh, hk, rfl, hno, hgx, hOr, hkr⟩ := hrel
      have hrest : IsI wr [] (.slice (some ⟨g2, 0, none⟩) n c6) (subm v k p) := Own.isI hOr (by simp) hcg (by rw [subm_len, HLEN.out]) (fun i hi => by rw [subm_get _ _ _ (by rw [HLEN.out]; exact hi)])
      have hc3 := rnumbers_is 64 hrest (by rw [subm_len, HLEN.out]; omega)
      unfold BoolP at hc3
      have hup : ∀ i, i < n → v.getD i 0 - (k : Int) * p.getD i 0 ≤ 64 := fun i hi => by
        have h1 := HVB.out i hi
        have h2 := HPB.out i hi
        have h3 : (0 : Int) ≤ (k : Int) * p.getD i 0 := Int.mul_nonneg (by omega) h2.1
        omega
      cases hq : numB (subm v k p) 64 with
      | false =>
        rw [hq] at hc3
        have hbad : ∃ i, i < n ∧ v.getD i 0 - (k : Int) * p.getD i 0 < 0 := Classical.byContradiction fun hh => by
          refine numB_false.1 hq fun x hx => ?_
          obtain ⟨i, hi, rfl⟩ := mem_getD (d := 0) hx
          rw [subm_len, HLEN.out] at hi
          rw [subm_get _ _ _ (by rw [HLEN.out]; exact hi)]
          exact ⟨Int.not_lt.1 fun h => hh ⟨i, hi, h⟩, hup i hi⟩
        obtain ⟨i, hi, hneg⟩ := hbad
        have hnone := none_cons HPN1.out HPN.out hno (i := i) (by rw [HLEN.out]; exact hi) hneg
        have hkk : Keeps [] w wr := HK3.out.step hkr (fun y hy => .inr (by rw [List.mem_singleton.1 hy]; omega))
        have HC3 := Lib.hid hc3
        have HNONE := Lib.hid hnone
        have HKK := Lib.hid hkk
        clear hc3 hnone hkk
        clear hno hgx hOr hrest hup hkr hneg hq
        go_wp2_with fail
        refine HC3.out.mono ?_
        rintro e w5 ⟨rfl, hk5⟩
        have hk6 := HKK.out.trans hk5
        have HK6 := Lib.hid hk6
        clear hk6
        clear hk5
        go_wp2_with fail
        go_ret2
        exact ⟨HK6.out, .inl ⟨rfl, HNONE.out⟩⟩
      | true =>
        rw [hq] at hc3
        have hge : ∀ i, i < n → 0 ≤ v.getD i 0 - (k : Int) * p.getD i 0 := fun i hi => by
          have := (numB_true.1 hq _ (getD_mem (d := 0) (show i < (subm v k p).length by rw [subm_len, HLEN.out]; exact hi))).1
          rwa [subm_get _ _ _ (by rw [HLEN.out]; exact hi)] at this
        have hk64 := rounds_le HOK.out HP0.out hge
        have hokr := subm_ok HOK.out HP0.out hge
        have hgx2 : ∀ x : Nat, x < k + 1 → ∀ i, i < n → 0 ≤ v.getD i 0 - (x : Int) * p.getD i 0 := fun x hx => by
          by_cases e : x = k
          · rw [e]; exact hge
          · exact hgx x (by omega)
        have hzr := hkr.size
        have hlw : ∀ y ∈ l, y < wr.heap.size := fun y hy => by have := HL.out y hy; have := HK3.out.size; omega
        have htl := fun W (kp : Keeps [] wr W) => IH.out W l (fun y hy => Nat.lt_of_lt_of_le (hlw y hy) kp.size) (subm v k p) (.slice A1 (m - 1) (cp - 1)) (.slice (some ⟨g2, 0, none⟩) n c6) (by
          have h1 : IsII wr [g2] (.slice A1 (m - 1) (cp - 1)) P := Rok.keeps (R := IsII) HS2.out hkr
          have h2 : IsII wr [] (.slice A1 (m - 1) (cp - 1)) P := Rok.weak h1 (by simp)
          exact h2.new kp) (hrest.new kp) hokr
        have HKR := Lib.hid hkr
        have HC3 := Lib.hid hc3
        have HTL := Lib.hid htl
        have HNO := Lib.hid hno
        have HGE := Lib.hid hge
        have HGX2 := Lib.hid hgx2
        have HOR := Lib.hid hOr
        have HOKR := Lib.hid hokr
        have HLW := Lib.hid hlw
        clear hc3 htl hno hge hgx2 hOr hokr hlw
        clear hrest hup hq hgx hkr
        go_wp2_with fail
        refine HC3.out.mono ?_
        rintro e w5 ⟨rfl, hk5⟩
        have hcall := HTL.out w5 hk5
        have hO5 := (HOR.out.keep hk5 (by simp))
        have hk6 : Keeps [g2] w2 w5 := HKR.out.trans (hk5.nil _)
        have HK6 := Lib.hid hk6
        have HCALL := Lib.hid hcall
        have HO5 := Lib.hid hO5
        clear hk6 hcall hO5
        clear hk5
        go_wp2_with fail
        refine HCALL.out.mono ?_
        rintro e w6 ⟨hk7, h⟩
        have hO6 := (HO5.out.keep hk7 (by simp))
        have hk8 : Keeps [g2] w2 w6 := HK6.out.trans (hk7.nil _)
        rcases h with ⟨rfl, hnone⟩ | ⟨B, nb, cb, ks, rfl, hks, hleast⟩
        · have hno2 : ∀ x : Nat, x < k + 1 → ∀ t, ¬ Makes P (subm v x p) t := fun x hx t => by
            by_cases e : x = k
            · subst e; exact hnone t
            · exact HNO.out x (by omega) t
          have HK8 := Lib.hid hk8
          have HO6 := Lib.hid hO6
          have HNO2 := Lib.hid hno2
          clear hk8 hO6 hno2
          clear hk7 hnone
          go_wp2_with fail
          go_loopg [10] (n + 1) (fun gh iv wr => ∃ i : Nat, n + 1 ≤ i + gh ∧ i ≤ n ∧ iv = .int .i64 (i : Int) ∧ Own wr g2 n (fun q => .int .i64 (if q < i then v.getD q 0 - ((k + 1 : Nat) : Int) * p.getD q 0 else v.getD q 0 - (k : Int) * p.getD q 0)) ∧ Keeps [g2] w2 wr)
          case atStart => exact ⟨0, by omega, by omega, rfl, HO6.out.congr fun q hq => by simp, HK8.out⟩
          case round =>
            obtain ⟨i, hgh2, hi, rfl, hOi, hki⟩ := hrel
            by_cases hlti : i < n
            · have hpa2 := hki.read HPA.out hpb2
              obtain ⟨pp, epp, hpp0⟩ := (RdL.keeps HRP.out hki).at_ hlti
              have hpp : wr.cell? (pp.add i) = some (.int .i64 (p.getD i 0)) := hpp0
              have ho1 : wr.cell? ⟨g2, i, none⟩ = some (.int .i64 (v.getD i 0 - (k : Int) * p.getD i 0)) := by have := (hOi i hlti).1; simpa using this
              have ho2 : wr.frozen? ⟨g2, i, none⟩ = false := (hOi i hlti).2
              have hr1 := HGE.out i hlti
              have hr2 := HPB.out i hlti
              have hr3 := HVB.out i hlti
              have hnx : v.getD i 0 - ((k + 1 : Nat) : Int) * p.getD i 0 = (v.getD i 0 - (k : Int) * p.getD i 0) - p.getD i 0 := by
                rw [Int.natCast_add, Int.add_mul]; simp only [Int.natCast_one, Int.one_mul]; omega
              have hup : v.getD i 0 - (k : Int) * p.getD i 0 ≤ 64 := by
                have h3 : (0 : Int) ≤ (k : Int) * p.getD i 0 := Int.mul_nonneg (by omega) hr2.1
                omega
              subst epp
              have HNX := Lib.hid hnx
              have HXE : Hid (∀ q, q = i → v.getD q 0 - (k : Int) * p.getD q 0 = v.getD i 0 - (k : Int) * p.getD i 0) := fun q e => by rw [e]
              generalize hxe : v.getD i 0 - (k : Int) * p.getD i 0 = xx at *
              generalize hye : p.getD i 0 = yy at *
              have hw2 : IntKind.i64.wrap (xx - yy) = xx - yy := IntWalk.i64_in _ (by omega)
              have hkin : Keeps [g2] w2 wr := hki
              have HXE := Lib.hid hxe
              have HYE := Lib.hid hye
              have HOI := Lib.hid hOi
              have HKIN := Lib.hid hkin
              clear hxe hye hOi hkin
              clear hki hpp0 hr3 hnx
              go_wp2_with fail
              go_still_tail 12, (by kernel_rfl)
              change wpList _ _ _ _ _ wr.drew
              go_wp2_with fail
              go_roundg (n - i)
              case measure => omega
              case rel =>
                refine ⟨i + 1, by omega, by omega, by go_num, ?_, HKIN.out.drew.setCell (by simp) _⟩
                refine ((HOI.out.drew).updInt hlti (xx - yy)).congr fun q hq => ?_
                show Value.int .i64 _ = Value.int .i64 _
                congr 1
                by_cases e : q = i
                · subst e; rw [upd_same, if_pos (by omega)]; rw [HYE.out]; exact HNX.out.symm
                · rw [upd_ne _ _ e]
                  by_cases e2 : q < i
                  · rw [if_pos e2, if_pos (by omega)]
                  · rw [if_neg e2, if_neg (by omega)]
            · obtain rfl : i = n := by omega
              have hOe : Own wr g2 i (fun q => .int .i64 (v.getD q 0 - ((k + 1 : Nat) : Int) * p.getD q 0)) := hOi.congr fun q hq => by rw [if_pos hq]
              have HKI := Lib.hid hki
              have HOE := Lib.hid hOe
              clear hOe
              clear hOi hki
              go_wp2_with fail
              go_roundg (69 - k)
              case measure => omega
              case rel => exact ⟨k + 1, by omega, by omega, by go_num, HNO2.out, HGX2.out, HOE.out, HKI.out⟩
        · have hkk : Keeps [] w w6 := HK3.out.step hk8 (fun y hy => .inr (by rw [List.mem_singleton.1 hy]; omega))
          have hsz2 := hkk.size
          have hown : OwL IsN 0 3 w6.heap.size (w6.alloc (.cells #[.int .i64 (k : Int)] 3)) l (.slice (some ⟨w6.heap.size, 0, none⟩) 1 1) [(k : Int)] := OwL.made1 (R := IsN) rfl
          have hal : Keeps [] w6 (w6.alloc (.cells #[.int .i64 (k : Int)] 3)) := (Keeps.refl _ _).alloc _
          have hks' : IsL IsN 0 (w6.alloc (.cells #[.int .i64 (k : Int)] 3)) ([w6.heap.size] ++ l) (.slice B nb cb) ks := by
            have h1 : IsI w6 (w6.heap.size :: l) (.slice B nb cb) ks := hks.weak fun y hy => by
              rcases List.mem_cons.1 hy with e | e
              · exact .inr (by omega)
              · exact .inl e
            exact h1.new hal
          have hkl : ks.length ≤ 100 := by
            have := hleast.1.len
            have h2 : (p :: P).length = m := HML.out
            simp at h2; omega
          have hl3 : ∀ y ∈ l, y < w6.heap.size := fun y hy => Nat.lt_of_lt_of_le (HL.out y hy) hsz2
          have hle : Least (p :: P) v ((k : Int) :: ks) := least_cons HNO.out hleast
          have hk3z := hkk.trans hal
          have hnbk : nb = ks.length := isL_n hks
          have HOWN := Lib.hid hown
          have HAL := Lib.hid hal
          have HKS' := Lib.hid hks'
          have HK3Z := Lib.hid hk3z
          have HLE := Lib.hid hle
          have HL3 := Lib.hid hl3
          have HNBK := Lib.hid hnbk
          have HKK := Lib.hid hkk
          clear hown hal hks' hk3z hle hl3 hnbk hkk
          clear hk7 hk8 hO6 hks hleast
          go_wp2_with (at_builtin; refine wpList_join (R := IsN) (d := 0) (v := .slice (some ⟨w6.heap.size, 0, none⟩) 1 1) (u := .slice B nb cb) (l := l) sl_int rfl _ _ rfl (by rfl) (by rfl) HOWN.out HKS'.out (m := 1 + nb) (by rw [HNBK.out]; rfl) (by rw [HNBK.out]; omega) (by simp) (w0 := w) (l0 := []) (by omega) HK3Z.out ?_; intro V' c' w9 hown3 hk9 hK4)
          have hI9 := hown3.isL (fun y hy => HL3.out y hy)
          have HI9 := Lib.hid hI9
          have HK4 := Lib.hid hK4
          clear hI9 hK4
          clear hown3 hk9
          go_ret2
          exact ⟨HK4.out, .inr ⟨V', _, c', _, rfl, HI9.out, HLE.out⟩⟩
end Go.Proofs.Ytdhadnnakcdfiaa

namespace Go.Proofs.Ytdhadnnakcdfiaa
set_option linter.unusedVariables false
open Go.RowKit

set_option maxRecDepth 100000 in
set_option maxHeartbeats 4000000 in
theorem rTimes_is {w : World} {l : List Nat} {u pv vv : Value} {s : Lin} {v : List Int} (hl : ∀ y ∈ l, y < w.heap.size) (h : IsLin w l u pv s) (hs : s.Small) (hv : IsI w l vv v) (hvn : v.length ≤ 1000000) :
    Calls Try.prog 23 #[.agg #[u, pv], vv] w (TimesPost s v l w) := by
  unfold TimesPost
  have hva := fun W (k : Keeps [] w W) => rvalid_is (h.new k) hs
  have hnu := fun W (k : Keeps [] w W) => rnumbers_is 64 (hv.new k) hvn
  unfold BoolP at hva hnu
  have hgood : dec (GoodN s) = true → GoodN s := dec_true.1
  have hbad : dec (GoodN s) = false → ¬ GoodN s := dec_false.1
  have hnum : numB v 64 = true → ∀ x ∈ v, 0 ≤ x ∧ x ≤ 64 := numB_true.1
  have hnub : numB v 64 = false → ¬ ∀ x ∈ v, 0 ≤ x ∧ x ≤ 64 := numB_false.1
  have hpre : TPre s v ↔ GoodN s ∧ v.length = s.base.length ∧ ∀ x ∈ v, 0 ≤ x ∧ x ≤ 64 := ⟨fun h => ⟨h.1, h.2.len, h.2.rng⟩, fun h => ⟨h.1, h.2.1, h.2.2⟩⟩
  obtain ⟨A, c, rfl, _⟩ := h.1.open
  have hp := h.2
  obtain ⟨Ap, cp, V, rfl, _⟩ := hp
  generalize hnb : s.base.length = nb at *
  generalize hmn : s.per.length = m at *
  have hk0 : Keeps [] w (w.alloc (.cells #[.slice A nb c, .slice Ap m cp] 29)) := (Keeps.refl _ _).alloc _
  have hs0 := World.cell?_alloc_new w #[.slice A nb c, .slice Ap m cp] 29 0
  have hs1 := World.cell?_alloc_new w #[.slice A nb c, .slice Ap m cp] 29 1
  have hlin := h.new hk0
  obtain ⟨B, d, rfl, _⟩ := hv.open
  generalize hvl : v.length = vl at *
  generalize dec (GoodN s) = G at *
  generalize numB v 64 = Q at *
  have hva := hva _ hk0
  cases G with
  | false =>
    have hnone : TPre s v → ∀ t, ¬ In s v t := fun h => absurd (hpre.1 h).1 (hbad rfl)
    have HVA := Lib.hid hva
    have HNONE := Lib.hid hnone
    have HK0 := Lib.hid hk0
    have HV := Lib.hid hv
    have H := Lib.hid h
    have HS := Lib.hid hs
    have HL := Lib.hid hl
    have HNB := Lib.hid hnb
    have HMN := Lib.hid hmn
    have HVL := Lib.hid hvl
    have HLIN := Lib.hid hlin
    have HNU := Lib.hid hnu
    have HGOOD := Lib.hid hgood
    have HBAD := Lib.hid hbad
    have HNUM := Lib.hid hnum
    have HNUB := Lib.hid hnub
    have HPRE := Lib.hid hpre
    clear hva hnone hk0 hv h hs hl hnb hmn hvl hlin hnu hgood hbad hnum hnub hpre
    go_enter Try.func23, Try.ntmps23
    go_wp2_with fail
    refine HVA.out.mono ?_
    rintro e w1 ⟨rfl, hk1⟩
    have hk2 := HK0.out.trans hk1
    have HK2 := Lib.hid hk2
    clear hk2
    clear hk1
    go_wp2_with fail
    go_ret2
    exact ⟨HK2.out, .inl ⟨rfl, HNONE.out⟩⟩
  | true =>
    have hg := hgood rfl
    by_cases hlv : vl = nb
    · subst hlv
      have d0 : ((vl : Int) != (vl : Int)) = false := by simp
      cases Q with
      | false =>
        have hnone : TPre s v → ∀ t, ¬ In s v t := fun h => absurd (hpre.1 h).2.2 (hnub rfl)
        have HVA := Lib.hid hva
        have HNONE := Lib.hid hnone
        have HK0 := Lib.hid hk0
        have HV := Lib.hid hv
        have H := Lib.hid h
        have HS := Lib.hid hs
        have HL := Lib.hid hl
        have HNB := Lib.hid hnb
        have HMN := Lib.hid hmn
        have HVL := Lib.hid hvl
        have HLIN := Lib.hid hlin
        have HNU := Lib.hid hnu
        have HGOOD := Lib.hid hgood
        have HBAD := Lib.hid hbad
        have HNUM := Lib.hid hnum
        have HNUB := Lib.hid hnub
        have HPRE := Lib.hid hpre
        have HG := Lib.hid hg
        clear hva hnone hk0 hv h hs hl hnb hmn hvl hlin hnu hgood hbad hnum hnub hpre hg
        go_enter Try.func23, Try.ntmps23
        go_wp2_with fail
        refine HVA.out.mono ?_
        rintro e w1 ⟨rfl, hk1⟩
        have hk2 := HK0.out.trans hk1
        have hnu := HNU.out w1 hk2
        have hs0 := hk1.read hs0 (by simp)
        have HK2 := Lib.hid hk2
        clear hk2
        have HNU2x := Lib.hid hnu
        clear hnu
        clear hk1
        go_wp2_with fail
        refine HNU2x.out.mono ?_
        rintro e w2 ⟨rfl, hk3⟩
        have hk4 := HK2.out.trans hk3
        have HK4 := Lib.hid hk4
        clear hk4
        clear hk3 hs0
        go_wp2_with fail
        go_ret2
        exact ⟨HK4.out, .inl ⟨rfl, HNONE.out⟩⟩
      | true =>
        have hpr : TPre s v := hpre.2 ⟨hg, rfl, hnum rfl⟩
        have hgd := hg.good
        have hdm := hg.dim
        have hvo := hpr.2
        rw [hnb] at hvo hgd hdm
        have hle := fun W (k : Keeps [] w W) => rless_is (l := []) (by simp) (hv.new k) (h.1.new k) hvo hgd.base (by omega)
        have hti := fun W (k : Keeps [] w W) rv (hr : IsI W [] rv (subm v 1 s.base)) (hge : ∀ i, i < vl → 0 ≤ v.getD i 0 - 1 * s.base.getD i 0) => rtimes_is vl (by omega) s.per W l (fun y hy => Nat.lt_of_lt_of_le (hl y hy) k.size) (subm v 1 s.base) (.slice Ap m cp) rv ((Rok.weak h.2 (by simp) : IsII w [] (.slice Ap m cp) s.per).new k) hr (fun p hp => hgd.per p hp) (sub1_ok hvo hgd.base hge) (by have := hgd.few; omega)
        have hnb2 := fun i (hi : i < vl) h => none_base (s := s) (v := v) (i := i) (fun p hp x hx => ((hgd.per p hp).rng x hx).1) (by rw [hvl]; exact hi) h
        unfold LesP at hle
        unfold SolvePost at hti
        have HVA := Lib.hid hva
        have HK0 := Lib.hid hk0
        have HV := Lib.hid hv
        have H := Lib.hid h
        have HS := Lib.hid hs
        have HL := Lib.hid hl
        have HNB := Lib.hid hnb
        have HMN := Lib.hid hmn
        have HVL := Lib.hid hvl
        have HLIN := Lib.hid hlin
        have HNU := Lib.hid hnu
        have HGOOD := Lib.hid hgood
        have HBAD := Lib.hid hbad
        have HNUM := Lib.hid hnum
        have HNUB := Lib.hid hnub
        have HPRE := Lib.hid hpre
        have HG := Lib.hid hg
        have HPR := Lib.hid hpr
        have HGD := Lib.hid hgd
        have HVO := Lib.hid hvo
        have HLE := Lib.hid hle
        have HTI := Lib.hid hti
        have HNB2 := Lib.hid hnb2
        clear hva hk0 hv h hs hl hnb hmn hvl hlin hnu hgood hbad hnum hnub hpre hg hpr hgd hvo hle hti hnb2
        go_enter Try.func23, Try.ntmps23
        go_wp2_with fail
        refine HVA.out.mono ?_
        rintro e w1 ⟨rfl, hk1⟩
        have hk2 := HK0.out.trans hk1
        have hnu := HNU.out w1 hk2
        have hs0 := hk1.read hs0 (by simp)
        have hs1 := hk1.read hs1 (by simp)
        have HK2 := Lib.hid hk2
        clear hk2
        have HNU2x := Lib.hid hnu
        clear hnu
        clear hk1
        go_wp2_with fail
        refine HNU2x.out.mono ?_
        rintro e w2 ⟨rfl, hk3⟩
        have hk4 := HK2.out.trans hk3
        have hle := HLE.out w2 hk4
        have hs0 := hk3.read hs0 (by simp)
        have hs1 := hk3.read hs1 (by simp)
        have HLE2 := Lib.hid hle
        have HK4 := Lib.hid hk4
        clear hk4
        clear hk3 hle
        go_wp2_with fail
        refine HLE2.out.mono ?_
        rintro e w3 ⟨hk5, ⟨rfl, i, hi, hneg⟩ | ⟨RA, rc, rfl, hge, hrI⟩⟩
        · have hnone : TPre s v → ∀ t, ¬ In s v t := fun _ => HNB2.out i hi hneg
          have hk6 := HK4.out.trans hk5
          have HNONE := Lib.hid hnone
          have HK6 := Lib.hid hk6
          clear hnone hk6
          clear hk5 hs0 hs1 hneg
          go_wp2_with fail
          go_ret2
          exact ⟨HK6.out, .inl ⟨rfl, HNONE.out⟩⟩
        · have hk6 := HK4.out.trans hk5
          have hs1 := hk5.read hs1 (by simp)
          have hcall := HTI.out w3 hk6 _ hrI hge
          have HK6 := Lib.hid hk6
          have HCALL := Lib.hid hcall
          clear hk6 hcall
          clear hk5 hs0 hge hrI
          go_wp2_with fail
          refine HCALL.out.mono ?_
          rintro e w4 ⟨hk7, ⟨rfl, hno⟩ | ⟨TA, tn, tc, k, rfl, hkI, hlst⟩⟩
          · have hnone : TPre s v → ∀ t, ¬ In s v t := fun _ => hno
            have hk8 := HK6.out.trans hk7
            have HNONE := Lib.hid hnone
            have HK8 := Lib.hid hk8
            clear hnone hk8
            clear hk7 hs1 hno
            go_wp2_with fail
            go_ret2
            exact ⟨HK8.out, .inl ⟨rfl, HNONE.out⟩⟩
          · have hk8 := HK6.out.trans hk7
            have HK8 := Lib.hid hk8
            have HKI := Lib.hid hkI
            have HLST := Lib.hid hlst
            clear hk8 hkI hlst
            clear hk7 hs1
            go_wp2_with fail
            go_ret2
            exact ⟨HK8.out, .inr ⟨TA, tn, tc, k, rfl, HPR.out, HKI.out, HLST.out⟩⟩
    · have d0 : ((vl : Int) != (nb : Int)) = true := by
        have : (vl : Int) ≠ (nb : Int) := by omega
        simpa using this
      have hnone : TPre s v → ∀ t, ¬ In s v t := fun h => absurd (hpre.1 h).2.1 hlv
      have HVA := Lib.hid hva
      have HNONE := Lib.hid hnone
      have HK0 := Lib.hid hk0
      have HV := Lib.hid hv
      have H := Lib.hid h
      have HS := Lib.hid hs
      have HL := Lib.hid hl
      have HNB := Lib.hid hnb
      have HMN := Lib.hid hmn
      have HVL := Lib.hid hvl
      have HLIN := Lib.hid hlin
      have HNU := Lib.hid hnu
      have HGOOD := Lib.hid hgood
      have HBAD := Lib.hid hbad
      have HNUM := Lib.hid hnum
      have HNUB := Lib.hid hnub
      have HPRE := Lib.hid hpre
      have HLV := Lib.hid hlv
      have HG := Lib.hid hg
      clear hva hnone hk0 hv h hs hl hnb hmn hvl hlin hnu hgood hbad hnum hnub hpre hlv hg
      go_enter Try.func23, Try.ntmps23
      go_wp2_with fail
      refine HVA.out.mono ?_
      rintro e w1 ⟨rfl, hk1⟩
      have hk2 := HK0.out.trans hk1
      have hs0 := hk1.read hs0 (by simp)
      have HK2 := Lib.hid hk2
      clear hk2
      clear hk1
      go_wp2_with fail
      go_ret2
      exact ⟨HK2.out, .inl ⟨rfl, HNONE.out⟩⟩

set_option maxRecDepth 100000 in
set_option maxHeartbeats 8000000 in
theorem rproves_is {w : World} {l : List Nat} {u pv vv tv : Value} {s : Lin} {v t : List Int} (h : IsLin w l u pv s) (hs : s.Small) (hv : IsI w l vv v) (hvn : v.length ≤ 1000000) (ht : IsI w l tv t) (htn : t.length ≤ 1000000) :
    Calls Try.prog 25 #[.agg #[u, pv], vv, tv] w (BoolP (prvF s v t) w) := by
  unfold BoolP
  have hva := fun W (k : Keeps [] w W) => rvalid_is (h.new k) hs
  have hnu := fun W (k : Keeps [] w W) => rnumbers_is 1048576 (ht.new k) htn
  unfold BoolP at hva hnu
  have hgood : dec (GoodN s) = true → GoodN s := dec_true.1
  have hbad : dec (GoodN s) = false → ¬ GoodN s := dec_false.1
  have hnum : numB t 1048576 = true → ∀ x ∈ t, 0 ≤ x ∧ x ≤ 1048576 := numB_true.1
  have hnub : numB t 1048576 = false → ¬ ∀ x ∈ t, 0 ≤ x ∧ x ≤ 1048576 := numB_false.1
  have hyes : ProvesS s v t → prvF s v t = true := dec_true.2
  have hno : ¬ ProvesS s v t → prvF s v t = false := dec_false.2
  have hps : ProvesS s v t ↔ GoodN s ∧ v.length = s.base.length ∧ t.length = s.per.length ∧ (∀ x ∈ t, 0 ≤ x ∧ x ≤ 1048576) ∧ ∀ i, i < s.base.length → s.base.getD i 0 + comb s.per t i = v.getD i 0 := Iff.rfl
  have hacc := fun i => accV_comb s.base s.per t i
  generalize prvF s v t = R at *
  obtain ⟨A, c, rfl, _⟩ := h.1.open
  have hp := h.2
  obtain ⟨Ap, cp, V, rfl, _⟩ := hp
  generalize hnb : s.base.length = nb at *
  generalize hmn : s.per.length = m at *
  have hk0 : Keeps [] w (w.alloc (.cells #[.slice A nb c, .slice Ap m cp] 29)) := (Keeps.refl _ _).alloc _
  have hs0 := World.cell?_alloc_new w #[.slice A nb c, .slice Ap m cp] 29 0
  have hs1 := World.cell?_alloc_new w #[.slice A nb c, .slice Ap m cp] 29 1
  have hlin := h.new hk0
  obtain ⟨B, d, rfl, _, _, hcv⟩ := hv.open
  obtain ⟨D, e0, rfl, _, _, hct⟩ := ht.open
  generalize hvl : v.length = vl at *
  generalize htl : t.length = tl at *
  generalize dec (GoodN s) = G at *
  generalize numB t 1048576 = Q at *
  have hva := hva _ hk0
  cases G with
  | false =>
    have hd := hno fun h => absurd (hps.1 h).1 (hbad rfl)
    have HVA := Lib.hid hva
    have HD := Lib.hid hd
    have HK0 := Lib.hid hk0
    have HV := Lib.hid hv
    have HT := Lib.hid ht
    have H := Lib.hid h
    have HS := Lib.hid hs
    have HNB := Lib.hid hnb
    have HMN := Lib.hid hmn
    have HVL := Lib.hid hvl
    have HTL := Lib.hid htl
    have HLIN := Lib.hid hlin
    have HNU := Lib.hid hnu
    have HGOOD := Lib.hid hgood
    have HBAD := Lib.hid hbad
    have HNUM := Lib.hid hnum
    have HNUB := Lib.hid hnub
    have HPS := Lib.hid hps
    have HYES := Lib.hid hyes
    have HNO := Lib.hid hno
    have HACC := Lib.hid hacc
    have HCV := Lib.hid hcv
    have HCT := Lib.hid hct
    clear hva hd hk0 hv ht h hs hnb hmn hvl htl hlin hnu hgood hbad hnum hnub hps hyes hno hacc hcv hct
    go_enter Try.func25, Try.ntmps25
    go_wp2_with fail
    refine HVA.out.mono ?_
    rintro e w1 ⟨rfl, hk1⟩
    have hk2 := HK0.out.trans hk1
    have HK2 := Lib.hid hk2
    clear hk2
    clear hk1
    go_wp2_with fail
    go_ret
    exact ⟨ret_b2 HD.out, HK2.out⟩
  | true =>
    have hg := hgood rfl
    by_cases hlv : vl = nb
    · subst hlv
      have d0 : ((vl : Int) != (vl : Int)) = false := by simp
      by_cases hlt : tl = m
      · subst hlt
        have d1 : ((tl : Int) != (tl : Int)) = false := by simp
        cases Q with
        | false =>
          have hd := hno fun h => absurd (hps.1 h).2.2.2.1 (hnub rfl)
          have HVA := Lib.hid hva
          have HD := Lib.hid hd
          have HK0 := Lib.hid hk0
          have HV := Lib.hid hv
          have HT := Lib.hid ht
          have H := Lib.hid h
          have HS := Lib.hid hs
          have HNB := Lib.hid hnb
          have HMN := Lib.hid hmn
          have HVL := Lib.hid hvl
          have HTL := Lib.hid htl
          have HLIN := Lib.hid hlin
          have HNU := Lib.hid hnu
          have HGOOD := Lib.hid hgood
          have HBAD := Lib.hid hbad
          have HNUM := Lib.hid hnum
          have HNUB := Lib.hid hnub
          have HPS := Lib.hid hps
          have HYES := Lib.hid hyes
          have HNO := Lib.hid hno
          have HACC := Lib.hid hacc
          have HG := Lib.hid hg
          have HCV := Lib.hid hcv
          have HCT := Lib.hid hct
          clear hva hd hk0 hv ht h hs hnb hmn hvl htl hlin hnu hgood hbad hnum hnub hps hyes hno hacc hg hcv hct
          go_enter Try.func25, Try.ntmps25
          go_wp2_with fail
          refine HVA.out.mono ?_
          rintro e w1 ⟨rfl, hk1⟩
          have hk2 := HK0.out.trans hk1
          have hnu := HNU.out w1 hk2
          have hs0 := hk1.read hs0 (by simp)
          have hs1 := hk1.read hs1 (by simp)
          have HK2 := Lib.hid hk2
          clear hk2
          have HNU2x := Lib.hid hnu
          clear hnu
          clear hk1
          go_wp2_with fail
          refine HNU2x.out.mono ?_
          rintro e w2 ⟨rfl, hk3⟩
          have hk4 := HK2.out.trans hk3
          have HK4 := Lib.hid hk4
          clear hk4
          clear hk3 hs0 hs1
          go_wp2_with fail
          go_ret
          exact ⟨ret_b2 HD.out, HK4.out⟩
        | true =>
          have htr := hnum rfl
          have hgd := hg.good
          have hdm := hg.dim
          rw [hnb] at hgd hdm
          have hrng := fun i (hi : i < vl) k (hk : k ≤ tl) => accV_rng hgd.base hgd.per htr hi k (by rw [hmn]; exact hk) (by rw [htl]; exact hk)
          have hm3 : tl ≤ 3 := by have := hgd.few; omega
          have hper := fun i (hi : i < tl) => hgd.per _ (getD_mem (d := []) (show i < s.per.length by rw [hmn]; exact hi))
          have hbrg := fun i (hi : i < vl) => getD_rng hgd.base.rng (i := i) (by rw [hnb]; exact hi)
          have htrg := fun i (hi : i < tl) => getD_rng htr (i := i) (by rw [htl]; exact hi)
          have hB := hlin.1.open
          obtain ⟨A', c', ea, _, _, hcb⟩ := hB
          rw [hnb] at ea hcb
          injection ea with ea1 _ ea3
          subst ea1; subst ea3
          obtain ⟨Ap', cp', V', ep, _, _, hcp, hvp⟩ := hlin.2
          injection ep with ep1 ep2 ep3
          subst ep1; subst ep3
          rw [hmn] at hcp hvp
          have HVA := Lib.hid hva
          have HK0 := Lib.hid hk0
          have HV := Lib.hid hv
          have HT := Lib.hid ht
          have H := Lib.hid h
          have HS := Lib.hid hs
          have HNB := Lib.hid hnb
          have HMN := Lib.hid hmn
          have HVL := Lib.hid hvl
          have HTL := Lib.hid htl
          have HLIN := Lib.hid hlin
          have HNU := Lib.hid hnu
          have HGOOD := Lib.hid hgood
          have HBAD := Lib.hid hbad
          have HNUM := Lib.hid hnum
          have HNUB := Lib.hid hnub
          have HPS := Lib.hid hps
          have HYES := Lib.hid hyes
          have HNO := Lib.hid hno
          have HACC := Lib.hid hacc
          have HG := Lib.hid hg
          have HTR := Lib.hid htr
          have HGD := Lib.hid hgd
          have HRNG := Lib.hid hrng
          have HPER := Lib.hid hper
          have HBRG := Lib.hid hbrg
          have HTRG := Lib.hid htrg
          have HCB := Lib.hid hcb
          have HCP := Lib.hid hcp
          have HVP := Lib.hid hvp
          have HCV := Lib.hid hcv
          have HCT := Lib.hid hct
          clear hva hk0 hv ht h hs hnb hmn hvl htl hlin hnu hgood hbad hnum hnub hps hyes hno hacc hg htr hgd hrng hper hbrg htrg hcb hcp hvp hcv hct
          clear ep2
          go_enter Try.func25, Try.ntmps25
          go_wp2_with fail
          refine HVA.out.mono ?_
          rintro e w1 ⟨rfl, hk1⟩
          have hk2 := HK0.out.trans hk1
          have hnu := HNU.out w1 hk2
          have HS0 := Lib.hid hs0
          have HS1 := Lib.hid hs1
          have hs0 := hk1.read hs0 (by simp)
          have hs1 := hk1.read hs1 (by simp)
          have HK1 := Lib.hid hk1
          clear hk1
          have HNU2x := Lib.hid hnu
          clear hnu
          go_wp2_with fail
          refine HNU2x.out.mono ?_
          rintro e w2 ⟨rfl, hk3⟩
          have hk4 := HK1.out.trans hk3
          have HK4 := Lib.hid hk4
          clear hk4
          clear hk3 hs0 hs1 hk2
          generalize w.alloc (.cells #[.slice A vl c, .slice Ap tl cp] 29) = wb at *
          go_wp2_with fail
          go_loopg [7] (vl + 1) (fun gh iv wr => ∃ i : Nat, vl + 1 ≤ i + gh ∧ i ≤ vl ∧ iv = .int .i64 (i : Int) ∧ (∀ j, j < i → accV s.base s.per t tl j = v.getD j 0) ∧ Keeps [] wb wr)
          case atStart => exact ⟨0, by omega, by omega, rfl, fun i hi => by omega, HK4.out⟩
          case round =>
            obtain ⟨i, hgh, hi, rfl, hall, hkr⟩ := hrel
            have HALL := Lib.hid hall
            clear hall
            by_cases hlti : i < vl
            · have hr0 := hkr.read HS0.out (by simp)
              obtain ⟨pb, epb, hpb0⟩ := (HCB.out.keeps (hkr.nil l)).at_ hlti
              have hpb : wr.cell? (pb.add i) = some (.int .i64 (s.base.getD i 0)) := hpb0
              have HKR := Lib.hid hkr
              subst epb
              have hx0 : s.base.getD i 0 = accV s.base s.per t 0 i := rfl
              rw [hx0] at hpb
              have hlti2 : (i : Int) < (vl : Int) := by omega
              clear hpb0 hkr hx0
              generalize hxx : accV s.base s.per t 0 i = x0 at *
              have HXX := Lib.hid hxx
              clear hxx
              go_wp2_with fail
              go_loopg [8, 9] (tl + 1) (fun gh xv kv wr => ∃ (k : Nat) (x : Int), tl + 1 ≤ k + gh ∧ k ≤ tl ∧ kv = .int .i64 (k : Int) ∧ xv = .int .i64 x ∧ x = accV s.base s.per t k i ∧ Keeps [] wb wr)
              case atStart => exact ⟨0, x0, by omega, by omega, rfl, rfl, HXX.out.symm, HKR.out⟩
              case round =>
                obtain ⟨k, x, hgh2, hk, rfl, rfl, hx, hkr2⟩ := hrel
                have hrg := HRNG.out i hlti k hk
                by_cases hltk : k < tl
                · have hrg2 := HRNG.out i hlti (k + 1) hltk
                  have hsc : accV s.base s.per t (k + 1) i = accV s.base s.per t k i + t.getD k 0 * (s.per.getD k []).getD i 0 := rfl
                  have hr1 := hkr2.read HS1.out (by simp)
                  obtain ⟨pt, ept, hpt0⟩ := (HCT.out.keeps ((HK0.out.trans hkr2).nil l)).at_ hltk
                  have hpt : wr.cell? (pt.add k) = some (.int .i64 (t.getD k 0)) := hpt0
                  obtain ⟨pp, epp, hpp⟩ := (HCP.out.keeps (hkr2.nil l)).at_ hltk
                  have hrow : IsI wr l (V' k) (s.per.getD k []) := (HVP.out k hltk).keeps (hkr2.nil l)
                  have hpe := HPER.out k hltk
                  obtain ⟨Br, dr, evr, _, _, hcr⟩ := hrow.open
                  rw [evr, hpe.len] at hpp
                  rw [hpe.len] at hcr
                  obtain ⟨pr, epr, hpr0⟩ := hcr.at_ hlti
                  have hpr : wr.cell? (pr.add i) = some (.int .i64 ((s.per.getD k []).getD i 0)) := hpr0
                  have hq1 := HTRG.out k hltk
                  have hq2 := getD_rng hpe.rng (i := i) (by rw [hpe.len]; exact hlti)
                  have hml := mul_le_big hq1 hq2
                  rw [hsc] at hrg2
                  rw [← hx] at hrg hrg2 hsc
                  subst ept; subst epp; subst epr
                  generalize t.getD k 0 = y1 at *
                  generalize (s.per.getD k []).getD i 0 = y2 at *
                  have hw1 : IntKind.i64.wrap (y1 * y2) = y1 * y2 := IntWalk.i64_in _ (by omega)
                  have hw2 : IntKind.i64.wrap (x + y1 * y2) = x + y1 * y2 := IntWalk.i64_in _ (by omega)
                  have hlk : (k : Int) < (tl : Int) := by omega
                  have HKR2 := Lib.hid hkr2
                  have HX := Lib.hid hx
                  have HSC := Lib.hid hsc
                  have HPE := Lib.hid hpe
                  have HROW := Lib.hid hrow
                  have HCR := Lib.hid hcr
                  have HML := Lib.hid hml
                  have HQ1 := Lib.hid hq1
                  have HQ2 := Lib.hid hq2
                  have HRG := Lib.hid hrg
                  have HRG2 := Lib.hid hrg2
                  clear hx hsc hpe hrow hcr hml hq1 hq2 hrg hrg2
                  clear hkr2 hpt0 hpr0 evr
                  go_wp2_with fail
                  go_quiet (fail)
                  go_wp2_with fail
                  go_roundg (tl - k)
                  case measure => omega
                  case rel => exact ⟨k + 1, x + y1 * y2, by omega, by omega, by go_num, rfl, HSC.out.symm, HKR2.out.drewN _⟩
                · obtain rfl : k = tl := by omega
                  obtain ⟨pv, epv, hpv0⟩ := (HCV.out.keeps ((HK0.out.trans hkr2).nil l)).at_ hlti
                  have hpv : wr.cell? (pv.add i) = some (.int .i64 (v.getD i 0)) := hpv0
                  have HKR2 := Lib.hid hkr2
                  subst epv
                  generalize hvi : v.getD i 0 = y at *
                  by_cases hxy : x = y
                  · have dx : (x != y) = false := by simpa using hxy
                    have h2 : ∀ j, j < i + 1 → accV s.base s.per t k j = v.getD j 0 := fun j hj => by
                      by_cases e : j = i
                      · rw [e, ← hx, hvi]; exact hxy
                      · exact HALL.out j (by omega)
                    have HX := Lib.hid hx
                    have H2 := Lib.hid h2
                    have HVI := Lib.hid hvi
                    have HXY := Lib.hid hxy
                    clear hx h2 hvi hxy
                    clear hkr2 hpv0
                    go_wp2_with fail
                    go_roundg (vl - i)
                    case measure => omega
                    case rel => exact ⟨i + 1, by omega, by omega, by go_num, H2.out, HKR2.out⟩
                  · have dx : (x != y) = true := by simpa using hxy
                    have hd := HNO.out fun h => hxy (by
                      have h3 := (HPS.out.1 h).2.2.2.2 i (by first | trivial | exact hlti | (rw [HNB.out]; exact hlti))
                      have h4 := HACC.out i (by first | trivial | rfl | (rw [HTL.out, HMN.out]))
                      rw [hx, ← hvi, ← h3]
                      first | exact h4 | (rw [HMN.out] at h4; exact h4))
                    have HX := Lib.hid hx
                    have HD := Lib.hid hd
                    have HVI := Lib.hid hvi
                    have HXY := Lib.hid hxy
                    clear hx hd hvi hxy
                    clear hkr2 hpv0
                    go_wp2_with fail
                    go_ret
                    exact ⟨ret_b2 HD.out, (HK0.out.trans HKR2.out)⟩
            · obtain rfl : i = vl := by omega
              have hd := HYES.out (HPS.out.2 ⟨HG.out, by first | trivial | rfl | (rw [HVL.out, HNB.out]), by first | trivial | rfl | (rw [HTL.out, HMN.out]), HTR.out, fun j hj => by
                have h4 := HACC.out j (by first | trivial | rfl | (rw [HTL.out, HMN.out]))
                have h5 := HALL.out j (by first | trivial | exact hj | (rw [HNB.out] at hj; exact hj))
                rw [← h5]
                first | exact h4.symm | (rw [HMN.out] at h4; exact h4.symm)⟩)
              have HKR := Lib.hid hkr
              have HD := Lib.hid hd
              clear hd
              clear hkr
              go_wp2_with fail
              go_ret
              exact ⟨ret_b2 HD.out, (HK0.out.trans HKR.out)⟩
      · have d1 : ((tl : Int) != (m : Int)) = true := by
          have : (tl : Int) ≠ (m : Int) := by omega
          simpa using this
        have hd := hno fun h => absurd (hps.1 h).2.2.1 hlt
        have HVA := Lib.hid hva
        have HD := Lib.hid hd
        have HK0 := Lib.hid hk0
        have HV := Lib.hid hv
        have HT := Lib.hid ht
        have H := Lib.hid h
        have HS := Lib.hid hs
        have HNB := Lib.hid hnb
        have HMN := Lib.hid hmn
        have HVL := Lib.hid hvl
        have HTL := Lib.hid htl
        have HLIN := Lib.hid hlin
        have HNU := Lib.hid hnu
        have HGOOD := Lib.hid hgood
        have HBAD := Lib.hid hbad
        have HNUM := Lib.hid hnum
        have HNUB := Lib.hid hnub
        have HPS := Lib.hid hps
        have HYES := Lib.hid hyes
        have HNO := Lib.hid hno
        have HACC := Lib.hid hacc
        have HG := Lib.hid hg
        have HCV := Lib.hid hcv
        have HCT := Lib.hid hct
        have HLT := Lib.hid hlt
        clear hva hd hk0 hv ht h hs hnb hmn hvl htl hlin hnu hgood hbad hnum hnub hps hyes hno hacc hg hcv hct hlt
        go_enter Try.func25, Try.ntmps25
        go_wp2_with fail
        refine HVA.out.mono ?_
        rintro e w1 ⟨rfl, hk1⟩
        have hk2 := HK0.out.trans hk1
        have hs0 := hk1.read hs0 (by simp)
        have hs1 := hk1.read hs1 (by simp)
        have HK2 := Lib.hid hk2
        clear hk2
        clear hk1
        go_wp2_with fail
        go_ret
        exact ⟨ret_b2 HD.out, HK2.out⟩
    · have d0 : ((vl : Int) != (nb : Int)) = true := by
        have : (vl : Int) ≠ (nb : Int) := by omega
        simpa using this
      have hd := hno fun h => absurd (hps.1 h).2.1 hlv
      have HVA := Lib.hid hva
      have HD := Lib.hid hd
      have HK0 := Lib.hid hk0
      have HV := Lib.hid hv
      have HT := Lib.hid ht
      have H := Lib.hid h
      have HS := Lib.hid hs
      have HNB := Lib.hid hnb
      have HMN := Lib.hid hmn
      have HVL := Lib.hid hvl
      have HTL := Lib.hid htl
      have HLIN := Lib.hid hlin
      have HNU := Lib.hid hnu
      have HGOOD := Lib.hid hgood
      have HBAD := Lib.hid hbad
      have HNUM := Lib.hid hnum
      have HNUB := Lib.hid hnub
      have HPS := Lib.hid hps
      have HYES := Lib.hid hyes
      have HNO := Lib.hid hno
      have HACC := Lib.hid hacc
      have HG := Lib.hid hg
      have HCV := Lib.hid hcv
      have HCT := Lib.hid hct
      have HLV := Lib.hid hlv
      clear hva hd hk0 hv ht h hs hnb hmn hvl htl hlin hnu hgood hbad hnum hnub hps hyes hno hacc hg hcv hct hlv
      go_enter Try.func25, Try.ntmps25
      go_wp2_with fail
      refine HVA.out.mono ?_
      rintro e w1 ⟨rfl, hk1⟩
      have hk2 := HK0.out.trans hk1
      have hs0 := hk1.read hs0 (by simp)
      have HK2 := Lib.hid hk2
      clear hk2
      clear hk1
      go_wp2_with fail
      go_ret
      exact ⟨ret_b2 HD.out, HK2.out⟩
end Go.Proofs.Ytdhadnnakcdfiaa

namespace Go.Proofs.Ytdhadnnakcdfiaa
set_option linter.unusedVariables false
open Go.RowKit

set_option maxRecDepth 100000 in
set_option maxHeartbeats 4000000 in
theorem rhas_is {w : World} {l : List Nat} {n : Int} {x vv : Value} {ss : List Lin} {v : List Int} (hl : ∀ y ∈ l, y < w.heap.size) (h : IsLins w l x ss) (hs : ∀ s ∈ ss, s.Small) (hn : ss.length ≤ 1000000) (hv : IsI w l vv v) (hvn : v.length ≤ 1000000) :
    Calls Try.prog 26 #[.int .i64 n, x, vv] w (BoolP (hasF n ss v) w) := by
  unfold BoolP
  have hck := rcheck_is (n := n) h hs hn
  unfold CkPost at hck
  have hyes : (GoodAll n ss ∧ ∃ s ∈ ss, HasIn s v) → hasF n ss v = true := dec_true.2
  have hno : ¬ (GoodAll n ss ∧ ∃ s ∈ ss, HasIn s v) → hasF n ss v = false := dec_false.2
  have hga : chkL n ss = 0 ↔ GoodAll n ss := chkL_zero
  generalize hasF n ss v = R at *
  generalize chkL n ss = z at *
  obtain ⟨A, c, rfl, _, _, hc⟩ := h
  obtain ⟨B, d, rfl, _⟩ := hv.open
  generalize hnn : ss.length = m at *
  generalize hvl : v.length = vl at *
  by_cases h0 : z = 0
  · subst h0
    have hg := hga.1 rfl
    by_cases hln : (vl : Int) = n
    · have d0 : ((vl : Int) != n) = false := by rw [hln]; simp
      have HCK := Lib.hid hck
      have HYES := Lib.hid hyes
      have HNO := Lib.hid hno
      have HGA := Lib.hid hga
      have HC := Lib.hid hc
      have HV := Lib.hid hv
      have HS := Lib.hid hs
      have HL := Lib.hid hl
      have HNN := Lib.hid hnn
      have HVL := Lib.hid hvl
      have HG := Lib.hid hg
      have HLN := Lib.hid hln
      clear hck hyes hno hga hc hv hs hl hnn hvl hg hln
      go_enter Try.func26, Try.ntmps26
      go_wp2_with fail
      refine HCK.out.mono ?_
      rintro e w1 ⟨rfl, hk1⟩
      have HK1 := Lib.hid hk1
      clear hk1
      go_wp2_with fail
      go_loopg [7] (m + 1) (fun gh iv wr => ∃ k : Nat, m + 1 ≤ k + gh ∧ k ≤ m ∧ iv = .int .i64 (k : Int) ∧ (∀ i, i < k → ¬ HasIn (ss.getD i default) v) ∧ Keeps [] w wr)
      case atStart => exact ⟨0, by omega, by omega, rfl, fun i hi => by omega, HK1.out⟩
      case round =>
        obtain ⟨k, hgh, hkm, rfl, hall, hkr⟩ := hrel
        have HALL := Lib.hid hall
        clear hall
        by_cases hlt : k < m
        · obtain ⟨a, ea, hb, hcs⟩ := HC.out (by omega)
          obtain ⟨u, pv, hu, hv2, hlin⟩ := hcs k hlt
          have hu2 := hkr.read hu (by simp)
          have hv3 := hkr.read hv2 (by simp)
          have hmem := getD_mem (d := default) (show k < ss.length by rw [HNN.out]; exact hlt)
          have hcall := rTimes_is (fun y hy => Nat.lt_of_lt_of_le (HL.out y hy) hkr.size) (hlin.new hkr) (HS.out _ hmem) (HV.out.new hkr) (by rw [HVL.out]; exact hvn)
          unfold TimesPost at hcall
          subst ea
          have HKR := Lib.hid hkr
          have HCALL := Lib.hid hcall
          have HLIN := Lib.hid hlin
          have HCS := Lib.hid hcs
          have HMEM := Lib.hid hmem
          clear hcall hlin hcs hmem
          clear hkr hu hv2
          go_wp2_with fail
          refine HCALL.out.mono ?_
          rintro e w2 ⟨hk2, ⟨rfl, hnone⟩ | ⟨TA, tn, tc, ks, rfl, hpre, _, hlst⟩⟩
          · have h2 : ∀ i, i < k + 1 → ¬ HasIn (ss.getD i default) v := fun i hi => by
              by_cases e : i = k
              · rw [e]; rintro ⟨g1, t, g2⟩; exact hnone g1 t g2
              · exact HALL.out i (by omega)
            have hk3 := HKR.out.trans hk2
            have H2 := Lib.hid h2
            have HK3 := Lib.hid hk3
            clear h2 hk3
            clear hk2 hu2 hv3 hnone
            go_wp2_with fail
            go_roundg (m - k)
            case measure => omega
            case rel => exact ⟨k + 1, by omega, by omega, by go_num, H2.out, HK3.out⟩
          · have hd := HYES.out ⟨HG.out, _, HMEM.out, hpre, ks, hlst.1⟩
            have hk3 := HKR.out.trans hk2
            have HD := Lib.hid hd
            have HK3 := Lib.hid hk3
            clear hd hk3
            clear hk2 hu2 hv3 hpre hlst
            go_wp2_with fail
            go_ret
            exact ⟨ret_b2 HD.out, HK3.out⟩
        · obtain rfl : k = m := by omega
          have hd := HNO.out fun ⟨_, s, hs, hh⟩ => by
            obtain ⟨i, hi, e⟩ := mem_getD (d := default) hs
            exact HALL.out i (by rw [← HNN.out]; exact hi) (by rw [e]; exact hh)
          have HKR := Lib.hid hkr
          have HD := Lib.hid hd
          clear hd
          clear hkr
          go_wp2_with fail
          go_ret
          exact ⟨ret_b2 HD.out, HKR.out⟩
    · have d0 : ((vl : Int) != n) = true := by simpa using hln
      have hd := hno fun ⟨hg, s, hs2, hh⟩ => hln (by
        have h1 := (hg.all s hs2).base.len
        have h2 := hh.1.2.len
        have h3 := hg.lo
        omega)
      have HCK := Lib.hid hck
      have HYES := Lib.hid hyes
      have HNO := Lib.hid hno
      have HGA := Lib.hid hga
      have HC := Lib.hid hc
      have HV := Lib.hid hv
      have HS := Lib.hid hs
      have HL := Lib.hid hl
      have HNN := Lib.hid hnn
      have HVL := Lib.hid hvl
      have HG := Lib.hid hg
      have HLN := Lib.hid hln
      have HD := Lib.hid hd
      clear hck hyes hno hga hc hv hs hl hnn hvl hg hln hd
      go_enter Try.func26, Try.ntmps26
      go_wp2_with fail
      refine HCK.out.mono ?_
      rintro e w1 ⟨rfl, hk1⟩
      have HK1 := Lib.hid hk1
      clear hk1
      go_wp2_with fail
      go_ret
      exact ⟨ret_b2 HD.out, HK1.out⟩
  · have d0 : (z != 0) = true := by simpa using h0
    have hd := hno fun ⟨hg, _⟩ => h0 (hga.2 hg)
    have HCK := Lib.hid hck
    have HYES := Lib.hid hyes
    have HNO := Lib.hid hno
    have HGA := Lib.hid hga
    have HC := Lib.hid hc
    have HV := Lib.hid hv
    have HS := Lib.hid hs
    have HL := Lib.hid hl
    have HNN := Lib.hid hnn
    have HVL := Lib.hid hvl
    have H0 := Lib.hid h0
    have HD := Lib.hid hd
    clear hck hyes hno hga hc hv hs hl hnn hvl h0 hd
    go_enter Try.func26, Try.ntmps26
    go_wp2_with fail
    refine HCK.out.mono ?_
    rintro e w1 ⟨rfl, hk1⟩
    have HK1 := Lib.hid hk1
    clear hk1
    go_wp2_with fail
    go_ret
    exact ⟨ret_b2 HD.out, HK1.out⟩

theorem solve_dec {P : List (List Int)} {v : List Int} {l : List Nat} {w w' : World} {e : Ending} (h : SolvePost P v l w e w') : Keeps [] w w' ∧ ∃ A n c, e = .returned (.tuple #[.slice A n c, .bool (dec (∃ t, Makes P v t))]) := by
  obtain ⟨hk, ⟨rfl, h⟩ | ⟨A, n, c, k, rfl, _, h⟩⟩ := h
  · rw [dec_false.2 (fun ⟨t, ht⟩ => h t ht)]; exact ⟨hk, none, 0, 0, rfl⟩
  · rw [dec_true.2 ⟨k, h.1⟩]; exact ⟨hk, A, n, c, rfl⟩
theorem PerOk.vec {n : Nat} {p : List Int} (h : PerOk n p) : VecOk n 64 p := ⟨h.len, fun x hx => by have := h.rng x hx; omega⟩
set_option maxRecDepth 100000 in
set_option maxHeartbeats 8000000 in
theorem rwithin_is {w : World} {l : List Nat} {n : Int} {u pv u' pv' : Value} {a b : Lin} (hl : ∀ y ∈ l, y < w.heap.size) (h : IsLin w l u pv a) (ha : a.Small) (h' : IsLin w l u' pv' b) (hb : b.Small) :
    Calls Try.prog 32 #[.int .i64 n, .agg #[u, pv], .agg #[u', pv']] w (BoolP (witF n a b) w) := by
  unfold BoolP
  have hyes : WithinS n a b → witF n a b = true := dec_true.2
  have hno : ¬ WithinS n a b → witF n a b = false := dec_false.2
  have eti := enters_of Try.func52 (by kernel_rfl) rfl
  generalize witF n a b = R at *
  obtain ⟨A, c, rfl, _⟩ := h.1.open
  have hp := h.2
  obtain ⟨Ap, cp, V, rfl, _⟩ := hp
  obtain ⟨B, d, rfl, _⟩ := h'.1.open
  have hp' := h'.2
  obtain ⟨Bp, dp, V2, rfl, _⟩ := hp'
  have hsab := ha.b
  have hsam := ha.m
  have hsbb := hb.b
  have hsbm := hb.m
  generalize han : a.base.length = an at *
  generalize ham : a.per.length = am at *
  generalize hbn : b.base.length = bn at *
  generalize hbm : b.per.length = bm at *
  have hk0 : Keeps [] w ((w.alloc (.cells #[.slice A an c, .slice Ap am cp] 29)).alloc (.cells #[.slice B bn d, .slice Bp bm dp] 29)) := ((Keeps.refl _ _).alloc _).alloc _
  have hbb : BoxAt ((w.alloc (.cells #[.slice A an c, .slice Ap am cp] 29)).alloc (.cells #[.slice B bn d, .slice Bp bm dp] 29)) (w.heap.size + 1) (.slice B bn d) (.slice Bp bm dp) := by
    have := BoxAt.start (w.alloc (.cells #[.slice A an c, .slice Ap am cp] 29)) (.slice B bn d) (.slice Bp bm dp) 29
    simpa using this
  have hba := (BoxAt.start w (.slice A an c) (.slice Ap am cp) 29).new ((Keeps.refl _ _).alloc (.cells #[.slice B bn d, .slice Bp bm dp] 29))
  have hla := h.new hk0
  have hlb := h'.new hk0
  have hl0 : ∀ y ∈ l, y < ((w.alloc (.cells #[.slice A an c, .slice Ap am cp] 29)).alloc (.cells #[.slice B bn d, .slice Bp bm dp] 29)).heap.size := fun y hy => Nat.lt_of_lt_of_le (hl y hy) hk0.size
  clear h h'
  have HYES := Lib.hid hyes
  have HNO := Lib.hid hno
  have HSA := Lib.hid ha
  have HSB := Lib.hid hb
  have HK0 := Lib.hid hk0
  have HBB := Lib.hid hbb
  have HBA := Lib.hid hba
  have HLA := Lib.hid hla
  have HLB := Lib.hid hlb
  have HL0 := Lib.hid hl0
  have HAN := Lib.hid han
  have HAM := Lib.hid ham
  have HBN := Lib.hid hbn
  have HBM := Lib.hid hbm
  clear hk0 hbb hba hla hlb hl0 han ham hbn hbm
  clear ha hb hyes hno hl
  go_enter Try.func32, Try.ntmps32
  go_upto_region 1 with fail
  generalize (w.alloc (.cells #[.slice A an c, .slice Ap am cp] 29)).alloc (.cells #[.slice B bn d, .slice Bp bm dp] 29) = wb at *
  have hbb1 := HBB.out.new (Keeps.refl [] wb)
  have hba1 := HBA.out.new (Keeps.refl [] wb)
  have hb0 := hbb1.c0
  have hb1 := hbb1.c1
  have ha0 := hba1.c0
  have ha1 := hba1.c1
  clear hbb1 hba1
  have hc1 := rcheck_is (n := n) (ss := [a]) (IsLins.one (t := 29) HL0.out HLA.out) (by simpa using HSA.out) (by simp)
  have hc2 := fun W (k : Keeps [] wb W) => rcheck_is (n := n) (ss := [b]) (IsLins.one (t := 29) (fun y hy => Nat.lt_of_lt_of_le (HL0.out y hy) k.size) (HLB.out.new k)) (by simpa using HSB.out) (by simp)
  have hza : chkL n [a] = 0 ↔ GoodAll n [a] := chkL_zero
  have hzb : chkL n [b] = 0 ↔ GoodAll n [b] := chkL_zero
  unfold CkPost at hc1 hc2
  have hal : Keeps [] wb (wb.alloc (.cells #[.slice A an c, .slice Ap am cp] 29)) := (Keeps.refl _ _).alloc _
  generalize chkL n [a] = za at *
  generalize chkL n [b] = zb at *
  by_cases hz0 : za = 0
  · subst hz0
    have hga := hza.1 rfl
    have HC1 := Lib.hid hc1
    have HC2 := Lib.hid hc2
    have HAL := Lib.hid hal
    have HZA := Lib.hid hza
    have HZB := Lib.hid hzb
    have HGA := Lib.hid hga
    clear hc1 hc2 hal hza hzb hga
    go_wp2_with fail
    refine HC1.out.mono ?_
    rintro e w1 ⟨rfl, hk1⟩
    have hk1 := HAL.out.trans hk1
    clear ha0 ha1 hb0 hb1
    have hbb1 := HBB.out.new hk1
    have hba1 := HBA.out.new hk1
    have hb0 := hbb1.c0
    have hb1 := hbb1.c1
    have ha0 := hba1.c0
    have ha1 := hba1.c1
    clear hbb1 hba1
    have hc2 := HC2.out w1 hk1
    have hal1 : Keeps [] w1 (w1.alloc (.cells #[.slice B bn d, .slice Bp bm dp] 29)) := (Keeps.refl _ _).alloc _
    have HCC := Lib.hid hc2
    have HK1 := Lib.hid hk1
    have HAL1 := Lib.hid hal1
    clear hk1 hal1
    clear hc2
    by_cases hz1 : zb = 0
    · subst hz1
      have hgb := HZB.out.1 rfl
      have hlo := hgb.lo
      have hhi := hgb.hi
      obtain ⟨q, hqn⟩ : ∃ q : Nat, n = (q : Int) := ⟨n.toNat, by omega⟩
      have hag : Good q a := by simpa [hqn] using HGA.out.all a (by simp)
      have hbg : Good q b := by simpa [hqn] using hgb.all b (by simp)
      have hq4 : q ≤ 4 := by omega
      have HGB := Lib.hid hgb
      have HAG := Lib.hid hag
      have HBG := Lib.hid hbg
      have HQN := Lib.hid hqn
      clear hgb hag hbg hqn
      clear hlo hhi
      go_wp2_with fail
      refine HCC.out.mono ?_
      rintro e w2 ⟨rfl, hk2⟩
      have hk2 := (HK1.out.trans HAL1.out).trans hk2
      clear ha0 ha1 hb0 hb1
      have hbb1 := HBB.out.new hk2
      have hba1 := HBA.out.new hk2
      have hb0 := hbb1.c0
      have hb1 := hbb1.c1
      have ha0 := hba1.c0
      have ha1 := hba1.c1
      clear hbb1 hba1
      have hti := rTimes_is (fun y hy => Nat.lt_of_lt_of_le (HL0.out y hy) hk2.size) (HLB.out.new hk2) HSB.out (HLA.out.new hk2).1 HSA.out.b
      unfold TimesPost at hti
      have HK2 := Lib.hid hk2
      have HTI := Lib.hid hti
      clear hk2 hti
      go_wp2_with fail
      refine HTI.out.mono ?_
      rintro e w3 ⟨hk3, ⟨rfl, hnone⟩ | ⟨TA, tn, tc, ks, rfl, hpre, _, hlst⟩⟩
      · have hd := HNO.out fun h => by
          obtain ⟨h1, t, h2⟩ := h.2.2.1
          exact hnone h1 t h2
        have hk4 := (HK0.out.trans HK2.out).trans hk3
        have HD := Lib.hid hd
        have HK4 := Lib.hid hk4
        clear hd hk4
        clear hk3 hnone ha0 ha1 hb0 hb1
        go_wp2_with fail
        go_ret
        exact ⟨ret_b2 HD.out, HK4.out⟩
      · have hhas : HasIn b a.base := ⟨hpre, ks, hlst.1⟩
        have hk4 := HK2.out.trans hk3
        clear ha0 ha1 hb0 hb1
        have HHAS := Lib.hid hhas
        have HK4 := Lib.hid hk4
        clear hhas hk4
        clear hk3 hpre hlst
        go_wp2_with fail
        go_loopg [9] (am + 1) (fun gh iv wr => ∃ i : Nat, am + 1 ≤ i + gh ∧ i ≤ am ∧ iv = .int .i64 (i : Int) ∧ (∀ j, j < i → ∃ t, Makes b.per (a.per.getD j []) t) ∧ Keeps [] wb wr)
        case atStart => exact ⟨0, by omega, by omega, rfl, fun j hj => by omega, HK4.out⟩
        case round =>
          obtain ⟨i, hgh, hi, rfl, hall, hkr⟩ := hrel
          have hbb1 := HBB.out.new hkr
          have hba1 := HBA.out.new hkr
          have hb0 := hbb1.c0
          have hb1 := hbb1.c1
          have ha0 := hba1.c0
          have ha1 := hba1.c1
          clear hbb1 hba1
          have hlar := HLA.out.new hkr
          obtain ⟨Ax, cx, U, hvx, _, _, hcx, hrx⟩ := hlar.2
          injection hvx with ex1 ex2 ex3
          subst ex1; subst ex3
          rw [HAM.out] at hcx hrx
          clear ex2
          have HALL := Lib.hid hall
          clear hall
          by_cases hlti : i < am
          · obtain ⟨pa, epa, hpa⟩ := hcx.at_ hlti
            have hx : IsI wr l (U i) (a.per.getD i []) := hrx i hlti
            have hpe := HAG.out.per _ (getD_mem (d := []) (show i < a.per.length by rw [HAM.out]; exact hlti))
            have hdt := dec_true (P := ∃ t, Makes b.per (a.per.getD i []) t)
            have hdf := dec_false (P := ∃ t, Makes b.per (a.per.getD i []) t)
            have hcall := fun W (k : Keeps [] wr W) => (rtimes_is q (by omega) b.per W [] (by simp) (a.per.getD i []) (.slice Bp bm dp) (U i) ((Rok.weak (HLB.out.new hkr).2 (by simp) : IsII wr [] (.slice Bp bm dp) b.per).new k) ((Rok.weak hx (by simp) : IsI wr [] (U i) (a.per.getD i [])).new k) (fun p hp => HBG.out.per p hp) hpe.vec (by have := HBG.out.few; omega)).mono fun e w' h => solve_dec h
            generalize dec (∃ t, Makes b.per (a.per.getD i []) t) = r at *
            obtain ⟨Bx, dx, ebx, _⟩ := hx.open
            rw [ebx] at hpa hcall
            subst epa
            have hlti2 : (i : Int) < (am : Int) := by omega
            have HKR := Lib.hid hkr
            haveI kbr : KB [] wr wb := ⟨hkr⟩
            have HCALL := Lib.hid hcall
            have HDT := Lib.hid hdt
            have HDF := Lib.hid hdf
            have HPE := Lib.hid hpe
            clear hcall hdt hdf hpe
            clear hkr hx ebx hcx hrx hlar
            go_upto_region 9 with fail
            go_region_held3 (fun W => W.cell? ⟨w.heap.size + 1, 1, none⟩ = some (.slice Bp bm dp) ∧ W.cell? ⟨w.heap.size, 1, none⟩ = some (.slice (some pa) am cp) ∧ W.cell? (pa.add i) = some (.slice Bx (a.per.getD i []).length dx)) (exact ⟨cell_now (a := wr) [] hb1 (by simp), cell_now (a := wr) [] ha1 (by simp), cell_now (a := wr) [] hpa (by simp)⟩) (first
              | (refine step_callw 52 #[.tmp 42, .tmp 47] #[27, 22] rfl eti (HCALL.out _ (kf [] wr _)) (by first | rfl | (simp [Region.wanted, yielded]; done) | simp [Region.wanted, yielded, Act.put]) (by first | (simp [Act.eval]; done) | (simp only [Act.eval, Act.put]; simp; done) | simp [Act.eval, Act.put]) ?_; rintro e w5 ⟨hk5, Ar, nr, cr, rfl⟩; refine ⟨_, rfl, ?_⟩; haveI kb5 : KB [] w5 _ := ⟨hk5⟩))
            all_goals
              have hkf : Keeps [] wr w5 := kf [] wr w5
              have hk6 := HKR.out.trans hkf
              cases r with
              | true =>
                have h2 : ∀ j, j < i + 1 → ∃ t, Makes b.per (a.per.getD j []) t := fun j hj => by
                  by_cases e : j = i
                  · rw [e]; exact HDT.out.1 (by first | rfl | trivial)
                  · exact HALL.out j (by omega)
                have H2 := Lib.hid h2
                have HK6 := Lib.hid hk6
                clear h2 hk6
                clear hk5 hkf ha0 ha1 hb0 hb1 hpa
                go_wp2_with fail
                go_roundg (am - i)
                case measure => omega
                case rel => exact ⟨i + 1, by omega, by omega, by go_num, H2.out, HK6.out⟩
              | false =>
                have hd := HNO.out fun h => HDF.out.1 (by first | rfl | trivial) (h.2.2.2 _ (getD_mem (d := []) (show i < a.per.length by rw [HAM.out]; exact hlti)))
                have hk7 := HK0.out.trans hk6
                have HD := Lib.hid hd
                have HK7 := Lib.hid hk7
                clear hd hk7
                clear hk5 hkf hk6 ha0 ha1 hb0 hb1 hpa
                go_wp2_with fail
                go_ret
                exact ⟨ret_b2 HD.out, HK7.out⟩
          · obtain rfl : i = am := by omega
            have hd := HYES.out ⟨HGA.out, HGB.out, HHAS.out, fun p hp => by
              obtain ⟨j, hj, e⟩ := mem_getD (d := []) hp
              rw [← e]; exact HALL.out j (by rw [← HAM.out]; exact hj)⟩
            have hk7 := HK0.out.trans hkr
            have HD := Lib.hid hd
            have HK7 := Lib.hid hk7
            clear hd hk7
            clear hkr hcx hrx hlar ha0 hb0 hb1
            go_wp2_with fail
            go_ret
            exact ⟨ret_b2 HD.out, HK7.out⟩
    · have d1 : (zb != 0) = true := by simpa using hz1
      have hd := HNO.out fun h => hz1 (HZB.out.2 h.2.1)
      have HD := Lib.hid hd
      have HZ1 := Lib.hid hz1
      clear hd hz1
      go_wp2_with fail
      refine HCC.out.mono ?_
      rintro e w2 ⟨rfl, hk2⟩
      have hk3 := (HK0.out.trans (HK1.out.trans HAL1.out)).trans hk2
      have HK3 := Lib.hid hk3
      clear hk3
      clear hk2 ha0 ha1 hb0 hb1
      go_wp2_with fail
      go_ret
      exact ⟨ret_b2 HD.out, HK3.out⟩
  · have d1 : (za != 0) = true := by simpa using hz0
    have hd := HNO.out fun h => hz0 (hza.2 h.1)
    have HC1 := Lib.hid hc1
    have HC2 := Lib.hid hc2
    have HAL := Lib.hid hal
    have HZA := Lib.hid hza
    have HZB := Lib.hid hzb
    have HD := Lib.hid hd
    have HZ0 := Lib.hid hz0
    clear hc1 hc2 hal hza hzb hd hz0
    go_wp2_with fail
    refine HC1.out.mono ?_
    rintro e w1 ⟨rfl, hk1⟩
    have hk3 := (HK0.out.trans HAL.out).trans hk1
    have HK3 := Lib.hid hk3
    clear hk3
    clear hk1 ha0 ha1 hb0 hb1
    go_wp2_with fail
    go_ret
    exact ⟨ret_b2 HD.out, HK3.out⟩
end Go.Proofs.Ytdhadnnakcdfiaa

namespace Go.Proofs.Ytdhadnnakcdfiaa
set_option linter.unusedVariables false
open Go.RowKit

def CopP (s : Lin) (l : List Nat) (w : World) (e : Ending) (w' : World) : Prop :=
  Keeps [] w w' ∧ ∃ (ga c : Nat) (A' : Option Addr) (c' : Nat), w.heap.size ≤ ga ∧ ga < w'.heap.size ∧ e = .returned (.agg #[.slice (some ⟨ga, 0, none⟩) s.base.length c, .slice A' s.per.length c']) ∧ s.base.length ≤ c ∧ Own w' ga s.base.length (fun i => .int .i64 (s.base.getD i 0)) ∧ OwL IsI [] 22 (ga + 1) w' (ga :: l) (.slice A' s.per.length c') s.per
set_option maxRecDepth 100000 in
set_option maxHeartbeats 4000000 in
theorem rcopy_is {w : World} {l : List Nat} {u pv : Value} {s : Lin} (hl : ∀ y ∈ l, y < w.heap.size) (h : IsLin w l u pv s) (hb1 : 1 ≤ s.base.length) (hb2 : s.base.length ≤ 100) (hp : ∀ p ∈ s.per, p.length ≤ 100) (hm : s.per.length ≤ 100) :
    Calls Try.prog 68 #[.agg #[u, pv]] w (CopP s l w) := by
  unfold CopP
  have hu := h.1
  obtain ⟨A, c, rfl, _⟩ := hu.open
  have hpp := h.2
  obtain ⟨Ap, cp, V, rfl, g2, g3, g4, g5⟩ := hpp
  have hba := h.1
  generalize hmm : s.per.length = m at *
  generalize hbl : s.base.length = n at *
  have hk1 : Keeps [] w ((w.alloc (.cells #[.slice A n c, .slice Ap m cp] 29)).alloc (.cells #[.slice none 0 0, .slice none 0 0] 29)) := ((Keeps.refl _ _).alloc _).alloc _
  have hbox : BoxAt ((w.alloc (.cells #[.slice A n c, .slice Ap m cp] 29)).alloc (.cells #[.slice none 0 0, .slice none 0 0] 29)) w.heap.size (.slice A n c) (.slice Ap m cp) := (BoxAt.start w _ _ _).new ((Keeps.refl _ _).alloc _)
  have hc0 := hbox.c0
  have hz0 : Own ((w.alloc (.cells #[.slice A n c, .slice Ap m cp] 29)).alloc (.cells #[.slice none 0 0, .slice none 0 0] 29)) (w.heap.size + 1) 2 (fun i => if i = 0 then .slice none 0 0 else .slice none 0 0) := by
    have := own_pair (w := w.alloc (.cells #[.slice A n c, .slice Ap m cp] 29)) (x := .slice none 0 0) (y := .slice none 0 0) (e := 29)
    simpa using this
  clear hu
  have eg := enters_of Try.func59 (by kernel_rfl) rfl
  have H := Lib.hid h
  have HK1 := Lib.hid hk1
  have HBOX := Lib.hid hbox
  have HL := Lib.hid hl
  have HP := Lib.hid hp
  have HMM := Lib.hid hmm
  have G4 := Lib.hid g4
  have G5 := Lib.hid g5
  have HBA := Lib.hid hba
  have HBL := Lib.hid hbl
  have HZ0 := Lib.hid hz0
  clear h hk1 hbox hl hp hmm g4 g5 hba hbl hz0
  go_enter Try.func68, Try.ntmps68
  go_wp2_with fail
  refine (copy_is (l := l) (HBA.out.new HK1.out) (by rw [HBL.out]; omega)).mono ?_
  rintro e w1 ⟨A1, c1, he, hown, hk2⟩
  obtain ⟨ga, c1', hv1, hc1', hga, hga', hO⟩ := hown.own (by rw [HBL.out]; omega)
  injection hv1 with e1 e2 e3
  subst e1; subst e3
  rw [HBL.out] at he hc1' hO
  subst he
  have hz1 := hk2.size
  simp only [World.size_alloc] at hga hz1
  have hk3 := HK1.out.trans hk2
  have hz0 := HZ0.out.keep hk2 (by simp)
  have hbox1 := HBOX.out.new hk2
  have hal : Keeps [] w1 (w1.alloc (.cells #[.slice (some ⟨ga, 0, none⟩) n c1, .slice none 0 0] 29)) := (Keeps.refl _ _).alloc _
  have hpr := own_pair (w := w1) (x := .slice (some ⟨ga, 0, none⟩) n c1) (y := .slice none 0 0) (e := 29)
  have hO1 := hO.keep hal (by simp)
  have hz2 := hz0.keep hal (by simp)
  have hk4 := hk3.trans hal
  have hbox2 := hbox1.new hal
  have HPR := Lib.hid hpr
  have HO1 := Lib.hid hO1
  have HZ2 := Lib.hid hz2
  have HK4 := Lib.hid hk4
  have HBOX2 := Lib.hid hbox2
  clear hpr hO1 hz2 hk4 hbox2
  clear hown hO hk2 hk3 hz0 hbox1 hal e2
  go_wp2_with fail
  generalize hw2 : w1.alloc (.cells #[.slice (some ⟨ga, 0, none⟩) n c1, .slice none 0 0] 29) = w2 at *
  have hw2z : w1.heap.size + 1 = w2.heap.size := by rw [← hw2]; simp
  clear hw2
  generalize w1.heap.size = g at *
  go_loopg [4] (m + 1) (fun gh kv wr => ∃ (k : Nat) (A' : Option Addr) (c' : Nat), m + 1 ≤ k + gh ∧ k ≤ m ∧ kv = .int .i64 (k : Int) ∧ Own wr g 2 (fun q => if q = 0 then .slice (some ⟨ga, 0, none⟩) n c1 else .slice A' k c') ∧ OwL IsI [] 22 w2.heap.size wr (ga :: g :: (w.heap.size + 1) :: l) (.slice A' k c') (s.per.take k) ∧ Keeps [g] w2 wr)
  case atStart => exact ⟨0, none, 0, by omega, by omega, rfl, HPR.out, OwL.nil, Keeps.refl _ _⟩
  case round =>
    obtain ⟨k, A', c', hgh', hk, rfl, hOk, hown, hkk⟩ := hrel
    have hKk := (HK4.out.step hkk (by simp; omega) : Keeps [] w wr)
    have hzk := hkk.size
    have hcg : wr.cell? ⟨g, 1, none⟩ = some (.slice A' k c') := (hOk 1 (by omega)).1
    have hbxk := HBOX2.out.keeps hkk (by simp; omega)
    have hbx1 := hbxk.c1
    clear hbxk
    by_cases hlt : k < m
    · obtain ⟨a, rfl, ha⟩ := (G4.out.keeps (hKk.nil l)).at_ hlt
      have hx := G5.out k hlt
      have hxl := HP.out _ (getD_mem (d := []) (show k < s.per.length by rw [HMM.out]; exact hlt))
      have hf0 : wr.frozen? ⟨g, 1, none⟩ = false := (hOk 1 (by omega)).2
      have htk : (s.per.take k).length = k := by rw [List.length_take, HMM.out]; omega
      have hown0 : OwL IsI [] 22 w2.heap.size wr.drew (ga :: g :: (w.heap.size + 1) :: l) (.slice A' k c') (s.per.take k) := hown.new (Keeps.refl _ _).drew
      have hx0 : IsI wr.drew ((Value.slice A' k c').ownBlock.toList ++ ga :: g :: (w.heap.size + 1) :: l) (V k) (s.per.getD k []) := by
        refine (hx.weak (l' := (Value.slice A' k c').ownBlock.toList ++ ga :: g :: (w.heap.size + 1) :: l) fun y hy => ?_).new hKk.drew
        rcases List.mem_append.1 hy with h1 | h1
        · exact .inr (by have := (hown.blocks y h1).1; omega)
        · rcases List.mem_cons.1 h1 with e | h1
          · exact .inr (by omega)
          · rcases List.mem_cons.1 h1 with e | h1
            · exact .inr (by omega)
            · rcases List.mem_cons.1 h1 with e | h1
              · exact .inr (by omega)
              · exact .inl h1
      have hlx : ∀ y ∈ (Value.slice A' k c').ownBlock.toList ++ ga :: g :: (w.heap.size + 1) :: l, y < wr.drew.heap.size := fun y hy => by
        show y < wr.heap.size
        rcases List.mem_append.1 hy with h1 | h1
        · exact (hown.blocks y h1).2
        · rcases List.mem_cons.1 h1 with e | h1
          · omega
          · rcases List.mem_cons.1 h1 with e | h1
            · omega
            · rcases List.mem_cons.1 h1 with e | h1
              · omega
              · have := HL.out y h1; omega
      have hgb : g ∉ (Value.slice A' k c').ownBlock.toList := fun hm => by have := (hown.blocks g hm).1; omega
      generalize hVk : V k = u at *
      obtain ⟨Au, cu, rfl, _⟩ := hx0.open
      have hts : s.per.take (k + 1) = s.per.take k ++ [s.per.getD k []] := by
        rw [List.take_succ_eq_append_getElem (by rw [HMM.out]; exact hlt)]
        simp [List.getD_eq_getElem?_getD, show k < s.per.length by rw [HMM.out]; exact hlt]
      generalize hpk : s.per.getD k [] = p at *
      have hpl : p.length ≤ 1000000 := by omega
      have hkd : Keeps [g] w2 wr.drew := hkk.drew
      have HOK := Lib.hid hOk
      have HKD := Lib.hid hkd
      have HOWN0 := Lib.hid hown0
      have HX0 := Lib.hid hx0
      have HLX := Lib.hid hlx
      have HTK := Lib.hid htk
      have HTS := Lib.hid hts
      have HXL := Lib.hid hxl
      have HPK := Lib.hid hpk
      have HVK := Lib.hid hVk
      have HGB := Lib.hid hgb
      clear hown0 hx0 hlx htk hts hxl hpk hVk hgb
      clear hown hkk hKk hOk hx hkd
      go_wp2_with fail
      go_region_law (first
        | (have _t := hcp; refine step_push sl_rowsi rfl (.tmp 17) (.tmp 24) rfl (w := wC) (v := .slice A' k c') (by first | (simp [Act.eval]; done) | (simp only [Act.eval, Act.put]; simp; done) | simp [Act.eval, Act.put]) (by first | (simp [Act.eval]; done) | (simp only [Act.eval, Act.put]; simp; done) | simp [Act.eval, Act.put]) hown1 hcp (m := k + 1) (by rw [HTK.out]) (by omega) hkC.size (w0 := w2) (l0 := [g]) (Nat.le_refl _) hkC ?_; intro V2 c2 w41 hown2 hg2 hk41; have hst := hg2.read hgC HGB.out; have hsf := (hg2.frozen (p := ⟨g, 1, none⟩) (lt_of_cell hgC) HGB.out).trans hfC)
        | (refine step_call1 rfl 59 (.tmp 22) #[22] rfl eg (copy_is (l := (Value.slice A' k c').ownBlock.toList ++ ga :: g :: (w.heap.size + 1) :: l) HX0.out hpl) (by first | (simp [Act.eval]; done) | (simp only [Act.eval, Act.put]; simp; done) | simp [Act.eval, Act.put]) ?_; rintro e wC ⟨Ac, cc, rfl, hownC, hkC0⟩; refine ⟨_, rfl, ?_⟩; have hcp := hownC.isL HLX.out; have hkC := HKD.out.trans (hkC0.nil [g]); have hown1 := HOWN0.out.new hkC0; have hgC := hkC0.read (show wr.drew.cell? ⟨g, 1, none⟩ = some (.slice A' k c') from hcg) (by simp); have hfC := (hkC0.frozen (p := ⟨g, 1, none⟩) (show g < wr.heap.size by omega) (by simp)).trans (show wr.drew.frozen? ⟨g, 1, none⟩ = false from hf0); have hgD := ((Keeps.refl [] wC).alloc (.cells #[.slice Ac p.length cc] 22)).read hgC (by simp)))
      all_goals
        have hO2 := ((HOK.out.drew.keep hkC0 (by simp)).keep hg2 HGB.out).set_ (j := 1) (by omega) (.slice V2 (k + 1) c2)
        have hkg : Keeps [g] w41 (w41.setCell ⟨g, 1, none⟩ (.slice V2 (k + 1) c2)) := (Keeps.refl _ _).setCell (by simp) _
        have hown4 := hown2.keeps hkg (fun y hy => by
          rw [List.mem_singleton.1 hy]
          exact ⟨.inl (by simp), fun e => by have := (hown2.lt e).1; omega⟩)
        have hk5 := hk41.trans hkg
        have HO2 := Lib.hid hO2
        have HOWN4 := Lib.hid hown4
        have HK5 := Lib.hid hk5
        clear hO2 hown4 hk5
        clear hown2 hg2 hk41 hkC0 hkg hown1 hkC hcp hownC
        go_wp2_with fail
        go_roundg (m - k)
        case measure => omega
        case rel =>
          refine ⟨k + 1, V2, c2, by omega, by omega, by go_num, ?_, by rw [HTS.out]; exact HOWN4.out, HK5.out⟩
          refine HO2.out.congr fun q hq => ?_
          have : q = 0 ∨ q = 1 := by omega
          rcases this with e | e <;> subst e <;> rfl
    · obtain rfl : k = m := by omega
      have hZk := HZ2.out.keep hkk (by simp; omega)
      have hcg0 : wr.cell? ⟨g, 0, none⟩ = some (.slice (some ⟨ga, 0, none⟩) n c1) := (hOk 0 (by omega)).1
      have hs1 : wr.cell? ⟨w.heap.size + 1, 0, none⟩ = some (.slice none 0 0) := (hZk 0 (by omega)).1
      have hs2 : wr.cell? ⟨w.heap.size + 1, 1, none⟩ = some (.slice none 0 0) := (hZk 1 (by omega)).1
      have hs3 : wr.frozen? ⟨w.heap.size + 1, 0, none⟩ = false := (hZk 0 (by omega)).2
      have hs4 : wr.frozen? ⟨w.heap.size + 1, 1, none⟩ = false := (hZk 1 (by omega)).2
      have hOg := HO1.out.keep hkk (by simp; omega)
      have HKK := Lib.hid hkk
      have HKk := Lib.hid hKk
      have HOWN := Lib.hid hown
      have HOG := Lib.hid hOg
      clear hown hOg
      clear hZk hOk hkk hKk
      go_wp2_with fail
      obtain ⟨hq1, hq2, hkS⟩ := pair_set (.slice (some ⟨ga, 0, none⟩) n c1) (.slice A' k c') hs1 hs2
      have hown2 := HOWN.out.keeps hkS (fun y hy => by
        rw [List.mem_singleton.1 hy]
        refine ⟨.inl (by simp), fun e => ?_⟩
        have := (HOWN.out.lt e).1
        omega)
      rw [List.take_of_length_le (by rw [HMM.out]; omega)] at hown2
      have hOe := HOG.out.keep hkS (by simp; omega)
      have hzS := hkS.size
      refine bodyPost_ret (v := .agg #[.slice (some ⟨ga, 0, none⟩) n c1, .slice A' k c']) (by simp [results, Try.results68, go_sem, hq1, hq2]) rfl ⟨HKk.out.step hkS (by simp), ga, c1, A', c', by omega, by omega, rfl, hc1', hOe, (hown2.weak (fun y hy => .inl (by rcases List.mem_cons.1 hy with h1 | h1 <;> simp [h1]))).low (by omega)⟩
end Go.Proofs.Ytdhadnnakcdfiaa

namespace Go.Proofs.Ytdhadnnakcdfiaa
set_option linter.unusedVariables false
open Go.RowKit

def movF (s : Lin) (v : List Int) : Int × Lin := if InRng 16 (addV s.base v) then (0, ⟨addV s.base v, s.per⟩) else (1, lin0)
set_option maxRecDepth 100000 in
set_option maxHeartbeats 4000000 in
theorem rmoved_is {w : World} {l : List Nat} {u pv vv : Value} {s : Lin} {v : List Int} {n : Nat} (hl : ∀ y ∈ l, y < w.heap.size) (h : IsLin w l u pv s) (hb : VecOk n 16 s.base) (hp : ∀ p ∈ s.per, p.length = n) (hm : s.per.length ≤ 100) (hv : IsI w l vv v) (hvo : VecOk n 16 v) (hn1 : 1 ≤ n) (hn : n ≤ 100) :
    Calls Try.prog 54 #[.agg #[u, pv], vv] w (LinP l (movF s v).1 (movF s v).2 w) := by
  unfold LinP
  have hmy : InRng 16 (addV s.base v) → movF s v = (0, ⟨addV s.base v, s.per⟩) := fun h => if_pos h
  have hmn : ¬ InRng 16 (addV s.base v) → movF s v = (1, lin0) := fun h => if_neg h
  generalize movF s v = mv at *
  have hu := h.1
  obtain ⟨A, c, rfl, _⟩ := hu.open
  have hpp := h.2
  obtain ⟨Ap, cp, V, rfl, _⟩ := hpp
  obtain ⟨B, cb, rfl, hcb, hB, hrb⟩ := hv.open
  have hbl := hb.len
  have hvl := hvo.len
  rw [hvl] at hcb hrb
  have hk1 : Keeps [] w ((w.alloc (.cells #[.slice A n c, .slice Ap s.per.length cp] 29)).alloc (.cells #[.slice none 0 0, .slice none 0 0] 29)) := ((Keeps.refl _ _).alloc _).alloc _
  have hbox : BoxAt ((w.alloc (.cells #[.slice A n c, .slice Ap s.per.length cp] 29)).alloc (.cells #[.slice none 0 0, .slice none 0 0] 29)) w.heap.size (.slice A n c) (.slice Ap s.per.length cp) := (BoxAt.start w _ _ _).new ((Keeps.refl _ _).alloc _)
  have hc0 := hbox.c0
  have hc1 := hbox.c1
  have hz0 : Own ((w.alloc (.cells #[.slice A n c, .slice Ap s.per.length cp] 29)).alloc (.cells #[.slice none 0 0, .slice none 0 0] 29)) (w.heap.size + 1) 2 (fun i => if i = 0 then .slice none 0 0 else .slice none 0 0) := by
    have := own_pair (w := w.alloc (.cells #[.slice A n c, .slice Ap s.per.length cp] 29)) (x := .slice none 0 0) (y := .slice none 0 0) (e := 29)
    simpa using this
  have hcop := rcopy_is (l := (w.heap.size + 1) :: l) (fun y hy => by
    rcases List.mem_cons.1 hy with e | e
    · rw [e]; simp
    · exact Nat.lt_of_lt_of_le (hl y e) hk1.size) ((h.weak (l' := (w.heap.size + 1) :: l) (fun y hy => by
    rcases List.mem_cons.1 hy with e | e
    · exact .inr (by omega)
    · exact .inl e)).new hk1) (by omega) (by omega) (fun p hpm => by rw [hp p hpm]; omega) hm
  unfold CopP at hcop
  rw [hbl] at hcop ⊢
  generalize hmm : s.per.length = m at *
  rw [hvl]
  clear hu
  have H := Lib.hid h
  have HRB := Lib.hid hrb
  have HV := Lib.hid hv
  have HK1 := Lib.hid hk1
  have HL := Lib.hid hl
  have HB := Lib.hid hb
  have HVO := Lib.hid hvo
  have HP := Lib.hid hp
  have HMM := Lib.hid hmm
  have HBL := Lib.hid hbl
  have HVL := Lib.hid hvl
  have HZ0 := Lib.hid hz0
  have HCOP := Lib.hid hcop
  have HMY := Lib.hid hmy
  have HMN := Lib.hid hmn
  clear h hrb hv hk1 hl hb hvo hp hmm hbl hvl hz0 hcop hmy hmn
  clear hbox
  go_enter Try.func54, Try.ntmps54
  go_wp2_with fail
  refine HCOP.out.mono ?_
  rintro e w1 ⟨hk2, ga, c1, A2, c2, hga, hga', rfl, hc1', hO, hper⟩
  have hz1 := hk2.size
  simp only [World.size_alloc] at hga hz1
  have hk3 := HK1.out.trans hk2
  have hz0 := HZ0.out.keep hk2 (by simp)
  have hal : Keeps [] w1 (w1.alloc (.cells #[.slice (some ⟨ga, 0, none⟩) n c1, .slice A2 m c2] 29)) := (Keeps.refl _ _).alloc _
  have hpr := own_pair (w := w1) (x := .slice (some ⟨ga, 0, none⟩) n c1) (y := .slice A2 m c2) (e := 29)
  have hO1 := hO.keep hal (by simp)
  have hz2 := hz0.keep hal (by simp)
  have hk4 := hk3.trans hal
  have hper2 := hper.new hal
  have HPR := Lib.hid hpr
  have HO1 := Lib.hid hO1
  have HZ2 := Lib.hid hz2
  have HK4 := Lib.hid hk4
  have HPER2 := Lib.hid hper2
  clear hpr hO1 hz2 hk4 hper2
  clear hO hk2 hk3 hz0 hal hper hc0 hc1
  go_wp2_with fail
  generalize hw2 : w1.alloc (.cells #[.slice (some ⟨ga, 0, none⟩) n c1, .slice A2 m c2] 29) = w2 at *
  have hw2z : w1.heap.size + 1 = w2.heap.size := by rw [← hw2]; simp
  clear hw2
  generalize w1.heap.size = g at *
  go_loopg [7] (n + 1) (fun gh iv wr => ∃ i : Nat, n + 1 ≤ i + gh ∧ i ≤ n ∧ iv = .int .i64 (i : Int) ∧ Own wr ga n (fun q => .int .i64 (if q < i then s.base.getD q 0 + v.getD q 0 else s.base.getD q 0)) ∧ Keeps [ga] w2 wr)
  case atStart => exact ⟨0, by omega, by omega, rfl, HO1.out.congr fun q hq => by simp, Keeps.refl _ _⟩
  case round =>
    obtain ⟨i, hgh, hi, rfl, hOi, hki⟩ := hrel
    have hpri := HPR.out.keep hki (by simp; omega)
    have hcg : wr.cell? ⟨g, 0, none⟩ = some (.slice (some ⟨ga, 0, none⟩) n c1) := (hpri 0 (by omega)).1
    have hKi := (HK4.out.step hki (by simp; omega) : Keeps [] w wr)
    have hzi := hki.size
    have HOI := Lib.hid hOi
    have HKI := Lib.hid hki
    clear hOi hki
    have HPRI := Lib.hid hpri
    clear hpri
    by_cases hlt : i < n
    · obtain ⟨bb, rfl, hbb0⟩ := (HRB.out.keeps (hKi.nil l)).at_ hlt
      have hbb : wr.cell? (bb.add i) = some (.int .i64 (v.getD i 0)) := hbb0
      have hr1 := getD_rng HB.out.rng (i := i) (by rw [HBL.out]; exact hlt)
      have hr2 := getD_rng HVO.out.rng (i := i) (by rw [HVL.out]; exact hlt)
      have ho1 : wr.cell? ⟨ga, i, none⟩ = some (.int .i64 (s.base.getD i 0)) := by have := (HOI.out i hlt).1; simpa using this
      have ho2 : wr.frozen? ⟨ga, i, none⟩ = false := (HOI.out i hlt).2
      generalize hx : s.base.getD i 0 = x at *
      generalize hy : v.getD i 0 = y at *
      have hw3 : IntKind.i64.wrap (x + y) = x + y := IntWalk.i64_in _ (by omega)
      have HX := Lib.hid hx
      have HY := Lib.hid hy
      clear hx hy
      have HKi := Lib.hid hKi
      clear hKi hbb0
      go_wp2_with fail
      go_still_tail 11, (by kernel_rfl)
      change wpList _ _ _ _ _ wr.drew
      go_wp2_with fail
      go_roundg (n - i)
      case measure => omega
      case rel =>
        refine ⟨i + 1, by omega, by omega, by go_num, ?_, HKI.out.drew.setCell (by simp) _⟩
        refine (HOI.out.drew.updInt hlt (x + y)).congr fun q hq => ?_
        show Value.int .i64 _ = Value.int .i64 _
        congr 1
        by_cases e : q = i
        · subst e; rw [upd_same, if_pos (by omega), HX.out, HY.out]
        · rw [upd_ne _ _ e]
          by_cases e2 : q < i
          · rw [if_pos e2, if_pos (by omega)]
          · rw [if_neg e2, if_neg (by omega)]
    · obtain rfl : i = n := by omega
      have hsum : IsI wr ((w.heap.size + 1) :: l) (.slice (some ⟨ga, 0, none⟩) i c1) (addV s.base v) := HOI.out.isI (f := fun q => if q < i then s.base.getD q 0 + v.getD q 0 else s.base.getD q 0) (by
        intro hm
        rcases List.mem_cons.1 hm with e | hm
        · omega
        · have := HL.out _ hm; omega) hc1' (by rw [addV_len, HBL.out]) (fun q hq => by rw [addV_get _ _ (by rw [HBL.out]; exact hq), if_pos hq])
      have hsl : (addV s.base v).length = i := by rw [addV_len, HBL.out]
      have hcall := rnumbers_is 16 hsum (by rw [hsl]; omega)
      unfold BoolP at hcall
      have hpk := HPER2.out.keeps HKI.out (fun y hy => by
        rw [List.mem_singleton.1 hy]
        exact ⟨.inl (by simp), fun e => by have := (HPER2.out.lt e).1; omega⟩)
      have HKi := Lib.hid hKi
      have hqt : numB (addV s.base v) 16 = true → mv = (0, ⟨addV s.base v, s.per⟩) := fun h => HMY.out (numB_true.1 h)
      have hqf : numB (addV s.base v) 16 = false → mv = (1, lin0) := fun h => HMN.out (numB_false.1 h)
      generalize numB (addV s.base v) 16 = r at *
      have HSUM := Lib.hid hsum
      have HSL := Lib.hid hsl
      have HCALL := Lib.hid hcall
      have HPK := Lib.hid hpk
      have HQT := Lib.hid hqt
      have HQF := Lib.hid hqf
      clear hsum hsl hcall hpk hqt hqf
      clear hKi
      go_wp2_with fail
      refine HCALL.out.mono ?_
      rintro e w3 ⟨rfl, hk3⟩
      have hz3 := hk3.size
      have hpr3 := HPRI.out.keep hk3 (by simp)
      have hZ3 := (HZ2.out.keep (HKI.out.trans (hk3.nil _)) (by simp; omega))
      have hK3 := HKi.out.trans hk3
      have hsum3 := HSUM.out.new hk3
      have hpk3 := HPK.out.new hk3
      have hg0 : w3.cell? ⟨g, 0, none⟩ = some (.slice (some ⟨ga, 0, none⟩) i c1) := (hpr3 0 (by omega)).1
      have hg1 : w3.cell? ⟨g, 1, none⟩ = some (.slice A2 m c2) := (hpr3 1 (by omega)).1
      have hs1 : w3.cell? ⟨w.heap.size + 1, 0, none⟩ = some (.slice none 0 0) := (hZ3 0 (by omega)).1
      have hs2 : w3.cell? ⟨w.heap.size + 1, 1, none⟩ = some (.slice none 0 0) := (hZ3 1 (by omega)).1
      have hs3 : w3.frozen? ⟨w.heap.size + 1, 0, none⟩ = false := (hZ3 0 (by omega)).2
      have hs4 : w3.frozen? ⟨w.heap.size + 1, 1, none⟩ = false := (hZ3 1 (by omega)).2
      have HPR3 := Lib.hid hpr3
      have HK3 := Lib.hid hK3
      have HSUM3 := Lib.hid hsum3
      have HZ3 := Lib.hid hZ3
      have HPK3 := Lib.hid hpk3
      clear hpr3 hK3 hsum3 hZ3 hpk3
      clear hk3 hcg
      cases r with
      | false =>
        have hmv := HQF.out (by first | rfl | trivial)
        have HMV := Lib.hid hmv
        clear hmv
        go_wp2_with fail
        obtain ⟨hq1, hq2, hkS⟩ := pair_set (.slice none 0 0) (.slice none 0 0) hs1 hs2
        refine bodyPost_ret (v := .tuple #[.agg #[.slice none 0 0, .slice none 0 0], .int .i64 1]) (by simp [results, Try.results54, go_sem, hq1, hq2]) rfl ?_
        rw [HMV.out]
        exact ⟨HK3.out.step hkS (by simp), none, 0, 0, none, 0, 0, rfl, rfl, rfl, IsL.nil, IsL.nil⟩
      | true =>
        have hmv := HQT.out (by first | rfl | trivial)
        have HMV := Lib.hid hmv
        clear hmv
        go_wp2_with fail
        obtain ⟨hq1, hq2, hkS⟩ := pair_set (.slice (some ⟨ga, 0, none⟩) i c1) (.slice A2 m c2) hs1 hs2
        have hfin := Rok.keeps (R := IsI) HSUM3.out (hkS.more (by simp))
        have hown2 : OwL IsI [] 22 (ga + 1) w3 ((w.heap.size + 1) :: l) (.slice A2 m c2) s.per := HPK3.out.weak (fun y hy => .inl (List.mem_cons_of_mem _ hy))
        have hper4 := (Rok.keeps (R := IsII) (hown2.isL (fun y hy => by
          rcases List.mem_cons.1 hy with e | e
          · omega
          · have := HL.out y e; omega)) (hkS.more (by simp)) : IsII _ ((w.heap.size + 1) :: l) (.slice A2 m c2) s.per)
        refine bodyPost_ret (v := .tuple #[.agg #[.slice (some ⟨ga, 0, none⟩) i c1, .slice A2 m c2], .int .i64 0]) (by simp [results, Try.results54, go_sem, hq1, hq2]) rfl ?_
        rw [HMV.out]
        exact ⟨HK3.out.step hkS (by simp), some ⟨ga, 0, none⟩, i, c1, A2, m, c2, HSL.out.symm, HMM.out.symm, rfl, Rok.weak (R := IsI) hfin (fun y hy => .inl (by simp [hy])), Rok.weak (R := IsII) hper4 (fun y hy => .inl (by simp [hy]))⟩

set_option maxRecDepth 100000 in
set_option maxHeartbeats 8000000 in
theorem rshift_is {w : World} {l : List Nat} {n : Int} {u pv vv : Value} {s : Lin} {v : List Int} (hl : ∀ y ∈ l, y < w.heap.size) (h : IsLin w l u pv s) (hs : s.Small) (hv : IsI w l vv v) (hvn : v.length ≤ 1000000) :
    Calls Try.prog 28 #[.int .i64 n, .agg #[u, pv], vv] w (LinP l (shfF n s v).1 (shfF n s v).2 w) := by
  unfold LinP
  have hmv0 : shfF n s v = if chkL n [s] ≠ 0 then (chkL n [s], lin0) else if (v.length : Int) ≠ n then (3, lin0) else if ¬ InRng 16 v then (2, lin0) else if ¬ InRng 16 (addV s.base v) then (1, lin0) else (0, ⟨addV s.base v, s.per⟩) := rfl
  have hmo : movF s v = if InRng 16 (addV s.base v) then (0, ⟨addV s.base v, s.per⟩) else (1, lin0) := rfl
  generalize shfF n s v = mv at *
  obtain ⟨A, c, rfl, _⟩ := h.1.open
  have hpp := h.2
  obtain ⟨Ap, cp, V, rfl, _⟩ := hpp
  obtain ⟨B, cb, rfl, _⟩ := hv.open
  have hsb := hs.b
  have hsm := hs.m
  generalize hbl : s.base.length = nb at *
  generalize hmm : s.per.length = m at *
  generalize hvl : v.length = vl at *
  have hk1 : Keeps [] w ((w.alloc (.cells #[.slice A nb c, .slice Ap m cp] 29)).alloc (.cells #[.slice none 0 0, .slice none 0 0] 29)) := ((Keeps.refl _ _).alloc _).alloc _
  have hbox : BoxAt ((w.alloc (.cells #[.slice A nb c, .slice Ap m cp] 29)).alloc (.cells #[.slice none 0 0, .slice none 0 0] 29)) w.heap.size (.slice A nb c) (.slice Ap m cp) := (BoxAt.start w _ _ _).new ((Keeps.refl _ _).alloc _)
  have hz0 : Own ((w.alloc (.cells #[.slice A nb c, .slice Ap m cp] 29)).alloc (.cells #[.slice none 0 0, .slice none 0 0] 29)) (w.heap.size + 1) 2 (fun i => if i = 0 then .slice none 0 0 else .slice none 0 0) := by
    have := own_pair (w := w.alloc (.cells #[.slice A nb c, .slice Ap m cp] 29)) (x := .slice none 0 0) (y := .slice none 0 0) (e := 29)
    simpa using this
  have hl0 : ∀ y ∈ (w.heap.size + 1) :: l, y < ((w.alloc (.cells #[.slice A nb c, .slice Ap m cp] 29)).alloc (.cells #[.slice none 0 0, .slice none 0 0] 29)).heap.size := fun y hy => by
    rcases List.mem_cons.1 hy with e | e
    · rw [e]; simp
    · exact Nat.lt_of_lt_of_le (hl y e) hk1.size
  have hw : ∀ y ∈ (w.heap.size + 1) :: l, y ∈ l ∨ w.heap.size ≤ y := fun y hy => by
    rcases List.mem_cons.1 hy with e | e
    · exact .inr (by omega)
    · exact .inl e
  have hlin := (h.weak hw).new hk1
  have hvx : IsI _ ((w.heap.size + 1) :: l) (.slice B vl cb) v := (hv.weak hw).new hk1
  have H := Lib.hid h
  have HBOX := Lib.hid hbox
  have HV := Lib.hid hv
  have HK1 := Lib.hid hk1
  have HL := Lib.hid hl
  have HBL := Lib.hid hbl
  have HMM := Lib.hid hmm
  have HVL := Lib.hid hvl
  have HZ0 := Lib.hid hz0
  have HLIN := Lib.hid hlin
  have HVX := Lib.hid hvx
  have HL0 := Lib.hid hl0
  have HS := Lib.hid hs
  have HMV0 := Lib.hid hmv0
  have HMO := Lib.hid hmo
  clear h hbox hv hk1 hl hbl hmm hvl hz0 hlin hvx hl0 hs hmv0 hmo
  clear hw
  go_enter Try.func28, Try.ntmps28
  go_upto_region 1 with fail
  generalize (w.alloc (.cells #[.slice A nb c, .slice Ap m cp] 29)).alloc (.cells #[.slice none 0 0, .slice none 0 0] 29) = wb at *
  have hz9 := HZ0.out.keep (Keeps.refl [] wb) (by simp)
  have hbx9 := HBOX.out.new (Keeps.refl [] wb)
  have hc0 := hbx9.c0
  have hc1 := hbx9.c1
  have hs1 : wb.cell? ⟨w.heap.size + 1, 0, none⟩ = some (.slice none 0 0) := (hz9 0 (by omega)).1
  have hs2 : wb.cell? ⟨w.heap.size + 1, 1, none⟩ = some (.slice none 0 0) := (hz9 1 (by omega)).1
  have hs3 : wb.frozen? ⟨w.heap.size + 1, 0, none⟩ = false := (hz9 0 (by omega)).2
  have hs4 : wb.frozen? ⟨w.heap.size + 1, 1, none⟩ = false := (hz9 1 (by omega)).2
  clear hz9 hbx9
  have hck := rcheck_is (n := n) (ss := [s]) (IsLins.one (t := 29) HL0.out HLIN.out) (by simpa using HS.out) (by simp)
  have hza : chkL n [s] = 0 ↔ GoodAll n [s] := chkL_zero
  unfold CkPost at hck
  have hal : Keeps [] wb (wb.alloc (.cells #[.slice A nb c, .slice Ap m cp] 29)) := (Keeps.refl _ _).alloc _
  generalize chkL n [s] = za at *
  by_cases hz1 : za = 0
  · subst hz1
    have hga := hza.1 rfl
    have hlo := hga.lo
    have hhi := hga.hi
    obtain ⟨q, hqn⟩ : ∃ q : Nat, n = (q : Int) := ⟨n.toNat, by omega⟩
    have hgd : Good q s := by simpa [hqn] using hga.all s (by simp)
    subst hqn
    have hq4 : q ≤ 4 := by omega
    have hq1 : 1 ≤ q := by omega
    have HCK := Lib.hid hck
    have HAL := Lib.hid hal
    have HZA := Lib.hid hza
    have HGA := Lib.hid hga
    have HGD := Lib.hid hgd
    clear hck hal hza hga hgd
    clear hlo hhi
    go_wp2_with fail
    refine HCK.out.mono ?_
    rintro e w1 ⟨rfl, hk2⟩
    have hk2 := HAL.out.trans hk2
    clear hc0 hc1 hs1 hs2 hs3 hs4
    have hz9 := HZ0.out.keep hk2 (by simp)
    have hbx9 := HBOX.out.new hk2
    have hc0 := hbx9.c0
    have hc1 := hbx9.c1
    have hs1 : w1.cell? ⟨w.heap.size + 1, 0, none⟩ = some (.slice none 0 0) := (hz9 0 (by omega)).1
    have hs2 : w1.cell? ⟨w.heap.size + 1, 1, none⟩ = some (.slice none 0 0) := (hz9 1 (by omega)).1
    have hs3 : w1.frozen? ⟨w.heap.size + 1, 0, none⟩ = false := (hz9 0 (by omega)).2
    have hs4 : w1.frozen? ⟨w.heap.size + 1, 1, none⟩ = false := (hz9 1 (by omega)).2
    clear hz9 hbx9
    by_cases hln : (vl : Int) = (q : Int)
    · have d0 : ((vl : Int) != (q : Int)) = false := by rw [hln]; simp
      obtain rfl : vl = q := by omega
      have hnu := rnumbers_is 16 (HVX.out.new hk2) (by rw [HVL.out]; exact hvn)
      unfold BoolP at hnu
      have hqt : numB v 16 = true → VecOk vl 16 v := fun h => ⟨HVL.out, numB_true.1 h⟩
      have hqf : numB v 16 = false → ¬ InRng 16 v := numB_false.1
      generalize numB v 16 = r at *
      have HNU := Lib.hid hnu
      have HK2 := Lib.hid hk2
      have HQT := Lib.hid hqt
      have HQF := Lib.hid hqf
      clear hk2 hqt hqf
      clear hnu
      cases r with
      | false =>
        have hmv : mv = (2, lin0) := by
          rw [HMV0.out, if_neg (by simp), if_neg (by first | simp | (rw [HVL.out]; simp)), if_pos (HQF.out (by first | rfl | trivial))]
        have HMV := Lib.hid hmv
        clear hmv
        go_wp2_with fail
        refine HNU.out.mono ?_
        rintro e w2 ⟨rfl, hk3⟩
        have hk4 := HK2.out.trans hk3
        clear hc0 hc1 hs1 hs2 hs3 hs4
        have hz9 := HZ0.out.keep hk4 (by simp)
        have hbx9 := HBOX.out.new hk4
        have hc0 := hbx9.c0
        have hc1 := hbx9.c1
        have hs1 : w2.cell? ⟨w.heap.size + 1, 0, none⟩ = some (.slice none 0 0) := (hz9 0 (by omega)).1
        have hs2 : w2.cell? ⟨w.heap.size + 1, 1, none⟩ = some (.slice none 0 0) := (hz9 1 (by omega)).1
        have hs3 : w2.frozen? ⟨w.heap.size + 1, 0, none⟩ = false := (hz9 0 (by omega)).2
        have hs4 : w2.frozen? ⟨w.heap.size + 1, 1, none⟩ = false := (hz9 1 (by omega)).2
        clear hz9 hbx9
        have HK4 := Lib.hid hk4
        clear hk4
        clear hk3
        go_wp2_with fail
        obtain ⟨hq1, hq2, hkS⟩ := pair_set (.slice none 0 0) (.slice none 0 0) hs1 hs2
        refine bodyPost_ret (v := .tuple #[.agg #[.slice none 0 0, .slice none 0 0], .int .i64 2]) (by simp [results, Try.results28, go_sem, hq1, hq2]) rfl ?_
        rw [HMV.out]
        exact ⟨(HK1.out.trans HK4.out).step hkS (by simp), none, 0, 0, none, 0, 0, rfl, rfl, rfl, IsL.nil, IsL.nil⟩
      | true =>
        have hvo := HQT.out (by first | rfl | trivial)
        have hmv : mv = movF s v := by
          have hir : InRng 16 v := hvo.rng
          rw [HMV0.out, if_neg (by simp), if_neg (by first | simp | (rw [HVL.out]; simp)), if_neg (fun h => h hir), HMO.out]
          by_cases hi : InRng 16 (addV s.base v)
          · rw [if_pos hi, if_neg (fun h => h hi)]
          · rw [if_neg hi, if_pos hi]
        have hmov := fun W (k : Keeps [] wb W) => rmoved_is (n := vl) (fun y hy => Nat.lt_of_lt_of_le (HL0.out y hy) k.size) (HLIN.out.new k) HGD.out.base (fun p hp => (HGD.out.per p hp).len) (by have := HGD.out.few; omega) (HVX.out.new k) hvo hq1 (by omega)
        unfold LinP at hmov
        rw [← hmv] at hmov
        have HMV := Lib.hid hmv
        have HMOV := Lib.hid hmov
        have HVO := Lib.hid hvo
        clear hmv hmov hvo
        go_wp2_with fail
        refine HNU.out.mono ?_
        rintro e w2 ⟨rfl, hk3⟩
        have hk4 := HK2.out.trans hk3
        have hmo2 := HMOV.out w2 hk4
        clear hc0 hc1 hs1 hs2 hs3 hs4
        have hz9 := HZ0.out.keep hk4 (by simp)
        have hbx9 := HBOX.out.new hk4
        have hc0 := hbx9.c0
        have hc1 := hbx9.c1
        have hs1 : w2.cell? ⟨w.heap.size + 1, 0, none⟩ = some (.slice none 0 0) := (hz9 0 (by omega)).1
        have hs2 : w2.cell? ⟨w.heap.size + 1, 1, none⟩ = some (.slice none 0 0) := (hz9 1 (by omega)).1
        have hs3 : w2.frozen? ⟨w.heap.size + 1, 0, none⟩ = false := (hz9 0 (by omega)).2
        have hs4 : w2.frozen? ⟨w.heap.size + 1, 1, none⟩ = false := (hz9 1 (by omega)).2
        clear hz9 hbx9
        have HMO2 := Lib.hid hmo2
        have HK4 := Lib.hid hk4
        clear hk4
        clear hk3 hmo2
        go_wp2_with fail
        refine HMO2.out.mono ?_
        rintro e w3 ⟨hk5, A3, n3, c3, A4, m3, c4, hn3, hm3, rfl, hI3, hI4⟩
        have hk6 := HK4.out.trans hk5
        clear hc0 hc1 hs1 hs2 hs3 hs4
        have hz9 := HZ0.out.keep hk6 (by simp)
        have hbx9 := HBOX.out.new hk6
        have hc0 := hbx9.c0
        have hc1 := hbx9.c1
        have hs1 : w3.cell? ⟨w.heap.size + 1, 0, none⟩ = some (.slice none 0 0) := (hz9 0 (by omega)).1
        have hs2 : w3.cell? ⟨w.heap.size + 1, 1, none⟩ = some (.slice none 0 0) := (hz9 1 (by omega)).1
        have hs3 : w3.frozen? ⟨w.heap.size + 1, 0, none⟩ = false := (hz9 0 (by omega)).2
        have hs4 : w3.frozen? ⟨w.heap.size + 1, 1, none⟩ = false := (hz9 1 (by omega)).2
        clear hz9 hbx9
        have HK6 := Lib.hid hk6
        have HN3 := Lib.hid hn3
        have HM3 := Lib.hid hm3
        have HI3 := Lib.hid hI3
        have HI4 := Lib.hid hI4
        clear hk6 hn3 hm3 hI3 hI4
        clear hk5
        go_wp2_with fail
        obtain ⟨hq1, hq2, hkS⟩ := pair_set (.slice A3 n3 c3) (.slice A4 m3 c4) hs1 hs2
        have hf1 := Rok.keeps (R := IsI) HI3.out (hkS.more (by simp))
        have hf2 := Rok.keeps (R := IsII) HI4.out (hkS.more (by simp))
        refine bodyPost_ret (v := .tuple #[.agg #[.slice A3 n3 c3, .slice A4 m3 c4], .int .i64 mv.1]) (by simp [results, Try.results28, go_sem, hq1, hq2]) rfl ⟨(HK1.out.trans HK6.out).step hkS (by simp), A3, n3, c3, A4, m3, c4, HN3.out, HM3.out, rfl, Rok.weak (R := IsI) hf1 (fun y hy => .inl (by simp [hy])), Rok.weak (R := IsII) hf2 (fun y hy => .inl (by simp [hy]))⟩
    · have d0 : ((vl : Int) != (q : Int)) = true := by simpa using hln
      have hmv : mv = (3, lin0) := by
        rw [HMV0.out, if_neg (by simp), if_pos (by first | exact hln | (rw [HVL.out]; exact hln))]
      have HMV := Lib.hid hmv
      have HK2 := Lib.hid hk2
      have HLN := Lib.hid hln
      clear hmv hk2 hln
      go_wp2_with fail
      obtain ⟨hq1, hq2, hkS⟩ := pair_set (.slice none 0 0) (.slice none 0 0) hs1 hs2
      refine bodyPost_ret (v := .tuple #[.agg #[.slice none 0 0, .slice none 0 0], .int .i64 3]) (by simp [results, Try.results28, go_sem, hq1, hq2]) rfl ?_
      rw [HMV.out]
      exact ⟨(HK1.out.trans HK2.out).step hkS (by simp), none, 0, 0, none, 0, 0, rfl, rfl, rfl, IsL.nil, IsL.nil⟩
  · have d1 : (za != 0) = true := by simpa using hz1
    have hmv : mv = (za, lin0) := by rw [HMV0.out, if_pos hz1]
    have HCK := Lib.hid hck
    have HAL := Lib.hid hal
    have HZA := Lib.hid hza
    have HZ1 := Lib.hid hz1
    have HMV := Lib.hid hmv
    clear hck hal hza hz1 hmv
    go_wp2_with fail
    refine HCK.out.mono ?_
    rintro e w1 ⟨rfl, hk2⟩
    have hk2 := HAL.out.trans hk2
    clear hc0 hc1 hs1 hs2 hs3 hs4
    have hz9 := HZ0.out.keep hk2 (by simp)
    have hbx9 := HBOX.out.new hk2
    have hc0 := hbx9.c0
    have hc1 := hbx9.c1
    have hs1 : w1.cell? ⟨w.heap.size + 1, 0, none⟩ = some (.slice none 0 0) := (hz9 0 (by omega)).1
    have hs2 : w1.cell? ⟨w.heap.size + 1, 1, none⟩ = some (.slice none 0 0) := (hz9 1 (by omega)).1
    have hs3 : w1.frozen? ⟨w.heap.size + 1, 0, none⟩ = false := (hz9 0 (by omega)).2
    have hs4 : w1.frozen? ⟨w.heap.size + 1, 1, none⟩ = false := (hz9 1 (by omega)).2
    clear hz9 hbx9
    have HK2 := Lib.hid hk2
    clear hk2
    go_wp2_with fail
    obtain ⟨hq1, hq2, hkS⟩ := pair_set (.slice none 0 0) (.slice none 0 0) hs1 hs2
    refine bodyPost_ret (v := .tuple #[.agg #[.slice none 0 0, .slice none 0 0], .int .i64 za]) (by simp [results, Try.results28, go_sem, hq1, hq2]) rfl ?_
    rw [HMV.out]
    exact ⟨(HK1.out.trans HK2.out).step hkS (by simp), none, 0, 0, none, 0, 0, rfl, rfl, rfl, IsL.nil, IsL.nil⟩
end Go.Proofs.Ytdhadnnakcdfiaa

namespace Go.Proofs.Ytdhadnnakcdfiaa
set_option linter.unusedVariables false
open Go.RowKit

theorem eq_of_rows {xs ys : List (List Int)} (hl : ys.length = xs.length) (h : ∀ i, i < xs.length → xs.getD i [] = ys.getD i []) : xs = ys := by
  refine List.ext_getElem hl.symm fun i h1 h2 => ?_
  have := h i h1
  simpa [List.getD_eq_getElem?_getD, h1, h2] using this

set_option maxHeartbeats 1000000 in
theorem sameall_is {w : World} {l : List Nat} {av bv : Value} {xs ys : List (List Int)} (ha : IsII w l av xs) (hb : IsII w l bv ys) (hn : xs.length ≤ 1000000) (hm : ys.length ≤ 1000000) (hx : ∀ x ∈ xs, x.length ≤ 1000000) (hy : ∀ y ∈ ys, y.length ≤ 1000000) :
    Calls Try.prog 55 #[av, bv] w (RetB (decide (xs = ys)) w) := by
  unfold RetB
  obtain ⟨A, c, U, rfl, _, _, h1, h2⟩ := ha
  obtain ⟨B, c', V, rfl, _, _, h3, h4⟩ := hb
  by_cases hl : ys.length = xs.length
  · have hyes := eq_of_rows hl
    rw [hl] at h3 h4 ⊢
    have hx' : ∀ i, i < xs.length → (xs.getD i []).length ≤ 1000000 := fun i hi => hx _ (getD_mem hi)
    have hy' : ∀ i, i < xs.length → (ys.getD i []).length ≤ 1000000 := fun i hi => hy _ (getD_mem (by omega))
    generalize hnn : xs.length = n at *
    have H1 := Lib.hid h1
    have H2 := Lib.hid h2
    have H3 := Lib.hid h3
    have H4 := Lib.hid h4
    have HX := Lib.hid hx
    have HY := Lib.hid hy
    have HNN := Lib.hid hnn
    have HL := Lib.hid hl
    have HYES := Lib.hid hyes
    have HX' := Lib.hid hx'
    have HY' := Lib.hid hy'
    clear h1 h2 h3 h4 hx hy hnn hl hyes hx' hy'
    clear hm
    go_enter Try.func55, Try.ntmps55
    go_wp2_with fail
    go_loopg [5] (n + 1) (fun gh iv wr => ∃ k : Nat, n + 1 ≤ k + gh ∧ k ≤ n ∧ iv = .int .i64 (k : Int) ∧ (∀ i, i < k → xs.getD i [] = ys.getD i []) ∧ Keeps [] w wr)
    case atStart => exact ⟨0, by omega, by omega, rfl, fun i hi => by omega, Keeps.refl _ _⟩
    case round =>
      obtain ⟨k, hgh, hk, rfl, hs, hkr⟩ := hrel
      have HS := Lib.hid hs
      have HKR := Lib.hid hkr
      clear hs hkr
      by_cases hlt : k < n
      · obtain ⟨pa, rfl, hpa⟩ := (H1.out.keeps (HKR.out.nil l)).at_ hlt
        obtain ⟨pb, rfl, hpb⟩ := (H3.out.keeps (HKR.out.nil l)).at_ hlt
        have hc := fun W (k' : Keeps [] w W) => same_is (IsI.new (H2.out k hlt) k') (IsI.new (H4.out k hlt) k') (HX'.out k hlt) (HY'.out k hlt)
        generalize hq : decide (xs.getD k [] = ys.getD k []) = q at *
        have HC := Lib.hid hc
        have HQ := Lib.hid hq
        clear hc hq
        cases q with
        | true =>
          go_wp2_with fail
          go_quiet (refine Calls.quiet_of (HC.out _ (HKR.out.drewN _)))
          go_wp2_with fail
          go_roundg (n - k)
          case measure => omega
          case rel => exact ⟨k + 1, by omega, by omega, by go_num, fun i hi => by
            by_cases e : i = k
            · subst e; exact of_decide_eq_true HQ.out
            · exact HS.out i (by omega), HKR.out.drewN _⟩
        | false =>
          have hd : decide (xs = ys) = false := decide_eq_false fun h => by
            have := of_decide_eq_false HQ.out
            exact this (by rw [h])
          have HD := Lib.hid hd
          clear hd
          go_wp2_with fail
          go_quiet (refine Calls.quiet_of (HC.out _ (HKR.out.drewN _)))
          go_wp2_with fail
          go_ret
          exact ⟨ret_bo HD.out.symm, HKR.out.drewN _⟩
      · obtain rfl : k = n := by omega
        have hd : decide (xs = ys) = true := decide_eq_true (HYES.out HS.out)
        have HD := Lib.hid hd
        clear hd
        go_wp2_with fail
        go_ret
        exact ⟨ret_bo HD.out.symm, HKR.out⟩
  · have hd : decide (xs = ys) = false := decide_eq_false fun h => hl (by rw [h])
    have hne : ((xs.length : Int) != (ys.length : Int)) = true := by rw [bne_iff_ne]; omega
    generalize xs.length = n at *
    generalize ys.length = m at *
    have H1 := Lib.hid h1
    have H2 := Lib.hid h2
    have H3 := Lib.hid h3
    have H4 := Lib.hid h4
    have HX := Lib.hid hx
    have HY := Lib.hid hy
    have HD := Lib.hid hd
    clear h1 h2 h3 h4 hx hy hd
    go_enter Try.func55, Try.ntmps55
    go_wp2_with fail
    go_ret
    exact ⟨ret_bo HD.out.symm, Keeps.refl _ _⟩
end Go.Proofs.Ytdhadnnakcdfiaa

namespace Go.Proofs.Ytdhadnnakcdfiaa
set_option linter.unusedVariables false
open Go.RowKit

theorem rb3 {w : World} {u v u' v' z1 z2 : Value} {t : TypeId} : BoxAt (((w.alloc (.cells #[u, v] t)).alloc (.cells #[u', v'] t)).alloc (.cells #[z1, z2] t)) w.heap.size u v ∧ BoxAt (((w.alloc (.cells #[u, v] t)).alloc (.cells #[u', v'] t)).alloc (.cells #[z1, z2] t)) (w.heap.size + 1) u' v' ∧ Own (((w.alloc (.cells #[u, v] t)).alloc (.cells #[u', v'] t)).alloc (.cells #[z1, z2] t)) (w.heap.size + 1 + 1) 2 (fun i => if i = 0 then z1 else z2) := by
  refine ⟨(BoxAt.start w u v t).new (((Keeps.refl _ _).alloc _).alloc _), ?_, ?_⟩
  · have := (BoxAt.start (w.alloc (.cells #[u, v] t)) u' v' t).new ((Keeps.refl _ _).alloc (.cells #[z1, z2] t))
    simpa using this
  · have := own_pair (w := (w.alloc (.cells #[u, v] t)).alloc (.cells #[u', v'] t)) (x := z1) (y := z2) (e := t)
    simpa using this
set_option maxRecDepth 100000 in
set_option maxHeartbeats 16000000 in
theorem rsum_is {w : World} {l : List Nat} {n : Int} {u pv u' pv' : Value} {a b : Lin} (hl : ∀ y ∈ l, y < w.heap.size) (h : IsLin w l u pv a) (ha : a.Small) (h' : IsLin w l u' pv' b) (hb : b.Small) :
    Calls Try.prog 31 #[.int .i64 n, .agg #[u, pv], .agg #[u', pv']] w (LinP l (sumF n a b).1 (sumF n a b).2 w) := by
  unfold LinP
  have hmv0 : sumF n a b = if chk2 n a b ≠ 0 then (chk2 n a b, lin0) else if ¬ InRng 16 (addV a.base b.base) then (1, lin0) else if 3 < (putF a.per b.per).length then (1, lin0) else (0, ⟨addV a.base b.base, putF a.per b.per⟩) := rfl
  have hck2 : chk2 n a b = if chkL n [a] = 0 then chkL n [b] else chkL n [a] := by unfold chk2; congr
  have hmo : movF a b.base = if InRng 16 (addV a.base b.base) then (0, ⟨addV a.base b.base, a.per⟩) else (1, lin0) := rfl
  have eg := enters_of Try.func33 (by kernel_rfl) rfl
  generalize sumF n a b = mv at *
  obtain ⟨A, c, rfl, _⟩ := h.1.open
  have hp := h.2
  obtain ⟨Ap, cp, V, rfl, _⟩ := hp
  obtain ⟨B, d, rfl, _⟩ := h'.1.open
  have hp' := h'.2
  obtain ⟨Bp, dp, V2, rfl, _⟩ := hp'
  have hsab := ha.b
  have hsam := ha.m
  have hsbb := hb.b
  have hsbm := hb.m
  generalize han : a.base.length = an at *
  generalize ham : a.per.length = am at *
  generalize hbn : b.base.length = bn at *
  generalize hbm : b.per.length = bm at *
  have hk0 : Keeps [] w (((w.alloc (.cells #[.slice A an c, .slice Ap am cp] 29)).alloc (.cells #[.slice B bn d, .slice Bp bm dp] 29)).alloc (.cells #[.slice none 0 0, .slice none 0 0] 29)) := (((Keeps.refl _ _).alloc _).alloc _).alloc _
  obtain ⟨hba, hbb, hz0⟩ := rb3 (w := w) (u := .slice A an c) (v := .slice Ap am cp) (u' := .slice B bn d) (v' := .slice Bp bm dp) (z1 := .slice none 0 0) (z2 := .slice none 0 0) (t := 29)
  have hl0 : ∀ y ∈ (w.heap.size + 1 + 1) :: l, y < (((w.alloc (.cells #[.slice A an c, .slice Ap am cp] 29)).alloc (.cells #[.slice B bn d, .slice Bp bm dp] 29)).alloc (.cells #[.slice none 0 0, .slice none 0 0] 29)).heap.size := fun y hy => by
    rcases List.mem_cons.1 hy with e | e
    · rw [e]; simp
    · exact Nat.lt_of_lt_of_le (hl y e) hk0.size
  have hw : ∀ y ∈ (w.heap.size + 1 + 1) :: l, y ∈ l ∨ w.heap.size ≤ y := fun y hy => by
    rcases List.mem_cons.1 hy with e | e
    · exact .inr (by omega)
    · exact .inl e
  have hla := (h.weak hw).new hk0
  have hlb := (h'.weak hw).new hk0
  clear h h' hw
  have HSA := Lib.hid ha
  have HSB := Lib.hid hb
  have HK0 := Lib.hid hk0
  have HBB := Lib.hid hbb
  have HBA := Lib.hid hba
  have HLA := Lib.hid hla
  have HLB := Lib.hid hlb
  have HL0 := Lib.hid hl0
  have HAN := Lib.hid han
  have HAM := Lib.hid ham
  have HBN := Lib.hid hbn
  have HBM := Lib.hid hbm
  have HL := Lib.hid hl
  have HZ0 := Lib.hid hz0
  have HMV0 := Lib.hid hmv0
  have HCK2 := Lib.hid hck2
  have HMO := Lib.hid hmo
  clear hk0 hbb hba hla hlb hl0 han ham hbn hbm hl hz0 hmv0 hck2 hmo
  clear ha hb
  go_enter Try.func31, Try.ntmps31
  go_upto_region 1 with fail
  generalize ((w.alloc (.cells #[.slice A an c, .slice Ap am cp] 29)).alloc (.cells #[.slice B bn d, .slice Bp bm dp] 29)).alloc (.cells #[.slice none 0 0, .slice none 0 0] 29) = wb at *
  have hz9 := HZ0.out.keep (Keeps.refl [] wb) (by simp)
  have hbx9 := HBA.out.new (Keeps.refl [] wb)
  have hby9 := HBB.out.new (Keeps.refl [] wb)
  have hc0 := hbx9.c0
  have hc1 := hbx9.c1
  have hd0 := hby9.c0
  have hd1 := hby9.c1
  have hs1 : wb.cell? ⟨w.heap.size + 1 + 1, 0, none⟩ = some (.slice none 0 0) := (hz9 0 (by omega)).1
  have hs2 : wb.cell? ⟨w.heap.size + 1 + 1, 1, none⟩ = some (.slice none 0 0) := (hz9 1 (by omega)).1
  have hs3 : wb.frozen? ⟨w.heap.size + 1 + 1, 0, none⟩ = false := (hz9 0 (by omega)).2
  have hs4 : wb.frozen? ⟨w.heap.size + 1 + 1, 1, none⟩ = false := (hz9 1 (by omega)).2
  clear hz9 hbx9 hby9
  have hc1' := rcheck_is (n := n) (ss := [a]) (IsLins.one (t := 29) HL0.out HLA.out) (by simpa using HSA.out) (by simp)
  have hc2' := fun W (k : Keeps [] wb W) => rcheck_is (n := n) (ss := [b]) (IsLins.one (t := 29) (fun y hy => Nat.lt_of_lt_of_le (HL0.out y hy) k.size) (HLB.out.new k)) (by simpa using HSB.out) (by simp)
  have hza : chkL n [a] = 0 ↔ GoodAll n [a] := chkL_zero
  have hzb : chkL n [b] = 0 ↔ GoodAll n [b] := chkL_zero
  unfold CkPost at hc1' hc2'
  have hal : Keeps [] wb (wb.alloc (.cells #[.slice A an c, .slice Ap am cp] 29)) := (Keeps.refl _ _).alloc _
  generalize chkL n [a] = za at *
  generalize chkL n [b] = zb at *
  generalize chk2 n a b = zz at *
  have HC1 := Lib.hid hc1'
  have HC2 := Lib.hid hc2'
  clear hc1' hc2'
  by_cases hq0 : za = 0
  · subst hq0
    have hga := hza.1 rfl
    have hck := HCK2.out
    rw [if_pos rfl] at hck
    have HAL := Lib.hid hal
    have HZA := Lib.hid hza
    have HZB := Lib.hid hzb
    have HGA := Lib.hid hga
    have HCK := Lib.hid hck
    clear hal hza hzb hga hck
    go_wp2_with fail
    refine HC1.out.mono ?_
    rintro e w1 ⟨rfl, hk1⟩
    have hk1 := HAL.out.trans hk1
    clear hc0 hc1 hd0 hd1 hs1 hs2 hs3 hs4
    have hz9 := HZ0.out.keep hk1 (by simp)
    have hbx9 := HBA.out.new hk1
    have hby9 := HBB.out.new hk1
    have hc0 := hbx9.c0
    have hc1 := hbx9.c1
    have hd0 := hby9.c0
    have hd1 := hby9.c1
    have hs1 : w1.cell? ⟨w.heap.size + 1 + 1, 0, none⟩ = some (.slice none 0 0) := (hz9 0 (by omega)).1
    have hs2 : w1.cell? ⟨w.heap.size + 1 + 1, 1, none⟩ = some (.slice none 0 0) := (hz9 1 (by omega)).1
    have hs3 : w1.frozen? ⟨w.heap.size + 1 + 1, 0, none⟩ = false := (hz9 0 (by omega)).2
    have hs4 : w1.frozen? ⟨w.heap.size + 1 + 1, 1, none⟩ = false := (hz9 1 (by omega)).2
    clear hz9 hbx9 hby9
    have hcc := HC2.out w1 hk1
    have hal1 : Keeps [] w1 (w1.alloc (.cells #[.slice B bn d, .slice Bp bm dp] 29)) := (Keeps.refl _ _).alloc _
    have HK1 := Lib.hid hk1
    have HAL1 := Lib.hid hal1
    have HCC := Lib.hid hcc
    clear hk1 hal1 hcc
    by_cases hz1 : zb = 0
    · subst hz1
      have hgb := HZB.out.1 rfl
      have hlo := hgb.lo
      have hhi := hgb.hi
      obtain ⟨q, hqn⟩ : ∃ q : Nat, n = (q : Int) := ⟨n.toNat, by omega⟩
      have hag : Good q a := by simpa [hqn] using HGA.out.all a (by simp)
      have hbg : Good q b := by simpa [hqn] using hgb.all b (by simp)
      have hq4 : q ≤ 4 := by omega
      have hq1 : 1 ≤ q := by omega
      have hckx := HCK.out
      have HGB := Lib.hid hgb
      have HAG := Lib.hid hag
      have HBG := Lib.hid hbg
      have HQN := Lib.hid hqn
      have HCKX := Lib.hid hckx
      clear hgb hag hbg hqn hckx
      clear hlo hhi
      go_wp2_with fail
      refine HCC.out.mono ?_
      rintro e w2 ⟨rfl, hk2⟩
      have hk2 := (HK1.out.trans HAL1.out).trans hk2
      clear hc0 hc1 hd0 hd1 hs1 hs2 hs3 hs4
      have hz9 := HZ0.out.keep hk2 (by simp)
      have hbx9 := HBA.out.new hk2
      have hby9 := HBB.out.new hk2
      have hc0 := hbx9.c0
      have hc1 := hbx9.c1
      have hd0 := hby9.c0
      have hd1 := hby9.c1
      have hs1 : w2.cell? ⟨w.heap.size + 1 + 1, 0, none⟩ = some (.slice none 0 0) := (hz9 0 (by omega)).1
      have hs2 : w2.cell? ⟨w.heap.size + 1 + 1, 1, none⟩ = some (.slice none 0 0) := (hz9 1 (by omega)).1
      have hs3 : w2.frozen? ⟨w.heap.size + 1 + 1, 0, none⟩ = false := (hz9 0 (by omega)).2
      have hs4 : w2.frozen? ⟨w.heap.size + 1 + 1, 1, none⟩ = false := (hz9 1 (by omega)).2
      clear hz9 hbx9 hby9
      have hmov := rmoved_is (n := q) (fun y hy => Nat.lt_of_lt_of_le (HL0.out y hy) hk2.size) (HLA.out.new hk2) HAG.out.base (fun p hp => (HAG.out.per p hp).len) (by have := HAG.out.few; omega) (HLB.out.new hk2).1 HBG.out.base hq1 (by omega)
      unfold LinP at hmov
      by_cases hir : InRng 16 (addV a.base b.base)
      · have hmm := HMO.out
        rw [if_pos hir] at hmm
        rw [hmm] at hmov
        have hmv1 := HMV0.out
        rw [HCKX.out, if_neg (by simp), if_neg (fun h => h hir)] at hmv1
        have haasc := HAG.out.asc
        have hpi := fun (L : List (List Int)) => putF_inv haasc L
        have hrow := fun k (hk : k < bm) => HBG.out.per _ (getD_mem (d := []) (show k < b.per.length by rw [HBM.out]; exact hk))
        have harow := HAG.out.per
        have hbrow := HBG.out.per
        have haf : am ≤ 3 := by rw [← HAM.out]; exact HAG.out.few
        have hbf : bm ≤ 3 := by rw [← HBM.out]; exact HBG.out.few
        have HK2 := Lib.hid hk2
        have HMOV := Lib.hid hmov
        have HMV1 := Lib.hid hmv1
        have HMM := Lib.hid hmm
        have HIR := Lib.hid hir
        have HAASC := Lib.hid haasc
        have HPI := Lib.hid hpi
        have HROW := Lib.hid hrow
        have HAROW := Lib.hid harow
        have HBROW := Lib.hid hbrow
        clear hk2 hmov hmv1 hmm hir haasc hpi hrow harow hbrow
        go_wp2_with fail
        refine HMOV.out.mono ?_
        rintro e w3 ⟨hk3, A3, n3, c3, A4, m3, c4, hn3, hm3, rfl, hI3, hI4⟩
        have hk4 := HK2.out.trans hk3
        have hal3 : Keeps [] w3 (w3.alloc (.cells #[.slice A3 n3 c3, .slice A4 m3 c4] 29)) := (Keeps.refl _ _).alloc _
        have hpr := own_pair (w := w3) (x := .slice A3 n3 c3) (y := .slice A4 m3 c4) (e := 29)
        have hk5 := hk4.trans hal3
        have hsz0 := HK0.out.size
        have hsz4 := hk4.size
        have hzw : w.heap.size + 1 + 1 < wb.heap.size := HL0.out _ (by simp)
        have hb3 : IsI (w3.alloc (.cells #[.slice A3 n3 c3, .slice A4 m3 c4] 29)) (w3.heap.size :: (w.heap.size + 1 + 1) :: l) (.slice A3 n3 c3) (addV a.base b.base) := (IsI.new (Rok.weak (R := IsI) (l' := w3.heap.size :: (w.heap.size + 1 + 1) :: l) hI3 (fun y hy => by
          rcases List.mem_cons.1 hy with e | e
          · exact .inr (by omega)
          · exact .inl e)) hal3)
        have hp3 : IsII (w3.alloc (.cells #[.slice A3 n3 c3, .slice A4 m3 c4] 29)) (w3.heap.size :: (w.heap.size + 1 + 1) :: l) (.slice A4 m3 c4) a.per := (IsII.new (Rok.weak (R := IsII) (l' := w3.heap.size :: (w.heap.size + 1 + 1) :: l) hI4 (fun y hy => by
          rcases List.mem_cons.1 hy with e | e
          · exact .inr (by omega)
          · exact .inl e)) hal3)
        have HPR := Lib.hid hpr
        have HK5 := Lib.hid hk5
        have HN3 := Lib.hid hn3
        have HM3 := Lib.hid hm3
        have HB3 := Lib.hid hb3
        have HP3 := Lib.hid hp3
        clear hpr hk5 hn3 hm3 hb3 hp3
        clear hk3 hk4 hal3 hI3 hI4 hc0 hc1 hd0 hd1 hs1 hs2 hs3 hs4
        go_wp2_with fail
        generalize hw4 : w3.alloc (.cells #[.slice A3 n3 c3, .slice A4 m3 c4] 29) = w4 at *
        have hw4z : w3.heap.size + 1 = w4.heap.size := by rw [← hw4]; simp
        clear hw4
        generalize w3.heap.size = g at *
        go_loopg [12] (bm + 1) (fun gh kv wr => ∃ (k : Nat) (A' : Option Addr) (q' c' : Nat), bm + 1 ≤ k + gh ∧ k ≤ bm ∧ kv = .int .i64 (k : Int) ∧ q' = (putF a.per (b.per.take k)).length ∧ Own wr g 2 (fun i => if i = 0 then .slice A3 n3 c3 else .slice A' q' c') ∧ IsII wr (g :: (w.heap.size + 1 + 1) :: l) (.slice A' q' c') (putF a.per (b.per.take k)) ∧ Keeps [g] w4 wr)
        case atStart => exact ⟨0, A4, m3, c4, by omega, by omega, rfl, HM3.out, HPR.out, HP3.out, Keeps.refl _ _⟩
        case round =>
          obtain ⟨k, A', q', c', hgh, hk, rfl, hq', hOk, hIk, hkk⟩ := hrel
          have hkw := (HK5.out.step hkk (by simp; omega) : Keeps [] wb wr)
          have hg0 : wr.cell? ⟨g, 0, none⟩ = some (.slice A3 n3 c3) := (hOk 0 (by omega)).1
          have hg1 : wr.cell? ⟨g, 1, none⟩ = some (.slice A' q' c') := (hOk 1 (by omega)).1
          have hf1 : wr.frozen? ⟨g, 1, none⟩ = false := (hOk 1 (by omega)).2
          have hz9 := HZ0.out.keep hkw (by simp)
          have hbx9 := HBA.out.new hkw
          have hby9 := HBB.out.new hkw
          have hc0 := hbx9.c0
          have hc1 := hbx9.c1
          have hd0 := hby9.c0
          have hd1 := hby9.c1
          have hs1 : wr.cell? ⟨w.heap.size + 1 + 1, 0, none⟩ = some (.slice none 0 0) := (hz9 0 (by omega)).1
          have hs2 : wr.cell? ⟨w.heap.size + 1 + 1, 1, none⟩ = some (.slice none 0 0) := (hz9 1 (by omega)).1
          have hs3 : wr.frozen? ⟨w.heap.size + 1 + 1, 0, none⟩ = false := (hz9 0 (by omega)).2
          have hs4 : wr.frozen? ⟨w.heap.size + 1 + 1, 1, none⟩ = false := (hz9 1 (by omega)).2
          clear hz9 hbx9 hby9
          by_cases hlt : k < bm
          · have hlbr := (HLB.out.new hkw).2
            obtain ⟨Ax, cx, U, hvx, _, _, hcx, hrx⟩ := hlbr
            injection hvx with ex1 ex2 ex3
            subst ex1; subst ex3
            rw [HBM.out] at hcx hrx
            obtain ⟨pb, epb, hpb⟩ := hcx.at_ hlt
            have hx : IsI wr ((w.heap.size + 1 + 1) :: l) (U k) (b.per.getD k []) := hrx k hlt
            have hpe := HROW.out k hlt
            have hgbig : wb.heap.size ≤ g := by have := HK5.out.size; omega
            have hx2 : IsI wr.drew (g :: (w.heap.size + 1 + 1) :: l) (U k) (b.per.getD k []) := by
              have hbx0 := HLB.out.2
              have h1 : IsII wb (g :: (w.heap.size + 1 + 1) :: l) (.slice Bp bm dp) b.per := Rok.weak hbx0 (fun y hy => by
                rcases List.mem_cons.1 hy with e | e
                · exact .inr (by omega)
                · exact .inl e)
              have h2 : IsII wr.drew (g :: (w.heap.size + 1 + 1) :: l) (.slice Bp bm dp) b.per := h1.new hkw.drew
              obtain ⟨Ay, cy, U2, hvy, _, _, hcy, hry⟩ := h2
              injection hvy with ey1 ey2 ey3
              subst ey1
              obtain ⟨py, epy, hpy⟩ := hcy.at_ (show k < b.per.length by rw [HBM.out]; exact hlt)
              rw [epb] at epy
              injection epy with epy
              subst epy
              have e9 : some (U k) = some (U2 k) := by
                have hh : wr.drew.cell? (pb.add k) = some (U k) := hpb
                exact hh.symm.trans hpy
              injection e9 with e9
              rw [e9]
              exact hry k (by rw [HBM.out]; exact hlt)
            have hlen : ∀ z ∈ putF a.per (b.per.take k), z.length ≤ 1000000 := fun z hz => by
              rcases ((HPI.out _).2.1 z).1 hz with h | h
              · rw [(HAROW.out z h).len]; omega
              · rw [(HBROW.out z (List.mem_of_mem_take h)).len]; omega
            have hql : (putF a.per (b.per.take k)).length ≤ 1000000 := by
              have := (HPI.out (b.per.take k)).2.2
              rw [HAM.out, List.length_take, HBM.out] at this
              omega
            have hput := put_is (w := wr.drew) (l := g :: (w.heap.size + 1 + 1) :: l) (fun y hy => by
              show y < wr.heap.size
              have := hkk.size
              have := hkw.size
              rcases List.mem_cons.1 hy with e | e
              · omega
              · exact Nat.lt_of_lt_of_le (HL0.out y e) hkw.size) (IsII.new hIk (Keeps.refl _ _).drew) hx2 hql hlen (by rw [hpe.len]; omega)
            unfold PutPost at hput
            have hts : putF a.per (b.per.take (k + 1)) = putL (putF a.per (b.per.take k)) (b.per.getD k []) := by
              rw [List.take_succ_eq_append_getElem (by rw [HBM.out]; exact hlt), putF_snoc]
              simp [List.getD_eq_getElem?_getD, show k < b.per.length by rw [HBM.out]; exact hlt]
            rw [← hts] at hput
            obtain ⟨Bx, dx, ebx, _⟩ := hx.open
            rw [ebx] at hpb hput
            subst epb
            have hkkd : Keeps [g] w4 wr.drew := hkk.drew
            have hgl : g < wr.heap.size := by have := hkk.size; omega
            have HOK := Lib.hid hOk
            have HPUT := Lib.hid hput
            have HTS := Lib.hid hts
            have HQL := Lib.hid hql
            have HLEN := Lib.hid hlen
            have HPE := Lib.hid hpe
            have HKKD := Lib.hid hkkd
            have HQ' := Lib.hid hq'
            have HIK := Lib.hid hIk
            clear hput hts hql hlen hpe hkkd hq' hIk
            clear hkw hkk hx hx2 ebx hcx hrx hOk ex2
            go_wp2_with fail
            go_region_law (first
              | (refine step_call2 rfl 33 (.tmp 48) (.tmp 53) #[27, 22] rfl eg HPUT.out (by first | (simp [Act.eval]; done) | (simp only [Act.eval, Act.put]; simp; done) | simp [Act.eval, Act.put]) (by first | (simp [Act.eval]; done) | (simp only [Act.eval, Act.put]; simp; done) | simp [Act.eval, Act.put]) ?_; rintro e w5 ⟨A5, q5, c5, rfl, hI5, hk5⟩; refine ⟨_, rfl, ?_⟩; have hg1' := hk5.read (show wr.drew.cell? ⟨g, 1, none⟩ = some (.slice A' q' c') from hg1) (by simp); have hf1' := (hk5.frozen (p := ⟨g, 1, none⟩) (show g < wr.heap.size from hgl) (by simp)).trans (show wr.drew.frozen? ⟨g, 1, none⟩ = false from hf1)))
            all_goals
              have hO2 := (HOK.out.drew.keep hk5 (by simp)).set_ (j := 1) (by omega) (.slice A5 q5 c5)
              have hkg : Keeps [g] w5 (w5.setCell ⟨g, 1, none⟩ (.slice A5 q5 c5)) := (Keeps.refl _ _).setCell (by simp) _
              have hI6 := Rok.keeps (R := IsII) hI5 (hkg.more (by simp))
              have hq5 : q5 = (putF a.per (b.per.take (k + 1))).length := isL_n hI5
              have hk6 := (HKKD.out.trans (hk5.nil [g])).trans hkg
              have HO2 := Lib.hid hO2
              have HI6 := Lib.hid hI6
              have HK6 := Lib.hid hk6
              have HQ5 := Lib.hid hq5
              clear hO2 hI6 hk6 hq5
              clear hI5 hk5 hkg hg1' hf1' hc0 hc1 hd0 hd1 hs1 hs2 hs3 hs4 hg0 hg1 hf1 hpb
              go_wp2_with fail
              go_roundg (bm - k)
              case measure => omega
              case rel =>
                refine ⟨k + 1, A5, q5, c5, by omega, by omega, by go_num, HQ5.out, ?_, HI6.out, HK6.out⟩
                refine HO2.out.congr fun i hi => ?_
                have : i = 0 ∨ i = 1 := by omega
                rcases this with e | e <;> subst e <;> rfl
          · obtain rfl : k = bm := by omega
            have htk : b.per.take k = b.per := List.take_of_length_le (by rw [HBM.out]; exact Nat.le_refl _)
            rw [htk] at hq' hIk
            have hkz := HK0.out.trans hkw
            have hmv2 := HMV1.out
            rw [← hq'] at hmv2
            have hb4 := Rok.keeps (R := IsI) HB3.out (hkk.more (by simp))
            by_cases h3 : 3 < q'
            · have d3 : decide ((3 : Int) < (q' : Int)) = true := decide_eq_true (by omega)
              have d4 : decide (3 < q') = true := decide_eq_true h3
              rw [if_pos h3] at hmv2
              have hmv := hmv2
              have HMV := Lib.hid hmv
              have HKZ := Lib.hid hkz
              have HQ' := Lib.hid hq'
              have HIK := Lib.hid hIk
              have HB4 := Lib.hid hb4
              clear hmv hkz hq' hIk hb4
              clear hkk hkw hOk hmv2
              go_wp2_with fail
              obtain ⟨hq1, hq2, hkS⟩ := pair_set (.slice none 0 0) (.slice none 0 0) hs1 hs2
              refine bodyPost_ret (v := .tuple #[.agg #[.slice none 0 0, .slice none 0 0], .int .i64 1]) (by simp [results, Try.results31, go_sem, hq1, hq2]) rfl ?_
              rw [HMV.out]
              exact ⟨HKZ.out.step hkS (by simp; omega), none, 0, 0, none, 0, 0, rfl, rfl, rfl, IsL.nil, IsL.nil⟩
            · have d3 : decide ((3 : Int) < (q' : Int)) = false := decide_eq_false (by omega)
              have d4 : decide (3 < q') = false := decide_eq_false h3
              rw [if_neg h3] at hmv2
              have hmv := hmv2
              have HMV := Lib.hid hmv
              have HKZ := Lib.hid hkz
              have HQ' := Lib.hid hq'
              have HIK := Lib.hid hIk
              have HB4 := Lib.hid hb4
              clear hmv hkz hq' hIk hb4
              clear hkk hkw hOk hmv2
              go_wp2_with fail
              obtain ⟨hqa, hqb, hkS⟩ := pair_set (.slice A3 n3 c3) (.slice A' q' c') hs1 hs2
              have hf5 := Rok.keeps (R := IsI) HB4.out (hkS.more (by simp))
              have hf6 := Rok.keeps (R := IsII) HIK.out (hkS.more (by simp))
              refine bodyPost_ret (v := .tuple #[.agg #[.slice A3 n3 c3, .slice A' q' c'], .int .i64 0]) (by simp [results, Try.results31, go_sem, hqa, hqb]) rfl ?_
              rw [HMV.out]
              exact ⟨HKZ.out.step hkS (by simp; omega), A3, n3, c3, A', q', c', HN3.out, HQ'.out, rfl, Rok.weak (R := IsI) hf5 (fun y hy => .inl (by simp [hy])), Rok.weak (R := IsII) hf6 (fun y hy => .inl (by simp [hy]))⟩
      · have hmm := HMO.out
        rw [if_neg hir] at hmm
        rw [hmm] at hmov
        have hmv := HMV0.out
        rw [HCKX.out, if_neg (by simp), if_pos hir] at hmv
        have HK2 := Lib.hid hk2
        have HMOV := Lib.hid hmov
        have HMV := Lib.hid hmv
        have HMM := Lib.hid hmm
        have HIR := Lib.hid hir
        clear hk2 hmov hmv hmm hir
        go_wp2_with fail
        refine HMOV.out.mono ?_
        rintro e w3 ⟨hk3, A3, n3, c3, A4, m3, c4, hn3, hm3, rfl, hI3, hI4⟩
        have hk4 := HK2.out.trans hk3
        clear hc0 hc1 hd0 hd1 hs1 hs2 hs3 hs4
        have hal3 : Keeps [] w3 (w3.alloc (.cells #[.slice A3 n3 c3, .slice A4 m3 c4] 29)) := (Keeps.refl _ _).alloc _
        have hk5 := hk4.trans hal3
        have hz9 := HZ0.out.keep hk5 (by simp)
        have hbx9 := HBA.out.new hk5
        have hby9 := HBB.out.new hk5
        have hc0 := hbx9.c0
        have hc1 := hbx9.c1
        have hd0 := hby9.c0
        have hd1 := hby9.c1
        have hs1 : (w3.alloc (.cells #[.slice A3 n3 c3, .slice A4 m3 c4] 29)).cell? ⟨w.heap.size + 1 + 1, 0, none⟩ = some (.slice none 0 0) := (hz9 0 (by omega)).1
        have hs2 : (w3.alloc (.cells #[.slice A3 n3 c3, .slice A4 m3 c4] 29)).cell? ⟨w.heap.size + 1 + 1, 1, none⟩ = some (.slice none 0 0) := (hz9 1 (by omega)).1
        have hs3 : (w3.alloc (.cells #[.slice A3 n3 c3, .slice A4 m3 c4] 29)).frozen? ⟨w.heap.size + 1 + 1, 0, none⟩ = false := (hz9 0 (by omega)).2
        have hs4 : (w3.alloc (.cells #[.slice A3 n3 c3, .slice A4 m3 c4] 29)).frozen? ⟨w.heap.size + 1 + 1, 1, none⟩ = false := (hz9 1 (by omega)).2
        clear hz9 hbx9 hby9
        have hkz := HK0.out.trans hk5
        have HK5 := Lib.hid hk5
        have HKZ := Lib.hid hkz
        have HN3 := Lib.hid hn3
        have HM3 := Lib.hid hm3
        have HI3 := Lib.hid hI3
        have HI4 := Lib.hid hI4
        clear hk5 hkz hn3 hm3 hI3 hI4
        clear hk3 hk4 hal3
        go_wp2_with fail
        obtain ⟨hq1, hq2, hkS⟩ := pair_set (.slice none 0 0) (.slice none 0 0) hs1 hs2
        refine bodyPost_ret (v := .tuple #[.agg #[.slice none 0 0, .slice none 0 0], .int .i64 1]) (by simp [results, Try.results31, go_sem, hq1, hq2]) rfl ?_
        rw [HMV.out]
        exact ⟨HKZ.out.step hkS (by simp; omega), none, 0, 0, none, 0, 0, rfl, rfl, rfl, IsL.nil, IsL.nil⟩
    · have d1 : (zb != 0) = true := by simpa using hz1
      have hmv := HMV0.out
      rw [HCK.out, if_pos hz1] at hmv
      have HMV := Lib.hid hmv
      have HZ1 := Lib.hid hz1
      clear hmv hz1
      go_wp2_with fail
      refine HCC.out.mono ?_
      rintro e w2 ⟨rfl, hk2⟩
      have hk3 := (HK1.out.trans HAL1.out).trans hk2
      clear hc0 hc1 hd0 hd1 hs1 hs2 hs3 hs4
      have hz9 := HZ0.out.keep hk3 (by simp)
      have hbx9 := HBA.out.new hk3
      have hby9 := HBB.out.new hk3
      have hc0 := hbx9.c0
      have hc1 := hbx9.c1
      have hd0 := hby9.c0
      have hd1 := hby9.c1
      have hs1 : w2.cell? ⟨w.heap.size + 1 + 1, 0, none⟩ = some (.slice none 0 0) := (hz9 0 (by omega)).1
      have hs2 : w2.cell? ⟨w.heap.size + 1 + 1, 1, none⟩ = some (.slice none 0 0) := (hz9 1 (by omega)).1
      have hs3 : w2.frozen? ⟨w.heap.size + 1 + 1, 0, none⟩ = false := (hz9 0 (by omega)).2
      have hs4 : w2.frozen? ⟨w.heap.size + 1 + 1, 1, none⟩ = false := (hz9 1 (by omega)).2
      clear hz9 hbx9 hby9
      have hkz := HK0.out.trans hk3
      have HKZ := Lib.hid hkz
      clear hkz
      clear hk2 hk3
      go_wp2_with fail
      obtain ⟨hq1, hq2, hkS⟩ := pair_set (.slice none 0 0) (.slice none 0 0) hs1 hs2
      refine bodyPost_ret (v := .tuple #[.agg #[.slice none 0 0, .slice none 0 0], .int .i64 zb]) (by simp [results, Try.results31, go_sem, hq1, hq2]) rfl ?_
      rw [HMV.out]
      exact ⟨HKZ.out.step hkS (by simp; omega), none, 0, 0, none, 0, 0, rfl, rfl, rfl, IsL.nil, IsL.nil⟩
  · have d1 : (za != 0) = true := by simpa using hq0
    have hck := HCK2.out
    rw [if_neg hq0] at hck
    have hmv := HMV0.out
    rw [hck, if_pos hq0] at hmv
    have HAL := Lib.hid hal
    have HZA := Lib.hid hza
    have HZB := Lib.hid hzb
    have HMV := Lib.hid hmv
    have HQ0 := Lib.hid hq0
    have HCK := Lib.hid hck
    clear hal hza hzb hmv hq0 hck
    go_wp2_with fail
    refine HC1.out.mono ?_
    rintro e w1 ⟨rfl, hk1⟩
    have hk3 := HAL.out.trans hk1
    clear hc0 hc1 hd0 hd1 hs1 hs2 hs3 hs4
    have hz9 := HZ0.out.keep hk3 (by simp)
    have hbx9 := HBA.out.new hk3
    have hby9 := HBB.out.new hk3
    have hc0 := hbx9.c0
    have hc1 := hbx9.c1
    have hd0 := hby9.c0
    have hd1 := hby9.c1
    have hs1 : w1.cell? ⟨w.heap.size + 1 + 1, 0, none⟩ = some (.slice none 0 0) := (hz9 0 (by omega)).1
    have hs2 : w1.cell? ⟨w.heap.size + 1 + 1, 1, none⟩ = some (.slice none 0 0) := (hz9 1 (by omega)).1
    have hs3 : w1.frozen? ⟨w.heap.size + 1 + 1, 0, none⟩ = false := (hz9 0 (by omega)).2
    have hs4 : w1.frozen? ⟨w.heap.size + 1 + 1, 1, none⟩ = false := (hz9 1 (by omega)).2
    clear hz9 hbx9 hby9
    have hkz := HK0.out.trans hk3
    have HKZ := Lib.hid hkz
    clear hkz
    clear hk1 hk3
    go_wp2_with fail
    obtain ⟨hq1, hq2, hkS⟩ := pair_set (.slice none 0 0) (.slice none 0 0) hs1 hs2
    refine bodyPost_ret (v := .tuple #[.agg #[.slice none 0 0, .slice none 0 0], .int .i64 za]) (by simp [results, Try.results31, go_sem, hq1, hq2]) rfl ?_
    rw [HMV.out]
    exact ⟨HKZ.out.step hkS (by simp; omega), none, 0, 0, none, 0, 0, rfl, rfl, rfl, IsL.nil, IsL.nil⟩

set_option maxHeartbeats 1000000 in
theorem rsame_is {w : World} {l l' : List Nat} {A Ap B Bp : Option Addr} {n c m cp n' d m' dp : Nat} {s : Lin} (h : IsLin w l (.slice A n c) (.slice Ap m cp) s) (h' : IsLin w l' (.slice B n' d) (.slice Bp m' dp) s) (hb : s.base.length ≤ 1000000) (hm : s.per.length ≤ 1000000) (hp : ∀ p ∈ s.per, p.length ≤ 1000000) :
    Calls Try.prog 29 #[.agg #[.slice A n c, .slice Ap m cp], .agg #[.slice B n' d, .slice Bp m' dp]] w (BoolP true w) := by
  unfold BoolP
  have hsm := fun W (k : Keeps [] w W) => same_is (l := []) ((Rok.weak (R := IsI) h.1 (by simp)).new k) ((Rok.weak (R := IsI) h'.1 (by simp)).new k) hb hb
  have hsa := fun W (k : Keeps [] w W) => sameall_is (l := []) (IsII.new (Rok.weak (R := IsII) h.2 (by simp)) k) (IsII.new (Rok.weak (R := IsII) h'.2 (by simp)) k) hm hm hp hp
  have hk0 : Keeps [] w ((w.alloc (.cells #[.slice A n c, .slice Ap m cp] 29)).alloc (.cells #[.slice B n' d, .slice Bp m' dp] 29)) := ((Keeps.refl _ _).alloc _).alloc _
  have hbb : BoxAt ((w.alloc (.cells #[.slice A n c, .slice Ap m cp] 29)).alloc (.cells #[.slice B n' d, .slice Bp m' dp] 29)) (w.heap.size + 1) (.slice B n' d) (.slice Bp m' dp) := by
    have := BoxAt.start (w.alloc (.cells #[.slice A n c, .slice Ap m cp] 29)) (.slice B n' d) (.slice Bp m' dp) 29
    simpa using this
  have hba := (BoxAt.start w (.slice A n c) (.slice Ap m cp) 29).new ((Keeps.refl _ _).alloc (.cells #[.slice B n' d, .slice Bp m' dp] 29))
  rw [decide_eq_true rfl] at hsm hsa
  have HK0 := Lib.hid hk0
  have HBB := Lib.hid hbb
  have HBA := Lib.hid hba
  have HSM := Lib.hid hsm
  have HSA := Lib.hid hsa
  have H := Lib.hid h
  have HM := Lib.hid hm
  have HP := Lib.hid hp
  have HB := Lib.hid hb
  clear hk0 hbb hba hsm hsa h hm hp hb
  clear h'
  go_enter Try.func29, Try.ntmps29
  go_upto_region 1 with fail
  generalize (w.alloc (.cells #[.slice A n c, .slice Ap m cp] 29)).alloc (.cells #[.slice B n' d, .slice Bp m' dp] 29) = wb at *
  have hb0 := HBB.out.c0
  have hb1 := HBB.out.c1
  have ha0 := HBA.out.c0
  have ha1 := HBA.out.c1
  go_wp2_with fail
  refine (HSM.out _ HK0.out).mono ?_
  rintro e w1 ⟨rfl, hk1⟩
  have hk1 := quiet_keeps hk1
  have hb1 := hk1.read hb1 (by simp)
  have ha1 := hk1.read ha1 (by simp)
  have hk2 := HK0.out.trans hk1
  have HK2 := Lib.hid hk2
  clear hk2
  clear hk1 hb0 ha0
  go_wp2_with fail
  refine (HSA.out _ HK2.out).mono ?_
  rintro e w2 ⟨rfl, hk3⟩
  have hk4 := HK2.out.trans hk3
  have HK4 := Lib.hid hk4
  clear hk4
  clear hk3
  go_wp2_with fail
  go_ret
  exact ⟨rfl, HK4.out⟩
end Go.Proofs.Ytdhadnnakcdfiaa
