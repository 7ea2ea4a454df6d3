/- Linear sets as lists; the walk of semilinear's right. -/
import Derived.Test.YtdhadnnakcdfiaaCheck
import Derived.Test.YtdhadnnakcdfiaaSolve
namespace Go.Proofs.Ytdhadnnakcdfiaa
set_option linter.unusedVariables false
open Go.RowKit

structure Lin where
  base : List Int
  per : List (List Int)
  deriving Inhabited

def IsLin (w : World) (l : List Nat) (u v : Value) (s : Lin) : Prop := IsI w l u s.base ∧ IsII w l v s.per
theorem IsLin.keeps {w w' : World} {l : List Nat} {u v : Value} {s : Lin} (h : IsLin w l u v s) (k : Keeps l w w') : IsLin w' l u v s := ⟨h.1.keeps k, h.2.keeps k⟩
theorem IsLin.new {w w' : World} {l : List Nat} {u v : Value} {s : Lin} (h : IsLin w l u v s) (k : Keeps [] w w') : IsLin w' l u v s := ⟨h.1.new k, h.2.new k⟩
theorem IsLin.weak {w : World} {l l' : List Nat} {u v : Value} {s : Lin} (h : IsLin w l u v s) (hl : ∀ y ∈ l', y ∈ l ∨ w.heap.size ≤ y) : IsLin w l' u v s := ⟨h.1.weak hl, h.2.weak hl⟩

def Lin.ls (s : Lin) : LS := ⟨s.base.length, s.per.length, fun i => s.base.getD i 0, fun i => (s.per.getD i []).length, fun i k => (s.per.getD i []).getD k 0⟩
structure Lin.Small (s : Lin) : Prop where
  b : s.base.length ≤ 1000000
  m : s.per.length ≤ 1000000
  p : ∀ i, i < s.per.length → (s.per.getD i []).length ≤ 1000000

theorem IsII.rows {w : World} {l : List Nat} {A : Option Addr} {n c : Nat} {xs : List (List Int)} (h : IsII w l (.slice A n c) xs) : n = xs.length ∧ n ≤ c ∧ (A = none → c = 0) ∧ Rows w w.heap.size n A (fun i => (xs.getD i []).length) (fun i k => (xs.getD i []).getD k 0) := by
  obtain ⟨A1, c1, V, hv, h2, h3, h4, h5⟩ := h
  injection hv with e1 e2 e3
  subst e1; subst e2; subst e3
  refine ⟨rfl, h2, h3, ?_⟩
  have key : ∀ i, ∃ (R : Option Addr) (C : Nat), i < xs.length → V i = .slice R (xs.getD i []).length C ∧ Rd w w.heap.size R (xs.getD i []).length (fun k => .int .i64 ((xs.getD i []).getD k 0)) ∧ (R = none → C = 0) := fun i => by
    by_cases hi : i < xs.length
    · obtain ⟨R, C, e, g1, g2, g3⟩ := (h5 i hi).open
      exact ⟨R, C, fun _ => ⟨e, g3.rd, g2⟩⟩
    · exact ⟨none, 0, fun h => absurd h hi⟩
  refine ⟨fun i => Classical.choose (key i), fun i => Classical.choose (Classical.choose_spec (key i)), (h4.congr fun i hi => ?_).rd, fun i hi => ?_⟩
  · exact (Classical.choose_spec (Classical.choose_spec (key i)) hi).1
  · exact (Classical.choose_spec (Classical.choose_spec (key i)) hi).2

theorem IsLin.at_ {w : World} {l : List Nat} {u v : Value} {s : Lin} (h : IsLin w l u v s) (hs : s.Small) : s.ls.At w w.heap.size u v := by
  obtain ⟨A, c, e1, g1, g2, g3⟩ := h.1.open
  have h2 := h.2
  obtain ⟨Ap, cp, V, e2, _⟩ := h2
  have h2 := h.2
  rw [e2] at h2
  obtain ⟨_, _, _, h3⟩ := IsII.rows h2
  exact ⟨A, c, Ap, cp, e1, e2, g3.rd, g2, h3, hs.b, hs.m, hs.p⟩

structure Good (n : Nat) (s : Lin) : Prop where
  base : VecOk n 16 s.base
  per : ∀ p ∈ s.per, PerOk n p
  few : s.per.length ≤ 3
  ord : ∀ i, 1 ≤ i → i < s.per.length → LtV n (fun k => (s.per.getD (i - 1) []).getD k 0) (fun k => (s.per.getD i []).getD k 0)

theorem small_iff {n : Nat} {v : List Int} {b : Int} (hn : v.length = n) : SmallB n (fun i => v.getD i 0) b ↔ ∀ x ∈ v, 0 ≤ x ∧ x ≤ b := by
  constructor
  · intro h x hx
    obtain ⟨i, hi, e⟩ := mem_getD (d := 0) hx
    have h1 : 0 ≤ v.getD i 0 ∧ v.getD i 0 ≤ b := h i (by omega)
    rw [e] at h1; exact h1
  · intro h i hi
    exact h _ (getD_mem (by omega))

theorem err_zero {n : Nat} {s : Lin} : s.ls.err n = 0 ↔ Good n s := by
  unfold LS.err oneErr
  constructor
  · intro h
    split at h
    · omega
    · rename_i h1
      split at h
      · omega
      · rename_i h2
        split at h
        · omega
        · rename_i h3
          split at h
          · omega
          · rename_i h4
            have hb : s.base.length = n := Decidable.byContradiction fun e => h1 (.inl e)
            have hp : ∀ p ∈ s.per, p.length = n := fun p hp => Decidable.byContradiction fun e => by
              obtain ⟨i, hi, e'⟩ := mem_getD (d := []) hp
              exact h1 (.inr ⟨i, hi, by show (s.per.getD i []).length ≠ n; rw [e']; exact e⟩)
            refine ⟨⟨hb, (small_iff rfl).1 (Classical.byContradiction fun e => h2 (.inl e))⟩, fun p hpm => ?_, by have : ¬ 3 < s.per.length := h3; omega, fun i h5 h6 => Classical.byContradiction fun e => h4 ⟨i, h5, h6, e⟩⟩
            obtain ⟨i, hi, e'⟩ := mem_getD (d := []) hpm
            refine ⟨hp p hpm, (small_iff rfl).1 (Classical.byContradiction fun e => h2 (.inr ⟨i, hi, .inl (by show ¬ SmallB (s.per.getD i []).length (fun k => (s.per.getD i []).getD k 0) 16; rw [e']; exact e)⟩)), Classical.byContradiction fun e => h2 (.inr ⟨i, hi, .inr ?_⟩)⟩
            intro k hk
            have hk : k < (s.per.getD i []).length := hk
            show (s.per.getD i []).getD k 0 = 0
            rw [e'] at hk ⊢
            exact Classical.byContradiction fun e2 => e ⟨k, by rw [← hp p hpm]; exact hk, e2⟩
  · intro h
    rw [if_neg, if_neg, if_neg, if_neg]
    · rintro ⟨i, h5, h6, h7⟩; exact h7 (h.ord i h5 h6)
    · have := h.few; show ¬ 3 < s.per.length; omega
    · rintro (h1 | ⟨i, hi, h1⟩)
      · exact h1 ((small_iff rfl).2 h.base.rng)
      · have hm := h.per _ (getD_mem (d := []) hi)
        rcases h1 with h1 | h1
        · exact h1 ((small_iff rfl).2 hm.rng)
        · obtain ⟨k, hk, hz⟩ := hm.nz
          exact hz (h1 k (by show k < (s.per.getD i []).length; rw [hm.len]; exact hk))
    · rintro (h1 | ⟨i, hi, h1⟩)
      · exact h1 h.base.len
      · exact h1 (h.per _ (getD_mem (d := []) hi)).len

theorem firstErr_zero_iff {f : Nat → Int} : ∀ {k : Nat}, firstErr f k = 0 ↔ ∀ r, r < k → f r = 0
  | 0 => ⟨fun _ r h => by omega, fun _ => rfl⟩
  | k + 1 => by
    unfold firstErr
    have ih := firstErr_zero_iff (f := f) (k := k)
    constructor
    · intro h r hr
      by_cases e : firstErr f k = 0
      · rw [if_pos e] at h
        by_cases e' : r = k
        · rw [e']; exact h
        · exact ih.1 e r (by omega)
      · rw [if_neg e] at h; exact absurd h e
    · intro h
      rw [if_pos (ih.2 fun r hr => h r (by omega))]
      exact h k (by omega)

structure GoodAll (n : Int) (ss : List Lin) : Prop where
  lo : 1 ≤ n
  hi : n ≤ 4
  few : ss.length ≤ 8
  all : ∀ s ∈ ss, Good n.toNat s
noncomputable def chkL (n : Int) (ss : List Lin) : Int := chkErr n ss.length (fun i => (ss.getD i default).ls)
theorem chkL_zero {n : Int} {ss : List Lin} : chkL n ss = 0 ↔ GoodAll n ss := by
  unfold chkL chkErr
  constructor
  · intro h
    split at h
    · omega
    · split at h
      · omega
      · rename_i h1 h2
        refine ⟨by omega, by omega, by omega, fun s hs => ?_⟩
        obtain ⟨i, hi, e⟩ := mem_getD (d := default) hs
        have h3 : (ss.getD i default).ls.err n.toNat = 0 := firstErr_zero_iff.1 h i hi
        rw [e] at h3
        exact err_zero.1 h3
  · intro h
    have h1 := h.lo
    have h2 := h.hi
    have h3 := h.few
    rw [if_neg (by omega), if_neg (by omega)]
    exact firstErr_zero_iff.2 fun r hr => err_zero.2 (h.all _ (getD_mem hr))

/-- A slice of linear sets. -/
def IsLins (w : World) (l : List Nat) (v : Value) (ss : List Lin) : Prop :=
  ∃ (A : Option Addr) (c : Nat), v = .slice A ss.length c ∧ ss.length ≤ c ∧ (A = none → c = 0) ∧ (0 < ss.length → ∃ a, A = some a ∧ a.block ∉ l ∧ ∀ i, i < ss.length → ∃ u v, w.cell? (a.add (i * 2)) = some u ∧ w.cell? ⟨(a.add (i * 2)).block, (a.add (i * 2)).off + 1, none⟩ = some v ∧ IsLin w l u v (ss.getD i default))
theorem IsLins.keeps {w w' : World} {l : List Nat} {v : Value} {ss : List Lin} (h : IsLins w l v ss) (k : Keeps l w w') : IsLins w' l v ss := by
  obtain ⟨A, c, h1, h2, h3, h4⟩ := h
  refine ⟨A, c, h1, h2, h3, fun hn => ?_⟩
  obtain ⟨a, e, hb, hc⟩ := h4 hn
  refine ⟨a, e, hb, fun i hi => ?_⟩
  obtain ⟨u, v, g1, g2, g3⟩ := hc i hi
  exact ⟨u, v, k.read g1 (by rw [block_of_add]; exact hb), k.read g2 (by show (a.add (i * 2)).block ∉ l; rw [block_of_add]; exact hb), g3.keeps k⟩
theorem IsLins.new {w w' : World} {l : List Nat} {v : Value} {ss : List Lin} (h : IsLins w l v ss) (k : Keeps [] w w') : IsLins w' l v ss := h.keeps (k.nil _)
theorem IsLins.open {w : World} {l : List Nat} {v : Value} {ss : List Lin} (h : IsLins w l v ss) (hs : ∀ s ∈ ss, s.Small) : ∃ A c, v = .slice A ss.length c ∧ Lins w w.heap.size ss.length A (fun i => (ss.getD i default).ls) := by
  obtain ⟨A, c, h1, h2, h3, h4⟩ := h
  refine ⟨A, c, h1, fun hn => ?_⟩
  obtain ⟨a, e, hb, hc⟩ := h4 hn
  refine ⟨a, e, ?_, fun i hi => ?_⟩
  · obtain ⟨u, v, g1, g2, g3⟩ := hc 0 hn
    have := lt_of_cell g1
    rw [block_of_add] at this; exact this
  · obtain ⟨u, v, g1, g2, g3⟩ := hc i hi
    exact ⟨u, v, g1, g2, g3.at_ (hs _ (getD_mem hi))⟩
/-- A literal of one set. -/
theorem IsLins.one {w : World} {l : List Nat} {u v : Value} {s : Lin} {t : TypeId} (hl : ∀ y ∈ l, y < w.heap.size) (h : IsLin w l u v s) : IsLins (w.alloc (.cells #[u, v] t)) l (.slice (some ⟨w.heap.size, 0, none⟩) 1 1) [s] :=
  ⟨_, 1, rfl, Nat.le_refl _, (fun h => by cases h), fun _ => ⟨_, rfl, (fun hm => by have := hl _ hm; simp at this), fun i hi => by
    have e : i = 0 := by simpa using hi
    subst e
    exact ⟨u, v, by simp [Addr.add, cell_alloc_if], by simp [Addr.add, cell_alloc_if], h.new ((Keeps.refl _ _).alloc _)⟩⟩⟩
/-- A literal of two sets. -/
theorem IsLins.two {w : World} {l : List Nat} {u v u' v' : Value} {s s' : Lin} {t : TypeId} (hl : ∀ y ∈ l, y < w.heap.size) (h : IsLin w l u v s) (h' : IsLin w l u' v' s') : IsLins (w.alloc (.cells #[u, v, u', v'] t)) l (.slice (some ⟨w.heap.size, 0, none⟩) 2 2) [s, s'] :=
  ⟨_, 2, rfl, Nat.le_refl _, (fun h => by cases h), fun _ => ⟨_, rfl, (fun hm => by have := hl _ hm; simp at this), fun i hi => by
    have e : i = 0 ∨ i = 1 := by simp at hi; omega
    rcases e with e | e
    · subst e
      exact ⟨u, v, by simp [Addr.add, cell_alloc_if], by simp [Addr.add, cell_alloc_if], h.new ((Keeps.refl _ _).alloc _)⟩
    · subst e
      exact ⟨u', v', by simp [Addr.add, cell_alloc_if], by simp [Addr.add, cell_alloc_if], h'.new ((Keeps.refl _ _).alloc _)⟩⟩⟩

def CkPost (n : Int) (ss : List Lin) (w : World) (e : Ending) (w' : World) : Prop := e = .returned (.int .i64 (chkL n ss)) ∧ Keeps [] w w'
theorem check_is {w : World} {l : List Nat} {n : Int} {v : Value} {ss : List Lin} (h : IsLins w l v ss) (hs : ∀ s ∈ ss, s.Small) (hk : ss.length ≤ 1000000) :
    Calls Try.prog 21 #[.int .i64 n, v] w (CkPost n ss w) := by
  obtain ⟨A, c, rfl, h1⟩ := h.open hs
  refine (check_any w w.heap.size ss.length c n A _ (Nat.le_refl _) h1 hk).mono ?_
  rintro e w1 ⟨rfl, hb⟩
  exact ⟨rfl, hb.toK⟩

structure BoxAt (w : World) (b : Nat) (u v : Value) : Prop where
  c0 : w.cell? ⟨b, 0, none⟩ = some u
  c1 : w.cell? ⟨b, 1, none⟩ = some v
theorem BoxAt.new {w w' : World} {b : Nat} {u v : Value} (h : BoxAt w b u v) (k : Keeps [] w w') : BoxAt w' b u v := ⟨k.read h.c0 (by simp), k.read h.c1 (by simp)⟩
theorem BoxAt.start (w : World) (u v : Value) (t : TypeId) : BoxAt (w.alloc (.cells #[u, v] t)) w.heap.size u v := ⟨World.cell?_alloc_new _ _ _ _, World.cell?_alloc_new _ _ _ _⟩

def GoodN (s : Lin) : Prop := GoodAll (s.base.length : Int) [s]
def RtPost (s : Lin) (w : World) (e : Ending) (w' : World) : Prop := ∃ r : Bool, e = .returned (.bool r) ∧ (r = true ↔ GoodN s) ∧ Keeps [] w w'
set_option maxHeartbeats 1000000 in
theorem right_is {w : World} {l : List Nat} {u v : Value} {s : Lin} (hl : ∀ y ∈ l, y < w.heap.size) (h : IsLin w l u v s) (hs : s.Small) :
    Calls Try.prog 35 #[.agg #[u, v]] w (RtPost s w) := by
  have hu := h.1
  have hv := h.2
  obtain ⟨A, c, rfl, _⟩ := hu.open
  obtain ⟨Ap, cp, V, rfl, _⟩ := hv
  have hk1 : Keeps [] w (w.alloc (.cells #[.slice A s.base.length c, .slice Ap s.per.length cp] 29)) := (Keeps.refl _ _).alloc _
  have hone := IsLins.one (t := 29) (fun y hy => Nat.lt_of_lt_of_le (hl y hy) hk1.size) (h.new hk1)
  rw [World.size_alloc] at hone
  have hk2 := hk1.alloc (.cells #[.slice A s.base.length c, .slice Ap s.per.length cp] 29)
  clear hu
  have H := Lib.hid h
  have HONE := Lib.hid hone
  have HK1 := Lib.hid hk1
  have HK2 := Lib.hid hk2
  have HS := Lib.hid hs
  have HL := Lib.hid hl
  clear h hone hk1 hk2 hs hl
  go_enter Try.func35, Try.ntmps35
  go_wp2_with fail
  refine (check_is (n := (s.base.length : Int)) HONE.out (by simpa using HS.out) (by simp)).mono ?_
  rintro e w1 ⟨rfl, hk⟩
  have hz : ((chkL (s.base.length : Int) [s] == 0) = true) ↔ GoodN s := by rw [beq_iff_eq]; exact chkL_zero
  generalize chkL (s.base.length : Int) [s] = z at *
  have HK := Lib.hid hk
  have HZ := Lib.hid hz
  clear hk hz
  go_wp2_with fail
  go_ret
  exact ⟨_, rfl, HZ.out, HK2.out.trans HK.out⟩
end Go.Proofs.Ytdhadnnakcdfiaa
