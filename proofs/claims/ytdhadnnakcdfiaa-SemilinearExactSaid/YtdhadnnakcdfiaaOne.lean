/- The walk of semilinear's one: the first error of a linear set. -/
import Derived.Test.YtdhadnnakcdfiaaSlices
import Derived.IntWalk
namespace Go.Proofs.Ytdhadnnakcdfiaa
set_option linter.unusedVariables false
open Go.RowKit

/-- A slice of slices of ints that lies below block B. -/
def Rows (w : World) (B m : Nat) (A : Option Addr) (L : Nat → Nat) (P : Nat → Nat → Int) : Prop :=
  ∃ (R : Nat → Option Addr) (C : Nat → Nat), Rd w B A m (fun i => .slice (R i) (L i) (C i)) ∧ ∀ i, i < m → Rd w B (R i) (L i) (fun k => .int .i64 (P i k)) ∧ (R i = none → C i = 0)

theorem Rows.belowW {w w' : World} {B m : Nat} {A : Option Addr} {L : Nat → Nat} {P : Nat → Nat → Int} (h : Rows w B m A L P) (hB : B ≤ w.heap.size) (hb : Below w.heap.size w w') : Rows w' B m A L P := by
  obtain ⟨R, C, h1, h2⟩ := h
  exact ⟨R, C, h1.belowW hB hb, fun i hi => ⟨(h2 i hi).1.belowW hB hb, (h2 i hi).2⟩⟩

def LtV (n : Nat) (f g : Nat → Int) : Prop := ∃ k, k < n ∧ (∀ i, i < k → f i = g i) ∧ f k < g k

theorem Cmp.lt {n : Nat} {f g : Nat → Int} {c : Int} (h : Cmp n n f g c) : 0 ≤ c ↔ ¬ LtV n f g := by
  rcases h with ⟨h1, _⟩ | ⟨_, k, h2, h3, h4, rfl⟩ | ⟨_, h2, rfl⟩
  · exact absurd rfl h1
  · unfold ord
    split
    · rename_i h
      exact ⟨fun h => by omega, fun h' => absurd ⟨k, h2, h3, h⟩ h'⟩
    · rename_i h
      refine ⟨fun _ ⟨j, j1, j2, j3⟩ => ?_, fun _ => by split <;> omega⟩
      rcases Nat.lt_trichotomy j k with e | e | e
      · have := h3 j e; omega
      · subst e; omega
      · exact h4 (j2 k e)
  · exact ⟨fun _ ⟨j, j1, _, j3⟩ => by have := h2 j j1; omega, fun _ => by omega⟩

def OneBad (n nb m : Nat) (L : Nat → Nat) : Prop := nb ≠ n ∨ ∃ i, i < m ∧ L i ≠ n
def OneRange (nb m : Nat) (b : Nat → Int) (L : Nat → Nat) (P : Nat → Nat → Int) : Prop := ¬ SmallB nb b 16 ∨ ∃ i, i < m ∧ (¬ SmallB (L i) (P i) 16 ∨ ZeroB (L i) (P i))
def OneOrder (n m : Nat) (P : Nat → Nat → Int) : Prop := ∃ i, 1 ≤ i ∧ i < m ∧ ¬ LtV n (P (i - 1)) (P i)

open Classical in
/-- The first error of a linear set. -/
noncomputable def oneErr (n nb m : Nat) (b : Nat → Int) (L : Nat → Nat) (P : Nat → Nat → Int) : Int :=
  if OneBad n nb m L then 3 else if OneRange nb m b L P then 2 else if 3 < m then 1 else if OneOrder n m P then 4 else 0

set_option maxHeartbeats 400000 in
theorem one1_lit (B : Nat) (n m k : Nat) (R : Nat → Option Addr) (L C : Nat → Nat) (w : World) (hk : k < w.heap.size) (hc : w.cell? ⟨k, 0, none⟩ = some (.int .i64 (n : Int))) :
    Pred 65 #[.pointer (some ⟨k, 0, none⟩)] m (fun i => .slice (R i) (L i) (C i)) (fun i => ((L i : Int) != (n : Int))) w := by
  intro W i _ hb
  have hc' := (hb.cell (p := ⟨k, 0, none⟩) hk).trans hc
  clear hc
  show Calls Try.prog 65 #[.slice (R i) (L i) (C i), .pointer (some ⟨k, 0, none⟩)] W fun e w' => e = .returned (.bool ((L i : Int) != (n : Int))) ∧ Below w.heap.size w w'
  generalize R i = r
  generalize L i = l
  generalize C i = c
  cases e : ((l : Int) != (n : Int)) with
  | true =>
    go_enter Try.func65, Try.ntmps65
    go_wp2
    go_ret
    exact ⟨rfl, hb⟩
  | false =>
    go_enter Try.func65, Try.ntmps65
    go_wp2
    go_ret
    exact ⟨rfl, hb⟩

open Classical in
set_option maxHeartbeats 400000 in
theorem one2_lit (B m : Nat) (R : Nat → Option Addr) (L C : Nat → Nat) (P : Nat → Nat → Int) (w : World) (hB : B ≤ w.heap.size) (hR : ∀ i, i < m → Rd w B (R i) (L i) (fun k => .int .i64 (P i k))) (hL : ∀ i, i < m → L i ≤ 1000000000) :
    Pred 66 #[] m (fun i => .slice (R i) (L i) (C i)) (fun i => decide (¬ SmallB (L i) (P i) 16 ∨ ZeroB (L i) (P i))) w := by
  intro W i hi hb
  have h1 := (hR i hi).belowW hB hb
  have h2 := hL i hi
  clear hR hL
  have hBW : B ≤ W.heap.size := Nat.le_trans hB hb.size
  show Calls Try.prog 66 #[.slice (R i) (L i) (C i)] W fun e w' => e = .returned (.bool (decide (¬ SmallB (L i) (P i) 16 ∨ ZeroB (L i) (P i)))) ∧ Below w.heap.size w w'
  generalize R i = r at h1
  generalize L i = l at h1 h2
  generalize C i = c
  generalize P i = p at h1
  have H1 := Lib.hid h1
  clear h1
  go_enter Try.func66, Try.ntmps66
  go_wp2_with fail
  refine (small_has W B l c r p 16 hBW H1.out h2).mono ?_
  rintro e w1 ⟨s, rfl, hs, hb1⟩
  have HS := Lib.hid hs
  clear hs
  have hb2 := hb.trans (hb1.mono hb.size)
  cases s with
  | false =>
    go_wp2_with fail
    go_ret
    exact ⟨ret_bl (decide_eq_true (.inl fun h => by have := HS.out.2 h; cases this)), hb2⟩
  | true =>
    go_wp2_with fail
    refine (zero_has w1 B l c r p (by have := hb1.size; omega) (H1.out.belowW hBW hb1) h2).mono ?_
    rintro e w2 ⟨z, rfl, hz, hb3⟩
    have HZ := Lib.hid hz
    clear hz
    go_wp2_with fail
    go_ret
    refine ⟨ret_bl ?_, hb2.trans (hb3.mono hb2.size)⟩
    have h3 : SmallB l p 16 := by simpa using HS.out
    by_cases hq : ZeroB l p
    · have hz : z = true := HZ.out.2 hq
      rw [decide_eq_true (.inr hq)]; simp [hz]
    · have hz : z = false := by cases z; rfl; exact absurd (HZ.out.1 rfl) hq
      rw [decide_eq_false (fun h => h.elim (fun h' => h' h3) hq)]; simp [hz]

theorem wrap_nat (j : Nat) (h : j ≤ 1000000000) : IntKind.i64.wrap (j : Int) = (j : Int) := by simp only [IntKind.wrap_i64]; omega

/-- The box of a linear set lies behind the blocks of w. -/
structure Box (w w1 : World) (u v : Value) : Prop where
  below : Below w.heap.size w w1
  size : w.heap.size + 1 < w1.heap.size
  c0 : w1.cell? ⟨w.heap.size + 1, 0, none⟩ = some u
  c1 : w1.cell? ⟨w.heap.size + 1, 1, none⟩ = some v
theorem Box.next {w w1 w2 : World} {u v : Value} (h : Box w w1 u v) (hb : Below w1.heap.size w1 w2) : Box w w2 u v where
  below := h.below.trans (hb.mono h.below.size)
  size := Nat.lt_of_lt_of_le h.size hb.size
  c0 := (hb.cell (p := ⟨w.heap.size + 1, 0, none⟩) h.size).trans h.c0
  c1 := (hb.cell (p := ⟨w.heap.size + 1, 1, none⟩) h.size).trans h.c1
theorem Box.drewN {w w1 : World} {u v : Value} (h : Box w w1 u v) (q : Nat) : Box w (w1.drewN q) u v := ⟨⟨h.below.os, h.below.tape, h.below.output, h.below.size, h.below.block⟩, h.size, h.c0, h.c1⟩
theorem Box.start (w : World) (x u v : Value) (t t' : TypeId) : Box w ((w.alloc (.cells #[x] t)).alloc (.cells #[u, v] t')) u v where
  below := ((Below.refl _ _).alloc (Nat.le_refl _) _).alloc (by simp) _
  size := by simp
  c0 := by simp [cell_alloc_if]
  c1 := by simp [cell_alloc_if]

def OnePost (n nb m : Nat) (b : Nat → Int) (L : Nat → Nat) (P : Nat → Nat → Int) (w : World) (e : Ending) (w' : World) : Prop := e = .returned (.int .i64 (oneErr n nb m b L P)) ∧ Below w.heap.size w w'

open Classical in
noncomputable def cmpV (n : Nat) (f g : Nat → Int) : Int := if LtV n f g then -1 else if LtV n g f then 1 else 0
theorem LtV.asymm {n : Nat} {f g : Nat → Int} (h : LtV n f g) : ¬ LtV n g f := fun ⟨j, j1, j2, j3⟩ => by
  obtain ⟨k, k1, k2, k3⟩ := h
  rcases Nat.lt_trichotomy j k with e | e | e
  · have := k2 j e; omega
  · subst e; omega
  · have := j2 k e; omega
theorem Cmp.val {n : Nat} {f g : Nat → Int} {c : Int} (h : Cmp n n f g c) : c = cmpV n f g := by
  unfold cmpV
  rcases h with ⟨h1, _⟩ | ⟨_, k, h2, h3, h4, rfl⟩ | ⟨_, h2, rfl⟩
  · exact absurd rfl h1
  · unfold ord
    by_cases h : f k < g k
    · rw [if_pos h, if_pos ⟨k, h2, h3, h⟩]
    · have h' : LtV n g f := ⟨k, h2, fun i hi => (h3 i hi).symm, by omega⟩
      rw [if_neg h, if_pos (by omega), if_neg h'.asymm, if_pos h']
  · rw [if_neg (fun ⟨j, j1, _, j3⟩ => by have := h2 j j1; omega), if_neg (fun ⟨j, j1, _, j3⟩ => by have := h2 j j1; omega)]
theorem cmpV_ge {n : Nat} {f g : Nat → Int} : 0 ≤ cmpV n f g ↔ ¬ LtV n f g := by
  unfold cmpV
  split
  · rename_i h; exact ⟨fun h => by omega, fun h' => absurd h h'⟩
  · rename_i h; exact ⟨fun _ => h, fun _ => by split <;> omega⟩

theorem scompare_val (w : World) (x B n c c' : Nat) (A A' : Option Addr) (f g : Nat → Int) (hf : Rd w B A n (fun i => .int .i64 (f i))) (hg : Rd w B A' n (fun i => .int .i64 (g i))) (hn : n ≤ 1000000000) :
    Calls Try.prog 57 #[.slice A n c, .slice A' n c'] (w.drewN x) fun e w' => e = .returned (.int .i64 (cmpV n f g)) ∧ ∃ q, w' = w.drewN q :=
  (scompare_any (w.drewN x) B B n c c' A A' f g hf hg hn).mono fun e w' ⟨_, h1, h2, q, h3⟩ => ⟨by rw [h1, h2.val], x + q, by rw [h3, World.drewN_drewN]⟩

open Classical in
set_option maxHeartbeats 1000000 in
theorem one_any (w : World) (B n nb cb m cp : Nat) (Ab Ap : Option Addr) (b : Nat → Int) (L : Nat → Nat) (P : Nat → Nat → Int) (hB : B ≤ w.heap.size) (hb : Rd w B Ab nb (fun i => .int .i64 (b i))) (hP : Rows w B m Ap L P) (hnb : nb ≤ 1000000000) (hm : m ≤ 1000000000) (hL : ∀ i, i < m → L i ≤ 1000000000) (hn : n ≤ 1000000000) :
    Calls Try.prog 47 #[.int .i64 (n : Int), .agg #[.slice Ab nb cb, .slice Ap m cp]] w (OnePost n nb m b L P w) := by
  by_cases hne : nb = n
  · subst hne
    have ht : ((nb : Int) != (nb : Int)) = false := by simp
    obtain ⟨R, C, hR, hr⟩ := hP
    have HR := Lib.hid hR
    have Hr := Lib.hid hr
    have HL := Lib.hid hL
    have HBs := Lib.hid hb
    clear hR hr hL hb
    have eg1 := enters_of Try.func65 (by kernel_rfl) rfl
    have eg2 := enters_of Try.func66 (by kernel_rfl) rfl
    go_enter Try.func47, Try.ntmps47
    go_wp2_with fail
    have hX0 := Box.start w (.int .i64 (nb : Int)) (.slice Ab nb cb) (.slice Ap m cp) 3 29
    refine (contains_rows _ B m cp 65 #[.pointer (some ⟨w.heap.size, 0, none⟩)] Ap R L C _ (Nat.le_trans hB hX0.below.size) (HR.out.belowW hB hX0.below) hm eg1 (one1_lit B nb m w.heap.size R L C _ (by simp; omega) (by simp [cell_alloc_if]))).mono ?_
    rintro e w1 ⟨r1, rfl, h1, hb1⟩
    have HX1 := Lib.hid (hX0.next hb1)
    have hB1 : B ≤ w1.heap.size := Nat.le_trans hB HX1.out.below.size
    have H1 := Lib.hid h1
    clear h1 hb1 hX0
    cases r1 with
    | true =>
      have he : Hid (oneErr nb nb m b L P = 3) := if_pos (by
        obtain ⟨i, hi, h⟩ := (by simpa using H1.out : ∃ i, i < m ∧ ((L i : Int) ≠ (nb : Int)))
        exact .inr ⟨i, hi, by omega⟩)
      go_wp2_with fail
      go_ret
      exact ⟨ret_ni he.out, HX1.out.below⟩
    | false =>
      have hLn : ∀ i, i < m → L i = nb := fun i hi => by
        have h := (by simpa using H1.out : ∀ i, i < m → (L i : Int) = (nb : Int)) i hi
        omega
      have e1 : ¬ OneBad nb nb m L := fun h => h.elim (fun h => h rfl) fun ⟨i, hi, h⟩ => h (hLn i hi)
      have HLn := Lib.hid hLn
      have E1 := Lib.hid e1
      clear hLn e1 H1
      have hs0 := HX1.out.c0
      have hs1 := HX1.out.c1
      go_wp2_with fail
      refine (small_has w1 B nb cb Ab b 16 hB1 (HBs.out.belowW hB HX1.out.below) hnb).mono ?_
      rintro e w2 ⟨r2, rfl, h2, hb2⟩
      have HX2 := Lib.hid (HX1.out.next hb2)
      have hB2 : B ≤ w2.heap.size := Nat.le_trans hB HX2.out.below.size
      have H2 := Lib.hid h2
      clear h2 hb2 hs0 hs1
      have hs0 := HX2.out.c0
      have hs1 := HX2.out.c1
      cases r2 with
      | false =>
        have he : Hid (oneErr nb nb m b L P = 2) := by
          unfold Hid oneErr
          rw [if_neg E1.out, if_pos (.inl (fun h => by have := H2.out.2 h; cases this))]
        go_wp2_with fail
        go_ret
        exact ⟨ret_ni he.out, HX2.out.below⟩
      | true =>
        have h2 : SmallB nb b 16 := H2.out.1 rfl
        have H2' := Lib.hid h2
        clear h2 H2
        go_wp2_with fail
        refine (contains_rows w2 B m cp 66 #[] Ap R L C _ hB2 (HR.out.belowW hB HX2.out.below) hm eg2 (one2_lit B m R L C P w2 hB2 (fun i hi => (Hr.out i hi).1.belowW hB HX2.out.below) HL.out)).mono ?_
        rintro e w3 ⟨r3, rfl, h3, hb3⟩
        have HX3 := Lib.hid (HX2.out.next hb3)
        have H3 := Lib.hid h3
        clear h3 hb3 hs0 hs1
        have hs0 := HX3.out.c0
        have hs1 := HX3.out.c1
        cases r3 with
        | true =>
          have he : Hid (oneErr nb nb m b L P = 2) := by
            unfold Hid oneErr
            rw [if_neg E1.out, if_pos (.inr (by
              obtain ⟨i, hi, h⟩ := H3.out.1 rfl
              exact ⟨i, hi, of_decide_eq_true h⟩))]
          go_wp2_with fail
          go_ret
          exact ⟨ret_ni he.out, HX3.out.below⟩
        | false =>
          have e2 : ¬ OneRange nb m b L P := fun h => h.elim (fun h => h H2'.out) fun ⟨i, hi, h⟩ => by
            have := H3.out.2 ⟨i, hi, decide_eq_true h⟩; cases this
          have E2 := Lib.hid e2
          clear e2 H3
          by_cases h4 : 3 < m
          · have he : Hid (oneErr nb nb m b L P = 1) := by
              unfold Hid oneErr
              rw [if_neg E1.out, if_neg E2.out, if_pos h4]
            go_wp2_with fail
            go_ret
            exact ⟨ret_ni he.out, HX3.out.below⟩
          · go_wp2_with fail
            go_loopg [5] (m + 1) (fun gh iv wr => ∃ i : Nat, m + 1 ≤ i + gh ∧ 1 ≤ i ∧ (i ≤ m ∨ i = 1) ∧ iv = .int .i64 (i : Int) ∧ (∀ r, 1 ≤ r → r < i → LtV nb (P (r - 1)) (P r)) ∧ Box w wr (.slice Ab nb cb) (.slice Ap m cp))
            case atStart => exact ⟨1, by omega, by omega, .inr rfl, rfl, fun r h1 h2 => by omega, HX3.out⟩
            case round =>
              obtain ⟨i, hgh, hi1, hi, rfl, hs, hX⟩ := hrel
              have hs0 := hX.c0
              have hs1 := hX.c1
              have HX := Lib.hid hX
              have HS := Lib.hid hs
              clear hs hX
              by_cases hlt : i < m
              · obtain ⟨j, hij⟩ : ∃ j, i = j + 1 := ⟨i - 1, by omega⟩
                have hjm : j < m := by omega
                obtain ⟨a, rfl, _, ha⟩ := (HR.out.belowW hB HX.out.below).at_ (show j < m by omega)
                obtain ⟨a', e', _, ha'⟩ := (HR.out.belowW hB HX.out.below).at_ hlt
                injection e' with e'
                subst e'
                have hc1 := (Hr.out j (by omega)).1.belowW hB HX.out.below
                have hc2 := (Hr.out i hlt).1.belowW hB HX.out.below
                have hl1 := HLn.out j (by omega)
                have hl2 := HLn.out i hlt
                rw [hl1] at hc1
                rw [hl2] at hc2
                rw [hl1] at ha
                rw [hl2] at ha'
                have HC1 := Lib.hid hc1
                have HC2 := Lib.hid hc2
                clear hc1 hc2 hl1 hl2
                have hj : IntKind.i64.wrap ((i : Int) - 1) = (j : Int) := by rw [show (i : Int) - 1 = (j : Int) by omega]; exact wrap_nat j (by omega)
                have HIJ := Lib.hid hij
                clear hij
                by_cases hlv : LtV nb (P j) (P i)
                · have hcv : decide (0 ≤ cmpV nb (P j) (P i)) = false := decide_eq_false (fun h => cmpV_ge.1 h hlv)
                  have HLV := Lib.hid hlv
                  clear hlv
                  go_wp2_with fail
                  go_quiet ((go_at_call 57; exact scompare_val _ _ B nb _ _ _ _ _ _ HC1.out HC2.out hnb))
                  go_wp2_with fail
                  go_roundg (m - i)
                  case measure => omega
                  case rel => exact ⟨i + 1, by omega, by omega, .inl (by omega), by go_num, fun r h1 h2 => by
                    by_cases e : r = i
                    · subst e; rw [show r - 1 = j by have := HIJ.out; omega]; exact HLV.out
                    · exact HS.out r h1 (by omega), HX.out.drewN _⟩
                · have hcv : decide (0 ≤ cmpV nb (P j) (P i)) = true := decide_eq_true (cmpV_ge.2 hlv)
                  have he : Hid (oneErr nb nb m b L P = 4) := by
                    unfold Hid oneErr
                    rw [if_neg E1.out, if_neg E2.out, if_neg h4, if_pos ⟨i, hi1, hlt, by rw [show i - 1 = j by have := HIJ.out; omega]; exact hlv⟩]
                  clear hlv
                  go_wp2_with fail
                  go_quiet ((go_at_call 57; exact scompare_val _ _ B nb _ _ _ _ _ _ HC1.out HC2.out hnb))
                  go_wp2_with fail
                  go_ret
                  exact ⟨ret_ni he.out, (HX.out.drewN _).below⟩
              · have he : Hid (oneErr nb nb m b L P = 0) := by
                  unfold Hid oneErr
                  rw [if_neg E1.out, if_neg E2.out, if_neg h4, if_neg (fun ⟨r, h1, h2, h3⟩ => h3 (HS.out r h1 (by omega)))]
                go_wp2_with fail
                go_ret
                exact ⟨ret_ni he.out, HX.out.below⟩
  · have ht : ((nb : Int) != (n : Int)) = true := by rw [bne_iff_ne]; omega
    have he : Hid (oneErr n nb m b L P = 3) := if_pos (.inl hne)
    clear hb hP hL
    go_enter Try.func47, Try.ntmps47
    go_wp2_with fail
    go_ret
    exact ⟨ret_ni he.out, ((Below.refl _ _).alloc (Nat.le_refl _) _).alloc (by simp) _⟩
end Go.Proofs.Ytdhadnnakcdfiaa
