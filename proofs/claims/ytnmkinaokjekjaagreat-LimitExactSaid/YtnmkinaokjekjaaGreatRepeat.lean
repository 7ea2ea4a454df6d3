/- slices.Repeat of one int. -/
import Derived.Test.YtnmkinaokjekjaaGreatChecked
import Derived.Test.YtnmkinaokjekjaaGreatMem
import Derived.Test.YtnmkinaokjekjaaGreatTypes
import Derived.Test.YtnmkinaokjekjaaGreatShelf
import Derived.WalkSpells
import Derived.Laws.CopyOwn
import Derived.Deep.RegionLaw
import Derived.IntWalk
namespace Go.Proofs.YtnmkinaokjekjaaGreat
set_option linter.unusedVariables false
open Go.RowKit

def RepeatPost (n : Nat) (v : Int) (w : World) (en : Ending) (w' : World) : Prop :=
  ∃ g, en = .returned (.slice (some ⟨g, 0, none⟩) n n) ∧ w.heap.size ≤ g ∧ g < w'.heap.size ∧ Own w' g n (fun _ => .int .i64 v) ∧ Below w.heap.size w w'

theorem mul_one_small (n : Nat) (hn : n ≤ 1000) (w : World) :
    Calls Tryz.prog 87 #[.int .u64 1, .int .u64 (n : Int)] w fun e w' => e = .returned (.tuple #[.int .u64 0, .int .u64 (n : Int)]) ∧ w = w' := by
  refine (Tryz.bits_Mul 1 n (by omega) (by omega) w).mono ?_
  rintro e w' ⟨rfl, rfl⟩
  refine ⟨?_, rfl⟩
  rw [show 1 * n / 18446744073709551616 = 0 by omega, show 1 * n % 18446744073709551616 = n by omega]
  rfl

theorem splice_fill {v : Value} {n k j : Nat} {cur : List Value} (hl : cur.length = n) (hk : ∀ i, i < k → cur.getD i undef = v) (hj : k + j ≤ n) :
    ∀ i, i < k + j → (splice cur k (List.replicate j v)).getD i undef = v := by
  intro i hi
  unfold splice
  rw [List.getD_eq_getElem?_getD]
  by_cases h : i < k
  · rw [List.getElem?_append_left (by simp; omega), List.getElem?_take_of_lt h, ← List.getD_eq_getElem?_getD]
    exact hk i h
  · rw [List.getElem?_append_right (by simp; omega), List.getElem?_append_left (by simp; omega)]
    rw [List.getElem?_replicate, if_pos (by simp; omega)]
    rfl

set_option maxHeartbeats 1000000 in
theorem repeat_one (w : World) (n c : Nat) (v : Int) (a : Addr) (hr : w.cell? a = some (.int .i64 v)) (hn : n ≤ 1000) :
    Calls Tryz.prog 55 #[.slice (some a) 1 c, .int .i64 (n : Int)] w (RepeatPost n v w) := by
  have hmk := run_make_n sl_int n (by omega)
  have hlt := lt_of_cell hr
  go_enter Tryz.func55, Tryz.ntmps55
  go_wp2_with fail
  refine (mul_one_small n hn w).mono ?_
  rintro e w' ⟨rfl, rfl⟩
  have hg0 : (w.alloc (.cells (madeCells (Value.int IntKind.i64 0).cells n) 3)).heap[w.heap.size]? = some (.cells (List.replicate n (Value.int .i64 0)).toArray 3 (0, 0)) := by
    rw [heap_alloc_new, ← toList_madeCells_one]; rfl
  have Hg0 := Lib.hid hg0
  have HC2 : Hid (∀ j u, (List.replicate (min 1 n) (Value.int .i64 v))[j]? = some u → (w.alloc (.cells (madeCells (Value.int IntKind.i64 0).cells n) 3)).cell? (a.add j) = some u) := by
    intro j u hu
    have hj : j < 1 := by have := (List.getElem?_eq_some_iff.1 hu).1; simp at this; omega
    obtain rfl : j = 0 := by omega
    have : u = .int .i64 v := by
      have := List.getElem?_replicate (a := Value.int .i64 v) (n := min 1 n) (i := 0)
      rw [hu] at this; split at this
      · injection this
      · cases this
    subst this
    simpa [Addr.add] using (World.cell?_alloc_lt w (.cells (madeCells (Value.int IntKind.i64 0).cells n) 3) a hlt).trans hr
  have h1n : min 1 n ≤ n := by omega
  clear hg0 hr hlt
  go_wp2_with (refine wpList_copy_splice rfl (.tmp 31) (.tmp 32) 22 22 rfl 3 sl_int.ht (by kernel_rfl) (some ⟨w.heap.size, 0, none⟩) (some a) n n 1 c rfl rfl w.heap.size 0 (List.replicate n (Value.int .i64 0)) 3 Hg0.out (List.replicate (min 1 n) (Value.int .i64 v)) (by simp [Nat.min_def]) (fun _ => ⟨rfl, a, rfl, HC2.out⟩) (by simp; omega) (by intro u hu; rw [(List.mem_replicate.1 hu).2]; rfl) w.heap.size w ((Below.refl _ _).alloc (Nat.le_refl _) _) (Nat.le_refl _) ?_; intro w1 Hh1 hb1)
  go_loopg [8] (n + 1) (fun g i wr => ∃ (k : Nat) (cur : List Value), n + 1 ≤ k + g ∧ k ≤ n ∧ (0 < n → 0 < k) ∧ i = .int .i64 k ∧ cur.length = n ∧ (∀ i, i < k → cur.getD i undef = .int .i64 v) ∧ wr.heap[w.heap.size]? = some (.cells cur.toArray 3 (0, 0)) ∧ Below w.heap.size w wr)
  case atStart =>
    refine ⟨min 1 n, _, by omega, h1n, by omega, rfl, ?_, ?_, Hh1.out, hb1⟩
    · rw [length_splice _ _ _ (by simp; omega)]; simp
    · have := splice_fill (v := .int .i64 v) (n := n) (k := 0) (j := min 1 n) (cur := List.replicate n (Value.int .i64 0)) (by simp) (fun i hi => by omega) (by omega)
      rw [Nat.zero_add] at this; exact this
  case round =>
    obtain ⟨k, cur, hg, hkn, hpos, rfl, hl, hcur, hh, hb⟩ := hrel
    by_cases hk : k < n
    · have hk0 := hpos (by omega)
      have HL := Lib.hid hl
      have HC := Lib.hid hcur
      have HH : Hid (wr.drew.heap[w.heap.size]? = some (.cells cur.toArray 3 (0, 0))) := hh
      have HS : Hid (∀ j u, (List.replicate (min k (n - k)) (Value.int .i64 v))[j]? = some u → wr.drew.cell? ((⟨w.heap.size, 0, none⟩ : Addr).add j) = some u) := by
        intro j u hu
        have hj : j < min k (n - k) := by have := (List.getElem?_eq_some_iff.1 hu).1; simpa using this
        rw [List.getElem?_replicate, if_pos hj] at hu
        injection hu with hu
        subst hu
        rw [addz, cell_of_row wr.drew w.heap.size j _ _ _ hh]
        have h2 := hcur j (by omega)
        have hjl : j < cur.length := by omega
        rw [List.getD_eq_getElem?_getD, List.getElem?_eq_getElem hjl] at h2
        simp only [Option.getD_some] at h2
        simp [hjl, h2]
      obtain ⟨w4, hcp, hg4, hb4⟩ : ∃ w4, (Builtin.copy_ #[22, 22] 3 #[.slice (some ⟨w.heap.size, k, none⟩) (n - k) (n - k), .slice (some ⟨w.heap.size, 0, none⟩) k n]).run Tryz.prog wr.drew = .ok (.int .i64 ((min k (n - k) : Nat) : Int)) w4 ∧
          Hid (w4.heap[w.heap.size]? = some (.cells (splice cur k (List.replicate (min k (n - k)) (Value.int .i64 v))).toArray 3 (0, 0))) ∧ Below w.heap.size w w4 := by
        refine ⟨_, (run_copy_row (P := Tryz.prog) wr.drew 22 22 3 3 w.heap.size k (n - k) (n - k) ⟨w.heap.size, 0, none⟩ k n cur.toArray 3 (List.replicate (min k (n - k)) (Value.int .i64 v)) sl_int.ht (by kernel_rfl) hh (by simp [Nat.min_def]) HS.out (by simp; omega) (by intro u hu; rw [(List.mem_replicate.1 hu).2]; rfl)).trans (by simp [goInt]; rfl), ?_, below_setRow hb.drew (Nat.le_refl _) _⟩
        have := setRow_heap wr.drew w.heap.size cur.toArray (splice cur k (List.replicate (min k (n - k)) (Value.int .i64 v))).toArray 3 (0, 0) hh
        simpa [splice, Hid] using this
      clear hl hcur hh hpos HS
      have hnk : ¬ n = k := by omega
      go_wp2_with fail
      go_region
      go_wp2_with fail
      have hmin : k + min k (n - k) ≤ n := by omega
      go_roundg (n + 1 - (k + min k (n - k)))
      case measure => omega
      case rel =>
        refine ⟨k + min k (n - k), _, by omega, hmin, fun _ => by omega, by simp, ?_, ?_, hg4.out, hb4⟩
        · rw [length_splice _ _ _ (by rw [HL.out]; simpa using hmin)]; exact HL.out
        · exact splice_fill HL.out HC.out hmin
    · obtain rfl : k = n := by omega
      go_wp2_with fail
      go_ret
      refine ⟨w.heap.size, rfl, Nat.le_refl _, heap_lt hh, fun i hi => ⟨?_, by simp [World.frozen?, hh]⟩, hb⟩
      have h2 := hcur i hi
      have hjl : i < cur.length := by omega
      rw [cell_of_row wr w.heap.size i _ _ _ hh]
      rw [List.getD_eq_getElem?_getD, List.getElem?_eq_getElem hjl] at h2
      simp only [Option.getD_some] at h2
      simp [hjl, h2]
end Go.Proofs.YtnmkinaokjekjaaGreat
