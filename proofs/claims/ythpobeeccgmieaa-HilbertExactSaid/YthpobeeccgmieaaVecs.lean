/- The walks of hilbert.vectors and of the iterator that it hands back. -/
import Derived.Test.YthpobeeccgmieaaFill
import Derived.Laws.EntriesVeiled
namespace Go.Proofs.Ythpobeeccgmieaa
set_option linter.unusedVariables false
open Go.RowKit
attribute [local go_sem] Oper.semAt_some

set_option maxRecDepth 100000 in
set_option maxHeartbeats 2000000 in
theorem vec1_seq {w0 : World} {Bn Bs N S : Nat} (hn : w0.cell? ⟨Bn, 0, none⟩ = some (.int .i64 (N : Int))) (hs : w0.cell? ⟨Bs, 0, none⟩ = some (.int .i64 (S : Int))) (hN : 1 ≤ N ∧ N ≤ 1000) (hS : S ≤ 1000) :
    SeqV Try.prog 72 #[.pointer (some ⟨Bn, 0, none⟩), .pointer (some ⟨Bs, 0, none⟩)] [Bn, Bs] (vecs (N - 1) S) w0 := by
  intro n l J W hJ hk0 hY h0
  obtain ⟨hN1, hN2⟩ := hN
  have hcn := hk0.read hn (by simp)
  have hcs := hk0.read hs (by simp)
  have hmk := fun w => run_make_n sl_int N (by omega) w
  have hBn : Bn < W.heap.size := lt_of_cell hcn
  have hBs : Bs < W.heap.size := lt_of_cell hcs
  have hz : ∃ z, W.heap.size = z := ⟨_, rfl⟩
  obtain ⟨z, hz⟩ := hz
  obtain ⟨W1, hW1⟩ : ∃ W1, W.alloc (.cells #[.func (.yield l) #[] #[]] 25) = W1 := ⟨_, rfl⟩
  obtain ⟨W2, hW2⟩ : ∃ W2, W1.alloc (.cells (madeCells #[Value.int .i64 0] N) 3) = W2 := ⟨_, rfl⟩
  obtain ⟨W3, hW3⟩ : ∃ W3, W2.alloc (.cells #[.slice (some ⟨z + 1, 0, none⟩) N N] 22) = W3 := ⟨_, rfl⟩
  obtain ⟨W4, hW4⟩ : ∃ W4, W3.alloc (.cells #[.func (.func 73) #[] #[.pointer (some ⟨Bn, 0, none⟩), .pointer (some ⟨z + 1 + 1, 0, none⟩), .pointer (some ⟨z, 0, none⟩), .pointer (some ⟨z + 1 + 1 + 1, 0, none⟩)]] 73) = W4 := ⟨_, rfl⟩
  have k1 : Keeps [] W W1 := by rw [← hW1]; exact (Keeps.refl _ _).alloc _
  have k2 : Keeps [] W1 W2 := by rw [← hW2]; exact (Keeps.refl _ _).alloc _
  have k3 : Keeps [] W2 W3 := by rw [← hW3]; exact (Keeps.refl _ _).alloc _
  have k4 : Keeps [] W3 W4 := by rw [← hW4]; exact (Keeps.refl _ _).alloc _
  have s1 : W1.heap.size = z + 1 := by rw [← hW1, World.size_alloc, hz]
  have s2 : W2.heap.size = z + 2 := by rw [← hW2, World.size_alloc, s1]
  have s3 : W3.heap.size = z + 3 := by rw [← hW3, World.size_alloc, s2]
  have s4 : W4.heap.size = z + 4 := by rw [← hW4, World.size_alloc, s3]
  have c1 : W1.cell? ⟨z, 0, none⟩ = some (.func (.yield l) #[] #[]) := by rw [← hW1, ← hz]; exact World.cell?_alloc_new _ _ _ _
  have o2 : Own W2 (z + 1) N (fun _ => .int .i64 0) := by
    have : Own (W1.alloc (.cells (madeCells #[Value.int .i64 0] N) 3)) W1.heap.size N (fun _ => .int .i64 0) := own_made W1 (.int .i64 0) rfl N 3
    rw [hW2, s1] at this; exact this
  have c3 : W3.cell? ⟨z + 1 + 1, 0, none⟩ = some (.slice (some ⟨z + 1, 0, none⟩) N N) := by
    have := World.cell?_alloc_new (w := W2) #[.slice (some ⟨z + 1, 0, none⟩) N N] 22 0
    rw [hW3, s2] at this; exact this
  have c4 : W4.cell? ⟨z + 1 + 1 + 1, 0, none⟩ = some (.func (.func 73) #[] #[.pointer (some ⟨Bn, 0, none⟩), .pointer (some ⟨z + 1 + 1, 0, none⟩), .pointer (some ⟨z, 0, none⟩), .pointer (some ⟨z + 1 + 1 + 1, 0, none⟩)]) := by
    have := World.cell?_alloc_new (w := W3) #[.func (.func 73) #[] #[.pointer (some ⟨Bn, 0, none⟩), .pointer (some ⟨z + 1 + 1, 0, none⟩), .pointer (some ⟨z, 0, none⟩), .pointer (some ⟨z + 1 + 1 + 1, 0, none⟩)]] 73 0
    rw [hW4, s3] at this; exact this
  have hF : FM Bn (z + 1 + 1) z (z + 1 + 1 + 1) (z + 1) N l W4 [] :=
    ⟨(((k1.trans k2).trans k3).trans k4).read hcn (by simp), k4.read c3 (by simp), ((k2.trans k3).trans k4).read c1 (by simp), c4, fun _ => 0, o2.keep (k3.trans k4) (by simp), fun i hi => absurd hi (by simp)⟩
  have hcs4 := (((k1.trans k2).trans k3).trans k4).read hcs (by simp)
  have hk14 := ((k1.trans k2).trans k3).trans k4
  have hJ4 : J ((z + 1 + 1) :: z :: (z + 1 + 1 + 1) :: (z + 1) :: [Bn, Bs]) [] W4 := by
    refine hJ.keeps (hJ.weak h0 fun y hy => ?_) (hk14.nil _)
    simp only [List.mem_cons, List.not_mem_nil, or_false] at hy ⊢
    omega
  have hNk : N - 1 + 1 = N := by omega
  have hfill : CallsIn Fence.wide (n - 1) Try.prog 73 #[.int .i64 0, .int .i64 (S : Int), .pointer (some ⟨Bn, 0, none⟩), .pointer (some ⟨z + 1 + 1, 0, none⟩), .pointer (some ⟨z, 0, none⟩), .pointer (some ⟨z + 1 + 1 + 1, 0, none⟩)] W4
      (FillPost Bn (z + 1 + 1) z (z + 1 + 1 + 1) (z + 1) N l [] J ((z + 1 + 1) :: z :: (z + 1 + 1 + 1) :: (z + 1) :: [Bn, Bs]) (vecs (N - 1) S) W4) := by
    have := fill_is (l := l) hJ (xs := vecs (N - 1) S) (O := (z + 1 + 1) :: z :: (z + 1 + 1 + 1) :: (z + 1) :: [Bn, Bs]) (Bn := Bn) (Bv := z + 1 + 1) (By := z) (Bf := z + 1 + 1 + 1) (g := z + 1) (N := N)
      (fun y hy => by simp only [List.mem_cons, List.not_mem_nil, or_false] at hy ⊢; omega) (by omega) hN2 (fun pre x rest v Wp W1 hx hj h1 h2 hv => hY _ pre x rest v Wp W1 hx hj h1 h2 hv) (N - 1)
      (n - 1) 0 S [] [] [] W4 hS (by omega) rfl hF hJ4 (by simp) (fun y hy => by simp only [List.mem_cons, List.not_mem_nil, or_false] at hy; omega)
    simp only [List.nil_append, List.map_id'] at this
    exact this
  have hcn1 := k1.read hcn (by simp)
  have hsz4 : ∀ y ∈ [Bn, Bs], y < W4.heap.size := fun y hy => by simp only [List.mem_cons, List.not_mem_nil, or_false] at hy; omega
  have HY := Lib.hid hY
  have H0 := Lib.hid h0
  have HK0 := Lib.hid hk0
  have HFILL := Lib.hid hfill
  have K1 := Lib.hid k1
  have K2 := Lib.hid k2
  have K3 := Lib.hid k3
  have K4 := Lib.hid k4
  have S4 := Lib.hid s4
  have C1 := Lib.hid c1
  have O2 := Lib.hid o2
  have C3 := Lib.hid c3
  have HF := Lib.hid hF
  have HJ4 := Lib.hid hJ4
  have HK14 := Lib.hid hk14
  have HNK := Lib.hid hNk
  have HSZ4 := Lib.hid hsz4
  clear hY h0 hk0 hfill k1 k2 k3 k4 s4 c1 o2 c3 hF hJ4 hk14 hNk hsz4
  show CallsIn Fence.wide n Try.prog 72 #[.func (.yield l) #[] #[], .pointer (some ⟨Bn, 0, none⟩), .pointer (some ⟨Bs, 0, none⟩)] W _
  refine callsIn_of_wp Try.func72 rfl trivial ?_ rfl
  simp only [Try.ntmps72, List.size_toArray, List.length_cons, List.length_nil, Nat.reduceAdd, Nat.reduceSub, Array.replicate_succ, Array.replicate_zero, List.push_toArray, List.append_toArray, List.nil_append, List.cons_append]
  gi_wp2_with ((try refine ⟨trivial, ?_⟩); (try refine ⟨wide_depth _, ?_⟩); gi_at_call 73; refine HFILL.out.mono ?_; rintro e W5 ⟨rfl, hJ5, hF5, hs5⟩)
  go_end0
  exact ⟨⟨_, rfl⟩, hJ.weak hJ5 (by simp)⟩

def VecsPost (N S : Nat) (w : World) (e : Ending) (w' : World) : Prop :=
  e = .returned (.func (.func 72) #[] #[.pointer (some ⟨w.heap.size, 0, none⟩), .pointer (some ⟨w.heap.size + 1, 0, none⟩)]) ∧ w'.cell? ⟨w.heap.size, 0, none⟩ = some (.int .i64 (N : Int)) ∧
    w'.cell? ⟨w.heap.size + 1, 0, none⟩ = some (.int .i64 (S : Int)) ∧ Keeps [] w w' ∧ w.heap.size + 2 ≤ w'.heap.size
theorem vectors_is (w : World) (N S : Nat) : Calls Try.prog 54 #[.int .i64 (N : Int), .int .i64 (S : Int)] w (VecsPost N S w) := by
  unfold VecsPost
  go_enter Try.func54, Try.ntmps54
  go_wp2_with fail
  go_ret
  refine ⟨rfl, ?_, ?_, ((Keeps.refl _ _).alloc _).alloc _, by simp⟩
  · rw [World.cell?_alloc_lt _ _ _ (by simp)]; exact World.cell?_alloc_new _ _ _ _
  · have := World.cell?_alloc_new (w := w.alloc (.cells #[.int .i64 (N : Int)] 3)) #[.int .i64 (S : Int)] 3 0
    rw [World.size_alloc] at this; exact this
end Go.Proofs.Ythpobeeccgmieaa
