/- The walk of word.merged. -/
import Derived.Test.YtfhommegkogahaaMerged
namespace Go.Proofs.Ytfhommegkogahaa
set_option linter.unusedVariables false
open Go.RowKit

def mrgL : List Int → List Int → List (List Int)
  | [], b => [b]
  | x :: a, [] => [x :: a]
  | x :: a, y :: b => if x = y then (mrgL a b).map (x :: ·) else (mrgL a (y :: b)).map (x :: ·) ++ (mrgL (x :: a) b).map (y :: ·)
termination_by a b => a.length + b.length
theorem mrgL_cons (x y : Int) (a b : List Int) : mrgL (x :: a) (y :: b) = if x = y then (mrgL a b).map (x :: ·) else (mrgL a (y :: b)).map (x :: ·) ++ (mrgL (x :: a) b).map (y :: ·) := by rw [mrgL]
theorem mrgL_nil (a b : List Int) (h : a.length = 0 ∨ b.length = 0) : mrgL a b = [a ++ b] := by
  cases a with
  | nil => simp [mrgL]
  | cons x a =>
    cases b with
    | nil => simp [mrgL]
    | cons y b => simp at h
theorem mrgL_len : ∀ (N : Nat) (a b : List Int), a.length + b.length ≤ N → (mrgL a b).length ≤ 2 ^ (a.length + b.length)
  | 0, a, b, h => by
    rw [mrgL_nil a b (by omega)]; exact Nat.one_le_two_pow
  | N + 1, a, b, h => by
    cases a with
    | nil => rw [mrgL_nil _ _ (.inl rfl)]; exact Nat.one_le_two_pow
    | cons x a =>
      cases b with
      | nil => rw [mrgL_nil _ _ (.inr rfl)]; exact Nat.one_le_two_pow
      | cons y b =>
        simp only [List.length_cons] at h
        rw [mrgL_cons]
        split
        · have := mrgL_len N a b (by omega)
          rw [List.length_map]
          refine Nat.le_trans this (Nat.pow_le_pow_right (by omega) (by simp; omega))
        · have h1 := mrgL_len N a (y :: b) (by simp; omega)
          have h2 := mrgL_len N (x :: a) b (by simp; omega)
          rw [List.length_append, List.length_map, List.length_map]
          have e1 : a.length + (y :: b).length = a.length + b.length + 1 := by simp; omega
          have e2 : (x :: a).length + b.length = a.length + b.length + 1 := by simp; omega
          have e3 : (x :: a).length + (y :: b).length = a.length + b.length + 1 + 1 := by simp; omega
          rw [e1] at h1; rw [e2] at h2; rw [e3, Nat.pow_succ]
          omega
theorem mrgL_mem : ∀ (N : Nat) (a b : List Int), a.length + b.length ≤ N → ∀ x ∈ mrgL a b, x.length ≤ a.length + b.length
  | 0, a, b, h, x, hx => by
    rw [mrgL_nil a b (by omega)] at hx
    rw [List.mem_singleton.1 hx]; simp
  | N + 1, a, b, h, z, hz => by
    cases a with
    | nil => rw [mrgL_nil _ _ (.inl rfl)] at hz; rw [List.mem_singleton.1 hz]; simp
    | cons x a =>
      cases b with
      | nil => rw [mrgL_nil _ _ (.inr rfl)] at hz; rw [List.mem_singleton.1 hz]; simp
      | cons y b =>
        simp only [List.length_cons] at h ⊢
        rw [mrgL_cons] at hz
        split at hz
        · obtain ⟨u, hu, rfl⟩ := List.mem_map.1 hz
          have := mrgL_mem N a b (by omega) u hu
          simp; omega
        · rcases List.mem_append.1 hz with hz | hz
          · obtain ⟨u, hu, rfl⟩ := List.mem_map.1 hz
            have := mrgL_mem N a (y :: b) (by simp; omega) u hu
            simp at this ⊢; omega
          · obtain ⟨u, hu, rfl⟩ := List.mem_map.1 hz
            have := mrgL_mem N (x :: a) b (by simp; omega) u hu
            simp at this ⊢; omega
theorem mrgL_256 {a b : List Int} (h : a.length + b.length ≤ 8) : (mrgL a b).length ≤ 256 := Nat.le_trans (mrgL_len _ a b (Nat.le_refl _)) (Nat.pow_le_pow_right (by omega) h)

def MrgPost (l : List Nat) (zs : List (List Int)) (w : World) (e : Ending) (w' : World) : Prop :=
  ∃ V n c, n = zs.length ∧ e = .returned (.slice V n c) ∧ OwL IsI [] 22 w.heap.size w' l (.slice V n c) zs ∧ Keeps [] w w'
/-- A fact of the beginning, later, whatever newer blocks may be written. -/
theorem isI_at {w W : World} {l l' : List Nat} {v : Value} {x : List Int} (h : IsI w l v x) (k : Keeps [] w W) (hl : ∀ y ∈ l', y ∈ l ∨ w.heap.size ≤ y) : IsI W l' v x := Rok.keeps (Rok.weak h hl) (k.nil _)

set_option maxHeartbeats 2000000 in
theorem merged_base {w : World} {l : List Nat} {av bv : Value} {a b : List Int} (h0 : a.length = 0 ∨ b.length = 0) (hn : a.length ≤ 1000) (hm : b.length ≤ 1000) (hl : ∀ y ∈ l, y < w.heap.size) (ha : IsI w l av a) (hb : IsI w l bv b) :
    Calls Try.prog 32 #[av, bv] w (MrgPost l (mrgL a b) w) := by
  unfold MrgPost
  obtain ⟨A, c, rfl, _, _, h1⟩ := ha.open
  obtain ⟨B, c', rfl, _, _, h2⟩ := hb.open
  have hz := mrgL_nil a b h0
  generalize mrgL a b = zs at *
  generalize hna : a.length = n at *
  generalize hnb : b.length = m at *
  have hn' : a.length ≤ 100000 := by omega
  have hm' : b.length ≤ 100000 := by omega
  have H1 := Lib.hid h1
  have H2 := Lib.hid h2
  have HZ := Lib.hid hz
  have HL := Lib.hid hl
  have HA := Lib.hid ha
  have HB := Lib.hid hb
  have HNA := Lib.hid hna
  have HNB := Lib.hid hnb
  clear h1 h2 hz hl ha hb hna hnb
  by_cases e : n = 0
  · subst e
    clear h0
    go_enter Try.func32, Try.ntmps32
    go_wp2_with fail
    refine Calls.mono (concat2_is HL.out HA.out HB.out (by omega) (by omega)) ?_
    rintro e w1 ⟨A', n', c1, hn', rfl, hO, hk⟩
    have hA' := hO.isL HL.out
    have HO := Lib.hid hO
    have HN' := Lib.hid hn'
    have HK := Lib.hid hk
    have HA' := Lib.hid hA'
    clear hO hn' hk hA'
    go_wp2_with fail
    go_ret
    refine ⟨some ⟨w1.heap.size, 0, none⟩, 1, 1, by rw [HZ.out]; rfl, rfl, ?_, HK.out.alloc _⟩
    rw [HZ.out]
    exact (OwL.made1 (R := IsI) HA'.out).low HK.out.size
  · have e' : m = 0 := by omega
    subst e'
    clear h0
    go_enter Try.func32, Try.ntmps32
    go_wp2_with fail
    refine Calls.mono (concat2_is HL.out HA.out HB.out (by omega) (by omega)) ?_
    rintro e w1 ⟨A', n', c1, hn', rfl, hO, hk⟩
    have hA' := hO.isL HL.out
    have HO := Lib.hid hO
    have HN' := Lib.hid hn'
    have HK := Lib.hid hk
    have HA' := Lib.hid hA'
    clear hO hn' hk hA'
    go_wp2_with fail
    go_ret
    refine ⟨some ⟨w1.heap.size, 0, none⟩, 1, 1, by rw [HZ.out]; rfl, rfl, ?_, HK.out.alloc _⟩
    rw [HZ.out]
    exact (OwL.made1 (R := IsI) HA'.out).low HK.out.size


set_option maxRecDepth 100000 in
set_option maxHeartbeats 8000000 in
theorem merged_is : ∀ (N : Nat) {w : World} {l : List Nat} {av bv : Value} {a b : List Int} (hN : a.length + b.length ≤ N) (h8 : N ≤ 8) (hl : ∀ y ∈ l, y < w.heap.size) (ha : IsI w l av a) (hb : IsI w l bv b),
    Calls Try.prog 32 #[av, bv] w (MrgPost l (mrgL a b) w) := by
  intro N
  induction N with
  | zero => intro w l av bv a b hN h8 hl ha hb; exact merged_base (by omega) (by omega) (by omega) hl ha hb
  | succ N ih =>
    intro w l av bv a b hN h8 hl ha hb
    by_cases h0 : a.length = 0 ∨ b.length = 0
    · exact merged_base h0 (by omega) (by omega) hl ha hb
    · unfold MrgPost
      obtain ⟨A, c, rfl, _, _, h1⟩ := ha.open
      obtain ⟨B, c', rfl, _, _, h2⟩ := hb.open
      match a, b with
      | [], _ => simp at h0
      | _ :: _, [] => simp at h0
      | x :: a, y :: b =>
      obtain ⟨pa, rfl, hpa⟩ := h1.at0 (by simp)
      obtain ⟨pb, rfl, hpb⟩ := h2.at0 (by simp)
      obtain ⟨A1, hsA, hTA⟩ := slice_from sl_int (show IsL IsN 0 w l (.slice (some pa) (x :: a).length c) (x :: a) from ha) 1 (by simp)
      obtain ⟨B1, hsB, hTB⟩ := slice_from sl_int (show IsL IsN 0 w l (.slice (some pb) (y :: b).length c') (y :: b) from hb) 1 (by simp)
      replace hTA : IsI w l (.slice A1 a.length (c - 1)) a := hTA
      replace hTB : IsI w l (.slice B1 b.length (c' - 1)) b := hTB
      replace hpa : w.cell? pa = some (.int .i64 x) := hpa
      replace hpb : w.cell? pb = some (.int .i64 y) := hpb
      have hmc := mrgL_cons x y a b
      have egm := enters_of Try.func32 (by kernel_rfl) rfl
      have egb := enters_of Try.func52 (by kernel_rfl) rfl
      simp only [List.length_cons] at hN
      have hrun1 := fun (W : World) (l' : List Nat) (hl' : ∀ y ∈ l', y < W.heap.size) (k : Keeps [] w W) (hw : ∀ y ∈ l', y ∈ l ∨ w.heap.size ≤ y) => ih (w := W) (l := l') (a := a) (b := b) (by omega) (by omega) hl' (isI_at hTA k hw) (isI_at hTB k hw)
      have hrun2 := fun (W : World) (l' : List Nat) (hl' : ∀ y ∈ l', y < W.heap.size) (k : Keeps [] w W) (hw : ∀ y ∈ l', y ∈ l ∨ w.heap.size ≤ y) => ih (w := W) (l := l') (a := a) (b := y :: b) (by simp; omega) (by omega) hl' (isI_at hTA k hw) (isI_at hb k hw)
      have hrun3 := fun (W : World) (l' : List Nat) (hl' : ∀ y ∈ l', y < W.heap.size) (k : Keeps [] w W) (hw : ∀ y ∈ l', y ∈ l ∨ w.heap.size ≤ y) => ih (w := W) (l := l') (a := x :: a) (b := b) (by simp; omega) (by omega) hl' (isI_at ha k hw) (isI_at hTB k hw)
      have hz1 := mrgL_256 (a := a) (b := b) (by omega)
      have hz2 := mrgL_256 (a := a) (b := y :: b) (by simp; omega)
      have hz3 := mrgL_256 (a := x :: a) (b := b) (by simp; omega)
      have hm1 : ∀ r ∈ mrgL a b, r.length ≤ 1000 := fun r hr => by have := mrgL_mem _ a b (Nat.le_refl _) r hr; omega
      have hm2 : ∀ r ∈ mrgL a (y :: b), r.length ≤ 1000 := fun r hr => by have := mrgL_mem _ a (y :: b) (Nat.le_refl _) r hr; simp at this; omega
      have hm3 : ∀ r ∈ mrgL (x :: a) b, r.length ≤ 1000 := fun r hr => by have := mrgL_mem _ (x :: a) b (Nat.le_refl _) r hr; simp at this; omega
      have hlg : ∀ W : World, w.heap.size < W.heap.size → ∀ q ∈ w.heap.size :: l, q < W.heap.size := fun W k q hq => by
        rcases List.mem_cons.1 hq with h | h
        · omega
        · have := hl q h; omega
      have hwk : ∀ q ∈ w.heap.size :: l, q ∈ l ∨ w.heap.size ≤ q := fun q hq => by
        rcases List.mem_cons.1 hq with h | h
        · exact .inr (by omega)
        · exact .inl h
      have hown0 := Own.new0 w (.slice none 0 0) 28
      simp only [List.length_cons] at *
      replace hsA : ∀ (W : World), (Instr.slice 22 (.slice (some pa) (a.length + 1) c) (some (.int .i64 1)) none none).run Try.prog W = .ok (.slice A1 a.length (c - 1)) W := fun W => hsA W
      replace hsB : ∀ (W : World), (Instr.slice 22 (.slice (some pb) (b.length + 1) c') (some (.int .i64 1)) none none).run Try.prog W = .ok (.slice B1 b.length (c' - 1)) W := fun W => hsB W
      have hgt : w.heap.size < (w.alloc (.cells #[.slice none 0 0] 28)).heap.size := by simp
      generalize a.length = n at *
      generalize b.length = m at *
      generalize hn1 : n + 1 = n1 at *
      generalize hm1' : m + 1 = m1 at *
      have hp1 : 1 ≤ n1 := by omega
      have hp3 : 0 < n1 := by omega
      have hp4 : 0 < m1 := by omega
      have hp5 : (0 : Int) < (n1 : Int) := by omega
      have hp6 : (0 : Int) < (m1 : Int) := by omega
      have hp2 : 1 ≤ m1 := by omega
      have hq1 : ((n1 : Int) == 0) = false := by rw [beq_eq_false_iff_ne]; omega
      have hq2 : ((m1 : Int) == 0) = false := by rw [beq_eq_false_iff_ne]; omega
      have hpal := lt_of_cell hpa
      have hpbl := lt_of_cell hpb
      clear ih h0 hn1 hm1'
      have H1 := Lib.hid h1
      have H2 := Lib.hid h2
      have HA := Lib.hid ha
      have HB := Lib.hid hb
      have HTA := Lib.hid hTA
      have HTB := Lib.hid hTB
      have HMC := Lib.hid hmc
      have HRUN1 := Lib.hid hrun1
      have HRUN2 := Lib.hid hrun2
      have HRUN3 := Lib.hid hrun3
      have HZ1 := Lib.hid hz1
      have HZ2 := Lib.hid hz2
      have HZ3 := Lib.hid hz3
      have HM1 := Lib.hid hm1
      have HM2 := Lib.hid hm2
      have HM3 := Lib.hid hm3
      have HLG := Lib.hid hlg
      have HWK := Lib.hid hwk
      have HOWN0 := Lib.hid hown0
      have HL := Lib.hid hl
      have HGT := Lib.hid hgt
      clear h1 h2 ha hb hTA hTB hmc hrun1 hrun2 hrun3 hz1 hz2 hz3 hm1 hm2 hm3 hlg hwk hown0 hl hgt
      by_cases exy : x = y
      · have hq : (x == y) = true := by simpa using exy
        have EXY := Lib.hid exy
        clear exy
        go_enter Try.func32, Try.ntmps32
        go_wp2_with fail
        go_quiet (fail)
        go_wp2_with fail
        go_region_held3 (fun w' => w'.cell? pa = some (.int .i64 x)) (first | (with_reducible exact hpa3) | (with_reducible exact hpa2) | exact (kf [] w _).read hpa (by simp)) (first
          | (have _t := hbeg; refine step_callv 52 (.tmp 28) #[.tmp 31, .tmp 36] #[3, 28] #[.pointer (some ⟨w.heap.size, 0, none⟩)] rfl egb hbeg (by first | rfl | (simp [Region.wanted, yielded]; done) | simp [Region.wanted, yielded, Act.put]) (by first | rfl | (simp [Act.eval]; done)) (by first | rfl | (simp [Act.eval]; done)) ?_; rintro e w2 ⟨rfl, V, n2, c2, hn2, hO2, hO2c, hk2, hb2⟩; refine ⟨_, rfl, ?_⟩; have HN2 := Lib.hid hn2; clear hn2; have hc2 := hO2.c0; have hpa3 : w2.cell? pa = some (.int .i64 x) := hk2.read hpa2 (by simp [Value.ownBlock]; omega))
          | (refine step_callw 32 #[.tmp 33, .tmp 35] #[22, 22] rfl egm (HRUN1.out _ (w.heap.size :: l) (HLG.out _ (Nat.lt_of_lt_of_le HGT.out (kf [] (w.alloc (.cells #[.slice none 0 0] 28)) _).size)) (kf [] w _) HWK.out) (by first | rfl | (simp [Region.wanted, yielded]; done) | simp [Region.wanted, yielded, Act.put]) (by first | rfl | (simp [Act.eval]; done)) ?_; rintro e w1 ⟨V1, k1, c1, hk0, rfl, hO1, hk1⟩; refine ⟨_, rfl, ?_⟩; have HK0 := Lib.hid hk0; clear hk0; haveI hkb : KB [] w1 _ := ⟨hk1⟩; have hpa2 : w1.cell? pa = some (.int .i64 x) := (kf [] w w1).read hpa (by simp); have hbeg : Calls Try.prog 52 (#[.int .i64 x, .slice V1 k1 c1] ++ #[.pointer (some ⟨w.heap.size, 0, none⟩)]) w1 (BegPost w.heap.size w.heap.size l (.slice none 0 0) ([] ++ (mrgL a b).map (x :: ·)) w1) := begin_is (HLG.out w1 (Nat.lt_of_lt_of_le HGT.out (kf [] (w.alloc (.cells #[.slice none 0 0] 28)) w1).size)) (kf [] w w1).size (by simp [Value.ownBlock]) rfl (HOWN0.out.keep (kf [] (w.alloc (.cells #[.slice none 0 0] 28)) w1) (by simp)) OwL.nil (hO1.isL (HLG.out _ (Nat.lt_of_lt_of_le HGT.out (kf [] (w.alloc (.cells #[.slice none 0 0] 28)) _).size))) (by have := HZ1.out; omega) HM1.out))
        all_goals
          have hfin : OwL IsI [] 22 w.heap.size w2 l (.slice V n2 c2) (mrgL (x :: a) (y :: b)) := by
            rw [HMC.out, if_pos EXY.out]
            exact hO2c.weak fun q hq => .inl (by simp [hq])
          have hkf := (kf [] w w1).step hk2 (fun q hq => by
            have : q = w.heap.size := by simpa [Value.ownBlock] using hq
            exact .inr (by omega))
          have hn3 : n2 = (mrgL (x :: a) (y :: b)).length := by rw [HMC.out, if_pos EXY.out]; exact HN2.out
          have HFIN := Lib.hid hfin
          have HKF := Lib.hid hkf
          have HN3 := Lib.hid hn3
          clear hfin hkf hn3
          go_wp2_with fail
          go_ret
          exact ⟨V, n2, c2, HN3.out, rfl, HFIN.out, HKF.out⟩
      · have hq : (x == y) = false := by simpa using exy
        have EXY := Lib.hid exy
        clear exy
        go_enter Try.func32, Try.ntmps32
        go_wp2_with fail
        go_quiet (fail)
        go_wp2_with fail
        go_region_held3 (fun w' => w'.cell? pa = some (.int .i64 x)) (first | (with_reducible exact hpa3) | (with_reducible exact hpa2) | exact (kf [] w _).read hpa (by simp)) (first
          | (have _t := hbeg; refine step_callv 52 (.tmp 39) #[.tmp 42, .tmp 46] #[3, 28] #[.pointer (some ⟨w.heap.size, 0, none⟩)] rfl egb hbeg (by first | rfl | (simp [Region.wanted, yielded]; done) | simp [Region.wanted, yielded, Act.put]) (by first | rfl | (simp [Act.eval]; done)) (by first | rfl | (simp [Act.eval]; done)) ?_; rintro e w2 ⟨rfl, V, n2, c2, hn2, hO2, hO2c, hk2, hb2⟩; refine ⟨_, rfl, ?_⟩; have HN2 := Lib.hid hn2; clear hn2; have hc2 := hO2.c0; have hpa3 : w2.cell? pa = some (.int .i64 x) := hk2.read hpa2 (by simp [Value.ownBlock]; omega))
          | (refine step_callw 32 #[.tmp 44, .tmp 45] #[22, 22] rfl egm (HRUN2.out _ (w.heap.size :: l) (HLG.out _ (Nat.lt_of_lt_of_le HGT.out (kf [] (w.alloc (.cells #[.slice none 0 0] 28)) _).size)) (kf [] w _) HWK.out) (by first | rfl | (simp [Region.wanted, yielded]; done) | simp [Region.wanted, yielded, Act.put]) (by first | rfl | (simp [Act.eval]; done)) ?_; rintro e w1 ⟨V1, k1, c1, hk0, rfl, hO1, hk1⟩; refine ⟨_, rfl, ?_⟩; have HK0 := Lib.hid hk0; clear hk0; haveI hkb : KB [] w1 _ := ⟨hk1⟩; have hpa2 : w1.cell? pa = some (.int .i64 x) := (kf [] w w1).read hpa (by simp); have hbeg : Calls Try.prog 52 (#[.int .i64 x, .slice V1 k1 c1] ++ #[.pointer (some ⟨w.heap.size, 0, none⟩)]) w1 (BegPost w.heap.size w.heap.size l (.slice none 0 0) ([] ++ (mrgL a (y :: b)).map (x :: ·)) w1) := begin_is (HLG.out w1 (Nat.lt_of_lt_of_le HGT.out (kf [] (w.alloc (.cells #[.slice none 0 0] 28)) w1).size)) (kf [] w w1).size (by simp [Value.ownBlock]) rfl (HOWN0.out.keep (kf [] (w.alloc (.cells #[.slice none 0 0] 28)) w1) (by simp)) OwL.nil (hO1.isL (HLG.out _ (Nat.lt_of_lt_of_le HGT.out (kf [] (w.alloc (.cells #[.slice none 0 0] 28)) _).size))) (by have := HZ2.out; omega) HM2.out))
        all_goals
          have hO2c : OwL IsI [] 22 w.heap.size w2 (w.heap.size :: l) (.slice V n2 c2) ((mrgL a (y :: b)).map (x :: ·)) := hO2c
          have hz1w := (kf [] (w.alloc (.cells #[.slice none 0 0] 28)) w1).size
          have hgt1 := Nat.lt_of_lt_of_le HGT.out hz1w
          have hbw : ∀ q ∈ (Value.slice V n2 c2).ownBlock.toList, w1.heap.size ≤ q := fun q hq => by
            rcases hb2 q hq with h | h
            · simp [Value.ownBlock] at h
            · exact h
          have hk20 := (kf [] w w1).step hk2 (fun q hq => by
            have : q = w.heap.size := by simpa [Value.ownBlock] using hq
            exact .inr (by omega))
          haveI hkf2 : KF [] w w2 := ⟨hk20⟩
          have hgt2 : w.heap.size < w2.heap.size := Nat.lt_of_lt_of_le hgt1 hk2.size
          have hlt2 : ∀ W : World, Keeps [] w2 W → ∀ q ∈ (Value.slice V n2 c2).ownBlock.toList ++ (w.heap.size :: l), q < W.heap.size := fun W k q hq => by
            have := k.size
            rcases List.mem_append.1 hq with h | h
            · have := (hO2c.blocks q h).2; omega
            · have := HLG.out w2 hgt2 q h; omega
          have hwk2 : ∀ q ∈ (Value.slice V n2 c2).ownBlock.toList ++ (w.heap.size :: l), q ∈ l ∨ w.heap.size ≤ q := fun q hq => by
            rcases List.mem_append.1 hq with h | h
            · exact .inr (hO2c.blocks q h).1
            · exact HWK.out q h
          have hgn : (Value.slice V n2 c2).ownBlock ≠ some w.heap.size := fun h => by have := hbw w.heap.size (by simp [h]); omega
          have hyn : ((mrgL a (y :: b)).map (x :: ·)).length = n2 := by have := HN2.out; simpa using this.symm
          have hnin : pb.block ∉ w.heap.size :: (Value.slice V n2 c2).ownBlock.toList := fun h => by
            rcases List.mem_cons.1 h with h | h
            · omega
            · have := hbw _ h; omega
          have htot : n2 + (mrgL (x :: a) b).length ≤ 1000000 := by
            have h2 := HZ2.out
            have h3 := HZ3.out
            rw [← hyn, List.length_map]; omega
          have hob : ∀ q ∈ (Value.slice V n2 c2).ownBlock.toList, w.heap.size ≤ q := fun q hq => (hO2c.blocks q hq).1
          have HO2 := Lib.hid hO2
          have HO2C := Lib.hid hO2c
          have HGT2 := Lib.hid hgt2
          have HLT2 := Lib.hid hlt2
          have HWK2 := Lib.hid hwk2
          have HGN := Lib.hid hgn
          have HYN := Lib.hid hyn
          have HNIN := Lib.hid hnin
          have HTOT := Lib.hid htot
          have HOB := Lib.hid hob
          clear hO2 hO2c hgt2 hlt2 hwk2 hgn hyn hnin htot hob
          clear hbeg hpa3 hk2 hb2 hbw hz1w hgt1 hpa2 hO1 hk1 hkb
          go_wp2_with fail
          go_region_held3 (fun w' => w'.cell? pb = some (.int .i64 y)) (first | (with_reducible exact hpa3) | (with_reducible exact hpa2) | exact (kf [] w _).read hpb (by simp)) (first
            | (have _t := hbeg; refine step_callv 52 (.tmp 48) #[.tmp 51, .tmp 55] #[3, 28] #[.pointer (some ⟨w.heap.size, 0, none⟩)] rfl egb hbeg (by first | rfl | (simp [Region.wanted, yielded]; done) | simp [Region.wanted, yielded, Act.put]) (by first | rfl | (simp [Act.eval]; done)) (by first | rfl | (simp [Act.eval]; done)) ?_; rintro e w2z ⟨rfl, Vz, n2z, c2z, hn2, hO2z, hO2cz, hk2z, hb2z⟩; refine ⟨_, rfl, ?_⟩; have HN2z := Lib.hid hn2; clear hn2; have hc2 := hO2z.c0; have hpa3 : w2z.cell? pb = some (.int .i64 y) := hk2z.read hpa2 HNIN.out)
            | (refine step_callw 32 #[.tmp 52, .tmp 54] #[22, 22] rfl egm (HRUN3.out _ ((Value.slice V n2 c2).ownBlock.toList ++ (w.heap.size :: l)) (HLT2.out _ (kf [] w2 _)) (kf [] w _) HWK2.out) (by first | rfl | (simp [Region.wanted, yielded]; done) | simp [Region.wanted, yielded, Act.put]) (by first | rfl | (simp [Act.eval]; done)) ?_; rintro e w1 ⟨V1, k1, c1, hk0, rfl, hO1, hk1⟩; refine ⟨_, rfl, ?_⟩; have HK0 := Lib.hid hk0; clear hk0; haveI hkb : KB [] w1 _ := ⟨hk1⟩; have hpa2 : w1.cell? pb = some (.int .i64 y) := (kf [] w w1).read hpb (by simp); have hbeg : Calls Try.prog 52 (#[.int .i64 y, .slice V1 k1 c1] ++ #[.pointer (some ⟨w.heap.size, 0, none⟩)]) w1 (BegPost w.heap.size w.heap.size l (.slice V n2 c2) ((mrgL a (y :: b)).map (x :: ·) ++ (mrgL (x :: a) b).map (y :: ·)) w1) := begin_is (HLG.out w1 (Nat.lt_of_lt_of_le HGT2.out (kf [] w2 w1).size)) (kf [] w w1).size HGN.out HYN.out (HO2.out.keep (kf [] w2 w1) (by simp)) (HO2C.out.new (kf [] w2 w1)) (hO1.isL (HLT2.out _ (kf [] w2 _))) HTOT.out HM3.out))
          all_goals
            have hfin : OwL IsI [] 22 w.heap.size w2z l (.slice Vz n2z c2z) (mrgL (x :: a) (y :: b)) := by
              rw [HMC.out, if_neg EXY.out]
              exact hO2cz.weak fun q hq => .inl (by simp [hq])
            have hkf := (kf [] w w1).step hk2z (fun q hq => by
              rcases List.mem_cons.1 hq with h | h
              · exact .inr (by omega)
              · exact .inr (HOB.out q h))
            have hn3 : n2z = (mrgL (x :: a) (y :: b)).length := by rw [HMC.out, if_neg EXY.out]; exact HN2z.out
            have HFIN := Lib.hid hfin
            have HKF := Lib.hid hkf
            have HN3 := Lib.hid hn3
            clear hfin hkf hn3
            go_wp2_with fail
            go_ret
            exact ⟨Vz, n2z, c2z, HN3.out, rfl, HFIN.out, HKF.out⟩
end Go.Proofs.Ytfhommegkogahaa
