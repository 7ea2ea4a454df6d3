/- The walk of the reference's merged and Merge. -/
import Derived.Test.YtfhommegkogahaaRMinimal
import Derived.Test.YtfhommegkogahaaRHeaded
import Derived.Test.YtfhommegkogahaaMerge
import Derived.Test.YtfhommegkogahaaStep
import Derived.Deep.RegionHeld3
namespace Go.Proofs.Ytfhommegkogahaa
set_option linter.unusedVariables false
open Go.RowKit

theorem min_low {L : List (List Int)} : ∀ (n : Nat) (z : List Int), z ∈ L → z.length ≤ n → ∃ m, MinOf L m ∧ m.Sublist z
  | 0, z, hz, hn => ⟨z, ⟨hz, fun u hu hne hs => hne (hs.eq_of_length (by have := hs.length_le; omega))⟩, List.Sublist.refl _⟩
  | n + 1, z, hz, hn => by
    by_cases hm : ∀ u ∈ L, u ≠ z → ¬ u.Sublist z
    · exact ⟨z, ⟨hz, hm⟩, List.Sublist.refl _⟩
    · simp only [Classical.not_forall] at hm
      obtain ⟨u, hu, hne, hs⟩ := hm
      have hs := Classical.not_not.1 hs
      have h1 := hs.length_le
      have h2 : u.length ≠ z.length := fun e => hne (hs.eq_of_length e)
      obtain ⟨m, h3, h5⟩ := min_low n u hu (by omega)
      exact ⟨m, h3, h5.trans hs⟩
theorem min_join {A B A' B' : List (List Int)} (hA : ∀ x, x ∈ A' ↔ MinOf A x) (hB : ∀ x, x ∈ B' ↔ MinOf B x) (x : List Int) : MinOf (A' ++ B') x ↔ MinOf (A ++ B) x := by
  have key : ∀ (C C' : List (List Int)), (∀ x, x ∈ C' ↔ MinOf C x) → (∀ z ∈ C', z ∈ A' ++ B') → (∀ z ∈ A' ++ B', z ≠ x → ¬ z.Sublist x) → ∀ z ∈ C, z ≠ x → ¬ z.Sublist x := fun C C' hC hs h z hz hne hzx => by
    obtain ⟨m, h1, h2⟩ := min_low _ z hz (Nat.le_refl _)
    have hm := (hC m).2 h1
    by_cases e : m = x
    · subst e
      exact hne (hzx.eq_of_length (Nat.le_antisymm hzx.length_le h2.length_le))
    · exact h m (hs m hm) e (h2.trans hzx)
  constructor
  · rintro ⟨h1, h2⟩
    refine ⟨?_, fun z hz => ?_⟩
    · rcases List.mem_append.1 h1 with h | h
      · exact List.mem_append.2 (.inl ((hA x).1 h).1)
      · exact List.mem_append.2 (.inr ((hB x).1 h).1)
    · rcases List.mem_append.1 hz with h | h
      · exact key A A' hA (fun z hz => List.mem_append.2 (.inl hz)) h2 z h
      · exact key B B' hB (fun z hz => List.mem_append.2 (.inr hz)) h2 z h
  · rintro ⟨h1, h2⟩
    refine ⟨?_, fun z hz => h2 z ?_⟩
    · rcases List.mem_append.1 h1 with h | h
      · exact List.mem_append.2 (.inl ((hA x).2 ⟨h, fun z hz => h2 z (List.mem_append.2 (.inl hz))⟩))
      · exact List.mem_append.2 (.inr ((hB x).2 ⟨h, fun z hz => h2 z (List.mem_append.2 (.inr hz))⟩))
    · rcases List.mem_append.1 hz with h | h
      · exact List.mem_append.2 (.inl ((hA z).1 h).1)
      · exact List.mem_append.2 (.inr ((hB z).1 h).1)
theorem min_map {A A' : List (List Int)} {x : Int} (hA : ∀ u, u ∈ A' ↔ MinOf A u) (y : List Int) : y ∈ A'.map (x :: ·) ↔ MinOf (A.map (x :: ·)) y := by
  rw [List.mem_map]
  constructor
  · rintro ⟨u, hu, rfl⟩
    have h := (hA u).1 hu
    refine ⟨List.mem_map.2 ⟨u, h.1, rfl⟩, fun z hz hne hs => ?_⟩
    obtain ⟨v, hv, rfl⟩ := List.mem_map.1 hz
    exact h.2 v hv (fun e => hne (by rw [e])) (List.cons_sublist_cons.1 hs)
  · rintro ⟨h1, h2⟩
    obtain ⟨u, hu, rfl⟩ := List.mem_map.1 h1
    exact ⟨u, (hA u).2 ⟨hu, fun z hz hne hs => h2 (x :: z) (List.mem_map.2 ⟨z, hz, rfl⟩) (fun e => hne (by injection e)) (hs.cons_cons x)⟩, rfl⟩
theorem min_one {b x : List Int} : x ∈ [b] ↔ MinOf [b] x :=
  ⟨fun h => ⟨h, fun z hz hne => absurd ((List.mem_singleton.1 hz).trans (List.mem_singleton.1 h).symm) hne⟩, fun h => h.1⟩

def RMrgPost (l : List Nat) (a b : List Int) (w : World) (e : Ending) (w' : World) : Prop :=
  ∃ V n c zs, n = (zs : List (List Int)).length ∧ e = .returned (.slice V n c) ∧ n ≤ 2 ^ (a.length + b.length) ∧ (∀ x, x ∈ zs ↔ MinOf (mrgL a b) x) ∧ IsII w' l (.slice V n c) zs ∧ Keeps [] w w'

set_option maxHeartbeats 1000000 in
theorem rmerged_base {w : World} {l : List Nat} {av bv : Value} {a b : List Int} (h0 : a.length = 0 ∨ b.length = 0) (hn : a.length ≤ 1000) (hn2 : b.length ≤ 1000) (hl : ∀ y ∈ l, y < w.heap.size) (ha : IsI w l av a) (hb : IsI w l bv b) :
    Calls Try.prog 44 #[av, bv] w (RMrgPost l a b w) := by
  have hmem : ∀ x, x ∈ [a ++ b] ↔ MinOf (mrgL a b) x := fun x => by rw [mrgL_nil a b h0]; exact min_one
  unfold RMrgPost
  obtain ⟨A, c, rfl, _, _, h1⟩ := ha.open
  obtain ⟨B, c', rfl, _, _, h2⟩ := hb.open
  by_cases ha0 : a.length = 0
  · have ea : a = [] := List.eq_nil_of_length_eq_zero ha0
    subst ea
    have hc := copy_is hb (by omega)
    unfold CloPost at hc
    have hm : ∀ x, x ∈ [b] ↔ MinOf (mrgL [] b) x := hmem
    simp only [List.length_nil] at *
    generalize hnb : b.length = n at *
    have HC := Lib.hid hc
    have HM := Lib.hid hm
    have H1 := Lib.hid h1
    have H2 := Lib.hid h2
    have HA := Lib.hid ha
    have HB := Lib.hid hb
    have HL := Lib.hid hl
    have HNB := Lib.hid hnb
    clear hc hm h1 h2 ha hb hl hnb
    clear hmem
    go_enter Try.func44, Try.ntmps44
    go_wp2_with fail
    refine HC.out.mono ?_
    rintro e w1 ⟨V, c1, rfl, hO, hk⟩
    have hI : IsI w1 l (.slice V n c1) b := hO.isL HL.out
    have hlw : ∀ y ∈ l, y < w1.heap.size := fun y hy => Nat.lt_of_lt_of_le (HL.out y hy) hk.size
    have hone : IsII (w1.alloc (.cells #[.slice V n c1] 22)) l (.slice (some ⟨w1.heap.size, 0, none⟩) 1 1) [b] := isL_new (xs := [b]) hlw rfl fun i hi => by
      have e : i = 0 := by simpa using hi
      subst e; exact hI
    have hkf := hk.alloc (.cells #[.slice V n c1] 22)
    have HONE := Lib.hid hone
    have HKF := Lib.hid hkf
    clear hone hkf
    clear hO hI hlw hk
    go_wp2_with fail
    go_ret
    exact ⟨_, 1, 1, [b], rfl, rfl, Nat.one_le_two_pow, HM.out, HONE.out, HKF.out⟩
  · have eb : b = [] := List.eq_nil_of_length_eq_zero (h0.resolve_left ha0)
    subst eb
    have hc := copy_is ha (by omega)
    unfold CloPost at hc
    have hm : ∀ x, x ∈ [a] ↔ MinOf (mrgL a []) x := fun x => by have := hmem x; rwa [List.append_nil] at this
    simp only [List.length_nil] at *
    have hd : ((a.length : Int) == 0) = false := by rw [beq_eq_false_iff_ne]; omega
    generalize hna : a.length = n at *
    have HC := Lib.hid hc
    have HM := Lib.hid hm
    have H1 := Lib.hid h1
    have H2 := Lib.hid h2
    have HA := Lib.hid ha
    have HB := Lib.hid hb
    have HL := Lib.hid hl
    have HNA := Lib.hid hna
    clear hc hm h1 h2 ha hb hl hna
    clear hmem
    go_enter Try.func44, Try.ntmps44
    go_wp2_with fail
    refine HC.out.mono ?_
    rintro e w1 ⟨V, c1, rfl, hO, hk⟩
    have hI : IsI w1 l (.slice V n c1) a := hO.isL HL.out
    have hlw : ∀ y ∈ l, y < w1.heap.size := fun y hy => Nat.lt_of_lt_of_le (HL.out y hy) hk.size
    have hone : IsII (w1.alloc (.cells #[.slice V n c1] 22)) l (.slice (some ⟨w1.heap.size, 0, none⟩) 1 1) [a] := isL_new (xs := [a]) hlw rfl fun i hi => by
      have e : i = 0 := by simpa using hi
      subst e; exact hI
    have hkf := hk.alloc (.cells #[.slice V n c1] 22)
    have HONE := Lib.hid hone
    have HKF := Lib.hid hkf
    clear hone hkf
    clear hO hI hlw hk
    go_wp2_with fail
    go_ret
    exact ⟨_, 1, 1, [a], rfl, rfl, Nat.one_le_two_pow, HM.out, HONE.out, HKF.out⟩

set_option maxRecDepth 100000 in
set_option maxHeartbeats 8000000 in
theorem rmerged_is : ∀ (N : Nat) {w : World} {l : List Nat} {av bv : Value} {a b : List Int} (hN : a.length + b.length ≤ N) (h8 : N ≤ 8) (hva : WValid a) (hvb : WValid b) (hl : ∀ y ∈ l, y < w.heap.size) (ha : IsI w l av a) (hb : IsI w l bv b),
    Calls Try.prog 44 #[av, bv] w (RMrgPost l a b w) := by
  intro N
  induction N with
  | zero =>
    intro w l av bv a b hN h8 hva hvb hl ha hb
    exact rmerged_base (.inl (by omega)) (by omega) (by omega) hl ha hb
  | succ N ih =>
    intro w l av bv a b hN h8 hva hvb hl ha hb
    cases a with
    | nil => exact rmerged_base (.inl rfl) (by simp) (by simp at hN; omega) hl ha hb
    | cons x a =>
      cases b with
      | nil => exact rmerged_base (.inr rfl) (by simp at hN ⊢; omega) (by simp) hl ha hb
      | cons y b =>
        have hva1 : WValid a := ⟨by have := hva.1; simp at this; omega, fun z hz => hva.2 z (by simp [hz])⟩
        have hvb1 : WValid b := ⟨by have := hvb.1; simp at this; omega, fun z hz => hvb.2 z (by simp [hz])⟩
        have hmv := mrgL_valid hva hvb (by omega)
        have hml := mrgL_cons x y a b
        have hla := mrgL_len _ (x :: a) (y :: b) (Nat.le_refl _)
        unfold RMrgPost
        obtain ⟨A, c, rfl, _, _, h1⟩ := ha.open
        obtain ⟨B, c', rfl, _, _, h2⟩ := hb.open
        obtain ⟨pa, rfl, hpa⟩ := h1.at0 (by simp)
        obtain ⟨pb, rfl, hpb⟩ := h2.at0 (by simp)
        replace hpa : w.cell? pa = some (.int .i64 x) := hpa
        replace hpb : w.cell? pb = some (.int .i64 y) := hpb
        obtain ⟨A1, hsA, hTA⟩ := slice_from sl_int (show IsL IsN 0 w l (.slice (some pa) (x :: a).length c) (x :: a) from ha) 1 (by simp)
        obtain ⟨B1, hsB, hTB⟩ := slice_from sl_int (show IsL IsN 0 w l (.slice (some pb) (y :: b).length c') (y :: b) from hb) 1 (by simp)
        replace hTA : IsI w l (.slice A1 a.length (c - 1)) a := hTA
        replace hTB : IsI w l (.slice B1 b.length (c' - 1)) b := hTB
        have egm := enters_of Try.func44 (by kernel_rfl) rfl
        have egh := enters_of Try.func58 (by kernel_rfl) rfl
        have egn := enters_of Try.func43 (by kernel_rfl) rfl
        have hr1 := fun (W : World) (k : Keeps [] w W) => ih (w := W) (l := l) (a := a) (b := b) (by simp at hN; omega) (by omega) hva1 hvb1 (fun y hy => Nat.lt_of_lt_of_le (hl y hy) k.size) (hTA.new k) (hTB.new k)
        have hr2 := fun (W : World) (k : Keeps [] w W) => ih (w := W) (l := l) (a := a) (b := y :: b) (by simp at hN ⊢; omega) (by omega) hva1 hvb (fun y hy => Nat.lt_of_lt_of_le (hl y hy) k.size) (hTA.new k) (hb.new k)
        have hr3 := fun (W : World) (l' : List Nat) (hl' : ∀ y ∈ l', y < W.heap.size) (k : Keeps [] w W) (hw : ∀ y ∈ l', y ∈ l ∨ w.heap.size ≤ y) => ih (w := W) (l := l') (a := x :: a) (b := b) (by simp at hN ⊢; omega) (by omega) hva hvb1 hl' (isI_at ha k hw) (isI_at hTB k hw)
        simp only [List.length_cons] at *
        replace hsA : ∀ (W : World), (Instr.slice 22 (.slice (some pa) (a.length + 1) c) (some (.int .i64 1)) none none).run Try.prog W = .ok (.slice A1 a.length (c - 1)) W := fun W => hsA W
        replace hsB : ∀ (W : World), (Instr.slice 22 (.slice (some pb) (b.length + 1) c') (some (.int .i64 1)) none none).run Try.prog W = .ok (.slice B1 b.length (c' - 1)) W := fun W => hsB W
        generalize hna : a.length = n at *
        generalize hnb : b.length = m at *
        generalize hn1 : n + 1 = n1 at *
        generalize hm1 : m + 1 = m1 at *
        have hp1 : 1 ≤ n1 := by omega
        have hp2 : 1 ≤ m1 := by omega
        have hp3 : 0 < n1 := by omega
        have hp4 : 0 < m1 := by omega
        have hp5 : (0 : Int) < (n1 : Int) := by omega
        have hp6 : (0 : Int) < (m1 : Int) := by omega
        have hq1 : ((n1 : Int) == 0) = false := by rw [beq_eq_false_iff_ne]; omega
        have hq2 : ((m1 : Int) == 0) = false := by rw [beq_eq_false_iff_ne]; omega
        have hpw : 2 ^ (n + m) ≤ 256 := Nat.le_trans (Nat.pow_le_pow_right (by omega) (show _ ≤ 8 by omega)) (by decide)
        have hpw2 : 2 ^ (n + m1) ≤ 256 := Nat.le_trans (Nat.pow_le_pow_right (by omega) (show _ ≤ 8 by omega)) (by decide)
        have hpw3 : 2 ^ (n1 + m) ≤ 256 := Nat.le_trans (Nat.pow_le_pow_right (by omega) (show _ ≤ 8 by omega)) (by decide)
        have hpz : 2 ^ (n + m) ≤ 2 ^ (n1 + m1) := Nat.pow_le_pow_right (by omega) (by omega)
        have hpy : 2 ^ (n + m1) + 2 ^ (n1 + m) ≤ 2 ^ (n1 + m1) := by
          rw [← hn1, ← hm1, show n + 1 + (m + 1) = (n + m + 1) + 1 by omega, show n + (m + 1) = n + m + 1 by omega, show n + 1 + m = n + m + 1 by omega, Nat.pow_succ 2 (n + m + 1)]; omega
        have hnm : n + m ≤ 8 := by omega
        have hnm1 : n + m1 ≤ 8 := by omega
        have hnm2 : n1 + m ≤ 8 := by omega
        have HN1 := Lib.hid hn1
        have HM1 := Lib.hid hm1
        clear hn1 hm1 ih
        by_cases hxy : x = y
        · subst hxy
          rw [if_pos rfl] at hml
          have hd : (x == x) = true := by simp
          have hg : ∀ zs : List (List Int), (∀ u, u ∈ zs ↔ MinOf (mrgL a b) u) → ∀ u, u ∈ zs.map (x :: ·) ↔ MinOf (mrgL (x :: a) (x :: b)) u := fun zs hz u => by rw [hml]; exact min_map hz u
          have hlz : ∀ zs : List (List Int), (∀ u, u ∈ zs ↔ MinOf (mrgL a b) u) → ∀ u ∈ zs, u.length ≤ 1000 := fun zs hz u hu => by
            have h1 := mrgL_mem _ a b (Nat.le_refl _) u ((hz u).1 hu).1
            rw [hna, hnb] at h1; omega
          have H1 := Lib.hid h1
          have H2 := Lib.hid h2
          have HA := Lib.hid ha
          have HB := Lib.hid hb
          have HTA := Lib.hid hTA
          have HTB := Lib.hid hTB
          have HR1 := Lib.hid hr1
          have HR2 := Lib.hid hr2
          have HR3 := Lib.hid hr3
          have HML := Lib.hid hml
          have HMV := Lib.hid hmv
          have HLA := Lib.hid hla
          have HG := Lib.hid hg
          have HLZ := Lib.hid hlz
          have HNA := Lib.hid hna
          have HNB := Lib.hid hnb
          have HVA := Lib.hid hva
          have HVB := Lib.hid hvb
          have HVA1 := Lib.hid hva1
          have HVB1 := Lib.hid hvb1
          have HL := Lib.hid hl
          have HPZ := Lib.hid hpz
          clear h1 h2 ha hb hTA hTB hr1 hr2 hr3 hml hmv hla hg hlz hna hnb hva hvb hva1 hvb1 hl hpz
          go_enter Try.func44, Try.ntmps44
          go_wp2_with fail
          go_quiet (fail)
          have hkq : Keeps [] w (w.drewN nq) := (Keeps.refl [] w).drewN nq
          have hpa1 := hkq.read hpa (by simp)
          have hpb1 := hkq.read hpb (by simp)
          generalize w.drewN nq = w1 at *
          have HKQ := Lib.hid hkq
          clear hkq
          clear hpa hpb
          go_wp2_with fail
          have hpad : w1.drew.cell? pa = some (.int .i64 x) := ((Keeps.refl [] w1).drew).read hpa1 (by simp)
          go_region_held3 (fun w' => w'.cell? pa = some (.int .i64 x)) (first | exact hpad | exact fM | exact fH | go_keep) (first
            | (have _t := hkM; refine step_callw 58 #[.tmp 26, .tmp 31] #[3, 28] rfl egh (headed_is (l := l) (x := x) hlM hIM (by rw [← HNM.out]; omega) (HLZ.out zsM hzM)) (by first | rfl | (simp [Region.wanted, yielded]; done) | simp [Region.wanted, yielded, Act.put]) (by first | (simp [Act.eval]; done) | (simp only [Act.eval, Act.put]; simp)) ?_; rintro e wH ⟨VH, nH, cH, hnH, rfl, hOH, hkH0⟩; refine ⟨_, rfl, ?_⟩; have HNH := Lib.hid hnH; clear hnH; have hkH := hkM.trans hkH0; have fH := hkH0.read fM (by simp); clear hkM)
            | (refine step_callw 44 #[.tmp 28, .tmp 30] #[22, 22] rfl egm (HR1.out w1.drew (HKQ.out.drew)) (by first | rfl | (simp [Region.wanted, yielded]; done) | simp [Region.wanted, yielded, Act.put]) (by first | (simp [Act.eval]; done) | (simp only [Act.eval, Act.put]; simp)) ?_; rintro e wM ⟨VM, nM, cM, zsM, hnM, rfl, hbM, hzM, hIM, hkM0⟩; refine ⟨_, rfl, ?_⟩; rw [HNA.out, HNB.out] at hbM; have HNM := Lib.hid hnM; clear hnM; have hkM := (HKQ.out.drew).trans hkM0; have fM := hkM0.read hpad (by simp); have hlM : ∀ y ∈ l, y < wM.heap.size := fun y hy => Nat.lt_of_lt_of_le (HL.out y hy) hkM.size))
          all_goals
            have hfin : IsII wH l (.slice VH nH cH) (zsM.map (x :: ·)) := hOH.isL hlM
            have hgz := HG.out zsM hzM
            have hbH : nH ≤ 2 ^ (n1 + m1) := by
              have h9 := HPZ.out
              rw [HNH.out, List.length_map, ← HNM.out]; omega
            have HFIN := Lib.hid hfin
            have HGZ := Lib.hid hgz
            have HKH := Lib.hid hkH
            have HBH := Lib.hid hbH
            clear hfin hgz hkH hbH
            clear hOH hIM hzM hbM hlM hkM0 hkH0 fM fH hpad hpa1 hpb1
            go_wp2_with fail
            go_ret
            exact ⟨VH, nH, cH, _, HNH.out, rfl, HBH.out, HGZ.out, HFIN.out, HKH.out⟩
        · rw [if_neg hxy] at hml
          have hd : (x == y) = false := by rw [beq_eq_false_iff_ne]; exact hxy
          have hg : ∀ zs zt : List (List Int), (∀ u, u ∈ zs ↔ MinOf (mrgL a (y :: b)) u) → (∀ u, u ∈ zt ↔ MinOf (mrgL (x :: a) b) u) → ∀ u, MinOf (zs.map (x :: ·) ++ zt.map (y :: ·)) u ↔ MinOf (mrgL (x :: a) (y :: b)) u := fun zs zt hz ht u => by rw [hml]; exact min_join (min_map hz) (min_map ht) u
          have hgv : ∀ zs zt : List (List Int), (∀ u, u ∈ zs ↔ MinOf (mrgL a (y :: b)) u) → (∀ u, u ∈ zt ↔ MinOf (mrgL (x :: a) b) u) → ∀ u ∈ zs.map (x :: ·) ++ zt.map (y :: ·), WValid u := fun zs zt hz ht u hu => hmv u (by
            rw [hml]
            rcases List.mem_append.1 hu with h | h
            · exact List.mem_append.2 (.inl ((min_map hz u).1 h).1)
            · exact List.mem_append.2 (.inr ((min_map ht u).1 h).1))
          have hlz1 : ∀ zs : List (List Int), (∀ u, u ∈ zs ↔ MinOf (mrgL a (y :: b)) u) → ∀ u ∈ zs, u.length ≤ 1000 := fun zs hz u hu => by
            have h1 := mrgL_mem _ a (y :: b) (Nat.le_refl _) u ((hz u).1 hu).1
            rw [List.length_cons, hna, hnb, HM1.out] at h1; omega
          have hlz2 : ∀ zs : List (List Int), (∀ u, u ∈ zs ↔ MinOf (mrgL (x :: a) b) u) → ∀ u ∈ zs, u.length ≤ 1000 := fun zs hz u hu => by
            have h1 := mrgL_mem _ (x :: a) b (Nat.le_refl _) u ((hz u).1 hu).1
            rw [List.length_cons, hna, hnb, HN1.out] at h1; omega
          have H1 := Lib.hid h1
          have H2 := Lib.hid h2
          have HA := Lib.hid ha
          have HB := Lib.hid hb
          have HTA := Lib.hid hTA
          have HTB := Lib.hid hTB
          have HR1 := Lib.hid hr1
          have HR2 := Lib.hid hr2
          have HR3 := Lib.hid hr3
          have HML := Lib.hid hml
          have HMV := Lib.hid hmv
          have HLA := Lib.hid hla
          have HNA := Lib.hid hna
          have HNB := Lib.hid hnb
          have HVA := Lib.hid hva
          have HVB := Lib.hid hvb
          have HVA1 := Lib.hid hva1
          have HVB1 := Lib.hid hvb1
          have HL := Lib.hid hl
          have HPZ := Lib.hid hpz
          have HPY := Lib.hid hpy
          have HXY := Lib.hid hxy
          have HG := Lib.hid hg
          have HGV := Lib.hid hgv
          have HLZ1 := Lib.hid hlz1
          have HLZ2 := Lib.hid hlz2
          clear h1 h2 ha hb hTA hTB hr1 hr2 hr3 hml hmv hla hna hnb hva hvb hva1 hvb1 hl hpz hpy hxy hg hgv hlz1 hlz2
          go_enter Try.func44, Try.ntmps44
          go_wp2_with fail
          go_quiet (fail)
          have hkq : Keeps [] w (w.drewN nq) := (Keeps.refl [] w).drewN nq
          have hpa1 := hkq.read hpa (by simp)
          have hpb1 := hkq.read hpb (by simp)
          generalize w.drewN nq = w1 at *
          have hpw := And.intro hpa hpb
          have HKQ := Lib.hid hkq
          have HPW := Lib.hid hpw
          clear hkq hpw
          clear hpa hpb
          go_wp2_with fail
          have hpd : w1.drew.cell? pa = some (.int .i64 x) ∧ w1.drew.cell? pb = some (.int .i64 y) := ⟨((Keeps.refl [] w1).drew).read hpa1 (by simp), ((Keeps.refl [] w1).drew).read hpb1 (by simp)⟩
          go_region_held3 (fun w' => w'.cell? pa = some (.int .i64 x) ∧ w'.cell? pb = some (.int .i64 y)) (first | exact hpd | exact fM1 | exact fH1 | exact fM2 | exact fH2 | exact f5 | exact fN | go_keep) (first
            | (have _t := hown5; refine step_callw 43 #[.tmp 49] #[28] rfl egn (minimal_is (l := l) (fun y hy => Nat.lt_of_lt_of_le (HL.out y hy) hk5.size) (hown5.isL hlM1) (by rw [List.length_append, ← HNH1.out, ← HNH2.out, HNH1'.out, HNH2'.out]; omega) (HGV.out zs1 zs2 hz1 hz2)) (by first | rfl | (simp [Region.wanted, yielded]; done) | simp [Region.wanted, yielded, Act.put]) (by first | (simp [Act.eval]; done) | (simp only [Act.eval, Act.put]; simp)) ?_; rintro e wN ⟨VN, nN, cN, ysN, hnN, rfl, hascN, hmemN, hIN, hkN0⟩; refine ⟨_, rfl, ?_⟩; have HNN := Lib.hid hnN; clear hnN; have hkN := hk5.trans hkN0; have fN := And.intro (hkN0.read f5.1 (by simp)) (hkN0.read f5.2 (by simp)))
            | (have _t := hOH2; refine step_join sl_rowsi (by rfl) (.tmp 40) (.tmp 48) (by rfl) (w := wH2) (l := l) (base := wM1.heap.size) (v := .slice VH1 nH1 cH1) (u := .slice VH2 nH2 cH2) (by first | (simp [Act.eval]; done) | (simp only [Act.eval, Act.put]; simp)) (by first | (simp [Act.eval]; done) | (simp only [Act.eval, Act.put]; simp)) hOH1 (hOH2.isL hl2b) (m := nH1 + nH2) (by rw [← HNH1.out, ← HNH2.out]) (by rw [HNH1'.out, HNH2'.out]; omega) hbz (w0 := w) (l0 := []) hkM1.size hkH2 ?_; intro V5 c5 w5 hown5 hg5 hk5; have hog := hOH1.blocks; have f5 := And.intro (hk5.read HPW.out.1 (by simp)) (hk5.read HPW.out.2 (by simp)); clear hOH2)
            | (have _t := hIM2; refine step_callw 58 #[.tmp 43, .tmp 47] #[3, 28] rfl egh (headed_is (l := (Value.slice VH1 nH1 cH1).ownBlock.toList ++ l) (x := y) hl2b hIM2 (by rw [← HNM2.out]; omega) (HLZ2.out zs2 hz2)) (by first | rfl | (simp [Region.wanted, yielded]; done) | simp [Region.wanted, yielded, Act.put]) (by first | (simp [Act.eval]; done) | (simp only [Act.eval, Act.put]; simp)) ?_; rintro e wH2 ⟨VH2, nH2, cH2, hnH2, rfl, hOH2, hkH20⟩; refine ⟨_, rfl, ?_⟩; have hkH2 := hkM2.trans hkH20; have HNH2' : Hid (nH2 = nM2) := (by rw [hnH2, List.length_map]; exact HNM2.out.symm); have HNH2 := Lib.hid hnH2; clear hnH2; have hOH1 := hOH1.new (hkM20.trans hkH20); have hbz := Nat.le_trans hkH10.size (hkM20.trans hkH20).size; have fH2 := And.intro (hkH20.read fM2.1 (by simp)) (hkH20.read fM2.2 (by simp)); clear hIM2)
            | (have _t := hOH1; refine step_callw 44 #[.tmp 44, .tmp 46] #[22, 22] rfl egm (HR3.out wH1 ((Value.slice VH1 nH1 cH1).ownBlock.toList ++ l) hl2 hkH1 hw2) (by first | rfl | (simp [Region.wanted, yielded]; done) | simp [Region.wanted, yielded, Act.put]) (by first | (simp [Act.eval]; done) | (simp only [Act.eval, Act.put]; simp)) ?_; rintro e wM2 ⟨VM2, nM2, cM2, zs2, hnM2, rfl, hbM2, hz2, hIM2, hkM20⟩; refine ⟨_, rfl, ?_⟩; rw [HNB.out, List.length_cons, HNA.out, HN1.out] at hbM2; have HNM2 := Lib.hid hnM2; clear hnM2; have hkM2 := hkH1.trans hkM20; have hl2b : ∀ y ∈ (Value.slice VH1 nH1 cH1).ownBlock.toList ++ l, y < wM2.heap.size := (fun y hy => Nat.lt_of_lt_of_le (hl2 y hy) hkM20.size); have fM2 := And.intro (hkM20.read fH1.1 (by simp)) (hkM20.read fH1.2 (by simp)))
            | (have _t := hIM1; refine step_callw 58 #[.tmp 35, .tmp 39] #[3, 28] rfl egh (headed_is (l := l) (x := x) hlM1 hIM1 (by rw [← HNM1.out]; omega) (HLZ1.out zs1 hz1)) (by first | rfl | (simp [Region.wanted, yielded]; done) | simp [Region.wanted, yielded, Act.put]) (by first | (simp [Act.eval]; done) | (simp only [Act.eval, Act.put]; simp)) ?_; rintro e wH1 ⟨VH1, nH1, cH1, hnH1, rfl, hOH1, hkH10⟩; refine ⟨_, rfl, ?_⟩; have hkH1 := hkM1.trans hkH10; have HNH1' : Hid (nH1 = nM1) := (by rw [hnH1, List.length_map]; exact HNM1.out.symm); have HNH1 := Lib.hid hnH1; clear hnH1; have fH1 := And.intro (hkH10.read fM1.1 (by simp)) (hkH10.read fM1.2 (by simp)); have hl2 : ∀ y ∈ (Value.slice VH1 nH1 cH1).ownBlock.toList ++ l, y < wH1.heap.size := hOH1.putb (fun y hy => Nat.lt_of_lt_of_le (hlM1 y hy) hkH10.size); have hw2 : ∀ y ∈ (Value.slice VH1 nH1 cH1).ownBlock.toList ++ l, y ∈ l ∨ w.heap.size ≤ y := (fun y hy => (List.mem_append.1 hy).elim (fun h => .inr (Nat.le_trans hkM1.size (hOH1.blocks y h).1)) .inl); clear hIM1)
            | (refine step_callw 44 #[.tmp 37, .tmp 38] #[22, 22] rfl egm (HR2.out w1.drew (HKQ.out.drew)) (by first | rfl | (simp [Region.wanted, yielded]; done) | simp [Region.wanted, yielded, Act.put]) (by first | (simp [Act.eval]; done) | (simp only [Act.eval, Act.put]; simp)) ?_; rintro e wM1 ⟨VM1, nM1, cM1, zs1, hnM1, rfl, hbM1, hz1, hIM1, hkM10⟩; refine ⟨_, rfl, ?_⟩; rw [HNA.out, List.length_cons, HNB.out, HM1.out] at hbM1; have HNM1 := Lib.hid hnM1; clear hnM1; have hkM1 := (HKQ.out.drew).trans hkM10; have fM1 := And.intro (hkM10.read hpd.1 (by simp)) (hkM10.read hpd.2 (by simp)); have hlM1 : ∀ y ∈ l, y < wM1.heap.size := (fun y hy => Nat.lt_of_lt_of_le (HL.out y hy) hkM1.size)))
          all_goals
            have hgz : ∀ u, u ∈ ysN ↔ MinOf (mrgL (x :: a) (y :: b)) u := fun u => (hmemN u).trans (HG.out zs1 zs2 hz1 hz2 u)
            have hbN : nN ≤ 2 ^ (n1 + m1) := by
              have h9 := HPY.out
              have h8 := asc_len hascN (L := zs1.map (x :: ·) ++ zs2.map (y :: ·)) fun z hz => ((hmemN z).1 hz).1
              rw [List.length_append, ← HNH1.out, ← HNH2.out, HNH1'.out, HNH2'.out, ← HNN.out] at h8
              omega
            have HGZ := Lib.hid hgz
            have HBN := Lib.hid hbN
            have HIN := Lib.hid hIN
            have HKN := Lib.hid hkN
            clear hgz hbN hIN hkN
            clear hmemN hascN hown5 hOH1 hz1 hz2 hbM1 hbM2 hlM1 hl2 hw2 hl2b hpd fM1 fH1 fM2 fH2 f5 fN hpa1 hpb1 hg5 hog
            go_wp2_with fail
            go_ret
            exact ⟨VN, nN, cN, ysN, HNN.out, rfl, HBN.out, HGZ.out, HIN.out, HKN.out⟩

def RMergePost (l : List Nat) (a b : List Int) (w : World) (e : Ending) (w' : World) : Prop :=
  Keeps [] w w' ∧ ((¬ (WValid a ∧ WValid b) ∧ e = .returned (.tuple #[.slice none 0 0, .int .i64 8])) ∨
    (WValid a ∧ WValid b ∧ ¬ a.length + b.length ≤ 8 ∧ e = .returned (.tuple #[.slice none 0 0, .int .i64 1])) ∨
    ∃ A n c ys, WValid a ∧ WValid b ∧ a.length + b.length ≤ 8 ∧ n = (ys : List (List Int)).length ∧ e = .returned (.tuple #[.slice A n c, .int .i64 0]) ∧ Asc ys ∧ (∀ x, x ∈ ys ↔ IsMerge a b x) ∧ IsII w' l (.slice A n c) ys)
set_option maxHeartbeats 2000000 in
theorem rmerge_is {w : World} {l : List Nat} {av bv : Value} {a b : List Int} (hl : ∀ y ∈ l, y < w.heap.size) (ha : IsI w l av a) (hb : IsI w l bv b) (hn : a.length ≤ 1000000) (hm : b.length ≤ 1000000) : Calls Try.prog 25 #[av, bv] w (RMergePost l a b w) := by
  unfold RMergePost
  obtain ⟨A, c, rfl, _, _, h1⟩ := ha.open
  obtain ⟨B, c', rfl, _, _, h2⟩ := hb.open
  have hma := rvalid_is ha hn
  have hmb := fun W (k : Keeps [] w W) => rvalid_is (IsI.new hb k) hm
  by_cases hva : WValid a
  · rw [wvB_true.2 hva] at hma
    by_cases hvb : WValid b
    · rw [wvB_true.2 hvb] at hmb
      by_cases h8 : a.length + b.length ≤ 8
      · have hrun := fun (W : World) (k : Keeps [] w W) => rmerged_is 8 (w := W) (l := l) (a := a) (b := b) h8 (Nat.le_refl _) hva hvb (fun y hy => Nat.lt_of_lt_of_le (hl y hy) k.size) (IsI.new ha k) (IsI.new hb k)
        have hmv := mrgL_valid hva hvb h8
        have hpw : 2 ^ (a.length + b.length) ≤ 256 := Nat.le_trans (Nat.pow_le_pow_right (by omega) h8) (by decide)
        have hmin := fun (W : World) (k : Keeps [] w W) (u : Value) L => minimal_is (w := W) (l := l) (lv := u) (L := L) (fun y hy => Nat.lt_of_lt_of_le (hl y hy) k.size)
        generalize hna : a.length = n at *
        generalize hnb : b.length = m at *
        have hd : decide ((8 : Int) < (n : Int) + (m : Int)) = false := decide_eq_false (by omega)
        have H1 := Lib.hid h1
        have H2 := Lib.hid h2
        have HA := Lib.hid ha
        have HB := Lib.hid hb
        have HMA := Lib.hid hma
        have HMB := Lib.hid hmb
        have HVA := Lib.hid hva
        have HVB := Lib.hid hvb
        have HL := Lib.hid hl
        have HRUN := Lib.hid hrun
        have HNA := Lib.hid hna
        have HNB := Lib.hid hnb
        have HMV := Lib.hid hmv
        have HPW := Lib.hid hpw
        have HMIN := Lib.hid hmin
        clear h1 h2 ha hb hma hmb hva hvb hl hrun hna hnb hmv hpw hmin
        have hw1 : IntKind.i64.wrap ((n : Int) + (m : Int)) = (n : Int) + (m : Int) := IntWalk.i64_in _ (by omega)
        go_enter Try.func25, Try.ntmps25
        go_wp2_with fail
        refine HMA.out.mono ?_
        rintro e w1 ⟨rfl, hk1⟩
        have hcb := HMB.out w1 hk1
        have HCB := Lib.hid hcb
        have HK1 := Lib.hid hk1
        clear hcb hk1
        go_wp2_with fail
        refine HCB.out.mono ?_
        rintro e w2 ⟨rfl, hk2⟩
        have hk2 := HK1.out.trans hk2
        have HK2 := Lib.hid hk2
        clear hk2
        have hcr := HRUN.out w2 HK2.out
        have HCR := Lib.hid hcr
        clear hcr
        go_wp2_with fail
        refine HCR.out.mono ?_
        rintro e w3 ⟨V, n3, c3, zs, hn3, rfl, hb3, hz3, hI3, hk3⟩
        have hk3 := HK2.out.trans hk3
        have hcm := HMIN.out w3 hk3 _ zs hI3 (by
          rw [HNA.out, HNB.out] at hb3
          have := HPW.out
          omega) (fun x hx => HMV.out x ((hz3 x).1 hx).1)
        have HK3 := Lib.hid hk3
        have HCM := Lib.hid hcm
        have HZ3 := Lib.hid hz3
        have HN3 := Lib.hid hn3
        clear hk3 hcm hz3 hn3
        clear hI3 hb3
        go_wp2_with fail
        refine HCM.out.mono ?_
        rintro e w4 ⟨V4, n4, c4, ys, hn4, rfl, hasc, hmem, hI4, hk4⟩
        have hk4 := HK3.out.trans hk4
        have hfin : ∀ x, x ∈ ys ↔ IsMerge a b x := fun x => by
          have h := min_join (A := mrgL a b) (B := []) (A' := zs) (B' := []) HZ3.out (fun x => ⟨fun h => (by cases h), fun h => (by cases h.1)⟩) x
          rw [List.append_nil, List.append_nil] at h
          exact (hmem x).trans h
        have h8' : n + m ≤ 8 := h8
        have HK4 := Lib.hid hk4
        have HFIN := Lib.hid hfin
        have HI4 := Lib.hid hI4
        have HASC := Lib.hid hasc
        have HN4 := Lib.hid hn4
        clear hk4 hfin hI4 hasc hn4
        clear hmem
        go_wp2_with fail
        go_ret2
        exact ⟨HK4.out, .inr (.inr ⟨V4, n4, c4, ys, HVA.out, HVB.out, h8', HN4.out, rfl, HASC.out, HFIN.out, HI4.out⟩)⟩
      · generalize hna : a.length = n at *
        generalize hnb : b.length = m at *
        have hd : decide ((8 : Int) < (n : Int) + (m : Int)) = true := decide_eq_true (by omega)
        have H1 := Lib.hid h1
        have H2 := Lib.hid h2
        have HA := Lib.hid ha
        have HB := Lib.hid hb
        have HMA := Lib.hid hma
        have HMB := Lib.hid hmb
        have HVA := Lib.hid hva
        have HVB := Lib.hid hvb
        have HL := Lib.hid hl
        have HNA := Lib.hid hna
        have HNB := Lib.hid hnb
        clear h1 h2 ha hb hma hmb hva hvb hl hna hnb
        have hw1 : IntKind.i64.wrap ((n : Int) + (m : Int)) = (n : Int) + (m : Int) := IntWalk.i64_in _ (by omega)
        go_enter Try.func25, Try.ntmps25
        go_wp2_with fail
        refine HMA.out.mono ?_
        rintro e w1 ⟨rfl, hk1⟩
        have hcb := HMB.out w1 hk1
        have HCB := Lib.hid hcb
        have HK1 := Lib.hid hk1
        clear hcb hk1
        go_wp2_with fail
        refine HCB.out.mono ?_
        rintro e w2 ⟨rfl, hk2⟩
        have hk2 := HK1.out.trans hk2
        have HK2 := Lib.hid hk2
        clear hk2
        go_wp2_with fail
        go_ret2
        exact ⟨HK2.out, .inr (.inl ⟨HVA.out, HVB.out, h8, rfl⟩)⟩
    · rw [wvB_false.2 hvb] at hmb
      generalize a.length = n at *
      generalize b.length = m at *
      have H1 := Lib.hid h1
      have H2 := Lib.hid h2
      have HA := Lib.hid ha
      have HB := Lib.hid hb
      have HMA := Lib.hid hma
      have HMB := Lib.hid hmb
      have HVA := Lib.hid hva
      have HVB := Lib.hid hvb
      have HL := Lib.hid hl
      clear h1 h2 ha hb hma hmb hva hvb hl
      go_enter Try.func25, Try.ntmps25
      go_wp2_with fail
      refine HMA.out.mono ?_
      rintro e w1 ⟨rfl, hk1⟩
      have hcb := HMB.out w1 hk1
      have HCB := Lib.hid hcb
      have HK1 := Lib.hid hk1
      clear hcb hk1
      go_wp2_with fail
      refine HCB.out.mono ?_
      rintro e w2 ⟨rfl, hk2⟩
      have hk2 := HK1.out.trans hk2
      have HK2 := Lib.hid hk2
      clear hk2
      go_wp2_with fail
      go_ret2
      exact ⟨HK2.out, .inl ⟨fun h => HVB.out h.2, rfl⟩⟩
  · rw [wvB_false.2 hva] at hma
    generalize a.length = n at *
    generalize b.length = m at *
    have H1 := Lib.hid h1
    have H2 := Lib.hid h2
    have HA := Lib.hid ha
    have HB := Lib.hid hb
    have HMA := Lib.hid hma
    have HMB := Lib.hid hmb
    have HVA := Lib.hid hva
    have HL := Lib.hid hl
    clear h1 h2 ha hb hma hmb hva hl
    go_enter Try.func25, Try.ntmps25
    go_wp2_with fail
    refine HMA.out.mono ?_
    rintro e w1 ⟨rfl, hk1⟩
    have HK1 := Lib.hid hk1
    clear hk1
    go_wp2_with fail
    go_ret2
    exact ⟨HK1.out, .inl ⟨fun h => HVA.out h.1, rfl⟩⟩
end Go.Proofs.Ytfhommegkogahaa
