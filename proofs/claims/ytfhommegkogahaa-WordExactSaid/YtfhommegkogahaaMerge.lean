/- The walk of word.Merge. -/
import Derived.Test.YtfhommegkogahaaMerged2
namespace Go.Proofs.Ytfhommegkogahaa
set_option linter.unusedVariables false
open Go.RowKit

open Classical in
noncomputable def keepMin (zs : List (List Int)) : List (List Int) := zs.foldl (fun out z => if ∃ x ∈ out, WLeq x z then out else out ++ [z]) []
open Classical in
theorem keepMin_snoc (zs : List (List Int)) (z : List Int) : keepMin (zs ++ [z]) = if ∃ x ∈ keepMin zs, WLeq x z then keepMin zs else keepMin zs ++ [z] := by
  unfold keepMin; rw [List.foldl_append]; rfl
theorem rev_ind {α : Type} {p : List α → Prop} (h0 : p []) (h1 : ∀ l x, p l → p (l ++ [x])) (l : List α) : p l := by
  have : ∀ n (l : List α), l.length = n → p l := by
    intro n
    induction n with
    | zero => intro l h; rw [List.length_eq_zero_iff.1 h]; exact h0
    | succ n ih =>
      intro l h
      have hne : l ≠ [] := fun e => by rw [e] at h; simp at h
      rw [← List.dropLast_concat_getLast hne]
      exact h1 _ _ (ih _ (by rw [List.length_dropLast]; omega))
  exact this _ l rfl

theorem keepMin_sub (zs : List (List Int)) : (keepMin zs).Sublist zs := by
  refine rev_ind (p := fun zs => (keepMin zs).Sublist zs) (List.Sublist.refl _) (fun l x h => ?_) zs
  rw [keepMin_snoc]
  split
  · exact h.trans (List.sublist_append_left _ _)
  · exact h.append (List.Sublist.refl _)

theorem sub_cmp {a b : List Int} (h : a.Sublist b) (hne : a ≠ b) : cmpL a b < 0 := by
  have h1 := h.length_le
  have h2 : a.length ≠ b.length := fun e => hne (h.eq_of_length e)
  unfold cmpL
  rw [if_neg h2, ord_neg]; omega

theorem keepMin_mem {zs : List (List Int)} (ha : Asc zs) (hv : ∀ z ∈ zs, WValid z) : ∀ x, x ∈ keepMin zs ↔ x ∈ zs ∧ ∀ z ∈ zs, z ≠ x → ¬ z.Sublist x := by
  revert ha hv
  refine rev_ind (p := fun zs => Asc zs → (∀ z ∈ zs, WValid z) → ∀ x, x ∈ keepMin zs ↔ x ∈ zs ∧ ∀ z ∈ zs, z ≠ x → ¬ z.Sublist x) ?_ ?_ zs
  · intro _ _ x; simp [keepMin]
  · intro l y ih ha hv x
    have hal : Asc l := asc_sub ha (List.sublist_append_left _ _)
    have hvl : ∀ z ∈ l, WValid z := fun z hz => hv z (by simp [hz])
    have ih := ih hal hvl
    have hly : ∀ z ∈ l, cmpL z y < 0 := fun z hz => (List.pairwise_append.1 ha).2.2 z hz y (by simp)
    have hny : ∀ z ∈ l, z ≠ y := fun z hz e => by have := hly z hz; rw [e, cmpL_self] at this; omega
    have hnot : ∀ z ∈ l, ¬ y.Sublist z := fun z hz h => by
      have h1 := sub_cmp h (fun e => hny z hz e.symm)
      have h2 := cmpL_trans h1 (hly z hz)
      rw [cmpL_self] at h2; omega
    -- some minimal one is below whatever is above one
    have hmin : ∀ n, ∀ z ∈ l, z.length ≤ n → ∃ m ∈ keepMin l, m.Sublist z := by
      intro n
      induction n with
      | zero =>
        intro z hz hn
        refine ⟨z, (ih z).2 ⟨hz, fun u hu hne hs => ?_⟩, List.Sublist.refl _⟩
        have h1 := hs.length_le
        exact hne (hs.eq_of_length (by omega))
      | succ n ihn =>
        intro z hz hn
        by_cases hm : z ∈ keepMin l
        · exact ⟨z, hm, List.Sublist.refl _⟩
        · have : ¬ ∀ u ∈ l, u ≠ z → ¬ u.Sublist z := fun h => hm ((ih z).2 ⟨hz, h⟩)
          simp only [Classical.not_forall] at this
          obtain ⟨u, hu, hne, hs⟩ := this
          have hs := Classical.not_not.1 hs
          have h1 := hs.length_le
          have h2 : u.length ≠ z.length := fun e => hne (hs.eq_of_length e)
          obtain ⟨m, h3, h4⟩ := ihn u hu (by omega)
          exact ⟨m, h3, h4.trans hs⟩
    have hex : (∃ x ∈ keepMin l, WLeq x y) ↔ ∃ z ∈ l, z.Sublist y := by
      constructor
      · rintro ⟨m, hm, h⟩; exact ⟨m, ((ih m).1 hm).1, h.2.2⟩
      · rintro ⟨z, hz, h⟩
        obtain ⟨m, hm, h2⟩ := hmin _ z hz (Nat.le_refl _)
        exact ⟨m, hm, hvl m ((ih m).1 hm).1, hv y (by simp), h2.trans h⟩
    rw [keepMin_snoc]
    by_cases hc : ∃ x ∈ keepMin l, WLeq x y
    · rw [if_pos hc, ih]
      obtain ⟨z, hz, hzy⟩ := hex.1 hc
      constructor
      · rintro ⟨h1, h2⟩
        refine ⟨by simp [h1], fun u hu hne => ?_⟩
        rcases List.mem_append.1 hu with h | h
        · exact h2 u h hne
        · rw [List.mem_singleton.1 h]; exact hnot x h1
      · rintro ⟨h1, h2⟩
        rcases List.mem_append.1 h1 with h | h
        · exact ⟨h, fun u hu hne => h2 u (by simp [hu]) hne⟩
        · rw [List.mem_singleton.1 h] at h2
          exact absurd hzy (h2 z (by simp [hz]) (hny z hz))
    · rw [if_neg hc]
      have hno := fun h => hc (hex.2 h)
      constructor
      · intro h
        rcases List.mem_append.1 h with h | h
        · obtain ⟨h1, h2⟩ := (ih x).1 h
          refine ⟨by simp [h1], fun u hu hne => ?_⟩
          rcases List.mem_append.1 hu with h' | h'
          · exact h2 u h' hne
          · rw [List.mem_singleton.1 h']; exact hnot x h1
        · rw [List.mem_singleton.1 h]
          refine ⟨by simp, fun u hu hne hs => ?_⟩
          rcases List.mem_append.1 hu with h' | h'
          · exact hno ⟨u, h', hs⟩
          · exact hne (List.mem_singleton.1 h')
      · rintro ⟨h1, h2⟩
        rcases List.mem_append.1 h1 with h | h
        · exact List.mem_append.2 (.inl ((ih x).2 ⟨h, fun u hu hne => h2 u (by simp [hu]) hne⟩))
        · exact List.mem_append.2 (.inr h)

theorem mrgL_letters : ∀ (N : Nat) (a b : List Int), a.length + b.length ≤ N → ∀ x ∈ mrgL a b, ∀ z ∈ x, z ∈ a ∨ z ∈ b
  | 0, a, b, h, x, hx, z, hz => by
    rw [mrgL_nil a b (by omega)] at hx
    rw [List.mem_singleton.1 hx] at hz
    exact List.mem_append.1 hz
  | N + 1, a, b, h, w, hw, z, hz => by
    cases a with
    | nil => rw [mrgL_nil _ _ (.inl rfl)] at hw; rw [List.mem_singleton.1 hw] at hz; exact List.mem_append.1 hz
    | cons x a =>
      cases b with
      | nil => rw [mrgL_nil _ _ (.inr rfl)] at hw; rw [List.mem_singleton.1 hw] at hz; exact List.mem_append.1 hz
      | cons y b =>
        simp only [List.length_cons] at h
        rw [mrgL_cons] at hw
        split at hw
        · obtain ⟨u, hu, rfl⟩ := List.mem_map.1 hw
          rcases List.mem_cons.1 hz with e | e
          · exact .inl (by simp [e])
          · exact (mrgL_letters N a b (by omega) u hu z e).imp (fun h => by simp [h]) (fun h => by simp [h])
        · rcases List.mem_append.1 hw with hw | hw
          · obtain ⟨u, hu, rfl⟩ := List.mem_map.1 hw
            rcases List.mem_cons.1 hz with e | e
            · exact .inl (by simp [e])
            · exact (mrgL_letters N a (y :: b) (by simp; omega) u hu z e).imp (fun h => by simp [h]) id
          · obtain ⟨u, hu, rfl⟩ := List.mem_map.1 hw
            rcases List.mem_cons.1 hz with e | e
            · exact .inr (by simp [e])
            · exact (mrgL_letters N (x :: a) b (by simp; omega) u hu z e).imp id (fun h => by simp [h])
theorem mrgL_valid {a b : List Int} (ha : WValid a) (hb : WValid b) (h8 : a.length + b.length ≤ 8) : ∀ x ∈ mrgL a b, WValid x := fun x hx =>
  ⟨by have := mrgL_mem _ a b (Nat.le_refl _) x hx; omega, fun z hz => (mrgL_letters _ a b (Nat.le_refl _) x hx z hz).elim (ha.2 z) (hb.2 z)⟩

/-- The minimal words above two words. -/
def IsMerge (a b x : List Int) : Prop := x ∈ mrgL a b ∧ ∀ z ∈ mrgL a b, z ≠ x → ¬ z.Sublist x

set_option maxHeartbeats 1000000 in
theorem merge_lit {w : World} {l : List Nat} {xs : List (List Int)} {g : Nat} {zv : Value} {z : List Int} (hc : w.cell? ⟨g, 0, none⟩ = some zv) (hz : IsI w l zv z) (hx : ∀ x ∈ xs, x.length ≤ 1000000) (hn : z.length ≤ 1000000) :
    PredR IsI [] 34 #[.pointer (some ⟨g, 0, none⟩)] l xs (fun i => wleqB (xs.getD i []) z) w := by
  intro W i u hi hk hu
  have hz := hz.new hk
  have hc := hk.read hc (by simp)
  show Calls Try.prog 34 #[u, .pointer (some ⟨g, 0, none⟩)] W fun e w' => e = .returned (.bool (wleqB (xs.getD i []) z)) ∧ Keeps [] W w'
  have hcall := leq_is hu hz (hx _ (getD_mem hi)) hn
  generalize xs.getD i [] = x at *
  obtain ⟨A, c, rfl, _⟩ := hz.open
  obtain ⟨B, cb, rfl, _⟩ := hu.open
  generalize wleqB x z = r at *
  generalize x.length = xn at *
  generalize z.length = zn at *
  have HU := Lib.hid hu
  have HZ := Lib.hid hz
  have HCALL := Lib.hid hcall
  have HX := Lib.hid hx
  have HK := Lib.hid hk
  clear hu hz hcall hx hk
  go_enter Try.func34, Try.ntmps34
  go_wp2_with fail
  refine HCALL.out.mono ?_
  rintro e w1 ⟨rfl, hk1⟩
  go_wp2_with fail
  go_ret
  exact ⟨rfl, hk1⟩

def MergePost (l : List Nat) (a b : List Int) (w : World) (e : Ending) (w' : World) : Prop :=
  Keeps [] w w' ∧ ((¬ (WValid a ∧ WValid b) ∧ e = .returned (.tuple #[.slice none 0 0, .int .i64 8])) ∨
    (WValid a ∧ WValid b ∧ ¬ a.length + b.length ≤ 8 ∧ e = .returned (.tuple #[.slice none 0 0, .int .i64 1])) ∨
    ∃ A n c ys, WValid a ∧ WValid b ∧ a.length + b.length ≤ 8 ∧ n = (ys : List (List Int)).length ∧ e = .returned (.tuple #[.slice A n c, .int .i64 0]) ∧ Asc ys ∧ (∀ x, x ∈ ys ↔ IsMerge a b x) ∧ OwL IsI [] 22 w.heap.size w' l (.slice A n c) ys)

set_option maxRecDepth 100000 in
set_option maxHeartbeats 4000000 in
theorem merge_is {w : World} {l : List Nat} {av bv : Value} {a b : List Int} (hl : ∀ y ∈ l, y < w.heap.size) (ha : IsI w l av a) (hb : IsI w l bv b) (hn : a.length ≤ 1000000) (hm : b.length ≤ 1000000) : Calls Try.prog 14 #[av, bv] w (MergePost l a b w) := by
  unfold MergePost
  obtain ⟨A, c, rfl, _, _, h1⟩ := ha.open
  obtain ⟨B, c', rfl, _, _, h2⟩ := hb.open
  have hma := valid_is ha hn
  have hmb := fun W (k : Keeps [] w W) => valid_is (IsI.new hb k) hm
  by_cases hva : WValid a
  · rw [wvB_true.2 hva] at hma
    by_cases hvb : WValid b
    · rw [wvB_true.2 hvb] at hmb
      have eg := enters_of Try.func34 (by kernel_rfl) rfl
      generalize hna : a.length = n at *
      generalize hnb : b.length = m at *
      by_cases h8 : n + m ≤ 8
      · have hval := mrgL_valid hva hvb (by omega)
        have hcnt := mrgL_256 (a := a) (b := b) (by omega)
        have hmem8 : ∀ x ∈ mrgL a b, x.length ≤ 8 := fun x hx => by have := mrgL_mem _ a b (Nat.le_refl _) x hx; omega
        have hrun := fun (W : World) (k : Keeps [] w W) => merged_is 8 (w := W) (l := l) (a := a) (b := b) (by omega) (Nat.le_refl _) (fun y hy => Nat.lt_of_lt_of_le (hl y hy) k.size) (ha.new k) (hb.new k)
        have H1 := Lib.hid h1
        have H2 := Lib.hid h2
        have HNA := Lib.hid hna
        have HNB := Lib.hid hnb
        have HA := Lib.hid ha
        have HB := Lib.hid hb
        have HMA := Lib.hid hma
        have HMB := Lib.hid hmb
        have HVA := Lib.hid hva
        have HVB := Lib.hid hvb
        have HL := Lib.hid hl
        have HVAL := Lib.hid hval
        have HCNT := Lib.hid hcnt
        have HMEM8 := Lib.hid hmem8
        have HRUN := Lib.hid hrun
        clear h1 h2 hna hnb ha hb hma hmb hva hvb hl hval hcnt hmem8 hrun
        go_enter Try.func14, Try.ntmps14
        go_wp2_with fail
        refine HMA.out.mono ?_
        rintro e w1 ⟨rfl, hk1⟩
        have hcb := HMB.out w1 hk1
        have HCB := Lib.hid hcb
        clear hcb
        haveI : KB [] w1 w := ⟨hk1⟩
        clear hk1
        go_wp2_with fail
        refine HCB.out.mono ?_
        rintro e w2 ⟨rfl, hk2⟩
        haveI : KB [] w2 w1 := ⟨hk2⟩
        have HK2 := Lib.hid (kf [] w w2)
        clear hk2
        have hrun := HRUN.out w2 HK2.out
        have HRUN := Lib.hid hrun
        clear hrun
        go_wp2_with fail
        refine HRUN.out.mono ?_
        rintro e w3 ⟨V, k0, c0, hk0, rfl, hO, hk3⟩
        haveI : KB [] w3 w2 := ⟨hk3⟩
        have hsort := sorted_is hO (by have := HCNT.out; omega) (fun x hx => by have := HMEM8.out x hx; omega)
        have hbl := hO.blocks
        have hz2 := HK2.out.size
        have HK0 := Lib.hid hk0
        have HO := Lib.hid hO
        have HSORT := Lib.hid hsort
        have HBL := Lib.hid hbl
        clear hk0 hO hsort hbl
        go_wp2_with fail
        refine HSORT.out.mono ?_
        rintro e w4 ⟨A4, c4, zs, rfl, hasc, hzs, hO4, hk4⟩
        have hk4' : Keeps [] w w4 := (kf [] w w3).step hk4 fun y hy => .inr (by have := (HBL.out y hy).1; omega)
        have hL4 := hO4.isL (fun y hy => Nat.lt_of_lt_of_le (HL.out y hy) HK2.out.size)
        have hL4' := hL4
        obtain ⟨A5, c5, U, he5, _, _, hzc, hzr⟩ := hL4'
        injection he5 with e1 e2 e3
        subst e1; subst e3
        have hzv : ∀ z ∈ zs, WValid z := fun z hz => HVAL.out z ((hzs z).1 hz)
        have hz8 : ∀ z ∈ zs, z.length ≤ 8 := fun z hz => HMEM8.out z ((hzs z).1 hz)
        have hfin := keepMin_mem hasc hzv
        have hfin2 : ∀ x, x ∈ keepMin zs ↔ IsMerge a b x := fun x => by
          rw [hfin]
          exact ⟨fun ⟨p, q⟩ => ⟨(hzs x).1 p, fun z hz => q z ((hzs z).2 hz)⟩, fun ⟨p, q⟩ => ⟨(hzs x).2 p, fun z hz => q z ((hzs z).1 hz)⟩⟩
        have hzn : zs.length ≤ 1000000 := by
          have h1 := (asc_sub hasc (List.Sublist.refl _))
          have h2 := hO4.isL (l := l) (fun y hy => Nat.lt_of_lt_of_le (HL.out y hy) HK2.out.size)
          exact Classical.byContradiction fun hbig => by
            have : zs.length ≤ (mrgL a b).length := asc_len hasc (fun z hz => (hzs z).1 hz)
            have := HCNT.out
            omega
        have hkz := keepMin_sub zs
        generalize hzl : zs.length = k at *
        have hz4 := hk4'.size
        have HASC := Lib.hid hasc
        have HZS := Lib.hid hzs
        have HO4 := Lib.hid hO4
        have HK4' := Lib.hid hk4'
        have HL4 := Lib.hid hL4
        have HZC := Lib.hid hzc
        have HZR := Lib.hid hzr
        have HZV := Lib.hid hzv
        have HZ8 := Lib.hid hz8
        have HFIN2 := Lib.hid hfin2
        have HZL := Lib.hid hzl
        have HKZ := Lib.hid hkz
        clear hasc hzs hO4 hk4' hL4 hzc hzr hzv hz8 hfin2 hzl hkz
        clear hk4 hfin
        go_wp2_with fail
        go_loopg [6, 8, 30] (k + 1) (fun gh sv _ iv wr => ∃ (i : Nat) (V : Option Addr) (n' cv : Nat), k + 1 ≤ i + gh ∧ i ≤ k ∧ iv = .int .i64 (i : Int) ∧ sv = .slice V n' cv ∧ n' = (keepMin (zs.take i)).length ∧ OwL IsI [] 22 w4.heap.size wr l (.slice V n' cv) (keepMin (zs.take i)) ∧ Keeps [] w4 wr)
        case atStart => exact ⟨0, none, 0, 0, by omega, by omega, rfl, rfl, rfl, OwL.nil, Keeps.refl _ _⟩
        case round =>
          obtain ⟨i, V', n', cv, hgh, hi, rfl, rfl, hn', hO, hkr⟩ := hrel
          have hz := hkr.size
          have HN' := Lib.hid hn'
          have HO := Lib.hid hO
          have HKR := Lib.hid hkr
          clear hn' hO hkr
          by_cases hlt : i < k
          · obtain ⟨p, rfl, hp⟩ := (HZC.out.keeps (HKR.out.nil l)).at_ hlt
            have hrow4 : IsI w4 l (U i) (zs.getD i []) := HZR.out i hlt
            obtain ⟨Az, cz, hUi, _⟩ := hrow4.open
            rw [hUi] at hp hrow4
            have htk : zs.take (i + 1) = zs.take i ++ [zs.getD i []] := by
              have hik : i < zs.length := by rw [HZL.out]; exact hlt
              rw [List.take_succ_eq_append_getElem hik]; simp [List.getD_eq_getElem?_getD, hik]
            have hsn := keepMin_snoc (zs.take i) (zs.getD i [])
            rw [← htk] at hsn
            have hz8i := HZ8.out _ (getD_mem (d := []) (show i < zs.length by rw [HZL.out]; exact hlt))
            have hLr := HO.out.isL (fun y hy => by have := HL.out y hy; omega)
            have hle := (asc_len (asc_sub (asc_sub HASC.out (List.take_sublist i zs)) (keepMin_sub _)) (L := zs) (fun z hz => (List.take_sublist i zs).subset ((keepMin_sub _).subset hz)))
            rw [← HN'.out, HZL.out] at hle
            have h8s : ∀ x ∈ keepMin (zs.take i), x.length ≤ 1000000 := fun x hx => by
              have := HZ8.out x ((List.take_sublist i zs).subset ((keepMin_sub _).subset hx)); omega
            generalize keepMin (zs.take i) = ys at *
            generalize hys1 : keepMin (zs.take (i + 1)) = ys1 at *
            generalize zs.getD i [] = z at *
            generalize hzn2 : z.length = zn at *
            have HROW4 := Lib.hid hrow4
            have HSN := Lib.hid hsn
            have HLR := Lib.hid hLr
            have H8S := Lib.hid h8s
            have HZN2 := Lib.hid hzn2
            have HZ8I := Lib.hid hz8i
            have HYS1 := Lib.hid hys1
            clear hrow4 hsn hLr h8s hzn2 hz8i hys1
            clear hUi htk
            have hcell := World.cell?_alloc_new wr #[.slice Az zn cz] 22 0
            have hal : Keeps [] wr (wr.alloc (.cells #[.slice Az zn cz] 22)) := (Keeps.refl _ _).alloc _
            have hk5 := HKR.out.trans hal
            have hlit := merge_lit (l := l) (w := wr.alloc (.cells #[.slice Az zn cz] 22)) (xs := ys) (g := wr.heap.size) (z := z) hcell (HROW4.out.new hk5) H8S.out (by rw [HZN2.out]; have := HZ8I.out; omega)
            have hco := anr_rows (IsII.new HLR.out hal) (by rw [← HN'.out]; omega) eg hlit
            have HCO := Lib.hid hco
            have HK5 := Lib.hid hk5
            clear hco hk5
            clear hcell hal hlit
            go_wp2_with fail
            refine HCO.out.mono ?_
            rintro e w6 ⟨r, rfl, hr, hk6⟩
            have hr2 : r = true ↔ ∃ x ∈ ys, WLeq x z := by
              rw [hr]
              constructor
              · rintro ⟨j, hj, h⟩; exact ⟨_, getD_mem hj, wleqB_true.1 h⟩
              · rintro ⟨x, hx, h⟩
                obtain ⟨j, hj, e⟩ := mem_getD (d := []) hx
                exact ⟨j, hj, by show wleqB (ys.getD j []) z = true; rw [e]; exact wleqB_true.2 h⟩
            have hk7 := HK5.out.trans hk6
            have hcell := hk6.read (World.cell?_alloc_new wr #[.slice Az zn cz] 22 0) (by simp)
            have hO7 := HO.out.new (((Keeps.refl [] wr).alloc (.cells #[.slice Az zn cz] 22)).trans hk6)
            have hz7 := hk7.size
            have HK7 := Lib.hid hk7
            have HO7 := Lib.hid hO7
            clear hk7 hO7
            clear hr hk6
            have hni : n' + 1 ≤ 1000000000 := by omega
            cases r with
            | true =>
              have hsn2 := HSN.out
              rw [if_pos (hr2.1 rfl)] at hsn2
              have HSN2 := Lib.hid hsn2
              clear hsn2
              clear hr2
              go_wp2_with fail
              go_roundg (k - i)
              case measure => omega
              case rel => exact ⟨i + 1, V', n', cv, by omega, by omega, by go_num, rfl, by rw [HYS1.out, HSN2.out]; exact HN'.out, by rw [HYS1.out, HSN2.out]; exact HO7.out, HK7.out⟩
            | false =>
              have hsn2 := HSN.out
              rw [if_neg (fun h => by have := hr2.2 h; cases this)] at hsn2
              have HSN2 := Lib.hid hsn2
              clear hsn2
              clear hr2
              go_wp2_with (at_builtin; refine wpList_push sl_rowsi rfl _ _ rfl (w := w6) (u := .slice Az zn cz) (y := z) rfl rfl HO7.out (HO7.out.putw HROW4.out HK7.out (Nat.le_refl _)) (m := n' + 1) (by rw [← HN'.out]) hni hz7 (w0 := w4) (l0 := []) (Nat.le_refl _) HK7.out ?_; intro V7 c7 w7 hown7 hg7 hk77)
              have hn7 : n' + 1 = (ys ++ [z]).length := by rw [List.length_append, ← HN'.out]; rfl
              have HN7 := Lib.hid hn7
              clear hn7
              go_roundg (k - i)
              case measure => omega
              case rel => exact ⟨i + 1, V7, n' + 1, c7, by omega, by omega, by go_num, rfl, by rw [HYS1.out, HSN2.out]; exact HN7.out, by rw [HYS1.out, HSN2.out]; exact hown7, hk77⟩
          · obtain rfl : i = k := by omega
            have hall : zs.take i = zs := by rw [← HZL.out, List.take_length]
            have hn2 := HN'.out
            have hO2 := HO.out
            rw [hall] at hn2 hO2
            have hasc := asc_sub HASC.out (keepMin_sub zs)
            have hO3 := hO2.low hz4
            have hkf := HK4'.out.trans HKR.out
            have HN2 := Lib.hid hn2
            have HO3 := Lib.hid hO3
            have HASC := Lib.hid hasc
            have HKF := Lib.hid hkf
            clear hn2 hO3 hasc hkf
            clear hall hO2
            go_wp2_with fail
            go_ret2
            exact ⟨HKF.out, .inr (.inr ⟨V', n', cv, keepMin zs, HVA.out, HVB.out, h8, HN2.out, rfl, HASC.out, HFIN2.out, HO3.out⟩)⟩
      · have H1 := Lib.hid h1
        have H2 := Lib.hid h2
        have HNA := Lib.hid hna
        have HNB := Lib.hid hnb
        have HA := Lib.hid ha
        have HB := Lib.hid hb
        have HMA := Lib.hid hma
        have HMB := Lib.hid hmb
        have HVA := Lib.hid hva
        have HVB := Lib.hid hvb
        have HL := Lib.hid hl
        clear h1 h2 hna hnb ha hb hma hmb hva hvb hl
        go_enter Try.func14, Try.ntmps14
        go_wp2_with fail
        refine HMA.out.mono ?_
        rintro e w1 ⟨rfl, hk1⟩
        have hcb := HMB.out w1 hk1
        have HCB := Lib.hid hcb
        clear hcb
        haveI : KB [] w1 w := ⟨hk1⟩
        clear hk1
        go_wp2_with fail
        refine HCB.out.mono ?_
        rintro e w2 ⟨rfl, hk2⟩
        haveI : KB [] w2 w1 := ⟨hk2⟩
        have HK2 := Lib.hid (kf [] w w2)
        clear hk2
        go_wp2_with fail
        go_ret2
        exact ⟨HK2.out, .inr (.inl ⟨HVA.out, HVB.out, h8, rfl⟩)⟩
    · rw [wvB_false.2 hvb] at hmb
      generalize a.length = n at *
      generalize b.length = m at *
      have H1 := Lib.hid h1
      have H2 := Lib.hid h2
      have HA := Lib.hid ha
      have HB := Lib.hid hb
      have HMA := Lib.hid hma
      have HMB := Lib.hid hmb
      have HVA := Lib.hid hva
      have HVB := Lib.hid hvb
      have HL := Lib.hid hl
      clear h1 h2 ha hb hma hmb hva hvb hl
      go_enter Try.func14, Try.ntmps14
      go_wp2_with fail
      refine HMA.out.mono ?_
      rintro e w1 ⟨rfl, hk1⟩
      have hcb := HMB.out w1 hk1
      have HCB := Lib.hid hcb
      clear hcb
      haveI : KB [] w1 w := ⟨hk1⟩
      clear hk1
      go_wp2_with fail
      refine HCB.out.mono ?_
      rintro e w2 ⟨rfl, hk2⟩
      haveI : KB [] w2 w1 := ⟨hk2⟩
      have HK2 := Lib.hid (kf [] w w2)
      clear hk2
      go_wp2_with fail
      go_ret2
      exact ⟨HK2.out, .inl ⟨fun h => HVB.out h.2, rfl⟩⟩
  · rw [wvB_false.2 hva] at hma
    generalize a.length = n at *
    generalize b.length = m at *
    have H1 := Lib.hid h1
    have H2 := Lib.hid h2
    have HA := Lib.hid ha
    have HB := Lib.hid hb
    have HMA := Lib.hid hma
    have HMB := Lib.hid hmb
    have HVA := Lib.hid hva
    have HL := Lib.hid hl
    clear h1 h2 ha hb hma hmb hva hl
    go_enter Try.func14, Try.ntmps14
    go_wp2_with fail
    refine HMA.out.mono ?_
    rintro e w1 ⟨rfl, hk1⟩
    have HK1 := Lib.hid hk1
    clear hk1
    go_wp2_with fail
    go_ret2
    exact ⟨HK1.out, .inl ⟨fun h => HVA.out h.1, rfl⟩⟩
end Go.Proofs.Ytfhommegkogahaa
