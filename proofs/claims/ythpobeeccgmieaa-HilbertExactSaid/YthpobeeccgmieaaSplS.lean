/- A homogeneous solution is a sum of minimal ones, and the split finds such a sum (in plain Lean). -/
import Derived.Test.YthpobeeccgmieaaSplitH
import Derived.Test.YthpobeeccgmieaaHLaw
namespace Go.Proofs.Ythpobeeccgmieaa
set_option linter.unusedVariables false

theorem isum_perm {a b : List Int} (h : a.Perm b) : isum a = isum b := by
  induction h with
  | nil => rfl
  | cons x _ ih => rw [isum_cons, isum_cons, ih]
  | swap x y l => rw [isum_cons, isum_cons, isum_cons, isum_cons]; omega
  | trans _ _ h1 h2 => exact h1.trans h2
/-- The sum of vectors with n elements. -/
def sumV (n : Nat) (zs : List (List Int)) : List Int := (List.range n).map fun i => isum (zs.map fun z => z.getD i 0)
theorem sumV_len {n : Nat} {zs : List (List Int)} : (sumV n zs).length = n := by simp [sumV]
theorem sumV_at {n i : Nat} {zs : List (List Int)} (hi : i < n) : (sumV n zs).getD i 0 = isum (zs.map fun z => z.getD i 0) := by
  unfold sumV
  simp [List.getD_eq_getElem?_getD, hi]
theorem sumV_perm {n : Nat} {a b : List (List Int)} (h : a.Perm b) : sumV n a = sumV n b := by
  refine eq_of_getD (by rw [sumV_len, sumV_len]) fun i hi => ?_
  rw [sumV_len] at hi
  rw [sumV_at hi, sumV_at hi]
  exact isum_perm (h.map _)
theorem sumV_cons_at {n i : Nat} {v : List Int} {zs : List (List Int)} (hi : i < n) : (sumV n (v :: zs)).getD i 0 = v.getD i 0 + (sumV n zs).getD i 0 := by
  rw [sumV_at hi, sumV_at hi]; rfl
theorem sumV_sub {n : Nat} {v : List Int} {zs : List (List Int)} : subV n (sumV n (v :: zs)) v = sumV n zs := by
  refine eq_of_getD (by rw [subV_len, sumV_len]) fun i hi => ?_
  rw [subV_len] at hi
  rw [subV_at hi, sumV_cons_at hi]; omega
theorem sumV_add {n : Nat} {x v : List Int} {zs : List (List Int)} (hx : x.length = n) (h : sumV n zs = subV n x v) : sumV n (v :: zs) = x := by
  refine eq_of_getD (by rw [sumV_len, hx]) fun i hi => ?_
  rw [sumV_len] at hi
  rw [sumV_cons_at hi, h, subV_at hi]; omega
theorem sumV_pos {n : Nat} {zs : List (List Int)} (h : ∀ z ∈ zs, VFin z) : ∀ i, i < n → 0 ≤ (sumV n zs).getD i 0 := fun i hi => by
  rw [sumV_at hi]
  refine (isum_ge fun y hy => ?_).1
  obtain ⟨z, hz, rfl⟩ := List.mem_map.1 hy
  by_cases hl : i < z.length
  · exact ((h z hz).el _ (getD_mem hl)).1
  · rw [List.getD_eq_getElem?_getD, List.getElem?_eq_none (by omega)]; simp
theorem sumV_le {n : Nat} {v : List Int} {zs : List (List Int)} (hv : v.length = n) (h : ∀ z ∈ zs, VFin z) : pleB v (sumV n (v :: zs)) = true := pleB_true.2 fun i hi => by
  rw [sumV_cons_at (by omega)]
  have := sumV_pos (n := n) h i (by omega)
  omega

theorem splitG_comp {n : Nat} {rec : List (List Int) → List Int → Option (List (List Int))} {zs : List (List Int)} {x : List Int} (hx : x = sumV n zs) (h0 : isum x ≠ 0) (hzf : ∀ z ∈ zs, VFin z ∧ z.length = n)
    (hr : ∀ l v, SpL n l → v ∈ zs → (∀ z ∈ zs, z ∈ l) → ∃ ys, rec l (subV n x v) = some ys) : ∀ (l : List (List Int)), SpL n l → (∀ z ∈ zs, z ∈ l) → ∃ ys, splitG rec l x = some ys
  | [], hl, hz => by
    exfalso
    cases zs with
    | nil =>
      apply h0
      rw [hx]
      rw [isum_zero (fun y hy => by
        obtain ⟨i, hi, rfl⟩ := mem_getD (d := 0) hy
        rw [sumV_len] at hi
        exact sumV_pos (zs := []) (by simp) i hi)]
      intro i hi
      rw [sumV_len] at hi
      rw [sumV_at hi]; rfl
    | cons z t => exact absurd (hz z (by simp)) (by simp)
  | v :: t, hl, hz => by
    have hlen : x.length = n := by rw [hx, sumV_len]
    unfold splitG
    rw [hlen]
    by_cases hv : v ∈ zs
    · obtain ⟨ys, hy⟩ := hr (v :: t) v hl hv hz
      have hp : pleB v x = true := by
        rw [hx, sumV_perm (List.perm_cons_erase hv)]
        exact sumV_le (hzf v hv).2 fun z hz' => (hzf z (List.mem_of_mem_erase hz')).1
      rw [if_pos hp, hy]
      exact ⟨_, rfl⟩
    · have ht : SpL n t := by have := hl.drop 1; simpa using this
      obtain ⟨ys, hy⟩ := splitG_comp hx h0 hzf hr t ht fun z hz' => (List.mem_cons.1 (hz z hz')).resolve_left fun e => hv (e ▸ hz')
      by_cases hp : pleB v x = true
      · rw [if_pos hp]
        cases hrec : rec (v :: t) (subV n x v) with
        | some us => exact ⟨_, rfl⟩
        | none => exact ⟨ys, hy⟩
      · rw [if_neg hp]; exact ⟨ys, hy⟩
theorem splitF_comp {n : Nat} : ∀ (f : Nat) (l zs : List (List Int)), SpL n l → (∀ z ∈ zs, z ∈ l) → isum (sumV n zs) ≤ f → ∃ ys, splitF f l (sumV n zs) = some ys := by
  intro f
  induction f with
  | zero =>
    intro l zs hl hz hs
    refine ⟨[], splitF_zero ?_⟩
    have := (isum_ge (x := sumV n zs) fun y hy => by
      obtain ⟨i, hi, rfl⟩ := mem_getD (d := 0) hy
      rw [sumV_len] at hi
      exact sumV_pos (fun z h => hl.fin z (hz z h)) i hi).1
    omega
  | succ f ih =>
    intro l zs hl hz hs
    by_cases h0 : isum (sumV n zs) = 0
    · exact ⟨[], splitF_zero h0⟩
    rw [splitF_succ h0]
    have hzf : ∀ z ∈ zs, VFin z ∧ z.length = n := fun z h => ⟨hl.fin z (hz z h), hl.len z (hz z h)⟩
    refine splitG_comp rfl h0 hzf (fun l' v hl' hv hz' => ?_) l hl hz
    have hp := List.perm_cons_erase hv
    have e : subV n (sumV n zs) v = sumV n (zs.erase v) := by rw [sumV_perm hp, sumV_sub]
    rw [e]
    refine ih l' (zs.erase v) hl' (fun z h => hz' z (List.mem_of_mem_erase h)) ?_
    rw [← e, isum_sub sumV_len (hzf v hv).2]
    have := hl.pos v (hz v hv)
    omega

/-- What the split returns is a sum, its parts ascending. -/
structure SplOk (n : Nat) (l : List (List Int)) (x : List Int) (ys : List (List Int)) : Prop where
  mem : ∀ z ∈ ys, z ∈ l
  sum : sumV n ys = x
  asc : ys.Pairwise fun a b => cmpL a b ≤ 0
theorem splitG_sound {n : Nat} {rec : List (List Int) → List Int → Option (List (List Int))} {x : List Int} (hx : VFin x) (hxl : x.length = n)
    (hr : ∀ l y ys, SpL n l → Asc l → VFin y → y.length = n → rec l y = some ys → SplOk n l y ys) : ∀ (l ys : List (List Int)), SpL n l → Asc l → splitG rec l x = some ys → SplOk n l x ys
  | [], ys, _, _, h => by cases h
  | v :: t, ys, hl, ha, h => by
    have ht : SpL n t := by have := hl.drop 1; simpa using this
    have hat : Asc t := by unfold Asc at *; exact (List.pairwise_cons.1 ha).2
    have key : ∀ us, splitG rec t x = some us → SplOk n (v :: t) x us := fun us hu => by
      obtain ⟨h1, h2, h3⟩ := splitG_sound hx hxl hr t us ht hat hu
      exact ⟨fun z hz => List.mem_cons.2 (.inr (h1 z hz)), h2, h3⟩
    unfold splitG at h
    rw [hxl] at h
    by_cases hp : pleB v x = true
    · rw [if_pos hp] at h
      have hv := hl.fin v (by simp)
      have hvl := hl.len v (by simp)
      cases hrec : rec (v :: t) (subV n x v) with
      | some us =>
        rw [hrec] at h
        cases h
        obtain ⟨h1, h2, h3⟩ := hr _ _ us hl ha (sub_fin hx hv hxl hvl hp) subV_len hrec
        refine ⟨fun z hz => ?_, sumV_add hxl h2, List.pairwise_cons.2 ⟨fun z hz => ?_, h3⟩⟩
        · rcases List.mem_cons.1 hz with e | hz
          · rw [e]; simp
          · exact h1 z hz
        · rcases List.mem_cons.1 (h1 z hz) with e | hz'
          · rw [e, cmpL_self]; omega
          · have := (List.pairwise_cons.1 (show List.Pairwise _ (v :: t) from ha)).1 z hz'
            omega
      | none =>
        rw [hrec] at h
        exact key ys h
    · rw [if_neg hp] at h
      exact key ys h
theorem splitF_sound {n : Nat} : ∀ (f : Nat) (l : List (List Int)) (x : List Int) (ys : List (List Int)), SpL n l → Asc l → VFin x → x.length = n → splitF f l x = some ys → SplOk n l x ys := by
  have hz : ∀ (l : List (List Int)) (x : List Int), VFin x → x.length = n → isum x = 0 → SplOk n l x [] := fun l x hx hxl h0 => by
    refine ⟨by simp, eq_of_getD (by rw [sumV_len, hxl]) fun i hi => ?_, List.Pairwise.nil⟩
    rw [sumV_len] at hi
    rw [sumV_at hi, (isum_zero fun y hy => (hx.el y hy).1).1 h0 i (by omega)]; rfl
  intro f
  induction f with
  | zero =>
    intro l x ys hl ha hx hxl h
    unfold splitF at h
    by_cases h0 : isum x = 0
    · rw [if_pos h0] at h; cases h; exact hz l x hx hxl h0
    · rw [if_neg h0] at h; cases h
  | succ f ih =>
    intro l x ys hl ha hx hxl h
    by_cases h0 : isum x = 0
    · rw [splitF_zero h0] at h; cases h; exact hz l x hx hxl h0
    · rw [splitF_succ h0] at h
      exact splitG_sound hx hxl ih l ys hl ha h

/-- Differences of homogeneous solutions are such. -/
theorem dotP_sub {r x v : List Int} {n : Nat} : ∀ {k : Nat}, k ≤ n → dotP r (subV n x v) k = dotP r x k - dotP r v k
  | 0, _ => by simp [dotP]
  | k + 1, hk => by
    simp only [dotP]
    rw [dotP_sub (by omega), subV_at (by omega), Int.mul_sub]
    omega
theorem sol_zero {A : List (List Int)} {r n : Nat} (hM : Mat A r n) {x : List Int} : solB A (List.replicate r 0) x = true ↔ ∀ a ∈ A, dotL a x = 0 := by
  unfold solB
  rw [decide_eq_true_eq]
  constructor
  · intro h a ha
    have : dotL a x ∈ appL A x := List.mem_map.2 ⟨a, ha, rfl⟩
    rw [h] at this
    exact (List.mem_replicate.1 this).2
  · intro h
    rw [List.eq_replicate_iff]
    refine ⟨by simp [appL, hM.rows], fun y hy => ?_⟩
    obtain ⟨a, ha, rfl⟩ := List.mem_map.1 hy
    exact h a ha
theorem sol_sub {A : List (List Int)} {r n : Nat} (hM : Mat A r n) {x v : List Int} (hx : solB A (List.replicate r 0) x = true) (hv : solB A (List.replicate r 0) v = true) : solB A (List.replicate r 0) (subV n x v) = true := by
  rw [sol_zero hM] at *
  intro a ha
  unfold dotL
  rw [dotP_sub (by rw [hM.len a ha]; omega)]
  have h1 := hx a ha
  have h2 := hv a ha
  unfold dotL at h1 h2
  omega
/-- Each homogeneous solution is a sum of minimal ones. -/
theorem exists_sum {A : List (List Int)} {r k : Nat} (hM : Mat A r (k + 1)) (hk : k ≤ 5) {L : List (List Int)} (hL : MinQ (solB A (List.replicate r 0)) k 1 10 L) : ∀ (s : Nat) (x : List Int), isum x ≤ s → isum x ≤ 10 → VFin x → x.length = k + 1 → solB A (List.replicate r 0) x = true →
    ∃ zs, (∀ z ∈ zs, z ∈ L) ∧ sumV (k + 1) zs = x := by
  have hz : ∀ x : List Int, VFin x → x.length = k + 1 → isum x = 0 → ∃ zs, (∀ z ∈ zs, z ∈ L) ∧ sumV (k + 1) zs = x := fun x hx hxl h0 => by
    refine ⟨[], by simp, eq_of_getD (by rw [sumV_len, hxl]) fun i hi => ?_⟩
    rw [sumV_len] at hi
    rw [sumV_at hi, (isum_zero fun y hy => (hx.el y hy).1).1 h0 i (by omega)]; rfl
  intro s
  induction s with
  | zero =>
    intro x hs h10 hx hxl hsol
    have := (isum_ge fun y hy => (hx.el y hy).1).1
    exact hz x hx hxl (by omega)
  | succ s ih =>
    intro x hs h10 hx hxl hsol
    by_cases h0 : isum x = 0
    · exact hz x hx hxl h0
    have h1 := (isum_ge fun y hy => (hx.el y hy).1).1
    have hS : Solv (solB A (List.replicate r 0)) k 1 10 x := ⟨hxl, fun y hy => (hx.el y hy).1, by omega, h10, hsol⟩
    obtain ⟨y, hy, hle⟩ := exists_min 10 x hS h10
    have hyf := hy.1.fin hk (by omega)
    have hyl := hy.1.len
    have hp : pleB y x = true := pleB_true.2 fun i hi => hle.le i hi
    have hi := isum_sub hxl hyl
    have hge := hy.1.ge
    obtain ⟨zs, hzs, hsum⟩ := ih (subV (k + 1) x y) (by omega) (by omega) (sub_fin hx hyf hxl hyl hp) subV_len (sol_sub hM hsol hy.1.sol)
    exact ⟨y :: zs, fun z hz' => (List.mem_cons.1 hz').elim (fun e => e ▸ (hL.2 y).2 hy) (hzs z), sumV_add hxl hsum⟩
theorem split_works {A : List (List Int)} {r k : Nat} (hM : Mat A r (k + 1)) (hk : k ≤ 5) {x : List Int} {ys : List (List Int)} (h10 : isum x ≤ 10) (hx : VFin x) (hxl : x.length = k + 1) (hsol : solB A (List.replicate r 0) x = true)
    (h : SplQ (solB A (List.replicate r 0)) k x ys) : (∀ z ∈ ys, Solv (solB A (List.replicate r 0)) k 1 10 z) ∧ sumV (k + 1) ys = x ∧ (ys.Pairwise fun a b => cmpL a b ≤ 0) ∧ ys.length ≤ 10 := by
  obtain ⟨L, hL, rfl⟩ := h
  obtain ⟨hsp, _⟩ := minQ_spl hk hL
  obtain ⟨zs, hzs, hsum⟩ := exists_sum hM hk hL 10 x h10 h10 hx hxl hsol
  obtain ⟨ys, hys⟩ := splitF_comp 10 L zs hsp hzs (by rw [hsum]; exact h10)
  rw [hsum] at hys
  rw [hys]
  obtain ⟨h1, h2, h3⟩ := splitF_sound 10 L x ys hsp hL.1 hx hxl hys
  have h4 := splitF_len 10 L x ys hsp hx hxl hys
  exact ⟨fun z hz => ((hL.2 z).1 (h1 z hz)).1, h2, h3, by show ys.length ≤ 10; omega⟩
end Go.Proofs.Ythpobeeccgmieaa
