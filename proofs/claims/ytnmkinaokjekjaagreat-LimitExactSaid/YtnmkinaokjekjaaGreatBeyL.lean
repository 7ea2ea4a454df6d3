/- Plain law: the complement of closed sets of vectors, step by step. -/
import Derived.Test.YtnmkinaokjekjaaGreatRedL
namespace Go.Proofs.YtnmkinaokjekjaaGreat
set_option linter.unusedVariables false
open Go.RowKit

def nextV (turn : Int → Int → Option Int) (c v : List Int) : List (List Int) := (List.range v.length).filterMap fun i => (turn (v.getD i 0) (c.getD i 0)).map fun y => v.set i y
def nextA (turn : Int → Int → Option Int) (c : List Int) (out : List (List Int)) : List (List Int) := out.flatMap (nextV turn c)
theorem mem_nextV {turn : Int → Int → Option Int} {c v x : List Int} : x ∈ nextV turn c v ↔ ∃ i y, i < v.length ∧ turn (v.getD i 0) (c.getD i 0) = some y ∧ x = v.set i y := by
  unfold nextV
  rw [List.mem_filterMap]
  constructor
  · rintro ⟨i, hi, e⟩
    rw [Option.map_eq_some_iff] at e
    obtain ⟨y, h1, h2⟩ := e
    exact ⟨i, y, List.mem_range.1 hi, h1, h2.symm⟩
  · rintro ⟨i, y, hi, h1, h2⟩
    exact ⟨i, List.mem_range.2 hi, by rw [h1]; simp [h2]⟩
theorem mem_nextA {turn : Int → Int → Option Int} {c x : List Int} {out : List (List Int)} : x ∈ nextA turn c out ↔ ∃ v ∈ out, ∃ i y, i < v.length ∧ turn (v.getD i 0) (c.getD i 0) = some y ∧ x = v.set i y := by
  unfold nextA
  rw [List.mem_flatMap]
  exact ⟨fun ⟨v, h1, h2⟩ => ⟨v, h1, mem_nextV.1 h2⟩, fun ⟨v, h1, h2⟩ => ⟨v, h1, mem_nextV.2 h2⟩⟩
theorem len_nextV (turn : Int → Int → Option Int) (c v : List Int) : (nextV turn c v).length ≤ v.length := by
  unfold nextV
  have := List.length_filterMap_le (fun i => (turn (v.getD i 0) (c.getD i 0)).map fun y => v.set i y) (List.range v.length)
  simpa using this
theorem len_nextA {turn : Int → Int → Option Int} {c : List Int} {n : Nat} : ∀ {out : List (List Int)}, (∀ v ∈ out, v.length = n) → (nextA turn c out).length ≤ n * out.length
  | [], _ => by simp [nextA]
  | v :: out, h => by
    have h1 := len_nextA (turn := turn) (c := c) (out := out) fun u hu => h u (by simp [hu])
    have h2 := len_nextV turn c v
    have h3 := h v (by simp)
    have e : nextA turn c (v :: out) = nextV turn c v ++ nextA turn c out := by simp [nextA]
    rw [e, List.length_append, List.length_cons, Nat.mul_add]; omega

/-- What is left beyond corners, one after the other. -/
inductive Bey (cov : List Int → List Int → Bool) (turn : Int → Int → Option Int) (begin_ : List Int) : List (List Int) → List (List Int) → Prop
  | nil : Bey cov turn begin_ [] [begin_]
  | snoc {C : List (List Int)} {out out' : List (List Int)} {c : List Int} : Bey cov turn begin_ C out → Asc out' → (∀ x, x ∈ out' ↔ MaxOf cov (nextA turn c out) x) → Bey cov turn begin_ (C ++ [c]) out'

/-- What all vectors on the way are. -/
structure BeyP (cov : List Int → List Int → Bool) (turn : Int → Int → Option Int) (begin_ : List Int) (C : List (List Int)) (n : Nat) (P : List Int → Prop) : Prop where
  start : P begin_
  step : ∀ c ∈ C, ∀ v, P v → ∀ i y, i < n → turn (v.getD i 0) (c.getD i 0) = some y → P (v.set i y)
  len : ∀ v, P v → v.length = n
  ord : ∀ l, (∀ x ∈ l, P x) → OrdOn cov l
theorem BeyP.sub {cov : List Int → List Int → Bool} {turn : Int → Int → Option Int} {begin_ : List Int} {C C' : List (List Int)} {n : Nat} {P : List Int → Prop} (h : BeyP cov turn begin_ C n P) (hs : ∀ c ∈ C', c ∈ C) : BeyP cov turn begin_ C' n P :=
  ⟨h.start, fun c hc => h.step c (hs c hc), h.len, h.ord⟩
theorem BeyP.next {cov : List Int → List Int → Bool} {turn : Int → Int → Option Int} {begin_ : List Int} {C : List (List Int)} {n : Nat} {P : List Int → Prop} (h : BeyP cov turn begin_ C n P) {c : List Int} (hc : c ∈ C) {out : List (List Int)} (ho : ∀ x ∈ out, P x) : ∀ x ∈ nextA turn c out, P x := fun x hx => by
  obtain ⟨v, hv, i, y, hi, ht, rfl⟩ := mem_nextA.1 hx
  exact h.step c hc v (ho v hv) i y (by rw [← h.len v (ho v hv)]; exact hi) ht
theorem bey_P {cov : List Int → List Int → Bool} {turn : Int → Int → Option Int} {begin_ : List Int} {n : Nat} {P : List Int → Prop} : ∀ {C out : List (List Int)}, Bey cov turn begin_ C out → BeyP cov turn begin_ C n P → ∀ x ∈ out, P x := by
  intro C out h
  induction h with
  | nil => intro hp x hx; rw [List.mem_singleton.1 hx]; exact hp.start
  | snoc h1 h2 h3 ih =>
    intro hp x hx
    have := ih (hp.sub fun c hc => by simp [hc])
    exact hp.next (by simp) this x ((h3 x).1 hx).1
theorem max_cover {cov : List Int → List Int → Bool} {l : List (List Int)} (ho : OrdOn cov l) {y : List Int} (hy : y ∈ l) : ∃ x, MaxOf cov l x ∧ cov x y = true := by
  obtain ⟨x, hx, e⟩ := (redF_inv ho).cover y hy
  exact ⟨x, (redF_mem ho).1 hx, e⟩
theorem bey_anti {cov : List Int → List Int → Bool} {turn : Int → Int → Option Int} {begin_ : List Int} {C out : List (List Int)} (h : Bey cov turn begin_ C out) : ∀ x ∈ out, ∀ y ∈ out, cov y x = true → y = x := by
  cases h with
  | nil => intro x hx y hy _; rw [List.mem_singleton.1 hx, List.mem_singleton.1 hy]
  | snoc h1 h2 h3 => intro x hx y hy e; exact ((h3 x).1 hx).2 y ((h3 y).1 hy).1 e
theorem bey_asc {cov : List Int → List Int → Bool} {turn : Int → Int → Option Int} {begin_ : List Int} {C out : List (List Int)} (h : Bey cov turn begin_ C out) : Asc out := by
  cases h with
  | nil => exact List.pairwise_singleton _ _
  | snoc h1 h2 h3 => exact h2
theorem bey_len {cov : List Int → List Int → Bool} {turn : Int → Int → Option Int} {begin_ : List Int} {n : Nat} {P : List Int → Prop} : ∀ {C out : List (List Int)}, Bey cov turn begin_ C out → BeyP cov turn begin_ C n P → out.length ≤ n ^ C.length := by
  intro C out h
  induction h with
  | nil => intro _; simp
  | @snoc C out out' c h1 h2 h3 ih =>
    intro hp
    have hp' := hp.sub (C' := C) fun c hc => by simp [hc]
    have hl := ih hp'
    have h4 := asc_len h2 (L := nextA turn c out) fun z hz => ((h3 z).1 hz).1
    have h5 := len_nextA (turn := turn) (c := c) (out := out) fun v hv => hp.len v (bey_P h1 hp' v hv)
    have h6 : n * out.length ≤ n * n ^ C.length := Nat.mul_le_mul_left n hl
    rw [List.length_append, List.length_singleton, Nat.pow_succ, Nat.mul_comm (n ^ C.length)]
    omega

theorem getD_set (v : List Int) (i k : Nat) (y : Int) (hi : i < v.length) : (v.set i y).getD k 0 = if k = i then y else v.getD k 0 := by
  rw [List.getD_eq_getElem?_getD, List.getElem?_set]
  by_cases e : i = k
  · subst e; simp [hi]
  · rw [if_neg e, if_neg (fun h => e h.symm), List.getD_eq_getElem?_getD]

/-! Below: what is below none of the corners. -/
def OM : Int := 1099511627776
def turnB (x c : Int) : Option Int := if 0 < c then some (min x (c - 1)) else none
def covG (a b : List Int) : Bool := vleB b a
/-- Numbers up to a greatest one, or no bound. -/
structure SmV (n : Nat) (K : Int) (v : List Int) : Prop where
  len : v.length = n
  el : ∀ x ∈ v, (0 ≤ x ∧ x ≤ K) ∨ x = OM
theorem SmV.val {n : Nat} {K : Int} {v : List Int} (h : SmV n K v) (hn : n ≤ 6) (hK : K ≤ 1048576) : VVal v := ⟨by rw [h.len]; exact hn, fun x hx => (h.el x hx).imp (fun h => by omega) id⟩
theorem ordG {n : Nat} {l : List (List Int)} (h : ∀ x ∈ l, VVal x ∧ x.length = n) : OrdOn covG l :=
  ⟨fun x hx => vleB_true.2 ⟨(h x hx).1, (h x hx).1, VLe.refl x⟩,
   fun x hx y hy z hz h1 h2 => vleB_true.2 ⟨(h z hz).1, (h x hx).1, (vleB_true.1 h2).2.2.trans (vleB_true.1 h1).2.2⟩,
   fun x hx y hy h1 h2 => (vleB_true.1 h2).2.2.antisymm (vleB_true.1 h1).2.2⟩
theorem set_el {v : List Int} {i : Nat} {y : Int} {P : Int → Prop} (h : ∀ x ∈ v, P x) (hy : P y) : ∀ x ∈ v.set i y, P x := fun x hx => by
  rcases List.mem_or_eq_of_mem_set hx with e | e
  · exact h x e
  · rw [e]; exact hy
theorem beyB {n : Nat} {K : Int} {C : List (List Int)} (hn : n ≤ 6) (hK0 : 0 ≤ K) (hK : K ≤ 1048576) (hC : ∀ c ∈ C, c.length = n ∧ ∀ x ∈ c, 0 ≤ x ∧ x ≤ K + 1) : BeyP covG turnB (List.replicate n OM) C n (SmV n K) where
  start := ⟨by simp, fun x hx => .inr (List.eq_of_mem_replicate hx)⟩
  step c hc v hv i y hi ht := by
    unfold turnB at ht
    split at ht
    · injection ht with ht
      subst ht
      refine ⟨by rw [List.length_set]; exact hv.len, set_el hv.el ?_⟩
      have h1 := (hC c hc).2 _ (getD_mem (d := 0) (show i < c.length by rw [(hC c hc).1]; exact hi))
      have h2 := hv.el _ (getD_mem (d := 0) (show i < v.length by rw [hv.len]; exact hi))
      rcases h2 with h2 | h2
      · exact .inl (by omega)
      · unfold OM at h2; exact .inl (by omega)
    · cases ht
  len v hv := hv.len
  ord l hl := ordG fun x hx => ⟨(hl x hx).val hn hK, (hl x hx).len⟩

def InD (out : List (List Int)) (z : List Int) : Prop := ∃ x ∈ out, VLe z x
def InU (out : List (List Int)) (z : List Int) : Prop := ∃ x ∈ out, VLe x z
/-- Vectors of numbers up to no bound. -/
structure ZV (n : Nat) (z : List Int) : Prop where
  len : z.length = n
  el : ∀ x ∈ z, 0 ≤ x ∧ x ≤ OM
theorem ZV.at_ {n : Nat} {z : List Int} (h : ZV n z) {i : Nat} (hi : i < n) : 0 ≤ z.getD i 0 ∧ z.getD i 0 ≤ OM := h.el _ (getD_mem (by rw [h.len]; exact hi))
theorem SmV.z {n : Nat} {K : Int} {v : List Int} (h : SmV n K v) (hK : K ≤ 1048576) : ZV n v := ⟨h.len, fun x hx => by rcases h.el x hx with h | h <;> unfold OM at * <;> omega⟩
theorem not_le {n : Nat} {a b : List Int} (ha : a.length = n) (hb : b.length = n) : ¬ VLe a b ↔ ∃ i, i < n ∧ b.getD i 0 < a.getD i 0 := by
  constructor
  · intro h
    refine Classical.byContradiction fun hn => h ⟨by omega, fun i hi => ?_⟩
    refine Int.not_lt.1 fun hlt => hn ⟨i, by omega, hlt⟩
  · rintro ⟨i, hi, hlt⟩ h
    have := h.le i (by omega)
    omega
theorem inD_max {n : Nat} {l out : List (List Int)} (hl : ∀ x ∈ l, VVal x ∧ x.length = n) (h : ∀ x, x ∈ out ↔ MaxOf covG l x) (z : List Int) : InD out z ↔ InD l z := by
  constructor
  · rintro ⟨x, hx, hz⟩; exact ⟨x, ((h x).1 hx).1, hz⟩
  · rintro ⟨x, hx, hz⟩
    obtain ⟨y, hy, e⟩ := max_cover (ordG hl) hx
    exact ⟨y, (h y).2 hy, hz.trans (vleB_true.1 e).2.2⟩
theorem le_set {z v : List Int} {i : Nat} {y : Int} (hi : i < v.length) : VLe z (v.set i y) ↔ z.length = v.length ∧ (∀ k, k < v.length → k ≠ i → z.getD k 0 ≤ v.getD k 0) ∧ z.getD i 0 ≤ y := by
  constructor
  · intro h
    have hl := h.len
    rw [List.length_set] at hl
    refine ⟨hl, fun k hk hne => ?_, ?_⟩
    · have := h.le k (by omega)
      rwa [getD_set _ _ _ _ hi, if_neg hne] at this
    · have := h.le i (by omega)
      rwa [getD_set _ _ _ _ hi, if_pos rfl] at this
  · rintro ⟨hl, h1, h2⟩
    refine ⟨by rw [List.length_set]; exact hl, fun k hk => ?_⟩
    rw [getD_set _ _ _ _ hi]
    split
    · rename_i e; rw [e]; exact h2
    · rename_i e; exact h1 k (by omega) e
theorem set_le {z v : List Int} {i : Nat} {y : Int} (hi : i < v.length) : VLe (v.set i y) z ↔ v.length = z.length ∧ (∀ k, k < v.length → k ≠ i → v.getD k 0 ≤ z.getD k 0) ∧ y ≤ z.getD i 0 := by
  constructor
  · intro h
    have hl := h.len
    rw [List.length_set] at hl
    refine ⟨hl, fun k hk hne => ?_, ?_⟩
    · have := h.le k (by rw [List.length_set]; exact hk)
      rwa [getD_set _ _ _ _ hi, if_neg hne] at this
    · have := h.le i (by rw [List.length_set]; exact hi)
      rwa [getD_set _ _ _ _ hi, if_pos rfl] at this
  · rintro ⟨hl, h1, h2⟩
    refine ⟨by rw [List.length_set]; exact hl, fun k hk => ?_⟩
    rw [List.length_set] at hk
    rw [getD_set _ _ _ _ hi]
    split
    · rename_i e; rw [e]; exact h2
    · rename_i e; exact h1 k hk e

theorem below_inv {n : Nat} {K : Int} (hn : n ≤ 6) (hK0 : 0 ≤ K) (hK : K ≤ 1048576) : ∀ {C out : List (List Int)}, Bey covG turnB (List.replicate n OM) C out → (∀ c ∈ C, c.length = n ∧ ∀ x ∈ c, 0 ≤ x ∧ x ≤ K + 1) → ∀ z, ZV n z → (InD out z ↔ ∀ c ∈ C, ¬ VLe c z) := by
  intro C out h
  induction h with
  | nil =>
    intro _ z hz
    refine ⟨fun _ c hc => (by cases hc), fun _ => ⟨_, List.mem_singleton.2 rfl, by rw [hz.len]; simp, fun i hi => ?_⟩⟩
    rw [hz.len] at hi
    have e : (List.replicate n OM).getD i 0 = OM := by simp [List.getD_eq_getElem?_getD, hi]
    rw [e]; exact (hz.at_ hi).2
  | @snoc C out out' c h1 h2 h3 ih =>
    intro hC z hz
    have hC' : ∀ d ∈ C, d.length = n ∧ ∀ x ∈ d, 0 ≤ x ∧ x ≤ K + 1 := fun d hd => hC d (by simp [hd])
    have hp := beyB hn hK0 hK hC
    have hp' := hp.sub (C' := C) fun d hd => by simp [hd]
    have hout := bey_P h1 hp'
    have hnx := hp.next (c := c) (by simp) hout
    rw [inD_max (n := n) (fun x hx => ⟨(hnx x hx).val hn hK, (hnx x hx).len⟩) h3]
    have hcl := (hC c (by simp)).1
    have key : InD (nextA turnB c out) z ↔ InD out z ∧ ∃ i, i < n ∧ z.getD i 0 < c.getD i 0 := by
      constructor
      · rintro ⟨x, hx, hzx⟩
        obtain ⟨v, hv, i, y, hi, ht, rfl⟩ := mem_nextA.1 hx
        unfold turnB at ht
        split at ht
        · injection ht with ht
          subst ht
          rw [le_set hi] at hzx
          obtain ⟨e1, e2, e3⟩ := hzx
          refine ⟨⟨v, hv, e1, fun k hk => ?_⟩, i, by rw [← (hout v hv).len]; exact hi, by omega⟩
          by_cases e : k = i
          · subst e; omega
          · exact e2 k (by omega) e
        · cases ht
      · rintro ⟨⟨v, hv, hzv⟩, i, hi, hlt⟩
        have hvl := (hout v hv).len
        have h0 := (hz.at_ hi).1
        refine ⟨v.set i (min (v.getD i 0) (c.getD i 0 - 1)), mem_nextA.2 ⟨v, hv, i, _, by omega, by unfold turnB; rw [if_pos (by omega)], rfl⟩, ?_⟩
        rw [le_set (by omega)]
        have := hzv.le i (by rw [hz.len]; exact hi)
        exact ⟨hzv.len, fun k hk _ => hzv.le k (by rw [hzv.len]; exact hk), by omega⟩
    rw [key, ih hC' z hz, ← not_le hcl hz.len]
    constructor
    · rintro ⟨g1, g2⟩ d hd
      rcases List.mem_append.1 hd with hd | hd
      · exact g1 d hd
      · rw [List.mem_singleton.1 hd]; exact g2
    · intro g
      exact ⟨fun d hd => g d (by simp [hd]), g c (by simp)⟩

/-! Above: what is above none of the limits. -/
def turnA (x c : Int) : Option Int := if c = OM then none else some (max x (c + 1))
structure UpV (n : Nat) (K : Int) (v : List Int) : Prop where
  len : v.length = n
  el : ∀ x ∈ v, 0 ≤ x ∧ x ≤ K
theorem ordL {n : Nat} {l : List (List Int)} (h : ∀ x ∈ l, x.length = n) : OrdOn vltB l :=
  ⟨fun x hx => vltB_true.2 (VLe.refl x), fun x hx y hy z hz h1 h2 => vltB_true.2 ((vltB_true.1 h1).trans (vltB_true.1 h2)), fun x hx y hy h1 h2 => (vltB_true.1 h1).antisymm (vltB_true.1 h2)⟩
theorem beyA {n : Nat} {K : Int} {C : List (List Int)} (hK0 : 0 ≤ K) (hC : ∀ c ∈ C, SmV n K c) : BeyP vltB turnA (List.replicate n 0) C n (UpV n (K + 1)) where
  start := ⟨by simp, fun x hx => by rw [List.eq_of_mem_replicate hx]; omega⟩
  step c hc v hv i y hi ht := by
    unfold turnA at ht
    split at ht
    · cases ht
    · rename_i hne
      injection ht with ht
      subst ht
      refine ⟨by rw [List.length_set]; exact hv.len, set_el hv.el ?_⟩
      have h1 := (hC c hc).el _ (getD_mem (d := 0) (show i < c.length by rw [(hC c hc).len]; exact hi))
      have h2 := hv.el _ (getD_mem (d := 0) (show i < v.length by rw [hv.len]; exact hi))
      rcases h1 with h1 | h1
      · omega
      · exact absurd h1 hne
  len v hv := hv.len
  ord l hl := ordL fun x hx => (hl x hx).len
theorem inU_min {n : Nat} {l out : List (List Int)} (hl : ∀ x ∈ l, x.length = n) (h : ∀ x, x ∈ out ↔ MaxOf vltB l x) (z : List Int) : InU out z ↔ InU l z := by
  constructor
  · rintro ⟨x, hx, hz⟩; exact ⟨x, ((h x).1 hx).1, hz⟩
  · rintro ⟨x, hx, hz⟩
    obtain ⟨y, hy, e⟩ := max_cover (ordL hl) hx
    exact ⟨y, (h y).2 hy, (vltB_true.1 e).trans hz⟩
theorem above_inv {n : Nat} {K : Int} (hK0 : 0 ≤ K) (hK : K ≤ 1048576) : ∀ {C out : List (List Int)}, Bey vltB turnA (List.replicate n 0) C out → (∀ c ∈ C, SmV n K c) → ∀ z, ZV n z → (InU out z ↔ ∀ c ∈ C, ¬ VLe z c) := by
  intro C out h
  induction h with
  | nil =>
    intro _ z hz
    refine ⟨fun _ c hc => (by cases hc), fun _ => ⟨_, List.mem_singleton.2 rfl, by rw [hz.len]; simp, fun i hi => ?_⟩⟩
    simp only [List.length_replicate] at hi
    have e : (List.replicate n (0 : Int)).getD i 0 = 0 := by simp [List.getD_eq_getElem?_getD, hi]
    rw [e]; exact (hz.at_ hi).1
  | @snoc C out out' c h1 h2 h3 ih =>
    intro hC z hz
    have hC' : ∀ d ∈ C, SmV n K d := fun d hd => hC d (by simp [hd])
    have hp := beyA hK0 hC
    have hp' := hp.sub (C' := C) fun d hd => by simp [hd]
    have hout := bey_P h1 hp'
    have hnx := hp.next (c := c) (by simp) hout
    rw [inU_min (n := n) (fun x hx => (hnx x hx).len) h3]
    have hc := hC c (by simp)
    have key : InU (nextA turnA c out) z ↔ InU out z ∧ ∃ i, i < n ∧ c.getD i 0 < z.getD i 0 := by
      constructor
      · rintro ⟨x, hx, hzx⟩
        obtain ⟨v, hv, i, y, hi, ht, rfl⟩ := mem_nextA.1 hx
        unfold turnA at ht
        split at ht
        · cases ht
        · injection ht with ht
          subst ht
          rw [set_le hi] at hzx
          obtain ⟨e1, e2, e3⟩ := hzx
          refine ⟨⟨v, hv, e1, fun k hk => ?_⟩, i, by rw [← (hout v hv).len]; exact hi, by omega⟩
          by_cases e : k = i
          · subst e; omega
          · exact e2 k hk e
      · rintro ⟨⟨v, hv, hzv⟩, i, hi, hlt⟩
        have hvl := (hout v hv).len
        have h0 := (hz.at_ hi).2
        have hne : c.getD i 0 ≠ OM := by omega
        refine ⟨v.set i (max (v.getD i 0) (c.getD i 0 + 1)), mem_nextA.2 ⟨v, hv, i, _, by omega, by unfold turnA; rw [if_neg hne], rfl⟩, ?_⟩
        rw [set_le (by omega)]
        have := hzv.le i (by omega)
        exact ⟨hzv.len, fun k hk _ => hzv.le k hk, by omega⟩
    rw [key, ih hC' z hz, ← not_le hz.len hc.len]
    constructor
    · rintro ⟨g1, g2⟩ d hd
      rcases List.mem_append.1 hd with hd | hd
      · exact g1 d hd
      · rw [List.mem_singleton.1 hd]; exact g2
    · intro g
      exact ⟨fun d hd => g d (by simp [hd]), g c (by simp)⟩

/-- All vectors of so many elements of a list. -/
def allV (S : List Int) : Nat → List (List Int)
  | 0 => [[]]
  | n + 1 => S.flatMap fun x => (allV S n).map (x :: ·)
theorem len_allV (S : List Int) : ∀ n, (allV S n).length = S.length ^ n
  | 0 => rfl
  | n + 1 => by
    have : ∀ T : List Int, (T.flatMap fun x => (allV S n).map (x :: ·)).length = T.length * S.length ^ n := fun T => by
      induction T with
      | nil => simp
      | cons x T ih => rw [List.flatMap_cons, List.length_append, ih, List.length_map, len_allV S n, List.length_cons, Nat.add_mul]; omega
    rw [allV, this, Nat.pow_succ, Nat.mul_comm]
theorem mem_allV {S : List Int} : ∀ {n : Nat} {v : List Int}, v.length = n → (∀ x ∈ v, x ∈ S) → v ∈ allV S n
  | 0, [], _, _ => by simp [allV]
  | n + 1, x :: v, hl, h => by
    rw [allV, List.mem_flatMap]
    exact ⟨x, h x (by simp), List.mem_map.2 ⟨v, mem_allV (by simpa using hl) (fun y hy => h y (by simp [hy])), rfl⟩⟩
theorem asc_smV {n : Nat} {out : List (List Int)} (hn : n ≤ 4) (h : Asc out) (hs : ∀ x ∈ out, SmV n 2 x) : out.length ≤ 256 := by
  have h1 := asc_len h (L := allV [0, 1, 2, OM] n) fun z hz => mem_allV (hs z hz).len fun x hx => by
    rcases (hs z hz).el x hx with h | h
    · have : x = 0 ∨ x = 1 ∨ x = 2 := by omega
      rcases this with e | e | e <;> simp [e]
    · simp [h]
  rw [len_allV] at h1
  have h2 : [0, 1, 2, OM].length ^ n ≤ 4 ^ 4 := Nat.pow_le_pow_right (by simp) hn
  exact Nat.le_trans h1 h2
theorem asc_upV {n : Nat} {out : List (List Int)} (hn : n ≤ 4) (h : Asc out) (hs : ∀ x ∈ out, UpV n 3 x) : out.length ≤ 256 := by
  have h1 := asc_len h (L := allV [0, 1, 2, 3] n) fun z hz => mem_allV (hs z hz).len fun x hx => by
    have h := (hs z hz).el x hx
    have : x = 0 ∨ x = 1 ∨ x = 2 ∨ x = 3 := by omega
    rcases this with e | e | e | e <;> simp [e]
  rw [len_allV] at h1
  have h2 : ([0, 1, 2, 3] : List Int).length ^ n ≤ 4 ^ 4 := Nat.pow_le_pow_right (by simp) hn
  exact Nat.le_trans h1 h2

/-- Complements undo each other. -/
theorem back_eq {n : Nat} {low again : List (List Int)} (h1 : Asc low) (h2 : Asc again) (s1 : ∀ x ∈ low, SmV n 2 x) (s2 : ∀ x ∈ again, SmV n 2 x) (a1 : ∀ x ∈ low, ∀ y ∈ low, covG y x = true → y = x) (a2 : ∀ x ∈ again, ∀ y ∈ again, covG y x = true → y = x) (hn : n ≤ 6)
    (h : ∀ z, ZV n z → (InD low z ↔ InD again z)) : again = low := by
  have key : ∀ {A B : List (List Int)}, (∀ x ∈ A, SmV n 2 x) → (∀ x ∈ B, SmV n 2 x) → (∀ x ∈ A, ∀ y ∈ A, covG y x = true → y = x) → (∀ z, ZV n z → (InD A z ↔ InD B z)) → ∀ x ∈ A, x ∈ B := fun {A B} sA sB aA hz x hx => by
    obtain ⟨y, hy, hxy⟩ := (hz x ((sA x hx).z (by omega))).1 ⟨x, hx, VLe.refl x⟩
    obtain ⟨x', hx', hyx⟩ := (hz y ((sB y hy).z (by omega))).2 ⟨y, hy, VLe.refl y⟩
    have e := aA x hx x' hx' (vleB_true.2 ⟨(sA x hx).val hn (by omega), (sA x' hx').val hn (by omega), hxy.trans hyx⟩)
    subst e
    rw [hxy.antisymm hyx]; exact hy
  exact asc_ext h2 h1 fun x => ⟨key s2 s1 a2 (fun z hz => (h z hz).symm) x, key s1 s2 a1 h x⟩
end Go.Proofs.YtnmkinaokjekjaaGreat
