/- A vector as a sum of vectors of a list, from one on (in plain Lean). -/
import Derived.Test.YthpobeeccgmieaaMinL
import Derived.Test.YthpobeeccgmieaaSubV
namespace Go.Proofs.Ythpobeeccgmieaa
set_option linter.unusedVariables false

def optP (v : List Int) (o : Option (List (List Int))) : Option (List (List Int)) → Option (List (List Int))
  | some ys => some (v :: ys)
  | none => o
def splitG (rec : List (List Int) → List Int → Option (List (List Int))) : List (List Int) → List Int → Option (List (List Int))
  | [], _ => none
  | v :: t, x => if pleB v x = true then optP v (splitG rec t x) (rec (v :: t) (subV x.length x v)) else splitG rec t x
def splitF : Nat → List (List Int) → List Int → Option (List (List Int))
  | 0, _, x => if isum x = 0 then some [] else none
  | f + 1, l, x => if isum x = 0 then some [] else splitG (splitF f) l x
/-- Lists of solutions to be split into: finite, of one length, none zero. -/
structure SpL (n : Nat) (L : List (List Int)) : Prop where
  fin : ∀ v ∈ L, VFin v
  len : ∀ v ∈ L, v.length = n
  pos : ∀ v ∈ L, 1 ≤ isum v
theorem SpL.drop {n : Nat} {L : List (List Int)} (h : SpL n L) (k : Nat) : SpL n (L.drop k) :=
  ⟨fun v hv => h.fin v (List.mem_of_mem_drop hv), fun v hv => h.len v (List.mem_of_mem_drop hv), fun v hv => h.pos v (List.mem_of_mem_drop hv)⟩
theorem isum_sub : ∀ {n : Nat} {x v : List Int}, x.length = n → v.length = n → isum (subV n x v) = isum x - isum v
  | 0, x, v, hx, hv => by
    rw [List.length_eq_zero_iff.1 hx, List.length_eq_zero_iff.1 hv]; rfl
  | n + 1, a :: x, b :: v, hx, hv => by
    have e : subV (n + 1) (a :: x) (b :: v) = (a - b) :: subV n x v := by
      simp [subV, List.range_succ_eq_map, List.map_map, Function.comp_def]
    rw [e, isum_cons, isum_cons, isum_cons, isum_sub (by simpa using hx) (by simpa using hv)]
    omega
theorem sub_fin {n : Nat} {x v : List Int} (hx : VFin x) (hv : VFin v) (hxl : x.length = n) (hvl : v.length = n) (hle : pleB v x = true) : VFin (subV n x v) := by
  refine ⟨by rw [subV_len, ← hxl]; exact hx.few, fun y hy => ?_⟩
  obtain ⟨i, hi, rfl⟩ := mem_getD (d := 0) hy
  rw [subV_len] at hi
  rw [subV_at hi]
  have h1 := hx.el _ (getD_mem (d := 0) (show i < x.length by omega))
  have h2 := hv.el _ (getD_mem (d := 0) (show i < v.length by omega))
  have h3 := pleB_true.1 hle i (by omega)
  omega
theorem splitF_zero {f : Nat} {l : List (List Int)} {x : List Int} (h : isum x = 0) : splitF f l x = some [] := by cases f <;> simp [splitF, h]
theorem splitF_succ {f : Nat} {l : List (List Int)} {x : List Int} (h : isum x ≠ 0) : splitF (f + 1) l x = splitG (splitF f) l x := by simp [splitF, h]
theorem splitG_drop {rec : List (List Int) → List Int → Option (List (List Int))} {L : List (List Int)} {x : List Int} {k : Nat} (hk : k < L.length) : splitG rec (L.drop k) x = if pleB (L.getD k []) x = true then optP (L.getD k []) (splitG rec (L.drop (k + 1)) x) (rec (L.drop k) (subV x.length x (L.getD k []))) else splitG rec (L.drop (k + 1)) x := by
  rw [List.drop_eq_getElem_cons hk]
  have : L.getD k [] = L[k] := by simp [List.getD_eq_getElem?_getD, hk]
  rw [this]; rfl
theorem splitG_end {rec : List (List Int) → List Int → Option (List (List Int))} {L : List (List Int)} {x : List Int} {k : Nat} (hk : L.length ≤ k) : splitG rec (L.drop k) x = none := by
  rw [List.drop_eq_nil_of_le hk]; rfl
/-- The number of parts is at most the sum. -/
theorem splitG_len {n : Nat} {rec : List (List Int) → List Int → Option (List (List Int))} {x : List Int} (hx : VFin x) (hxl : x.length = n)
    (hr : ∀ l y zs, SpL n l → VFin y → y.length = n → rec l y = some zs → (zs.length : Int) ≤ isum y) : ∀ (l : List (List Int)) (ys : List (List Int)), SpL n l → splitG rec l x = some ys → (ys.length : Int) ≤ isum x
  | [], ys, hl, h => by cases h
  | v :: t, ys, hl, h => by
    have ht : SpL n t := by have := hl.drop 1; simpa using this
    unfold splitG at h
    by_cases hp : pleB v x = true
    · rw [if_pos hp] at h
      have hv := hl.fin v (by simp)
      have hvl := hl.len v (by simp)
      rw [hxl] at h
      cases hrec : rec (v :: t) (subV n x v) with
      | some zs =>
        rw [hrec] at h
        have := hr _ _ zs hl (sub_fin hx hv hxl hvl hp) subV_len hrec
        rw [isum_sub hxl hvl] at this
        have h1 := hl.pos v (by simp)
        cases h
        simp only [List.length_cons]
        omega
      | none =>
        rw [hrec] at h
        exact splitG_len hx hxl hr t ys ht h
    · rw [if_neg hp] at h
      exact splitG_len hx hxl hr t ys ht h
theorem splitF_len {n : Nat} : ∀ (f : Nat) (l : List (List Int)) (x : List Int) (ys : List (List Int)), SpL n l → VFin x → x.length = n → splitF f l x = some ys → (ys.length : Int) ≤ isum x := by
  intro f
  induction f with
  | zero =>
    intro l x ys hl hx hxl h
    unfold splitF at h
    by_cases h0 : isum x = 0
    · rw [if_pos h0] at h; cases h; simp [h0]
    · rw [if_neg h0] at h; cases h
  | succ f ih =>
    intro l x ys hl hx hxl h
    unfold splitF at h
    by_cases h0 : isum x = 0
    · rw [if_pos h0] at h; cases h; simp [h0]
    · rw [if_neg h0] at h
      exact splitG_len hx hxl ih l ys hl h
end Go.Proofs.Ythpobeeccgmieaa
