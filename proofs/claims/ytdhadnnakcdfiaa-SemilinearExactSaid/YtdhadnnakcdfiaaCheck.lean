/- The walks of semilinear's Check and right. -/
import Derived.Test.YtdhadnnakcdfiaaOne
namespace Go.Proofs.Ytdhadnnakcdfiaa
set_option linter.unusedVariables false
open Go.RowKit

/-- What a linear set holds. -/
structure LS where
  nb : Nat
  m : Nat
  b : Nat → Int
  L : Nat → Nat
  P : Nat → Nat → Int

noncomputable def LS.err (s : LS) (n : Nat) : Int := oneErr n s.nb s.m s.b s.L s.P

/-- The two slices u, v are those of a linear set that lies below block B. -/
def LS.At (s : LS) (w : World) (B : Nat) (u v : Value) : Prop :=
  ∃ (Ab : Option Addr) (cb : Nat) (Ap : Option Addr) (cp : Nat), u = .slice Ab s.nb cb ∧ v = .slice Ap s.m cp ∧ Rd w B Ab s.nb (fun i => .int .i64 (s.b i)) ∧ (Ab = none → cb = 0) ∧ Rows w B s.m Ap s.L s.P ∧
    s.nb ≤ 1000000 ∧ s.m ≤ 1000000 ∧ ∀ i, i < s.m → s.L i ≤ 1000000

theorem LS.At.belowW {s : LS} {w w' : World} {B : Nat} {u v : Value} (h : s.At w B u v) (hB : B ≤ w.heap.size) (hb : Below w.heap.size w w') : s.At w' B u v := by
  obtain ⟨Ab, cb, Ap, cp, h1, h2, h3, h4, h5, h6⟩ := h
  exact ⟨Ab, cb, Ap, cp, h1, h2, h3.belowW hB hb, h4, h5.belowW hB hb, h6⟩

theorem one_at (w : World) (B n : Nat) (s : LS) (u v : Value) (hB : B ≤ w.heap.size) (h : s.At w B u v) (hn : n ≤ 1000000) :
    Calls Try.prog 47 #[.int .i64 (n : Int), .agg #[u, v]] w fun e w' => e = .returned (.int .i64 (s.err n)) ∧ Below w.heap.size w w' := by
  obtain ⟨Ab, cb, Ap, cp, rfl, rfl, h3, h4, h5, h6, h7, h8⟩ := h
  exact one_any w B n s.nb cb s.m cp Ab Ap s.b s.L s.P hB h3 h5 (by omega) (by omega) (fun i hi => by have := h8 i hi; omega) (by omega)

/-- A slice of linear sets that lies below block B. -/
def Lins (w : World) (B k : Nat) (A : Option Addr) (S : Nat → LS) : Prop :=
  0 < k → ∃ a, A = some a ∧ a.block < B ∧ ∀ i, i < k → ∃ u v, w.cell? (a.add (i * 2)) = some u ∧ w.cell? ⟨(a.add (i * 2)).block, (a.add (i * 2)).off + 1, none⟩ = some v ∧ (S i).At w B u v

theorem Lins.belowW {w w' : World} {B k : Nat} {A : Option Addr} {S : Nat → LS} (h : Lins w B k A S) (hB : B ≤ w.heap.size) (hb : Below w.heap.size w w') : Lins w' B k A S := fun hk => by
  obtain ⟨a, e, hab, hc⟩ := h hk
  refine ⟨a, e, hab, fun i hi => ?_⟩
  obtain ⟨u, v, h1, h2, h3⟩ := hc i hi
  exact ⟨u, v, (hb.cell (by rw [block_of_add]; omega)).trans h1, (hb.cell (p := ⟨(a.add (i * 2)).block, (a.add (i * 2)).off + 1, none⟩) (by show (a.add (i * 2)).block < _; rw [block_of_add]; omega)).trans h2, h3.belowW hB hb⟩
theorem Lins.at_ {w : World} {B k : Nat} {A : Option Addr} {S : Nat → LS} (h : Lins w B k A S) {i : Nat} (hi : i < k) : ∃ a u v, A = some a ∧ a.block < B ∧ w.cell? (a.add (i * 2)) = some u ∧ w.cell? ⟨(a.add (i * 2)).block, (a.add (i * 2)).off + 1, none⟩ = some v ∧ (S i).At w B u v := by
  obtain ⟨a, e, hb, hc⟩ := h (by omega)
  obtain ⟨u, v, h⟩ := hc i hi
  exact ⟨a, u, v, e, hb, h⟩

def firstErr (f : Nat → Int) : Nat → Int
  | 0 => 0
  | k + 1 => if firstErr f k = 0 then f k else firstErr f k
theorem firstErr_zero {f : Nat → Int} : ∀ {k : Nat}, (∀ r, r < k → f r = 0) → firstErr f k = 0
  | 0, _ => rfl
  | k + 1, h => by
    unfold firstErr
    rw [if_pos (firstErr_zero fun r hr => h r (by omega))]
    exact h k (by omega)
theorem firstErr_hit {f : Nat → Int} {i : Nat} (h0 : ∀ r, r < i → f r = 0) (h1 : f i ≠ 0) : ∀ {k : Nat}, i < k → firstErr f k = f i
  | 0, h => by omega
  | k + 1, h => by
    unfold firstErr
    by_cases e : i = k
    · subst e; rw [if_pos (firstErr_zero h0)]
    · rw [firstErr_hit h0 h1 (k := k) (by omega), if_neg h1]

/-- The first error of a union. -/
noncomputable def chkErr (n : Int) (k : Nat) (S : Nat → LS) : Int :=
  if n < 1 ∨ 4 < n then 2 else if 8 < k then 1 else firstErr (fun i => (S i).err n.toNat) k

def ChkPost (n : Int) (k : Nat) (S : Nat → LS) (w : World) (e : Ending) (w' : World) : Prop := e = .returned (.int .i64 (chkErr n k S)) ∧ Below w.heap.size w w'

set_option maxHeartbeats 1000000 in
theorem check_any (w : World) (B k c : Nat) (n : Int) (A : Option Addr) (S : Nat → LS) (hB : B ≤ w.heap.size) (hS : Lins w B k A S) (hk : k ≤ 1000000) :
    Calls Try.prog 21 #[.int .i64 n, .slice A k c] w (ChkPost n k S w) := by
  have HS := Lib.hid hS
  clear hS
  by_cases h1 : n < 1
  · have he : Hid (chkErr n k S = 2) := if_pos (.inl h1)
    go_enter Try.func21, Try.ntmps21
    go_wp2_with fail
    go_ret
    exact ⟨ret_ni he.out, Below.refl _ _⟩
  · by_cases h2 : 4 < n
    · have he : Hid (chkErr n k S = 2) := if_pos (.inr h2)
      go_enter Try.func21, Try.ntmps21
      go_wp2_with fail
      go_ret
      exact ⟨ret_ni he.out, Below.refl _ _⟩
    · by_cases h3 : 8 < k
      · have he : Hid (chkErr n k S = 1) := by unfold Hid chkErr; rw [if_neg (by omega), if_pos h3]
        go_enter Try.func21, Try.ntmps21
        go_wp2_with fail
        go_ret
        exact ⟨ret_ni he.out, Below.refl _ _⟩
      · obtain ⟨N, rfl⟩ : ∃ N : Nat, n = (N : Int) := ⟨n.toNat, by omega⟩
        go_enter Try.func21, Try.ntmps21
        go_wp2_with fail
        go_loopg [6, 7, 21] (k + 1) (fun gh _ _ iv wr => ∃ i : Nat, k + 1 ≤ i + gh ∧ i ≤ k ∧ iv = .int .i64 (i : Int) ∧ (∀ r, r < i → (S r).err N = 0) ∧ Below w.heap.size w wr)
        case atStart => exact ⟨0, by omega, by omega, rfl, fun r hr => by omega, Below.refl _ _⟩
        case round =>
          obtain ⟨i, hgh, hi, rfl, hs, hb⟩ := hrel
          have HZ := Lib.hid hs
          have HB := Lib.hid hb
          have hBr : B ≤ wr.heap.size := Nat.le_trans hB hb.size
          clear hs hb
          by_cases hlt : i < k
          · obtain ⟨a, u, v, rfl, hab, hu, hv, hat⟩ := (HS.out.belowW hB HB.out).at_ hlt
            have HAT := Lib.hid hat
            have hat' := hat
            obtain ⟨Ab, cb, Ap, cp, rfl, rfl, _⟩ := hat'
            clear hat
            have hone := fun W (hb : Below wr.heap.size wr W) => one_at W B N (S i) _ _ (Nat.le_trans hBr hb.size) (HAT.out.belowW hBr hb) (by omega)
            go_wp2_with fail
            have hbn : Below wr.heap.size wr (wr.alloc (.cells #[.slice Ab (S i).nb cb, .slice Ap (S i).m cp] 29)) := (Below.refl _ _).alloc (Nat.le_refl _) _
            have HONE := Lib.hid (hone _ hbn)
            have HBN := Lib.hid hbn
            clear hone hbn
            refine HONE.out.mono ?_
            rintro e w1 ⟨rfl, hb1⟩
            have HB1 := Lib.hid (HB.out.trans ((HBN.out.trans (hb1.mono HBN.out.size)).mono HB.out.size))
            clear hb1
            by_cases hz : (S i).err N = 0
            · have hz' : ((S i).err N != 0) = false := by simp [hz]
              have HZ0 := Lib.hid hz
              clear hz
              go_wp2_with fail
              go_roundg (k - i)
              case measure => omega
              case rel => exact ⟨i + 1, by omega, by omega, by go_num, fun r hr => by
                by_cases e : r = i
                · subst e; exact HZ0.out
                · exact HZ.out r (by omega), HB1.out⟩
            · have hz' : ((S i).err N != 0) = true := by simp [hz]
              have he : Hid (chkErr N k S = (S i).err N) := by
                unfold Hid chkErr
                rw [if_neg (by omega), if_neg h3]
                exact firstErr_hit (f := fun i => (S i).err (N : Int).toNat) (fun r hr => by simpa using HZ.out r hr) (by simpa using hz) hlt
              clear hz
              go_wp2_with fail
              go_ret
              exact ⟨ret_ni he.out, HB1.out⟩
          · obtain rfl : i = k := by omega
            have he : Hid (chkErr N i S = 0) := by
              unfold Hid chkErr
              rw [if_neg (by omega), if_neg h3, firstErr_zero (fun r hr => by simpa using HZ.out r hr)]
            go_wp2_with fail
            go_ret
            exact ⟨ret_ni he.out, HB.out⟩
end Go.Proofs.Ytdhadnnakcdfiaa
