/- Lists of numbers in order: by length, then letter by letter; Compare, Same and Copy of the reference in these words. -/
import Derived.Test.YtdhadnnakcdfiaaVec
import Derived.Test.YtdhadnnakcdfiaaOwnI
namespace Go.Proofs.Ytdhadnnakcdfiaa
set_option linter.unusedVariables false
open Go.RowKit

def lexc : List Int → List Int → Int
  | x :: a, y :: b => if x = y then lexc a b else ord x y
  | _, _ => 0
def cmpL (a b : List Int) : Int := if a.length = b.length then lexc a b else ord a.length b.length

theorem lexc_at : ∀ {a b : List Int} {k : Nat}, a.length = b.length → k < a.length → (∀ i, i < k → a.getD i 0 = b.getD i 0) → a.getD k 0 ≠ b.getD k 0 → lexc a b = ord (a.getD k 0) (b.getD k 0)
  | [], _, k, _, hk, _, _ => by simp at hk
  | x :: a, [], k, hl, _, _, _ => by simp at hl
  | x :: a, y :: b, 0, hl, hk, _, hne => by
    simp only [List.getD_cons_zero] at hne ⊢
    rw [lexc, if_neg hne]
  | x :: a, y :: b, k + 1, hl, hk, he, hne => by
    have h0 := he 0 (by omega)
    simp only [List.getD_cons_zero] at h0
    simp only [List.getD_cons_succ] at hne ⊢
    rw [lexc, if_pos h0]
    exact lexc_at (by simpa using hl) (by simpa using hk) (fun i hi => by have := he (i + 1) (by omega); simpa using this) hne
theorem lexc_same : ∀ (a : List Int), lexc a a = 0
  | [] => rfl
  | x :: a => by rw [lexc, if_pos rfl]; exact lexc_same a
theorem eq_of_getD {a b : List Int} (hl : a.length = b.length) (h : ∀ i, i < a.length → a.getD i 0 = b.getD i 0) : a = b :=
  List.ext_getElem hl fun i h1 h2 => by have := h i h1; simpa [List.getD_eq_getElem?_getD, h1, h2] using this
theorem Cmp.cmpL {a b : List Int} {c : Int} (h : Cmp a.length b.length (fun i => a.getD i 0) (fun i => b.getD i 0) c) : c = cmpL a b := by
  unfold Proofs.Ytdhadnnakcdfiaa.cmpL
  rcases h with ⟨h1, rfl⟩ | ⟨h0, k, h1, h2, h3, rfl⟩ | ⟨h0, h1, rfl⟩
  · rw [if_neg h1]
  · rw [if_pos h0, lexc_at h0 h1 h2 h3]
  · rw [if_pos h0, eq_of_getD h0 h1, lexc_same]
theorem ord_zero {a b : Int} : ord a b = 0 ↔ a = b := by unfold ord; split; omega; split; omega; omega
theorem lexc_zero : ∀ {a b : List Int}, a.length = b.length → (lexc a b = 0 ↔ a = b)
  | [], [], _ => by simp [lexc]
  | x :: a, y :: b, hl => by
    rw [lexc]
    by_cases e : x = y
    · rw [if_pos e, lexc_zero (by simpa using hl), e]; simp
    · rw [if_neg e, ord_zero]; simp [e]
  | [], _ :: _, hl => by simp at hl
  | _ :: _, [], hl => by simp at hl
theorem cmpL_zero {a b : List Int} : cmpL a b = 0 ↔ a = b := by
  unfold cmpL
  by_cases e : a.length = b.length
  · rw [if_pos e]; exact lexc_zero e
  · rw [if_neg e, ord_zero]
    exact ⟨fun h => absurd (by omega) e, fun h => absurd (by rw [h]) e⟩
theorem cmpL_self (a : List Int) : cmpL a a = 0 := cmpL_zero.2 rfl
theorem ord_swap (a b : Int) : ord b a = - ord a b := by unfold ord; split <;> split <;> (try split) <;> omega
theorem lexc_swap : ∀ (a b : List Int), lexc b a = - lexc a b
  | [], [] => by simp [lexc]
  | x :: a, y :: b => by
    simp only [lexc]
    by_cases e : x = y
    · rw [if_pos e, if_pos e.symm]; exact lexc_swap a b
    · rw [if_neg e, if_neg (fun h => e h.symm)]; exact ord_swap x y
  | [], _ :: _ => by simp [lexc]
  | _ :: _, [] => by simp [lexc]
theorem cmpL_swap (a b : List Int) : cmpL b a = - cmpL a b := by
  unfold cmpL
  by_cases e : a.length = b.length
  · rw [if_pos e, if_pos e.symm]; exact lexc_swap a b
  · rw [if_neg e, if_neg (fun h => e h.symm)]; exact ord_swap _ _
theorem ord_neg {a b : Int} : ord a b < 0 ↔ a < b := by unfold ord; split; omega; split <;> omega
theorem lexc_trans : ∀ {a b c : List Int}, a.length = b.length → b.length = c.length → lexc a b < 0 → lexc b c < 0 → lexc a c < 0
  | x :: a, y :: b, z :: c, h1, h2, h3, h4 => by
    simp only [lexc] at h3 h4 ⊢
    by_cases e : x = y
    · subst e
      rw [if_pos rfl] at h3
      by_cases e2 : x = z
      · subst e2; rw [if_pos rfl] at h4 ⊢
        exact lexc_trans (by simpa using h1) (by simpa using h2) h3 h4
      · rw [if_neg e2] at h4 ⊢; exact h4
    · rw [if_neg e, ord_neg] at h3
      by_cases e2 : y = z
      · subst e2; rw [if_neg e, ord_neg]; exact h3
      · rw [if_neg e2, ord_neg] at h4
        rw [if_neg (by omega), ord_neg]; omega
  | [], _, _, h1, h2, h3, h4 => by simp [lexc] at h3
  | _ :: _, [], _, h1, h2, h3, h4 => by simp at h1
  | _ :: _, _ :: _, [], h1, h2, h3, h4 => by simp at h2
theorem cmpL_trans {a b c : List Int} (h1 : cmpL a b < 0) (h2 : cmpL b c < 0) : cmpL a c < 0 := by
  unfold cmpL at *
  by_cases e : a.length = b.length
  · rw [if_pos e] at h1
    by_cases e2 : b.length = c.length
    · rw [if_pos e2] at h2
      rw [if_pos (by omega)]; exact lexc_trans e e2 h1 h2
    · rw [if_neg e2, ord_neg] at h2
      rw [if_neg (by omega), ord_neg]; omega
  · rw [if_neg e, ord_neg] at h1
    by_cases e2 : b.length = c.length
    · rw [if_neg (by omega), ord_neg]; omega
    · rw [if_neg e2, ord_neg] at h2
      rw [if_neg (by omega), ord_neg]; omega

def Quiet (v : Value) (w : World) (e : Ending) (w' : World) : Prop := e = .returned v ∧ ∃ q, w' = w.drewN q
theorem quiet_keeps {w w' : World} (h : ∃ q, w' = w.drewN q) : Keeps [] w w' := by obtain ⟨q, rfl⟩ := h; exact (Keeps.refl _ _).drewN q
section
variable {w : World} {l : List Nat} {av bv : Value} {a b : List Int}
theorem cmp_is (ha : IsI w l av a) (hb : IsI w l bv b) (hn : a.length ≤ 1000000) (hm : b.length ≤ 1000000) : Calls Try.prog 17 #[av, bv] w (Quiet (.int .i64 (cmpL a b)) w) := by
  obtain ⟨A, c, rfl, _, _, h1⟩ := ha.open
  obtain ⟨B, c', rfl, _, _, h2⟩ := hb.open
  refine (compare_any w w.heap.size w.heap.size a.length b.length c c' A B _ _ h1.rd h2.rd (by omega) (by omega)).mono ?_
  rintro e w1 ⟨x, rfl, hx, q, rfl⟩
  exact ⟨by rw [hx.cmpL], q, rfl⟩
theorem same_is (ha : IsI w l av a) (hb : IsI w l bv b) (hn : a.length ≤ 1000000) (hm : b.length ≤ 1000000) : Calls Try.prog 24 #[av, bv] w (Quiet (.bool (decide (a = b))) w) := by
  obtain ⟨A, c, rfl, _, _, h1⟩ := ha.open
  obtain ⟨B, c', rfl, _, _, h2⟩ := hb.open
  refine (same_any w w.heap.size w.heap.size a.length b.length c c' A B _ _ h1.rd h2.rd (by omega) (by omega)).mono ?_
  rintro e w1 ⟨x, rfl, hx, q, rfl⟩
  refine ⟨?_, q, rfl⟩
  congr 2
  rw [Bool.eq_iff_iff, hx, decide_eq_true_iff]
  exact ⟨fun h => eq_of_getD h.1 h.2, fun h => by subst h; exact ⟨rfl, fun _ _ => rfl⟩⟩
end

set_option maxHeartbeats 400000 in
theorem copy_is {w : World} {l : List Nat} {v : Value} {xs : List Int} (h : IsI w l v xs) (hn : xs.length ≤ 1000000) : Calls Try.prog 59 #[v] w (CloPost l xs w) := by
  have h' := h
  obtain ⟨A, c, rfl, _⟩ := h'.open
  have hnil : OwL IsN 0 3 w.heap.size w l (.slice none 0 0) [] := OwL.nil
  have hx : IsL IsN 0 w ([] ++ l) (.slice A xs.length c) xs := h
  clear h'
  have HNIL := Lib.hid hnil
  have HX := Lib.hid hx
  have H := Lib.hid h
  clear hnil hx h
  go_enter Try.func59, Try.ntmps59
  go_wp2_with (at_builtin; refine wpList_join sl_int rfl _ _ rfl rfl rfl HNIL.out HX.out (m := xs.length) (by simp) (by omega) (Nat.le_refl _) (w0 := w) (l0 := []) (Nat.le_refl _) (Keeps.refl _ _) ?_; intro V' c' w3 hown hkk hk3)
  go_ret
  exact ⟨V', c', rfl, hown, hk3⟩
end Go.Proofs.Ytdhadnnakcdfiaa
