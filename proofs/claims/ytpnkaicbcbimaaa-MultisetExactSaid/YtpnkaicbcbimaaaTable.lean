/- The walk of Deck.Table: a table of truths in new memory. -/
import Derived.Test.YtpnkaicbcbimaaaDeck
import Derived.Test.YtpnkaicbcbimaaaTab
import Derived.Test.YtpnkaicbcbimaaaMost
namespace Go.Proofs.Ytpnkaicbcbimaaa
set_option linter.unusedVariables false
open Go.RowKit

theorem own_type_ne {w : World} {base base' n n' : Nat} {e e' : TypeId} {v v' : Value} {xs xs' : List Value} (h : w.ownsRow base e 1 v n xs) (h' : w.ownsRow base' e' 1 v' n' xs') (hne : e ≠ e') {x : Nat} (hx : v.ownBlock = some x) : v'.ownBlock ≠ some x := by
  intro hx'
  rcases h.2 with ⟨rfl, _⟩ | ⟨g, cap, cur, rfl, _, hg, _⟩
  · cases hx
  · rcases h'.2 with ⟨rfl, _⟩ | ⟨g', cap', cur', rfl, _, hg', _⟩
    · cases hx'
    · simp [Value.ownBlock] at hx hx'
      subst hx; subst hx'
      rw [hg] at hg'
      injection hg' with hg'
      injection hg' with _ ht
      exact hne ht

/-- Rows of truths that the call has made, k of them, m columns each. -/
def RowsB (w : World) (base k m : Nat) (R : Nat → Option Addr) (C : Nat → Nat) (E : Nat → Nat → Bool) : Prop :=
  ∀ i, i < k → w.ownsRow base 4 1 (.slice (R i) m (C i)) m ((List.range m).map fun j => .bool (E i j))

theorem RowsB.keeps {w w' : World} {l : List Nat} {base k m : Nat} {R : Nat → Option Addr} {C : Nat → Nat} {E : Nat → Nat → Bool} (h : RowsB w base k m R C E) (hk : Keeps l w w') (hl : ∀ x ∈ l, ∀ i, i < k → (Value.slice (R i) m (C i)).ownBlock ≠ some x) : RowsB w' base k m R C E :=
  fun i hi => own_keeps (h i hi) hk (fun x hx => hl x hx i hi)

theorem tab_of_own {w : World} {base base' n m c : Nat} {A : Option Addr} {R : Nat → Option Addr} {C : Nat → Nat} {E : Nat → Nat → Bool}
    (h : w.ownsRow base 26 1 (.slice A n c) n ((List.range n).map fun i => .slice (R i) m (C i))) (hr : RowsB w base' n m R C E) : Tab w w.heap.size A n m E := by
  refine ⟨R, C, (rd_of_own h undef).congr fun i hi => getD_map_range n _ _ hi, fun i hi => (rd_of_own (hr i hi) undef).congr fun j hj => getD_map_range m _ _ hj⟩

theorem map_range_upd {α β : Type} (f : Nat → α) (g : Nat → β) (F : α → β → Value) (k : Nat) (x : α) (y : β) : (List.range (k + 1)).map (fun i => F (upd f k x i) (upd g k y i)) = (List.range k).map (fun i => F (f i) (g i)) ++ [F x y] := by
  rw [List.range_succ, List.map_append, List.map_cons, List.map_nil, upd_same, upd_same]
  congr 1
  refine List.map_congr_left fun i hi => ?_
  have := List.mem_range.1 hi
  rw [upd_ne _ _ (by omega), upd_ne _ _ (by omega)]

/-- A table of truths that the call has made. -/
def OwnTab (w : World) (base : Nat) (A : Option Addr) (c n m : Nat) (E : Nat → Nat → Bool) : Prop :=
  ∃ (R : Nat → Option Addr) (C : Nat → Nat), w.ownsRow base 26 1 (.slice A n c) n ((List.range n).map fun i => .slice (R i) m (C i)) ∧ RowsB w base n m R C E
theorem OwnTab.tab {w : World} {base c n m : Nat} {A : Option Addr} {E : Nat → Nat → Bool} (h : OwnTab w base A c n m E) : Tab w w.heap.size A n m E := by
  obtain ⟨R, C, h1, h2⟩ := h
  exact tab_of_own h1 h2
theorem OwnTab.keeps {w w' : World} {l : List Nat} {base c n m : Nat} {A : Option Addr} {E : Nat → Nat → Bool} (h : OwnTab w base A c n m E) (k : Keeps l w w') (hl : ∀ x ∈ l, x < base) : OwnTab w' base A c n m E := by
  obtain ⟨R, C, h1, h2⟩ := h
  exact ⟨R, C, own_keeps h1 k fun x hx => own_ne h1 (hl x hx), h2.keeps k fun x hx i hi => own_ne (h2 i hi) (hl x hx)⟩

def TablePost (n m : Nat) (b B : Nat) (w : World) (e : Ending) (w' : World) : Prop :=
  ∃ (A : Option Addr) (c : Nat) (E : Nat → Nat → Bool), e = .returned (.slice A n c) ∧ OwnTab w' w.heap.size A c n m E ∧ Deck w' b B ∧ Keeps [b] w w'

theorem rd_new1 {w : World} {x : Value} {e : TypeId} : Rd (w.alloc (.cells #[x] e)) (w.heap.size + 1) (some ⟨w.heap.size, 0, none⟩) 1 (fun i => [x].getD i undef) := rd_new

theorem own_nil_cap {w : World} {base n c : Nat} {e : TypeId} {A : Option Addr} {xs : List Value} (h : w.ownsRow base e 1 (.slice A n c) n xs) : A = none → c = 0 := by
  intro hA
  subst hA
  rcases h.2 with ⟨hv, _⟩ | ⟨g, cap, cur, hv, _⟩
  · injection hv
  · injection hv with hv; cases hv

set_option maxHeartbeats 1000000 in
theorem table_any (w : World) (b B n m : Nat) (hD : Deck w b B) (hn : n ≤ 1000000) (hm : m ≤ 1000000) :
    Calls Try.prog 11 #[.pointer (some ⟨b, 0, none⟩), .int .i64 (n : Int), .int .i64 (m : Int)] w (TablePost n m b B w) := by
  have hbl := hD.lt
  have HD := Lib.hid hD
  clear hD
  go_enter Try.func11, Try.ntmps11
  go_wp2_with fail
  go_loopg [7, 8] (n + 1) (fun g v i wr => ∃ (k : Nat) (A : Option Addr) (c : Nat) (R : Nat → Option Addr) (C : Nat → Nat) (E : Nat → Nat → Bool), n + 1 ≤ k + g ∧ k ≤ n ∧ i = .int .i64 (k : Int) ∧ v = .slice A k c ∧
    wr.ownsRow w.heap.size 26 1 (.slice A k c) k ((List.range k).map fun i => .slice (R i) m (C i)) ∧ RowsB wr w.heap.size k m R C E ∧ Deck wr b B ∧ Keeps [b] w wr)
  case atStart => exact ⟨0, none, 0, fun _ => none, fun _ => 0, fun _ _ => false, by omega, by omega, rfl, rfl, World.ownsRow_nil _ _ _ _, fun i hi => by omega, HD.out, Keeps.refl _ _⟩
  case round =>
    obtain ⟨k, A, c, R, C, E, hg, hk, rfl, rfl, hown, hrows, hDr, hKr⟩ := hrel
    have hzr := hKr.size
    have HO := Lib.hid hown
    have HRr := Lib.hid hrows
    have HDr := Lib.hid hDr
    have HKr := Lib.hid hKr
    clear hown hrows hDr hKr
    obtain ⟨wo, hwo⟩ : ∃ wo : World, wo = wr := ⟨_, rfl⟩
    subst hwo
    by_cases hlt : k < n
    · go_wp2_with fail
      go_loopg [9, 10] (m + 1) (fun g v i wr => ∃ (j : Nat) (A' : Option Addr) (c' : Nat) (F : Nat → Bool), m + 1 ≤ j + g ∧ j ≤ m ∧ i = .int .i64 (j : Int) ∧ v = .slice A' j c' ∧
        wr.ownsRow wo.heap.size 4 1 (.slice A' j c') j ((List.range j).map fun i => .bool (F i)) ∧
        wr.ownsRow w.heap.size 26 1 (.slice A k c) k ((List.range k).map fun i => .slice (R i) m (C i)) ∧ RowsB wr w.heap.size k m R C E ∧ Deck wr b B ∧ Keeps [b] wo wr)
      case atStart => exact ⟨0, none, 0, fun _ => false, by omega, by omega, rfl, rfl, World.ownsRow_nil _ _ _ _, HO.out, HRr.out, HDr.out, Keeps.refl _ _⟩
      case round =>
        obtain ⟨j, A', c', F, hg', hj, rfl, rfl, hown', hown2, hrows2, hDr2, hKr2⟩ := hrel
        have hzr2 := hKr2.size
        have HO' := Lib.hid hown'
        have HO2 := Lib.hid hown2
        have HR2 := Lib.hid hrows2
        have HD2 := Lib.hid hDr2
        have HK2 := Lib.hid hKr2
        clear hown' hown2 hrows2 hDr2 hKr2
        by_cases hltj : j < m
        · go_wp2_with fail
          refine (one_any wr b B 2 HD2.out (by omega)).mono ?_
          rintro e w1 ⟨x, rfl, hD1, hK1⟩
          have hz1 := hK1.size
          have HO1' := Lib.hid (own_keeps HO'.out hK1 (fun y hy => own_ne HO'.out (by simp at hy; omega)))
          have HO12 := Lib.hid (own_keeps HO2.out hK1 (fun y hy => own_ne HO2.out (by simp at hy; omega)))
          have HR1 := Lib.hid (HR2.out.keeps hK1 (fun y hy i hi => own_ne (HR2.out i hi) (by simp at hy; omega)))
          have HD1 := Lib.hid hD1
          have HK1 := Lib.hid (HK2.out.trans hK1)
          clear hD1 hK1
          go_wp2_with (at_builtin; refine wpList_app _ sl_bool rfl _ _ rfl wo.heap.size A' j c' ((List.range j).map fun i => .bool (F i)) rfl (HO1'.out.alloc _) (w1.heap.size + 1) (some ⟨w1.heap.size, 0, none⟩) 1 1 [.bool x] rfl rfl rd_new (by simp [Value.oneCell']) (by omega) (by simp; omega) ?_; intro V' cv' w3 hown3 hg3 hat3)
          have hK3 := Keeps.of_grown hg3
          have hl3 : ∀ y ∈ (Value.slice A' j c').ownBlock.toList, (Value.slice A' j c').ownBlock = some y ∧ wo.heap.size ≤ y := fun y hy => ⟨by simpa using hy, (own_base HO1'.out (by simpa using hy)).1⟩
          go_roundg (m - j)
          case measure => omega
          case rel =>
            refine ⟨j + 1, V', cv', upd F j x, by omega, by omega, by go_num, rfl, ?_, ?_, ?_, ?_, ?_⟩
            · have e := map_range_upd F F (fun a _ => .bool a) j x x
              rw [e]; exact hown3
            · exact own_keeps (HO12.out.alloc _) hK3 (fun y hy => own_type_ne HO1'.out HO12.out (by decide) (hl3 y hy).1)
            · have hra : RowsB (w1.alloc (.cells #[.bool x] 4)) w.heap.size k m R C E := fun i hi => (HR1.out i hi).alloc _
              refine hra.keeps hK3 (fun y hy i hi hc => ?_)
              have := own_base (HRr.out i hi) hc
              have := (hl3 y hy).2
              omega
            · refine (HD1.out.keeps (w' := w1.alloc (.cells #[.bool x] 4)) ((Keeps.refl [] _).alloc _) (by simp) (by simp)).keeps hK3 (fun hm => by have := (hl3 b hm).2; omega) (fun y hy => by have := (hl3 y hy).2; omega)
            · exact (HK1.out.alloc _).step hK3 (fun y hy => .inr (hl3 y hy).2)
        · obtain rfl : j = m := by omega
          go_wp2_with (at_builtin; refine wpList_app _ sl_rowsb rfl _ _ rfl w.heap.size A k c ((List.range k).map fun i => .slice (R i) j (C i)) rfl (HO2.out.alloc _) (wr.heap.size + 1) (some ⟨wr.heap.size, 0, none⟩) 1 1 [.slice A' j c'] rfl rfl rd_new (by simp [Value.oneCell']) (by omega) (by simp; omega) ?_; intro V' cv' w3 hown3 hg3 hat3)
          have hK3 := Keeps.of_grown hg3
          have hl3 : ∀ y ∈ (Value.slice A k c).ownBlock.toList, (Value.slice A k c).ownBlock = some y ∧ w.heap.size ≤ y := fun y hy => ⟨by simpa using hy, (own_base HO2.out (by simpa using hy)).1⟩
          go_roundg (n - k)
          case measure => omega
          case rel =>
            refine ⟨k + 1, V', cv', upd R k A', upd C k c', upd E k F, by omega, by omega, by go_num, rfl, ?_, ?_, ?_, ?_⟩
            · have e := map_range_upd R C (fun a c => .slice a j c) k A' c'
              rw [e]; exact hown3
            · intro i hi
              by_cases e : i = k
              · subst e
                rw [upd_same, upd_same, upd_same]
                exact (own_keeps (HO'.out.alloc _) hK3 (fun y hy => own_type_ne HO2.out HO'.out (by decide) (hl3 y hy).1)).mono_base (by omega)
              · rw [upd_ne _ _ e, upd_ne _ _ e, upd_ne _ _ e]
                exact own_keeps ((HR2.out i (by omega)).alloc _) hK3 (fun y hy => own_type_ne HO2.out (HR2.out i (by omega)) (by decide) (hl3 y hy).1)
            · refine (HD2.out.keeps (w' := wr.alloc (.cells #[.slice A' j c'] 26)) ((Keeps.refl [] _).alloc _) (by simp) (by simp)).keeps hK3 (fun hm => by have := (hl3 b hm).2; omega) (fun y hy => by have := (hl3 y hy).2; omega)
            · exact ((HKr.out.trans HK2.out).alloc _).step hK3 (fun y hy => .inr (hl3 y hy).2)
    · obtain rfl : k = n := by omega
      go_wp2_with fail
      go_ret
      exact ⟨A, c, E, rfl, ⟨R, C, HO.out, HRr.out⟩, HDr.out, HKr.out⟩
end Go.Proofs.Ytpnkaicbcbimaaa
