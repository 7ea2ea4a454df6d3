/- The walks of word.Embed and Leq; plain law: the order of subwords. -/
import Derived.Test.YtfhommegkogahaaWordV
namespace Go.Proofs.Ytfhommegkogahaa
set_option linter.unusedVariables false
open Go.RowKit

theorem idxI_cases : ∀ (b : List Int) (x : Int), (idxI b x < 0 ∧ idxI b x = -1 ∧ x ∉ b) ∨ ∃ pre rest, b = pre ++ x :: rest ∧ x ∉ pre ∧ idxI b x = pre.length
  | [], x => .inl ⟨by simp [idxI], rfl, by simp⟩
  | y :: b, x => by
    by_cases e : x = y
    · exact .inr ⟨[], b, by simp [e], by simp, by simp [idxI, e]⟩
    · rcases idxI_cases b x with ⟨h1, h2, h3⟩ | ⟨pre, rest, rfl, h2, h3⟩
      · have : idxI (y :: b) x = -1 := by rw [idxI, if_neg e, if_pos h1]
        exact .inl ⟨by rw [this]; decide, this, by simp [e, h3]⟩
      · exact .inr ⟨y :: pre, rest, rfl, by simp [e, h2], by rw [idxI, if_neg e, h3, if_neg (by omega)]; simp⟩

/-- The least places of a word in another one, from a place on. -/
def embF : List Int → List Int → Nat → Option (List Int)
  | [], _, _ => some []
  | x :: a, b, at_ => if idxI (b.drop at_) x < 0 then none else (embF a b (at_ + (idxI (b.drop at_) x).toNat + 1)).map fun p => ((at_ : Int) + idxI (b.drop at_) x) :: p

theorem sub_skip {α : Type} {x : α} {a pre l : List α} (h : x ∉ pre) : (x :: a).Sublist (pre ++ l) ↔ (x :: a).Sublist l := by
  induction pre with
  | nil => simp
  | cons y pre ih =>
    have h1 : x ≠ y := fun e => h (by simp [e])
    have h2 : x ∉ pre := fun e => h (by simp [e])
    rw [List.cons_append, ← ih h2]
    constructor
    · intro hs
      cases hs with
      | cons _ h => exact h
      | cons_cons _ h => exact absurd rfl h1
    · exact fun hs => hs.cons _

theorem embF_some : ∀ (a b : List Int) (at_ : Nat), (embF a b at_).isSome = true ↔ a.Sublist (b.drop at_)
  | [], b, at_ => by simp [embF]
  | x :: a, b, at_ => by
    unfold embF
    rcases idxI_cases (b.drop at_) x with ⟨h1, h2, h3⟩ | ⟨pre, rest, he, h2, h3⟩
    · rw [if_pos h1]
      constructor
      · intro h; simp at h
      · intro h; exact absurd (h.subset (List.mem_cons_self ..)) h3
    · rw [if_neg (by rw [h3]; omega), h3, Option.isSome_map, embF_some a b _, he, sub_skip h2, List.cons_sublist_cons]
      have : b.drop (at_ + (pre.length : Int).toNat + 1) = rest := by
        rw [Int.toNat_natCast, Nat.add_assoc, ← List.drop_drop, he]
        have : pre ++ x :: rest = (pre ++ [x]) ++ rest := by simp
        rw [this, List.drop_append_of_le_length (by simp)]
        simp
      rw [this]

theorem embF_len : ∀ {a b : List Int} {at_ : Nat} {p : List Int}, embF a b at_ = some p → p.length = a.length
  | [], b, at_, p, h => by simp only [embF, Option.some.injEq] at h; subst h; rfl
  | x :: a, b, at_, p, h => by
    unfold embF at h
    split at h
    · cases h
    · obtain ⟨q, h1, rfl⟩ := Option.map_eq_some_iff.1 h
      simp [embF_len h1]

theorem embF_drop {a b : List Int} {k at_ : Nat} (hk : k < a.length) (h : 0 ≤ idxI (b.drop at_) (a.getD k 0)) :
    embF (a.drop k) b at_ = (embF (a.drop (k + 1)) b (at_ + (idxI (b.drop at_) (a.getD k 0)).toNat + 1)).map fun p => ((at_ : Int) + idxI (b.drop at_) (a.getD k 0)) :: p := by
  have e : a.drop k = a.getD k 0 :: a.drop (k + 1) := by rw [List.drop_eq_getElem_cons hk]; simp [List.getD_eq_getElem?_getD, hk]
  rw [e, embF, if_neg (by omega)]
theorem embF_drop_none {a b : List Int} {k at_ : Nat} (hk : k < a.length) (h : idxI (b.drop at_) (a.getD k 0) < 0) : embF (a.drop k) b at_ = none := by
  have e : a.drop k = a.getD k 0 :: a.drop (k + 1) := by rw [List.drop_eq_getElem_cons hk]; simp [List.getD_eq_getElem?_getD, hk]
  rw [e, embF, if_pos h]
theorem idxI_lt (b : List Int) (x : Int) : idxI b x < b.length ∧ -1 ≤ idxI b x := by
  rcases idxI_cases b x with ⟨h1, h2, h3⟩ | ⟨pre, rest, he, h2, h3⟩
  · rw [h2]; omega
  · rw [h3, he]; simp; omega

open Classical in
noncomputable def embW (a b : List Int) : Option (List Int) := if WValid a ∧ WValid b then embF a b 0 else none
theorem embW_no {a b : List Int} (h : ¬ (WValid a ∧ WValid b)) : embW a b = none := if_neg h
theorem embW_yes {a b : List Int} (h1 : WValid a) (h2 : WValid b) : embW a b = embF a b 0 := if_pos ⟨h1, h2⟩
def EmbPost (o : Option (List Int)) (l : List Nat) (w : World) (e : Ending) (w' : World) : Prop :=
  Keeps [] w w' ∧ ((o = none ∧ e = .returned (.tuple #[.slice none 0 0, .bool false])) ∨ ∃ A c p, o = some p ∧ e = .returned (.tuple #[.slice A p.length c, .bool true]) ∧ OwL IsN 0 3 w.heap.size w' l (.slice A p.length c) p)

set_option maxHeartbeats 2000000 in
theorem embed_is {w : World} {l : List Nat} {av bv : Value} {a b : List Int} (ha : IsI w l av a) (hb : IsI w l bv b) (hn : a.length ≤ 1000000) (hm : b.length ≤ 1000000) : Calls Try.prog 20 #[av, bv] w (EmbPost (embW a b) l w) := by
  unfold EmbPost
  obtain ⟨A, c, rfl, _, _, h1⟩ := ha.open
  obtain ⟨B, c', rfl, _, _, h2⟩ := hb.open
  by_cases hva : WValid a
  · have ea := wvB_true.2 hva
    by_cases hvb : WValid b
    · have eb := wvB_true.2 hvb
      have hemb := embW_yes hva hvb
      generalize embW a b = o at *
      have hma := valid_is ha hn
      rw [ea] at hma
      have hmb := fun W (k : Keeps [] w W) => valid_is (IsI.new hb k) hm
      rw [eb] at hmb
      generalize hna : a.length = n at *
      generalize hnb : b.length = m at *
      have hm12 : m ≤ 12 := by rw [← hnb]; exact hvb.1
      have H1 := Lib.hid h1
      have H2 := Lib.hid h2
      have HNA := Lib.hid hna
      have HNB := Lib.hid hnb
      have HA := Lib.hid ha
      have HB := Lib.hid hb
      have HEMB := Lib.hid hemb
      have HMA := Lib.hid hma
      have HMB := Lib.hid hmb
      have HVA := Lib.hid hva
      have HVB := Lib.hid hvb
      clear h1 h2 hna hnb ha hb hemb hma hmb hva hvb
      clear ea eb
      go_enter Try.func20, Try.ntmps20
      go_wp2_with fail
      refine HMA.out.mono ?_
      rintro e w1 ⟨rfl, hk1⟩
      have hcb := HMB.out w1 hk1
      have HCB := Lib.hid hcb
      clear hcb
      haveI : KB [] w1 w := ⟨hk1⟩
      clear hk1
      go_wp2_with fail
      refine HCB.out.mono ?_
      rintro e w2 ⟨rfl, hk2⟩
      haveI : KB [] w2 w1 := ⟨hk2⟩
      have HK2 := Lib.hid (kf [] w w2)
      clear hk2
      go_wp2_with fail
      go_loopg [6, 7, 9, 10, 21] (n + 1) (fun gh sv tv _ _ kv wr => ∃ (k t : Nat) (V : Option Addr) (cv : Nat) (ys : List Int), n + 1 ≤ k + gh ∧ k ≤ n ∧ t ≤ m ∧ kv = .int .i64 (k : Int) ∧ tv = .int .i64 (t : Int) ∧ sv = .slice V k cv ∧ ys.length = k ∧
        embF a b 0 = (embF (a.drop k) b t).map (ys ++ ·) ∧ OwL IsN 0 3 w.heap.size wr l (.slice V k cv) ys ∧ Keeps [] w wr)
      case atStart => exact ⟨0, 0, none, 0, [], by omega, by omega, by omega, rfl, rfl, rfl, rfl, by simp, OwL.nil, HK2.out⟩
      case round =>
        obtain ⟨k, t, V, cv, ys, hgh, hk, ht, rfl, rfl, rfl, hyl, hrel, hO, hkr⟩ := hrel
        have hz := hkr.size
        have hkb : KB [] wr w := ⟨hkr⟩
        have HYL := Lib.hid hyl
        have HREL := Lib.hid hrel
        have HO := Lib.hid hO
        have HKR := Lib.hid hkr
        clear hyl hrel hO hkr
        by_cases hlt : k < n
        · obtain ⟨p, rfl, hp⟩ := (RdL.keeps H1.out (HKR.out.nil l)).at_ hlt
          obtain ⟨B', hs, hD⟩ := slice_from sl_int (show IsL IsN 0 wr l (.slice B m c') b from IsI.new HB.out HKR.out) t ht
          have hix := index_is (x := a.getD k 0) (show IsI wr l _ _ from hD) (by rw [List.length_drop, HNB.out]; omega)
          have hrg := idxI_lt (b.drop t) (a.getD k 0)
          rw [List.length_drop, HNB.out] at hrg
          have hd1 := embF_drop (a := a) (b := b) (k := k) (at_ := t) (by rw [HNA.out]; exact hlt)
          have hd2 := embF_drop_none (a := a) (b := b) (k := k) (at_ := t) (by rw [HNA.out]; exact hlt)
          generalize hx : a.getD k 0 = x at *
          generalize hi : idxI (b.drop t) x = i at *
          have HIX := Lib.hid hix
          have HX := Lib.hid hx
          have HI := Lib.hid hi
          have HD := Lib.hid hD
          clear hx hi hD
          clear hix
          by_cases hneg : i < 0
          · have hd2 := hd2 hneg
            have HD2 := Lib.hid hd2
            clear hd2
            clear hd1
            go_wp2_with fail
            refine HIX.out.mono ?_
            rintro e w3 ⟨rfl, q, rfl⟩
            go_wp2_with fail
            go_ret2
            exact ⟨HKR.out.drewN _, .inl ⟨by rw [HEMB.out, HREL.out, HD2.out]; rfl, rfl⟩⟩
          · obtain ⟨j, rfl⟩ : ∃ j : Nat, i = (j : Int) := ⟨i.toNat, by omega⟩
            have hd1 := hd1 (by omega)
            have HD1 := Lib.hid hd1
            clear hd1
            clear hd2
            go_wp2_with fail
            refine HIX.out.mono ?_
            rintro e w3 ⟨rfl, q, rfl⟩
            have hO3 : OwL IsN 0 3 w.heap.size (wr.drewN q) l (.slice V k cv) ys := HO.out.new ((Keeps.refl _ _).drewN _)
            have hk3 : Keeps [] w (wr.drewN q) := HKR.out.drewN _
            have HO3 := Lib.hid hO3
            have HK3 := Lib.hid hk3
            clear hO3 hk3
            go_wp2_with (at_builtin; refine wpList_push sl_int rfl _ _ rfl (w := wr.drewN q) (u := .int .i64 ((t : Int) + (j : Int))) (y := (t : Int) + (j : Int)) rfl rfl HO3.out rfl (m := k + 1) (by rw [HYL.out]) (by omega) hz (w0 := w) (l0 := []) (Nat.le_refl _) HK3.out ?_; intro V' c'' w4 hown hg4 hk4)
            go_roundg (n - k)
            case measure => omega
            case rel => exact ⟨k + 1, t + j + 1, V', c'', ys ++ [(t : Int) + (j : Int)], by omega, by omega, by omega, by go_num, by go_num, rfl, by rw [List.length_append, HYL.out]; rfl, by
              rw [HREL.out, HD1.out, Option.map_map]
              rw [Int.toNat_natCast]
              congr 1
              funext p
              simp, hown, hk4⟩
        · obtain rfl : k = n := by omega
          go_wp2_with fail
          go_ret2
          have he : o = some ys := by
            rw [HEMB.out, HREL.out, ← HNA.out, List.drop_length]; simp [embF]
          exact ⟨HKR.out, .inr ⟨V, cv, ys, he, by rw [HYL.out]; rfl, by rw [HYL.out]; exact HO.out⟩⟩
    · have eb := wvB_false.2 hvb
      have hemb := embW_no (a := a) (b := b) fun h => hvb h.2
      have hma := valid_is ha hn
      rw [ea] at hma
      have hmb := fun W (k : Keeps [] w W) => valid_is (IsI.new hb k) hm
      rw [eb] at hmb
      generalize embW a b = o at *
      generalize a.length = n at *
      generalize b.length = m at *
      have H1 := Lib.hid h1
      have H2 := Lib.hid h2
      have HA := Lib.hid ha
      have HB := Lib.hid hb
      have HEMB := Lib.hid hemb
      have HMA := Lib.hid hma
      have HMB := Lib.hid hmb
      have HVA := Lib.hid hva
      have HVB := Lib.hid hvb
      clear h1 h2 ha hb hemb hma hmb hva hvb
      clear ea eb
      go_enter Try.func20, Try.ntmps20
      go_wp2_with fail
      refine HMA.out.mono ?_
      rintro e w1 ⟨rfl, hk1⟩
      have hcb := HMB.out w1 hk1
      have HCB := Lib.hid hcb
      have HK1 := Lib.hid hk1
      clear hcb hk1
      go_wp2_with fail
      refine HCB.out.mono ?_
      rintro e w2 ⟨rfl, hk2⟩
      have HK2 := Lib.hid hk2
      clear hk2
      go_wp2_with fail
      go_ret2
      exact ⟨HK1.out.trans HK2.out, .inl ⟨HEMB.out, rfl⟩⟩
  · have ea := wvB_false.2 hva
    have hemb := embW_no (a := a) (b := b) fun h => hva h.1
    have hma := valid_is ha hn
    rw [ea] at hma
    generalize embW a b = o at *
    generalize a.length = n at *
    generalize b.length = m at *
    have H1 := Lib.hid h1
    have H2 := Lib.hid h2
    have HA := Lib.hid ha
    have HB := Lib.hid hb
    have HEMB := Lib.hid hemb
    have HMA := Lib.hid hma
    have HVA := Lib.hid hva
    clear h1 h2 ha hb hemb hma hva
    clear ea
    go_enter Try.func20, Try.ntmps20
    go_wp2_with fail
    refine HMA.out.mono ?_
    rintro e w1 ⟨rfl, hk1⟩
    have HK1 := Lib.hid hk1
    clear hk1
    go_wp2_with fail
    go_ret2
    exact ⟨HK1.out, .inl ⟨HEMB.out, rfl⟩⟩

/-- A word is below another one: both are valid, and the one is a subword of the other. -/
def WLeq (a b : List Int) : Prop := WValid a ∧ WValid b ∧ a.Sublist b
open Classical in
noncomputable def wleqB (a b : List Int) : Bool := decide (WLeq a b)
theorem wleqB_true {a b : List Int} : wleqB a b = true ↔ WLeq a b := by simp [wleqB]
theorem embW_some (a b : List Int) : (embW a b).isSome = wleqB a b := by
  rw [Bool.eq_iff_iff, wleqB_true]
  by_cases h1 : WValid a ∧ WValid b
  · rw [embW_yes h1.1 h1.2, embF_some, List.drop_zero]
    exact ⟨fun h => ⟨h1.1, h1.2, h⟩, fun h => h.2.2⟩
  · rw [embW_no h1]
    exact ⟨fun h => (by simp at h), fun h => absurd ⟨h.1, h.2.1⟩ h1⟩

set_option maxHeartbeats 400000 in
theorem leq_is {w : World} {l : List Nat} {av bv : Value} {a b : List Int} (ha : IsI w l av a) (hb : IsI w l bv b) (hn : a.length ≤ 1000000) (hm : b.length ≤ 1000000) : Calls Try.prog 13 #[av, bv] w (RetB (wleqB a b) w) := by
  unfold RetB
  obtain ⟨A, c, rfl, _, _, h1⟩ := ha.open
  obtain ⟨B, c', rfl, _, _, h2⟩ := hb.open
  have hcall := embed_is ha hb hn hm
  have he := embW_some a b
  generalize embW a b = o at *
  generalize wleqB a b = r at *
  generalize a.length = n at *
  generalize b.length = m at *
  have HA := Lib.hid ha
  have HB := Lib.hid hb
  have H1 := Lib.hid h1
  have H2 := Lib.hid h2
  have HCALL := Lib.hid hcall
  have HE := Lib.hid he
  clear ha hb h1 h2 hcall he
  go_enter Try.func13, Try.ntmps13
  go_wp2_with fail
  refine HCALL.out.mono ?_
  rintro e w1 ⟨hk, ⟨ho, rfl⟩ | ⟨V, cv, p, ho, rfl, hO⟩⟩
  · have hr : r = false := by rw [← HE.out, ho]; rfl
    have HK := Lib.hid hk
    have HO := Lib.hid ho
    have HR := Lib.hid hr
    clear hk ho hr
    go_wp2_with fail
    go_ret
    exact ⟨ret_bo HR.out.symm, HK.out⟩
  · have hr : r = true := by rw [← HE.out, ho]; rfl
    generalize p.length = np at *
    have HK := Lib.hid hk
    have HO := Lib.hid ho
    have HO := Lib.hid hO
    have HR := Lib.hid hr
    clear hk ho hO hr
    go_wp2_with fail
    go_ret
    exact ⟨ret_bo HR.out.symm, HK.out⟩
end Go.Proofs.Ytfhommegkogahaa
