/- The walk of coverabilitylaw13.SemilinearWithin. -/
import Derived.Test.YtdhadnnakcdfiaaLPeriods
import Derived.Deep.RegionHeld3

namespace Go.Proofs.Ytdhadnnakcdfiaa
set_option linter.unusedVariables false
open Go.RowKit

theorem within_val {w : World} {l : List Nat} {n : Int} {u pv u' pv' : Value} {a b : Lin} {r : Bool} (hl : ∀ y ∈ l, y < w.heap.size) (h : IsLin w l u pv a) (ha : a.Small) (h' : IsLin w l u' pv' b) (hb : b.Small) (hr : r = true ↔ WithinS n a b) :
    Calls Try.prog 19 #[.int .i64 n, .agg #[u, pv], .agg #[u', pv']] w fun e w' => e = .returned (.bool r) ∧ Keeps [] w w' :=
  (within_is hl h ha h' hb).mono fun e w' ⟨q, h1, h2, h3⟩ => by
    have : q = r := by rw [Bool.eq_iff_iff, h2, hr]
    subst this; exact ⟨h1, h3⟩

/-- Sums of what periods make. -/
def addT (t t' : List Int) : List Int := (List.range t.length).map fun i => t.getD i 0 + t'.getD i 0
theorem comb_add : ∀ {P : List (List Int)} {t t' : List Int} (i : Nat), t.length = P.length → t'.length = P.length → comb P (addT t t') i = comb P t i + comb P t' i
  | [], t, t', i, h, h' => by simp [comb]
  | p :: P, [], t', i, h, h' => by simp at h
  | p :: P, x :: t, [], i, h, h' => by simp at h'
  | p :: P, x :: t, y :: t', i, h, h' => by
    have e : addT (x :: t) (y :: t') = (x + y) :: addT t t' := by
      simp only [addT, List.length_cons, List.range_succ_eq_map, List.map_cons, List.map_map]
      rfl
    rw [e]
    simp only [comb]
    rw [comb_add i (by simpa using h) (by simpa using h'), Int.add_mul]; omega
theorem addT_len (t t' : List Int) : (addT t t').length = t.length := by simp [addT]
theorem addT_nn {t t' : List Int} (h : ∀ x ∈ t, 0 ≤ x) (h' : ∀ x ∈ t', 0 ≤ x) : ∀ x ∈ addT t t', 0 ≤ x := fun x hx => by
  obtain ⟨i, _, rfl⟩ := List.mem_map.1 hx
  have := getD_nn h i
  have := getD_nn h' i
  omega

/-- The sum of vectors that periods make, and of a base. -/
theorem made_within {n : Nat} {P Q : List (List Int)} {v : List Int} (hq : ∀ p ∈ Q, ∃ t, Makes P p t) (hl : ∀ p ∈ Q, p.length = n) : ∀ {k : List Int}, k.length = Q.length → (∀ x ∈ k, 0 ≤ x) → ∃ t, t.length = P.length ∧ (∀ x ∈ t, 0 ≤ x) ∧ ∀ i, i < n → comb P t i = comb Q k i := by
  induction Q with
  | nil =>
    intro k hk _
    have hz : ∀ (P : List (List Int)) i, comb P (List.replicate P.length 0) i = 0 := fun P i => by
      induction P with
      | nil => simp [comb]
      | cons p P ih => simp [List.replicate_succ, comb, ih]
    exact ⟨List.replicate P.length 0, by simp, fun x hx => by rw [(List.mem_replicate.1 hx).2]; exact Int.le_refl 0, fun i _ => by rw [hz]; simp [comb]⟩
  | cons q Q ih =>
    intro k hk hn
    match k, hk with
    | x :: k, hk =>
      obtain ⟨t, h1, h2, h3⟩ := ih (fun p hp => hq p (List.mem_cons_of_mem _ hp)) (fun p hp => hl p (List.mem_cons_of_mem _ hp)) (k := k) (by simpa using hk) (fun y hy => hn y (List.mem_cons_of_mem _ hy))
      obtain ⟨u, hu⟩ := hq q (List.mem_cons_self ..)
      have hx := hn x (List.mem_cons_self ..)
      have hsc : ∀ (P : List (List Int)) (u : List Int) i, comb P (u.map fun y => x * y) i = x * comb P u i := fun P u i => by
        induction P generalizing u with
        | nil => simp [comb]
        | cons p P ih =>
          cases u with
          | nil => simp [comb]
          | cons y u => simp only [List.map_cons, comb, ih]; rw [Int.mul_add, Int.mul_assoc]
      refine ⟨addT (u.map fun y => x * y) t, by rw [addT_len, List.length_map, hu.len], addT_nn (fun y hy => ?_) h2, fun i hi => ?_⟩
      · obtain ⟨z, hz, rfl⟩ := List.mem_map.1 hy
        exact Int.mul_nonneg hx (hu.nn z hz)
      · rw [comb_add i (by rw [List.length_map, hu.len]) h1, hsc, h3 i hi, hu.eq i (by rw [hl q (List.mem_cons_self ..)]; exact hi)]
        simp only [comb]

theorem within_has {n : Nat} {a b : Lin} {t : List Int} (ha : Small4 n a) (hb : Small4 n b) (hgb : GoodN b) (hw : WithinS (n : Int) a b) (htl : t.length = a.per.length) (ht : ∀ x ∈ t, 0 ≤ x ∧ x ≤ 4) : HasIn b (madeL a t) := by
  obtain ⟨_, _, ⟨_, u, hu⟩, hm⟩ := hw
  have hal := ha.good.base.len
  have hbl := hb.good.base.len
  have hmo := made_ok ha htl ht
  refine ⟨⟨hgb, by rw [hbl]; exact hmo.vec⟩, ?_⟩
  obtain ⟨t', h1, h2, h3⟩ := made_within (v := []) hm (fun p hp => (ha.good.per p hp).len) htl (fun x hx => (ht x hx).1)
  have hul : u.length = b.per.length := hu.len
  refine ⟨addT u t', by rw [addT_len]; exact hul, addT_nn hu.nn h2, fun i hi => ?_⟩
  rw [subm_len, hmo.vec.len] at hi
  rw [subm_get _ _ _ (by rw [hmo.vec.len]; exact hi), madeL_get htl hal hi, comb_add i hul h1, h3 i hi]
  have := hu.eq i (by rw [subm_len, hal]; exact hi)
  rw [subm_get _ _ _ (by rw [hal]; exact hi)] at this
  omega

/-- A set whose periods are some of another one's, the base the same, is within it. -/
theorem unit_makes : ∀ {P : List (List Int)} {p : List Int}, p ∈ P → ∃ t, t.length = P.length ∧ (∀ x ∈ t, 0 ≤ x) ∧ ∀ i, comb P t i = p.getD i 0
  | q :: P, p, h => by
    have hz : ∀ (P : List (List Int)) i, comb P (List.replicate P.length 0) i = 0 := fun P i => by
      induction P with
      | nil => simp [comb]
      | cons p P ih => simp [List.replicate_succ, comb, ih]
    rcases List.mem_cons.1 h with e | e
    · subst e
      exact ⟨1 :: List.replicate P.length 0, by simp, fun x hx => by
        rcases List.mem_cons.1 hx with e | e
        · omega
        · rw [(List.mem_replicate.1 e).2]; exact Int.le_refl 0, fun i => by simp only [comb, hz]; omega⟩
    · obtain ⟨t, h1, h2, h3⟩ := unit_makes e
      exact ⟨0 :: t, by simp [h1], fun x hx => by
        rcases List.mem_cons.1 hx with e | e
        · omega
        · exact h2 x e, fun i => by simp only [comb, h3]; omega⟩
theorem within_sub {n : Nat} {a s : Lin} (hs : Small4 n s) (hgs : GoodN s) (hga : GoodAll (n : Int) [a]) (hgg : GoodAll (n : Int) [s]) (hb : a.base = s.base) (hp : ∀ p ∈ a.per, p ∈ s.per) : WithinS (n : Int) a s := by
  have hsl := hs.good.base.len
  refine ⟨hga, hgg, ⟨⟨hgs, by rw [hb]; exact ⟨rfl, fun x hx => by have := hs.b4 x hx; omega⟩⟩, List.replicate s.per.length 0, by simp, fun x hx => by rw [(List.mem_replicate.1 hx).2]; exact Int.le_refl 0, fun i hi => ?_⟩, fun p hp' => ?_⟩
  · have hz : ∀ (P : List (List Int)) i, comb P (List.replicate P.length 0) i = 0 := fun P i => by
      induction P with
      | nil => simp [comb]
      | cons p P ih => simp [List.replicate_succ, comb, ih]
    rw [subm_len] at hi
    rw [subm_get _ _ _ hi, hz, hb]; omega
  · obtain ⟨t, h1, h2, h3⟩ := unit_makes (hp p hp')
    exact ⟨t, h1, h2, fun i _ => h3 i⟩

section
variable {P : Program}
/-- 'append(s, ys...)', s a row of the call's own, as one step of a region that draws its order. -/
theorem step_joina {α : Type} {R : Rp α} [Rok R] {d : α} {t e : TypeId} {z : Value} {bytes : Nat} (T : SlT P t e z bytes) {ops : Array Oper} {o : Oper} {a : Act} {K : Act → World → Prop} {Q : Exit → Act → World → Prop} {X : Prop} (hgd : o.guard = none) (s x : Operand)
    (ho : o.op = .call { callee := .builtin .append, args := #[s, x], argTypes := #[t, t] }) {w : World} {l l0 : List Nat} {w0 : World} {base : Nat} {v u : Value} {xs ys : List α}
    (hs : a.eval s = v) (hx : a.eval x = u) (hown : OwL R d e base w l v xs) (hu : IsL R d w (v.ownBlock.toList ++ l) u ys) {m : Nat} (hm : xs.length + ys.length = m) (h63 : m ≤ 1000000000) (hbase : base ≤ w.heap.size)
    (hb0 : w0.heap.size ≤ base) (hK0 : Keeps l0 w0 w)
    (h : ∀ V' c' w', OwL R d e base w' l (.slice V' m c') (xs ++ ys) → Keeps v.ownBlock.toList w w' → Keeps l0 w0 w' → ((Value.slice V' m c').ownBlock = v.ownBlock ∨ (Value.slice V' m c').ownBlock = some w.heap.size) → K (a.put o.dst (.slice V' m c')) w') :
    if Region.wanted o (yielded ops a.tmps) = true then Oper.wp P o a w K Q else X := by
  subst hm
  have hown' := hown
  obtain ⟨us, h1, h2, h3⟩ := hown'
  obtain ⟨A, c, rfl⟩ := ownsRow_slice h2
  obtain ⟨A', c', V, rfl, i1, i2, i3, i4⟩ := hu
  have hgd' : ∀ i, i < ys.length → ((List.range ys.length).map V).getD i undef = V i := fun i hi => by simp [List.getD_eq_getElem?_getD, hi]
  refine step_app _ T hgd s x ho base A xs.length c us hs h2 w.heap.size A' ys.length c' ((List.range ys.length).map V) hx (by simp) (i3.congr fun i hi => (hgd' i hi).symm).rd (by
    intro u hu
    obtain ⟨i, hi, rfl⟩ := List.mem_map.1 hu
    exact Rok.one (i4 i (List.mem_range.1 hi))) h63 hbase ?_
  intro V' cv' w' g1 g2 g3
  have hbl : ∀ y ∈ (Value.slice A xs.length c).ownBlock.toList, base ≤ y := fun y hy => (hown.blocks y hy).1
  have hk := Keeps.of_grown g2
  refine h V' cv' w' ?_ hk ((hK0.step hk) fun x hx => .inr (by have := hbl x hx; omega)) g3
  refine OwL.appended h1 h3 (by simp) (fun i hi => ?_) g1 g2 g3
  rw [hgd' i hi]
  exact i4 i hi
end

theorem LtV.trans {n : Nat} {f g h : Nat → Int} (h1 : LtV n f g) (h2 : LtV n g h) : LtV n f h := by
  obtain ⟨i, i1, i2, i3⟩ := h1
  obtain ⟨j, j1, j2, j3⟩ := h2
  rcases Nat.lt_trichotomy i j with e | e | e
  · exact ⟨i, i1, fun r hr => (i2 r hr).trans (j2 r (by omega)), by rw [← j2 i e]; exact i3⟩
  · subst e; exact ⟨i, i1, fun r hr => (i2 r hr).trans (j2 r hr), by omega⟩
  · exact ⟨j, j1, fun r hr => (i2 r (by omega)).trans (j2 r hr), by rw [i2 j e]; exact j3⟩
def dropAt {α : Type} (L : List α) (k : Nat) : List α := L.take k ++ L.drop (k + 1)
theorem dropAt_get {α : Type} {L : List α} {k : Nat} (d : α) (hk : k < L.length) (i : Nat) : (dropAt L k).getD i d = if i < k then L.getD i d else L.getD (i + 1) d := by
  have hl : (L.take k).length = k := by rw [List.length_take]; omega
  unfold dropAt
  by_cases h : i < k
  · rw [if_pos h, getD_append_left' _ _ _ (by rw [hl]; exact h)]
    simp [List.getD_eq_getElem?_getD, h]
  · rw [if_neg h, getD_append_right' _ _ _ (by rw [hl]; omega), hl]
    simp only [List.getD_eq_getElem?_getD, List.getElem?_drop]
    rw [show k + 1 + (i - k) = i + 1 by omega]
theorem dropAt_len {α : Type} {L : List α} {k : Nat} (hk : k < L.length) : (dropAt L k).length = L.length - 1 := by
  unfold dropAt; rw [List.length_append, List.length_take, List.length_drop]; omega
theorem dropAt_mem {α : Type} {L : List α} {k : Nat} {x : α} (h : x ∈ dropAt L k) : x ∈ L := by
  rcases List.mem_append.1 h with h | h
  · exact List.mem_of_mem_take h
  · exact List.mem_of_mem_drop h
theorem drop_good {n k : Nat} {s : Lin} (h : Good n s) (hk : k < s.per.length) : Good n ⟨s.base, dropAt s.per k⟩ := by
  refine ⟨h.base, fun p hp => h.per p (dropAt_mem hp), by have := h.few; show (dropAt s.per k).length ≤ 3; rw [dropAt_len hk]; omega, fun i h1 h2 => ?_⟩
  have h2 : i < (dropAt s.per k).length := h2
  rw [dropAt_len hk] at h2
  show LtV n (fun j => ((dropAt s.per k).getD (i - 1) []).getD j 0) (fun j => ((dropAt s.per k).getD i []).getD j 0)
  rw [dropAt_get [] hk, dropAt_get [] hk]
  by_cases e1 : i < k
  · rw [if_pos (by omega), if_pos e1]; exact h.ord i h1 (by omega)
  · rw [if_neg e1]
    by_cases e2 : i - 1 < k
    · rw [if_pos e2]
      have a1 := h.ord i h1 (by omega)
      have a2 := h.ord (i + 1) (by omega) (by omega)
      rw [show i + 1 - 1 = i by omega] at a2
      exact a1.trans a2
    · rw [if_neg e2]
      have a2 := h.ord (i + 1) (by omega) (by omega)
      rw [show i - 1 + 1 = i by omega]
      rw [show i + 1 - 1 = i by omega] at a2
      exact a2

set_option maxRecDepth 100000 in
set_option maxHeartbeats 8000000 in
theorem within_law (w : World) (len cap : Nat) (A0 : Option Addr) (l : Nat → Int) (hR : Rd w w.heap.size A0 len (fun i => .int .i64 (l i))) :
    Calls Try.prog 4 #[.slice A0 len cap] w fun e w' => e = .returned (.bool true) ∧ Below w.heap.size w w' := by
  have HR := Lib.hid hR
  clear hR
  by_cases hlen : len ≤ 400
  · have hd : decide ((len : Int) ≤ 400) = true := by simp; omega
    go_enter Try.func4, Try.ntmps4
    go_wp2_with fail
    refine (awake_any w).mono ?_
    rintro e w1 ⟨rfl, hb1⟩
    have hz1 := hb1.size
    go_wp2_with fail
    refine (few_any w1 A0 len cap).mono ?_
    rintro e w' ⟨rfl, rfl⟩
    rw [hd]
    go_wp2_with fail
    refine (new_any w1 w.heap.size A0 len cap l (HR.out.below hb1) hlen hz1).mono ?_
    rintro e w2 ⟨rfl, hD2, hb2⟩
    have hz2 := hb2.size
    have hbl2 := hD2.lt
    have hB2 := hb1.trans (hb2.mono hz1)
    have HD2 := Lib.hid hD2
    have HB2 := Lib.hid hB2
    clear hD2 hB2
    clear hb1 hb2
    generalize w1.heap.size = b at *
    go_wp2_with fail
    refine (next_any w2 b w.heap.size 3 HD2.out (by omega)).mono ?_
    rintro e w3 ⟨n0, rfl, _, hn0, hD3, hK3⟩
    have hn0 := hn0 (by omega)
    have hz3 := hK3.size
    have HD3 := Lib.hid hD3
    have HK3 := Lib.hid hK3
    clear hD3 hK3
    go_wp2_with fail
    obtain ⟨n, hn⟩ : ∃ n : Nat, n = n0 + 1 := ⟨_, rfl⟩
    rw [show (1 : Int) + (n0 : Int) = (n : Int) by omega]
    have hn1 : 1 ≤ n := by omega
    have hn4 : n ≤ 4 := by omega
    clear hn
    refine (linear_is w3 b w.heap.size n HD3.out hn1 hn4).mono ?_
    rintro e w4 ⟨A, c, A', m, c', s, rfl, hlin, hs4, hD4, hK4⟩
    have hz4 := hK4.size
    have HK4 := Lib.hid (HK3.out.trans hK4)
    have HLIN := Lib.hid hlin
    have HS4 := Lib.hid hs4
    have HD4 := Lib.hid hD4
    clear hlin hs4 hD4
    clear hK4
    go_wp2_with fail
    refine (linear_is w4 b w.heap.size n HD4.out hn1 hn4).mono ?_
    rintro e w5 ⟨B, d, B', m2, d', r, rfl, hlinr, hr4, hD5, hK5⟩
    have hz5 := hK5.size
    have hal : Keeps [] w5 ((w5.alloc (.cells #[.slice A n c, .slice A' m c'] 29)).alloc (.cells #[.slice B n d, .slice B' m2 d'] 29)) := ((Keeps.refl _ _).alloc _).alloc _
    have hbs := (BoxAt.start w5 (.slice A n c) (.slice A' m c') 29).new ((Keeps.refl _ _).alloc (.cells #[.slice B n d, .slice B' m2 d'] 29))
    have hbr : BoxAt ((w5.alloc (.cells #[.slice A n c, .slice A' m c'] 29)).alloc (.cells #[.slice B n d, .slice B' m2 d'] 29)) (w5.heap.size + 1) (.slice B n d) (.slice B' m2 d') := by
      have := BoxAt.start (w5.alloc (.cells #[.slice A n c, .slice A' m c'] 29)) (.slice B n d) (.slice B' m2 d') 29
      simpa using this
    have hls := (HLIN.out.keeps hK5).new hal
    have hlr := hlinr.new hal
    have hD6 := hD5.keeps hal (by simp) (by simp)
    have HK6 := Lib.hid ((HK4.out.trans hK5).trans (hal.nil [b]))
    have hc0 := hbs.c0
    have hc1 := hbs.c1
    have hd0 := hbr.c0
    have hd1 := hbr.c1
    have HLS := Lib.hid hls
    have HLR := Lib.hid hlr
    have HR4 := Lib.hid hr4
    have HD6 := Lib.hid hD6
    have HBS := Lib.hid hbs
    have HBR := Lib.hid hbr
    clear hls hlr hr4 hD6 hbs hbr
    clear hK5 hal hD5 hlinr
    go_upto_region 6 with fail
    generalize hw6 : (w5.alloc (.cells #[.slice A n c, .slice A' m c'] 29)).alloc (.cells #[.slice B n d, .slice B' m2 d'] 29) = w6 at *
    have hz6 : w5.heap.size + 1 + 1 = w6.heap.size := by rw [← hw6]; simp
    clear hw6
    generalize w5.heap.size = g5 at *
    have hsS := HS4.out.small hn4
    have hsR := HR4.out.small hn4
    have hgS := HS4.out.all hn1 hn4
    have hgR := HR4.out.all hn1 hn4
    have hgnS := HS4.out.n hn1 hn4
    have hgnR := HR4.out.n hn1 hn4
    have egw := enters_of Try.func19 (by kernel_rfl) rfl
    have egh := enters_of Try.func18 (by kernel_rfl) rfl
    have egs := enters_of Try.func13 (by kernel_rfl) rfl
    have egm := enters_of Try.func14 (by kernel_rfl) rfl
    have hbl : ∀ y ∈ [b], y < w6.heap.size := by simp; omega
    have hms := isL_len HLS.out.2
    have hm3 : m ≤ 3 := by rw [hms]; exact HS4.out.good.few
    have hsl := HS4.out.good.base.len
    have HSS := Lib.hid hsS
    have HSR := Lib.hid hsR
    have HGS := Lib.hid hgS
    have HGR := Lib.hid hgR
    have HGNS := Lib.hid hgnS
    have HGNR := Lib.hid hgnR
    have HBL := Lib.hid hbl
    have HMS := Lib.hid hms
    have HSL := Lib.hid hsl
    clear hsS hsR hgS hgR hgnS hgnR hbl hms hsl
    go_cut [45] (fun s45 wx => s45 = .bool false ∧ Deck wx b w.heap.size ∧ Keeps [b] w6 wx)
    case first =>
      by_cases hw : WithinS (n : Int) s r
      · have h1 : true = true ↔ WithinS (n : Int) s r := ⟨fun _ => hw, fun _ => rfl⟩
        have H1 := Lib.hid h1
        clear h1
        have HW := Lib.hid hw
        clear hw
        go_region_held3 (fun w' => w'.cell? ⟨g5, 0, none⟩ = some (.slice A n c) ∧ w'.cell? ⟨g5, 1, none⟩ = some (.slice A' m c') ∧ w'.cell? ⟨g5 + 1, 0, none⟩ = some (.slice B n d) ∧ w'.cell? ⟨g5 + 1, 1, none⟩ = some (.slice B' m2 d')) (first | exact ⟨hc0, hc1, hd0, hd1⟩ | exact ⟨f1W, f2W, f3W, f4W⟩ | exact ⟨f5W, f6W, f7W, f8W⟩ | exact ⟨f1S, f2S, f3S, f4S⟩ | exact ⟨f5S, f6S, f7S, f8S⟩ | exact ⟨f1M, f2M, f3M, f4M⟩ | exact ⟨f5M, f6M, f7M, f8M⟩ | exact ⟨f1H, f2H, f3H, f4H⟩ | exact ⟨f5H, f6H, f7H, f8H⟩ | go_keep) (first
          | (have _t := hkM; refine step_callw 18 #[.tmp 33, .tmp 35, .tmp 42] #[3, 39, 22] rfl egh (has_val (l := [b]) (n := (n : Int)) (ss := [r]) (v := madeL s tS) (r := true) (fun y hy => Nat.lt_of_lt_of_le (HBL.out y hy) hkM.size) hone (by simpa using HSR.out) (by simp) hvM (by rw [show (madeL s tS).length = s.base.length by simp [madeL], HSL.out]; omega) ⟨fun _ => ⟨HGR.out, r, by simp, within_has HS4.out HR4.out HGNR.out HW.out (by rw [hlS]; exact HMS.out) (fun x hx => by have := hrS x hx; omega)⟩, fun _ => rfl⟩) (by first | rfl | (simp [Region.wanted, yielded]; done) | simp [Region.wanted, yielded, Act.put]) (by first | (simp [Act.eval]; done) | (simp only [Act.eval, Act.put]; simp)) ?_; rintro e wH ⟨rfl, hkH0⟩; refine ⟨_, rfl, ?_⟩; have hDH := hDM.keeps (hkH0) (by simp) (by simp); have hkH := hkM.trans ((hkH0).nil [b]); have hbsH := hbsM.new hkH0; have hbrH := hbrM.new hkH0; have f1H := hbsH.c0; have f2H := hbsH.c1; have f3H := hbrH.c0; have f4H := hbrH.c1; clear hkM)
          | (have _t := hkM; refine step_callw 18 #[.tmp 33, .tmp 35, .tmp 42] #[3, 39, 22] rfl egh (has_val (l := [b]) (n := (n : Int)) (ss := [r]) (v := madeL s tS) (r := true) (fun y hy => Nat.lt_of_lt_of_le (HBL.out y hy) (hkM.trans (((Keeps.refl [] wM).alloc (.cells #[.slice B n d, .slice B' m2 d'] 29)).nil [b])).size) (IsLins.one (t := 29) (fun y hy => Nat.lt_of_lt_of_le (HBL.out y hy) hkM.size) hlrM) (by simpa using HSR.out) (by simp) (hvM.new ((Keeps.refl [] wM).alloc (.cells #[.slice B n d, .slice B' m2 d'] 29))) (by rw [show (madeL s tS).length = s.base.length by simp [madeL], HSL.out]; omega) ⟨fun _ => ⟨HGR.out, r, by simp, within_has HS4.out HR4.out HGNR.out HW.out (by rw [hlS]; exact HMS.out) (fun x hx => by have := hrS x hx; omega)⟩, fun _ => rfl⟩) (by first | rfl | (simp [Region.wanted, yielded]; done) | simp [Region.wanted, yielded, Act.put]) (by first | (simp [Act.eval]; done) | (simp only [Act.eval, Act.put]; simp)) ?_; rintro e wH ⟨rfl, hkH0⟩; refine ⟨_, rfl, ?_⟩; have hDH := hDM.keeps (((Keeps.refl [] wM).alloc (.cells #[.slice B n d, .slice B' m2 d'] 29)).trans hkH0) (by simp) (by simp); have hkH := hkM.trans ((((Keeps.refl [] wM).alloc (.cells #[.slice B n d, .slice B' m2 d'] 29)).trans hkH0).nil [b]); have hbsH := hbsM.new ((((Keeps.refl [] wM).alloc (.cells #[.slice B n d, .slice B' m2 d'] 29))).trans hkH0); have hbrH := hbrM.new ((((Keeps.refl [] wM).alloc (.cells #[.slice B n d, .slice B' m2 d'] 29))).trans hkH0); have f1H := hbsH.c0; have f2H := hbsH.c1; have f3H := hbrH.c0; have f4H := hbrH.c1; clear hkM)
          | (have _t := hkS; refine step_callw 14 #[.tmp 36, .tmp 41] #[29, 22] rfl egm (made_is (l := [b]) hlsS (by rw [HSL.out]; exact HS4.out.good.base) (by rw [HSL.out]; exact HS4.out.good.per) (by rw [HSL.out]; omega) (by rw [← HMS.out]; omega) htS (by rw [hlS]; exact Nat.le_of_eq HMS.out) (fun x hx => by have := hrS x hx; omega) (by rw [HSL.out]; exact hn1)) (by first | rfl | (simp [Region.wanted, yielded]; done) | simp [Region.wanted, yielded, Act.put]) (by first | (simp [Act.eval]; done) | (simp only [Act.eval, Act.put]; simp)) ?_; rintro e wM ⟨gM, cM, he, hM1, hM2, hM3, hM4, hM5⟩; refine ⟨_, he, ?_⟩; have hkM0 := hM5; have hzM := hkM0.size; have hlrM := hlrS.new hkM0; have hbsM := hbsS.new hkM0; have hbrM := hbrS.new hkM0; have xsM := (hbsM.new ((Keeps.refl [] wM).alloc (.cells #[.slice B n d, .slice B' m2 d'] 29))); have xrM := (hbrM.new ((Keeps.refl [] wM).alloc (.cells #[.slice B n d, .slice B' m2 d'] 29))); have f1M := hbsM.c0; have f2M := hbsM.c1; have f3M := hbrM.c0; have f4M := hbrM.c1; have f5M := xsM.c0; have f6M := xsM.c1; have f7M := xrM.c0; have f8M := xrM.c1; have hDM := hDS.keeps hkM0 (by simp) (by simp); have hkM := hkS.trans (hkM0.nil [b]); have hbS : b < wS.heap.size := Nat.lt_of_lt_of_le (HBL.out b (by simp)) hkS.size; have hvM := hM4.isI (l := [b]) (xs := madeL s tS) (by simp at hM2 ⊢; omega) hM1 (by simp [madeL]) (fun i hi => by simp [madeL, List.getD_eq_getElem?_getD, hi]); (first | (have hone := hone.new hkM0) | skip); clear hkS)
          | (have _t := hkS; refine step_callw 14 #[.tmp 36, .tmp 41] #[29, 22] rfl egm (made_is (l := [b]) (hlsS.new ((Keeps.refl [] wS).alloc (.cells #[.slice B n d, .slice B' m2 d'] 29))) (by rw [HSL.out]; exact HS4.out.good.base) (by rw [HSL.out]; exact HS4.out.good.per) (by rw [HSL.out]; omega) (by rw [← HMS.out]; omega) (htS.new ((Keeps.refl [] wS).alloc (.cells #[.slice B n d, .slice B' m2 d'] 29))) (by rw [hlS]; exact Nat.le_of_eq HMS.out) (fun x hx => by have := hrS x hx; omega) (by rw [HSL.out]; exact hn1)) (by first | rfl | (simp [Region.wanted, yielded]; done) | simp [Region.wanted, yielded, Act.put]) (by first | (simp [Act.eval]; done) | (simp only [Act.eval, Act.put]; simp)) ?_; rintro e wM ⟨gM, cM, he, hM1, hM2, hM3, hM4, hM5⟩; refine ⟨_, he, ?_⟩; have hkM0 := ((Keeps.refl [] wS).alloc (.cells #[.slice B n d, .slice B' m2 d'] 29)).trans hM5; have hzM := hkM0.size; have hlrM := hlrS.new hkM0; have hbsM := hbsS.new hkM0; have hbrM := hbrS.new hkM0; have xsM := (hbsM.new ((Keeps.refl [] wM).alloc (.cells #[.slice B n d, .slice B' m2 d'] 29))); have xrM := (hbrM.new ((Keeps.refl [] wM).alloc (.cells #[.slice B n d, .slice B' m2 d'] 29))); have f1M := hbsM.c0; have f2M := hbsM.c1; have f3M := hbrM.c0; have f4M := hbrM.c1; have f5M := xsM.c0; have f6M := xsM.c1; have f7M := xrM.c0; have f8M := xrM.c1; have hDM := hDS.keeps hkM0 (by simp) (by simp); have hkM := hkS.trans (hkM0.nil [b]); have hbS : b < wS.heap.size := Nat.lt_of_lt_of_le (HBL.out b (by simp)) hkS.size; have hvM := hM4.isI (l := [b]) (xs := madeL s tS) (by simp at hM2 ⊢; omega) hM1 (by simp [madeL]) (fun i hi => by simp [madeL, List.getD_eq_getElem?_getD, hi]); have hone := (IsLins.one (t := 29) (fun y hy => Nat.lt_of_lt_of_le (HBL.out y hy) hkS.size) hlrS).new hM5; clear hkS)
          | (have _t := hkW; refine step_callw 13 #[.tmp 37, .tmp 40, .const (.int .i64 3)] #[25, 3, 3] rfl egs (small_any wW b w.heap.size m 3 hDW (by omega) (by omega)) (by first | rfl | (simp [Region.wanted, yielded]; done) | simp [Region.wanted, yielded, Act.put]) (by first | (simp [Act.eval]; done) | (simp only [Act.eval, Act.put]; simp)) ?_; rintro e wS ⟨ZS, cS, tS, rfl, hlS, hrS, hownS, hDS, hkS0⟩; refine ⟨_, rfl, ?_⟩; have hzS := hkS0.size; have htS : IsI wS [b] (.slice ZS m cS) tS := (isN_own (l := [b]) (xs := tS) (v := .slice ZS m cS) rfl (by rw [hlS]; exact hownS)).isL (by have := HBL.out b (by simp); simp at hzS ⊢; omega); have hlsS := hlsW.keeps hkS0; have hlrS := hlrW.keeps hkS0; have hbsS := hbsW.keeps hkS0 (by simp; omega); have hbrS := hbrW.keeps hkS0 (by simp; omega); have xsS := (hbsS.new ((Keeps.refl [] wS).alloc (.cells #[.slice B n d, .slice B' m2 d'] 29))); have xrS := (hbrS.new ((Keeps.refl [] wS).alloc (.cells #[.slice B n d, .slice B' m2 d'] 29))); have f1S := hbsS.c0; have f2S := hbsS.c1; have f3S := hbrS.c0; have f4S := hbrS.c1; have f5S := xsS.c0; have f6S := xsS.c1; have f7S := xrS.c0; have f8S := xrS.c1; have hkS := hkWb.trans hkS0; clear hkW)
          | (have _t := hkW; refine step_callw 13 #[.tmp 37, .tmp 40, .const (.int .i64 3)] #[25, 3, 3] rfl egs (small_any (wW.alloc (.cells #[.slice B n d, .slice B' m2 d'] 29)) b w.heap.size m 3 (hDW.keeps ((Keeps.refl [] wW).alloc (.cells #[.slice B n d, .slice B' m2 d'] 29)) (by simp) (by simp)) (by omega) (by omega)) (by first | rfl | (simp [Region.wanted, yielded]; done) | simp [Region.wanted, yielded, Act.put]) (by first | (simp [Act.eval]; done) | (simp only [Act.eval, Act.put]; simp)) ?_; rintro e wS ⟨ZS, cS, tS, rfl, hlS, hrS, hownS, hDS, hkS0⟩; refine ⟨_, rfl, ?_⟩; have hzS := hkS0.size; have htS : IsI wS [b] (.slice ZS m cS) tS := (isN_own (l := [b]) (xs := tS) (v := .slice ZS m cS) rfl (by rw [hlS]; exact hownS)).isL (by have := HBL.out b (by simp); simp at hzS ⊢; omega); have hlsS := (hlsW.new ((Keeps.refl [] wW).alloc (.cells #[.slice B n d, .slice B' m2 d'] 29))).keeps hkS0; have hlrS := (hlrW.new ((Keeps.refl [] wW).alloc (.cells #[.slice B n d, .slice B' m2 d'] 29))).keeps hkS0; have hbsS := (hbsW.new ((Keeps.refl [] wW).alloc (.cells #[.slice B n d, .slice B' m2 d'] 29))).keeps hkS0 (by simp; omega); have hbrS := (hbrW.new ((Keeps.refl [] wW).alloc (.cells #[.slice B n d, .slice B' m2 d'] 29))).keeps hkS0 (by simp; omega); have xsS := (hbsS.new ((Keeps.refl [] wS).alloc (.cells #[.slice B n d, .slice B' m2 d'] 29))); have xrS := (hbrS.new ((Keeps.refl [] wS).alloc (.cells #[.slice B n d, .slice B' m2 d'] 29))); have f1S := hbsS.c0; have f2S := hbsS.c1; have f3S := hbrS.c0; have f4S := hbrS.c1; have f5S := xsS.c0; have f6S := xsS.c1; have f7S := xrS.c0; have f8S := xrS.c1; have hone := (IsLins.one (t := 29) hblW hlrW).keeps hkS0; have hkS := (hkWb.trans (((Keeps.refl [] wW).alloc (.cells #[.slice B n d, .slice B' m2 d'] 29)).nil [b])).trans hkS0; clear hkW)
          | (refine step_callw 19 #[.tmp 28, .tmp 29, .tmp 30] #[3, 29, 29] rfl egw (within_val (l := [b]) HBL.out (HLS.out.new (Keeps.refl _ _).drew) HSS.out (HLR.out.new (Keeps.refl _ _).drew) HSR.out H1.out) (by first | rfl | (simp [Region.wanted, yielded]; done) | simp [Region.wanted, yielded, Act.put]) (by first | (simp [Act.eval]; done) | (simp only [Act.eval, Act.put]; simp)) ?_; rintro e wW ⟨rfl, hkW⟩; refine ⟨_, rfl, ?_⟩; have hkWb := (Keeps.refl [] w6).drew.trans hkW |>.nil [b]; have hzW := hkWb.size; have hlsW := HLS.out.keeps hkWb; have hlrW := HLR.out.keeps hkWb; have hbsW := HBS.out.keeps hkWb (by simp; omega); have hbrW := HBR.out.keeps hkWb (by simp; omega); have xsW := (hbsW.new ((Keeps.refl [] wW).alloc (.cells #[.slice B n d, .slice B' m2 d'] 29))); have xrW := (hbrW.new ((Keeps.refl [] wW).alloc (.cells #[.slice B n d, .slice B' m2 d'] 29))); have f1W := hbsW.c0; have f2W := hbsW.c1; have f3W := hbrW.c0; have f4W := hbrW.c1; have f5W := xsW.c0; have f6W := xsW.c1; have f7W := xrW.c0; have f8W := xrW.c1; have hDW := HD6.out.keeps ((Keeps.refl [] w6).drew.trans hkW) (by simp) (by simp); have hblW : ∀ y ∈ [b], y < wW.heap.size := fun y hy => Nat.lt_of_lt_of_le (HBL.out y hy) hkWb.size))
        all_goals (go_wp2_with fail; go_meet; exact ⟨rfl, hDH, hkH⟩)
      · have h1 : false = true ↔ WithinS (n : Int) s r := ⟨(fun h => by cases h), fun h => absurd h hw⟩
        have H1 := Lib.hid h1
        clear h1
        clear hw
        go_region_law ((refine step_callw 19 #[.tmp 28, .tmp 29, .tmp 30] #[3, 29, 29] rfl egw (within_val (l := [b]) HBL.out (HLS.out.new (Keeps.refl _ _).drew) HSS.out (HLR.out.new (Keeps.refl _ _).drew) HSR.out H1.out) (by first | rfl | (simp [Region.wanted, yielded]; done) | simp [Region.wanted, yielded, Act.put]) (by first | (simp [Act.eval]; done) | (simp only [Act.eval, Act.put]; simp)) ?_; rintro e wW ⟨rfl, hkW⟩; refine ⟨_, rfl, ?_⟩; have hkWb := (Keeps.refl [] w6).drew.trans hkW |>.nil [b]; have hzW := hkWb.size; have hlsW := HLS.out.keeps hkWb; have hlrW := HLR.out.keeps hkWb; have hbsW := HBS.out.keeps hkWb (by simp; omega); have hbrW := HBR.out.keeps hkWb (by simp; omega); have xsW := (hbsW.new ((Keeps.refl [] wW).alloc (.cells #[.slice B n d, .slice B' m2 d'] 29))); have xrW := (hbrW.new ((Keeps.refl [] wW).alloc (.cells #[.slice B n d, .slice B' m2 d'] 29))); have f1W := hbsW.c0; have f2W := hbsW.c1; have f3W := hbrW.c0; have f4W := hbrW.c1; have f5W := xsW.c0; have f6W := xsW.c1; have f7W := xrW.c0; have f8W := xrW.c1; have hDW := HD6.out.keeps ((Keeps.refl [] w6).drew.trans hkW) (by simp) (by simp); have hblW : ∀ y ∈ [b], y < wW.heap.size := fun y hy => Nat.lt_of_lt_of_le (HBL.out y hy) hkWb.size; refine (‹∀ (a : Act) (w : World), wpAny _ _ _ _ _ _ a w → _›) _ _ ?_; refine wpAny_take (i := 4) (v := .bool false) rfl (by kernel_rfl) (by kernel_rfl) (by kernel_rfl) (fun _ _ _ h => h) (Or.inl ⟨by rfl, ?_⟩) ?_; (· intro w; go_simp); refine wpAny_take (i := 5) (v := undef) rfl (by kernel_rfl) (by kernel_rfl) (by kernel_rfl) (fun _ _ _ h => h) (Or.inr ⟨by kernel_rfl, rfl⟩) ?_; refine wpAny_take (i := 6) (v := undef) rfl (by kernel_rfl) (by kernel_rfl) (by kernel_rfl) (fun _ _ _ h => h) (Or.inr ⟨by kernel_rfl, rfl⟩) ?_; refine wpAny_take (i := 7) (v := undef) rfl (by kernel_rfl) (by kernel_rfl) (by kernel_rfl) (fun _ _ _ h => h) (Or.inr ⟨by kernel_rfl, rfl⟩) ?_; refine wpAny_take (i := 8) (v := undef) rfl (by kernel_rfl) (by kernel_rfl) (by kernel_rfl) (fun _ _ _ h => h) (Or.inr ⟨by kernel_rfl, rfl⟩) ?_; refine wpAny_take (i := 9) (v := undef) rfl (by kernel_rfl) (by kernel_rfl) (by kernel_rfl) (fun _ _ _ h => h) (Or.inr ⟨by kernel_rfl, rfl⟩) ?_; refine wpAny_take (i := 10) (v := undef) rfl (by kernel_rfl) (by kernel_rfl) (by kernel_rfl) (fun _ _ _ h => h) (Or.inr ⟨by kernel_rfl, rfl⟩) ?_; refine wpAny_take (i := 11) (v := undef) rfl (by kernel_rfl) (by kernel_rfl) (by kernel_rfl) (fun _ _ _ h => h) (Or.inr ⟨by kernel_rfl, rfl⟩) ?_; refine wpAny_take (i := 12) (v := undef) rfl (by kernel_rfl) (by kernel_rfl) (by kernel_rfl) (fun _ _ _ h => h) (Or.inr ⟨by kernel_rfl, rfl⟩) ?_; refine wpAny_take (i := 13) (v := undef) rfl (by kernel_rfl) (by kernel_rfl) (by kernel_rfl) (fun _ _ _ h => h) (Or.inr ⟨by kernel_rfl, rfl⟩) ?_; refine wpAny_take (i := 14) (v := undef) rfl (by kernel_rfl) (by kernel_rfl) (by kernel_rfl) (fun _ _ _ h => h) (Or.inr ⟨by kernel_rfl, rfl⟩) ?_; refine wpAny_take (i := 15) (v := undef) rfl (by kernel_rfl) (by kernel_rfl) (by kernel_rfl) (fun _ _ _ h => h) (Or.inr ⟨by kernel_rfl, rfl⟩) ?_; refine wpAny_take (i := 16) (v := undef) rfl (by kernel_rfl) (by kernel_rfl) (by kernel_rfl) (fun _ _ _ h => h) (Or.inr ⟨by kernel_rfl, rfl⟩) ?_))
        all_goals (go_wp2_with fail; go_meet; exact ⟨rfl, hDW, hkWb⟩)
    case rest =>
      obtain ⟨rfl, hDc, hkc⟩ := hcut
      obtain ⟨wa, hwa⟩ : ∃ wa : World, wa = wc := ⟨_, rfl⟩
      subst hwa
      have hls7 := HLS.out.keeps hkc
      have hbs7 := HBS.out.keeps hkc (by simp; omega)
      have hK7 := HK6.out.trans hkc
      have hzc := hkc.size
      have hc0 := hbs7.c0
      have hc1 := hbs7.c1
      have HLS7 := Lib.hid hls7
      have HBS7 := Lib.hid hbs7
      have HDC := Lib.hid hDc
      have HK7 := Lib.hid hK7
      clear hls7 hbs7 hDc hK7
      clear hkc
      by_cases hm0 : m = 0
      · have ht0 : ((m : Int) == 0) = true := by rw [hm0]; rfl
        have hw := within_sub (a := s) HS4.out HGNS.out HGS.out HGS.out rfl (fun p hp => hp)
        have hcall := within_val (l := [b]) (r := true) (by simp; omega) HLS7.out HSS.out HLS7.out HSS.out ⟨fun _ => hw, fun _ => rfl⟩
        have HM0 := Lib.hid hm0
        have HCALL := Lib.hid hcall
        clear hm0 hcall
        clear hw
        go_wp2_with fail
        refine HCALL.out.mono ?_
        rintro e w9 ⟨rfl, hk9⟩
        have HK9 := Lib.hid (HK7.out.trans (hk9.nil [b]))
        clear hk9
        go_wp2_with fail
        go_ret
        exact ⟨rfl, HB2.out.trans (HK9.out.below (by simp; omega) (by omega))⟩
      · have ht0 : ((m : Int) == 0) = false := by simp; omega
        go_wp2_with fail
        refine (next_any wa b w.heap.size (m : Int) HDC.out (by omega)).mono ?_
        rintro e w8 ⟨k, rfl, _, hk1, hD8, hk8⟩
        have hkm : k < m := by have := hk1 (by omega); omega
        have hls8 := HLS7.out.keeps hk8
        have hbs8 := HBS7.out.keeps hk8 (by simp; omega)
        have hK8 := HK7.out.trans hk8
        have hz8 := hk8.size
        have hc0 := hbs8.c0
        have hc1 := hbs8.c1
        have hkl : k < s.per.length := by rw [← HMS.out]; exact hkm
        have hper : IsL IsI [] w8.drew ([] ++ [b]) (.slice A' m c') s.per := hls8.2.new (Keeps.refl _ _).drew
        obtain ⟨A1, hs1, hT⟩ := slice_to sl_rowsi hper k (by omega)
        obtain ⟨A2, hs2, hD⟩ := slice_from sl_rowsi hper (k + 1) (by omega)
        have hs2' : ∀ (W : World), (Instr.slice 27 (.slice A' m c') (some (.int .i64 ((k : Int) + 1))) none none).run Try.prog W = .ok (.slice A2 (m - (k + 1)) (c' - (k + 1))) W := fun W => hs2 W
        have htl : (s.per.take k).length = k := by rw [List.length_take]; omega
        have hdl : (s.per.drop (k + 1)).length = m - (k + 1) := by rw [List.length_drop, ← HMS.out]
        have hwk : IntKind.i64.wrap ((k : Int) + 1) = (k : Int) + 1 := IntWalk.i64_in _ (by omega)
        have hbw : b < w8.heap.size := by omega
        have hkmi : (k : Int) ≤ m := by omega
        have HLS8 := Lib.hid hls8
        have HBS8 := Lib.hid hbs8
        have HK8 := Lib.hid hK8
        have HKL := Lib.hid hkl
        have HT := Lib.hid hT
        have HD := Lib.hid hD
        have HTL := Lib.hid htl
        have HDL := Lib.hid hdl
        clear hls8 hbs8 hK8 hkl hT hD htl hdl
        clear hs2 hper hD8 hk8
        have hx8 : BoxAt w8.drew g5 (.slice A n c) (.slice A' m c') := HBS8.out.new (Keeps.refl [] w8).drew
        have hx8a := hx8.new ((Keeps.refl [] w8.drew).alloc (.cells #[.slice none 0 0, .slice none 0 0] 29))
        have x0 := hx8.c0
        have x1 := hx8.c1
        have x2 := hx8a.c0
        have x3 := hx8a.c1
        have hzz : Own (w8.drew.alloc (.cells #[.slice none 0 0, .slice none 0 0] 29)) w8.heap.size 2 (fun i => if i = 0 then .slice none 0 0 else .slice none 0 0) := own_pair (w := w8.drew)
        have hTa2 : IsL IsI [] (w8.drew.alloc (.cells #[.slice none 0 0, .slice none 0 0] 29)) ([] ++ [w8.heap.size, b]) (.slice A1 k c') (s.per.take k) := Rok.keeps (Rok.weak HT.out (fun y hy => by simp at hy; rcases hy with e | e; exact .inr (by show w8.heap.size ≤ y; omega); exact .inl (by simp [e]))) (((Keeps.refl [] w8.drew).alloc _).nil _)
        have hDa : IsL IsI [] w8.drew [w8.heap.size, b] (.slice A2 (m - (k + 1)) (c' - (k + 1))) (s.per.drop (k + 1)) := Rok.weak HD.out (fun y hy => by simp at hy; rcases hy with e | e; exact .inr (by show w8.heap.size ≤ y; omega); exact .inl (by simp [e]))
        have HX8 := Lib.hid hx8
        have HX8A := Lib.hid hx8a
        have HZZ := Lib.hid hzz
        have HTA2 := Lib.hid hTa2
        have HDA := Lib.hid hDa
        clear hx8 hx8a hzz hTa2 hDa
        go_upto_region 11 with fail
        go_cut [8] (fun s8 wx => ∃ (g8 : Nat) (V : Option Addr) (cv : Nat), s8 = .pointer (some ⟨g8, 0, none⟩) ∧ BoxAt wx g8 (.slice A n c) (.slice V (m - 1) cv) ∧ IsII wx [b] (.slice V (m - 1) cv) (dropAt s.per k) ∧ Keeps [] w8 wx)
        case first =>
          go_region_held3 (fun w' => w'.cell? ⟨g5, 0, none⟩ = some (.slice A n c) ∧ w'.cell? ⟨g5, 1, none⟩ = some (.slice A' m c')) (first | exact ⟨x0, x1⟩ | exact ⟨x2, x3⟩ | exact ⟨y0, y1⟩ | exact ⟨y2, y3⟩ | exact ⟨u0, u1⟩ | exact ⟨u2, u3⟩ | exact ⟨s0, s1⟩ | go_keep) (first
            | (have _t := hown1; refine step_joina sl_rowsi (by rfl) (.tmp 65) (.tmp 70) (by rfl) (w := w65) (v := .slice V1 k c1) (u := .slice A2 (m - (k + 1)) (c' - (k + 1))) (by first | (simp [Act.eval]; done) | (simp only [Act.eval, Act.put]; simp)) (by first | (simp [Act.eval]; done) | (simp only [Act.eval, Act.put]; simp)) hown1 hdr (m := m - 1) (by rw [HTL.out, HDL.out]; omega) (by omega) hB65 (w0 := w8) (l0 := []) (by simp) (hk65) ?_; intro V2 c2 w71 hown2 hg2 hk71 hat2; have hx71 := hx65.keeps hg2 (fun hm => by have := (hlow _ hm).1; omega); have u0 := hx71.c0; have u1 := hx71.c1; have hx71a := hx71.new ((Keeps.refl [] w71).alloc (.cells #[.slice none 0 0, .slice none 0 0] 29)); have u2 := hx71a.c0; have u3 := hx71a.c1; have hz := hz.keep hg2 (fun hm => by have := (hlow _ hm).1; omega); have z0 : w71.cell? ⟨w8.heap.size, 0, none⟩ = some (.slice none 0 0) := (hz 0 (by omega)).1; have z1 : w71.cell? ⟨w8.heap.size, 1, none⟩ = some (.slice none 0 0) := (hz 1 (by omega)).1; have z2 : w71.frozen? ⟨w8.heap.size, 0, none⟩ = false := (hz 0 (by omega)).2; have z3 : w71.frozen? ⟨w8.heap.size, 1, none⟩ = false := (hz 1 (by omega)).2; have hqq := hx71.keeps (((Keeps.refl [w8.heap.size] w71).setCell (p := ⟨w8.heap.size, 0, none⟩) (by simp) (.slice A n c)).setCell (p := ⟨w8.heap.size, 1, none⟩) (by simp) (.slice V2 (m - 1) c2)) (by have := hk65.size; simp; omega); have s0 := hqq.c0; have s1 := hqq.c1; clear hown1)
            | (have _t := hown1; refine step_joina sl_rowsi (by rfl) (.tmp 65) (.tmp 70) (by rfl) (w := w65) (v := .slice V1 k c1) (u := .slice A2 (m - (k + 1)) (c' - (k + 1))) (by first | (simp [Act.eval]; done) | (simp only [Act.eval, Act.put]; simp)) (by first | (simp [Act.eval]; done) | (simp only [Act.eval, Act.put]; simp)) hown1 hdr (m := m - 1) (by rw [HTL.out, HDL.out]; omega) (by omega) hB65 (w0 := w8) (l0 := []) (by simp) (hk65) ?_; intro V2 c2 w71 hown2 hg2 hk71 hat2; have hx71 := hx65.keeps hg2 (fun hm => by have := (hlow _ hm).1; omega); have u0 := hx71.c0; have u1 := hx71.c1; have hx71a := hx71.new ((Keeps.refl [] w71).alloc (.cells #[.slice none 0 0, .slice none 0 0] 29)); have u2 := hx71a.c0; have u3 := hx71a.c1; have hz9 := trivial; clear hown1)
            | (have _t := hown1; refine step_joina sl_rowsi (by rfl) (.tmp 65) (.tmp 70) (by rfl) (w := w65.alloc (.cells #[.slice none 0 0, .slice none 0 0] 29)) (v := .slice V1 k c1) (u := .slice A2 (m - (k + 1)) (c' - (k + 1))) (by first | (simp [Act.eval]; done) | (simp only [Act.eval, Act.put]; simp)) (by first | (simp [Act.eval]; done) | (simp only [Act.eval, Act.put]; simp)) ((hown1.weak (l' := [w65.heap.size, b]) (fun y hy => by rcases List.mem_cons.1 hy with e | e; exact .inr (by omega); exact .inl e)).new ((Keeps.refl [] w65).alloc (.cells #[.slice none 0 0, .slice none 0 0] 29))) (Rok.keeps (Rok.weak hdr (l' := (Value.slice V1 k c1).ownBlock.toList ++ [w65.heap.size, b]) (fun y hy => by simp at hy; rcases hy with e | e | e; exact .inl (by simp [e]); exact .inr (by omega); exact .inl (by simp [e]))) (((Keeps.refl [] w65).alloc (.cells #[.slice none 0 0, .slice none 0 0] 29)).nil _)) (m := m - 1) (by rw [HTL.out, HDL.out]; omega) (by omega) (by have := hk65.size; rw [World.size_alloc]; omega) (w0 := w8) (l0 := []) (by simp) (hk65.alloc _) ?_; intro V2 c2 w71 hown2 hg2 hk71 hat2; have hx71 := hx65a.keeps hg2 (fun hm => by have := (hlow _ hm).1; omega); have u0 := hx71.c0; have u1 := hx71.c1; have hx71a := hx71.new ((Keeps.refl [] w71).alloc (.cells #[.slice none 0 0, .slice none 0 0] 29)); have u2 := hx71a.c0; have u3 := hx71a.c1; have hz : Own w71 w65.heap.size 2 (fun i => if i = 0 then .slice none 0 0 else .slice none 0 0) := (own_pair (w := w65)).keep hg2 (fun hm => by have := (hlow _ hm).2; omega); have z0 : w71.cell? ⟨w65.heap.size, 0, none⟩ = some (.slice none 0 0) := (hz 0 (by omega)).1; have z1 : w71.cell? ⟨w65.heap.size, 1, none⟩ = some (.slice none 0 0) := (hz 1 (by omega)).1; have z2 : w71.frozen? ⟨w65.heap.size, 0, none⟩ = false := (hz 0 (by omega)).2; have z3 : w71.frozen? ⟨w65.heap.size, 1, none⟩ = false := (hz 1 (by omega)).2; have hqq := hx71.keeps (((Keeps.refl [w65.heap.size] w71).setCell (p := ⟨w65.heap.size, 0, none⟩) (by simp) (.slice A n c)).setCell (p := ⟨w65.heap.size, 1, none⟩) (by simp) (.slice V2 (m - 1) c2)) (by have := hk65.size; simp; omega); have s0 := hqq.c0; have s1 := hqq.c1; clear hown1)
            | (refine step_joina sl_rowsi (by rfl) (.const (.slice none 0 0)) (.tmp 64) (by rfl) (w := w8.drew) (l := [b]) (base := w8.heap.size) (v := .slice none 0 0) (u := .slice A1 k c') (by first | (simp [Act.eval]; done) | (simp only [Act.eval, Act.put]; simp)) (by first | (simp [Act.eval]; done) | (simp only [Act.eval, Act.put]; simp)) OwL.nil HT.out (m := k) (by simp [HTL.out]) (by omega) (by simp) (w0 := w8) (l0 := []) (by omega) ((Keeps.refl [] w8).drew) ?_; intro V1 c1 w65 hown1 hg1 hk65 hat1; rw [List.nil_append] at hown1; have hg1 : Keeps [] (w8.drew) w65 := hg1; have hkd : Keeps [] w8.drew w65 := hg1; have HB0 := Nat.le_refl w8.heap.size; have hB65 := hk65.size; have hx65 := HX8.out.new hg1; have hx65a := hx65.new ((Keeps.refl [] w65).alloc (.cells #[.slice none 0 0, .slice none 0 0] 29)); have y0 := hx65.c0; have y1 := hx65.c1; have y2 := hx65a.c0; have y3 := hx65a.c1; have hdr := hown1.putw HD.out hkd HB0; have hlow := (fun y hy => (hown1.blocks y hy) : ∀ y ∈ (Value.slice V1 k c1).ownBlock.toList, _ ≤ y ∧ y < _))
            | (refine step_joina sl_rowsi (by rfl) (.const (.slice none 0 0)) (.tmp 64) (by rfl) (w := w8.drew.alloc (.cells #[.slice none 0 0, .slice none 0 0] 29)) (l := [w8.heap.size, b]) (base := w8.heap.size + 1) (v := .slice none 0 0) (u := .slice A1 k c') (by first | (simp [Act.eval]; done) | (simp only [Act.eval, Act.put]; simp)) (by first | (simp [Act.eval]; done) | (simp only [Act.eval, Act.put]; simp)) OwL.nil HTA2.out (m := k) (by simp [HTL.out]) (by omega) (by simp) (w0 := w8) (l0 := []) (by omega) ((Keeps.refl [] w8).drew.alloc _) ?_; intro V1 c1 w65 hown1 hg1 hk65 hat1; rw [List.nil_append] at hown1; have hg1 : Keeps [] (w8.drew.alloc (.cells #[.slice none 0 0, .slice none 0 0] 29)) w65 := hg1; have hkd : Keeps [] w8.drew w65 := ((Keeps.refl [] w8.drew).alloc _).trans hg1; have HB0 : w8.drew.heap.size ≤ w8.heap.size + 1 := Nat.le_succ _; have hz := HZZ.out.keep hg1 (by simp); have hB65 : w8.heap.size + 1 ≤ w65.heap.size := (by have h7 := hg1.size; rw [World.size_alloc] at h7; exact h7); have hx65 := HX8A.out.new hg1; have hx65a := hx65.new ((Keeps.refl [] w65).alloc (.cells #[.slice none 0 0, .slice none 0 0] 29)); have y0 := hx65.c0; have y1 := hx65.c1; have y2 := hx65a.c0; have y3 := hx65a.c1; have hdr := hown1.putw HDA.out hkd HB0; have hlow := (fun y hy => (hown1.blocks y hy) : ∀ y ∈ (Value.slice V1 k c1).ownBlock.toList, _ ≤ y ∧ y < _)))
          · go_wp2_with fail
            go_meet
            exact ⟨_, V2, c2, rfl, BoxAt.start _ _ _ _, Rok.keeps (R := IsII) (hown2.isL (by simp; omega)) (((Keeps.refl _ _).alloc _).nil _), hk71.alloc _⟩
          · go_wp2_with fail
            go_meet
            have hne : (Value.slice V2 (m - 1) c2).ownBlock ≠ some w65.heap.size := by
              intro e
              rcases hat2 with h | h
              · have h1 : (Value.slice V1 k c1).ownBlock = some w65.heap.size := h.symm.trans e
                have := (hlow w65.heap.size (by rw [h1]; simp)).2
                omega
              · rw [h] at e
                injection e with e
                rw [World.size_alloc] at e; omega
            obtain ⟨hq1, hq2, hkS⟩ := pair_set (.slice A n c) (.slice V2 (m - 1) c2) z0 z1
            have hfin := ((hown2.keeps hkS (fun y hy => by rw [List.mem_singleton.1 hy]; exact ⟨.inl (by simp), hne⟩)).weak (l' := [b]) (fun y hy => .inl (by simp at hy; simp [hy]))).isL (by simp; omega)
            exact ⟨_, V2, c2, rfl, ⟨hq1, hq2⟩, hfin, hk71.step hkS (by first | (simp; done) | (have := hk65.size; simp; omega))⟩
          · go_wp2_with fail
            go_meet
            have hne : (Value.slice V2 (m - 1) c2).ownBlock ≠ some w8.heap.size := fun e => by have := (hown2.lt e).1; omega
            obtain ⟨hq1, hq2, hkS⟩ := pair_set (.slice A n c) (.slice V2 (m - 1) c2) z0 z1
            have hfin := ((hown2.keeps hkS (fun y hy => by rw [List.mem_singleton.1 hy]; exact ⟨.inl (by simp), hne⟩)).weak (l' := [b]) (fun y hy => .inl (by simp at hy; simp [hy]))).isL (by simp; omega)
            exact ⟨_, V2, c2, rfl, ⟨hq1, hq2⟩, hfin, hk71.step hkS (by first | (simp; done) | (have := hk65.size; simp; omega))⟩
        case rest =>
          obtain ⟨g8, V, cv, rfl, hbx9, hper9, hk9⟩ := hcut
          obtain ⟨wb, hwb⟩ : ∃ wb : World, wb = wc := ⟨_, rfl⟩
          subst hwb
          have hbs9 := HBS8.out.new hk9
          have hls9 := HLS8.out.new hk9
          have hK9 := HK8.out.trans (hk9.nil [b])
          have hc0 := hbs9.c0
          have hc1 := hbs9.c1
          have hd0 := hbx9.c0
          have hd1 := hbx9.c1
          have hz9 := hk9.size
          have hgood := drop_good HS4.out.good HKL.out
          have hlin : IsLin wb [b] (.slice A n c) (.slice V (m - 1) cv) ⟨s.base, dropAt s.per k⟩ := ⟨hls9.1, hper9⟩
          have hsm : Lin.Small ⟨s.base, dropAt s.per k⟩ := ⟨by show s.base.length ≤ _; rw [HSL.out]; omega, by have := hgood.few; omega, fun i hi => by have := (hgood.per _ (getD_mem (d := []) hi)).len; omega⟩
          have hall : GoodAll (n : Int) [⟨s.base, dropAt s.per k⟩] := ⟨by omega, by omega, by simp, fun x hx => by rw [List.mem_singleton.1 hx]; simpa using hgood⟩
          have hw1 := within_sub (a := ⟨s.base, dropAt s.per k⟩) HS4.out HGNS.out hall HGS.out rfl (fun p hp => dropAt_mem hp)
          have hw2 := within_sub (a := s) HS4.out HGNS.out HGS.out HGS.out rfl (fun p hp => hp)
          have hcall := within_val (l := [b]) (r := true) (by simp; omega) hlin hsm hls9 HSS.out ⟨fun _ => hw1, fun _ => rfl⟩
          have HBS9 := Lib.hid hbs9
          have HLS9 := Lib.hid hls9
          have HK9 := Lib.hid hK9
          have HCALL := Lib.hid hcall
          have HW2 := Lib.hid hw2
          clear hbs9 hls9 hK9 hcall hw2
          clear hgood hlin hsm hall hw1 hper9 hk9 hbx9
          go_wp2_with fail
          refine HCALL.out.mono ?_
          rintro e w9 ⟨rfl, hk10⟩
          have hbs10 := HBS9.out.new hk10
          have hls10 := HLS9.out.new hk10
          have hc0 := hbs10.c0
          have hc1 := hbs10.c1
          have hz10 := hk10.size
          have hcall2 := within_val (l := [b]) (r := true) (by simp; omega) hls10 HSS.out hls10 HSS.out ⟨fun _ => HW2.out, fun _ => rfl⟩
          have HK10 := Lib.hid (HK9.out.trans (hk10.nil [b]))
          have HCALL2 := Lib.hid hcall2
          clear hcall2
          clear hk10 hbs10 hls10
          go_wp2_with fail
          refine HCALL2.out.mono ?_
          rintro e w10 ⟨rfl, hk11⟩
          have HK11 := Lib.hid (HK10.out.trans (hk11.nil [b]))
          clear hk11
          go_wp2_with fail
          go_ret
          exact ⟨rfl, HB2.out.trans (HK11.out.below (by simp; omega) (by omega))⟩
  · have hd : decide ((len : Int) ≤ 400) = false := by simp; omega
    go_enter Try.func4, Try.ntmps4
    go_wp2_with fail
    refine (awake_any w).mono ?_
    rintro e w1 ⟨rfl, hb1⟩
    go_wp2_with fail
    refine (few_any w1 A0 len cap).mono ?_
    rintro e w' ⟨rfl, rfl⟩
    rw [hd]
    go_wp2_with fail
    refine (awake_any w1).mono ?_
    rintro e w2 ⟨rfl, hb2⟩
    go_wp2_with fail
    go_ret
    exact ⟨rfl, hb1.trans (hb2.mono hb1.size)⟩
end Go.Proofs.Ytdhadnnakcdfiaa
