/- The walk of coverabilitylaw12.HilbertSigns. -/
import Derived.Test.YthpobeeccgmieaaSplS
import Derived.Test.YthpobeeccgmieaaRSameAll
import Derived.Test.YthpobeeccgmieaaStep
import Derived.Deep.RegionHeld3
import Derived.Deep.DeepCutAuto

namespace Go.Proofs.Ythpobeeccgmieaa
set_option linter.unusedVariables false
open Go.RowKit

theorem isN_cell {w : World} {l : List Nat} {B : Nat} {y : Int} (h : w.cell? ⟨B, 0, none⟩ = some (.int .i64 y)) (hB : B ∉ l) : IsL IsN 0 w l (.slice (some ⟨B, 0, none⟩) 1 1) [y] :=
  ⟨some ⟨B, 0, none⟩, 1, fun _ => .int .i64 y, rfl, Nat.le_refl _, (fun h => by cases h), fun _ => ⟨_, rfl, hB, fun i hi => by
    have e : i = 0 := by simpa using hi
    subst e; simpa [Addr.add] using h⟩, fun i hi => by
    have e : i = 0 := by simpa using hi
    subst e; rfl⟩
theorem OwL.anyN {w : World} {l l' : List Nat} {ty : TypeId} {base : Nat} {v : Value} {xs : List Int} (h : OwL IsN 0 ty base w l v xs) : OwL IsN 0 ty base w l' v xs := by
  obtain ⟨us, h1, h2, h3⟩ := h
  exact ⟨us, h1, h2, fun i hi => h3 i hi⟩
section
variable {P : Program}
theorem step_joing {α : Type} {R : Rp α} [Rok R] {d : α} {t e : TypeId} {z : Value} {bytes : Nat} (T : SlT P t e z bytes) {ops : Array Oper} {o : Oper} {a : Act} {K : Act → World → Prop} {Q : Exit → Act → World → Prop} {X : Prop} (hgd : o.guard = none) (s x : Operand)
    (ho : o.op = .call { callee := .builtin .append, args := #[s, x], argTypes := #[t, t] }) {w : World} {l : List Nat} {base : Nat} {v u : Value} {xs ys : List α}
    (hs : a.eval s = v) (hx : a.eval x = u) (hown : OwL R d e base w l v xs) (hu : IsL R d w (v.ownBlock.toList ++ l) u ys) {m : Nat} (hm : xs.length + ys.length = m) (h63 : m ≤ 1000000000) (hbase : base ≤ w.heap.size)
    (h : ∀ V' c' w', OwL R d e base w' l (.slice V' m c') (xs ++ ys) → Keeps v.ownBlock.toList w w' → (∀ b ∈ (Value.slice V' m c').ownBlock.toList, b ∈ v.ownBlock.toList ∨ w.heap.size ≤ b) → K (a.put o.dst (.slice V' m c')) w') :
    if Region.wanted o (yielded ops a.tmps) = true then Oper.wp P o a w K Q else X := by
  subst hm
  have hown' := hown
  obtain ⟨us, h1, h2, h3⟩ := hown'
  obtain ⟨A, c, rfl⟩ := ownsRow_slice h2
  obtain ⟨A', c', V, rfl, i1, i2, i3, i4⟩ := hu
  have hgd' : ∀ i, i < ys.length → ((List.range ys.length).map V).getD i undef = V i := fun i hi => by simp [List.getD_eq_getElem?_getD, hi]
  refine step_app _ T hgd s x ho base A xs.length c us hs h2 w.heap.size A' ys.length c' ((List.range ys.length).map V) hx (by simp) (i3.congr fun i hi => (hgd' i hi).symm).rd (by
    intro u hu
    obtain ⟨i, hi, rfl⟩ := List.mem_map.1 hu
    exact Rok.one (i4 i (List.mem_range.1 hi))) h63 hbase ?_
  intro V' cv' w' g1 g2 g3
  refine h V' cv' w' ?_ (Keeps.of_grown g2) ?_
  · refine OwL.appended h1 h3 (by simp) (fun i hi => ?_) g1 g2 g3
    rw [hgd' i hi]
    exact i4 i hi
  · intro b hb
    rcases g3 with g3 | g3
    · rw [g3] at hb; exact .inl hb
    · rw [g3] at hb
      have : b = w.heap.size := by simpa using hb
      exact .inr (by omega)
end
theorem isR_cell {w : World} {l : List Nat} {B : Nat} {v : Value} {x : List Int} (h : w.cell? ⟨B, 0, none⟩ = some v) (hB : B ∉ l) (hx : IsI w l v x) : IsL IsI [] w l (.slice (some ⟨B, 0, none⟩) 1 1) [x] :=
  ⟨some ⟨B, 0, none⟩, 1, fun _ => v, rfl, Nat.le_refl _, (fun h => by cases h), fun _ => ⟨_, rfl, hB, fun i hi => by
    have e : i = 0 := by simpa using hi
    subst e; simpa [Addr.add] using h⟩, fun i hi => by
    have e : i = 0 := by simpa using hi
    subst e; exact hx⟩

/-- m equations, from the last one on, each one with a sign of its own. -/
structure TR (A : List (List Int)) (b : List Int) (r m : Nat) (T : List (List Int)) (R : List Int) : Prop where
  tl : T.length = m
  rl : R.length = m
  at_ : ∀ j, j < m → ∃ sg : Int, (sg = 1 ∨ sg = -1) ∧ T.getD j [] = (A.getD (r - 1 - j) []).map (sg * ·) ∧ R.getD j 0 = sg * b.getD (r - 1 - j) 0
theorem TR.nil {A : List (List Int)} {b : List Int} {r : Nat} : TR A b r 0 [] [] := ⟨rfl, rfl, fun j hj => absurd hj (by omega)⟩
theorem TR.step {A : List (List Int)} {b : List Int} {r m : Nat} {T : List (List Int)} {R : List Int} (h : TR A b r m T R) {sg : Int} (hs : sg = 1 ∨ sg = -1) : TR A b r (m + 1) (T ++ [(A.getD (r - 1 - m) []).map (sg * ·)]) (R ++ [sg * b.getD (r - 1 - m) 0]) := by
  refine ⟨by rw [List.length_append, h.tl]; rfl, by rw [List.length_append, h.rl]; rfl, fun j hj => ?_⟩
  by_cases e : j < m
  · rw [getD_append_left' _ _ _ (by rw [h.tl]; exact e), getD_append_left' _ _ _ (by rw [h.rl]; exact e)]
    exact h.at_ j e
  · obtain rfl : j = m := by omega
    rw [getD_append_right' _ _ _ (by rw [h.tl]; exact Nat.le_refl _), getD_append_right' _ _ _ (by rw [h.rl]; exact Nat.le_refl _), h.tl, h.rl, Nat.sub_self]
    exact ⟨sg, hs, rfl, rfl⟩
theorem dotP_sign {sg : Int} {a x : List Int} : ∀ {k : Nat}, k ≤ a.length → dotP (a.map (sg * ·)) x k = sg * dotP a x k
  | 0, _ => by simp [dotP]
  | k + 1, hk => by
    simp only [dotP]
    rw [dotP_sign (by omega)]
    have : (a.map (sg * ·)).getD k 0 = sg * a.getD k 0 := by
      simp [List.getD_eq_getElem?_getD, show k < a.length by omega]
    rw [this, Int.mul_add, Int.mul_assoc]
theorem sol_at {A : List (List Int)} {b x : List Int} : solB A b x = true ↔ A.length = b.length ∧ ∀ j, j < A.length → dotL (A.getD j []) x = b.getD j 0 := by
  unfold solB
  rw [decide_eq_true_eq]
  have hat : ∀ j, j < A.length → (appL A x).getD j 0 = dotL (A.getD j []) x := fun j hj => by
    simp [appL, List.getD_eq_getElem?_getD, hj]
  constructor
  · rintro rfl
    exact ⟨by simp [appL], fun j hj => (hat j hj).symm⟩
  · rintro ⟨h1, h2⟩
    refine eq_of_getD (by simp [appL, h1]) fun j hj => ?_
    have hj' : j < A.length := by simpa [appL] using hj
    rw [hat j hj', h2 j hj']
theorem TR.sol {A : List (List Int)} {b : List Int} {r : Nat} {T : List (List Int)} {R : List Int} (h : TR A b r r T R) (hA : A.length = r) (hb : b.length = r) : solB T R = solB A b := by
  funext x
  rw [Bool.eq_iff_iff, sol_at, sol_at, h.tl, h.rl, hA, hb]
  have key : ∀ j, j < r → (dotL (T.getD j []) x = R.getD j 0 ↔ dotL (A.getD (r - 1 - j) []) x = b.getD (r - 1 - j) 0) := fun j hj => by
    obtain ⟨sg, hs, h1, h2⟩ := h.at_ j hj
    rw [h1, h2]
    unfold dotL
    rw [List.length_map, dotP_sign (Nat.le_refl _)]
    rcases hs with rfl | rfl <;> omega
  constructor
  · rintro ⟨_, h2⟩
    refine ⟨rfl, fun j hj => ?_⟩
    have := (key (r - 1 - j) (by omega)).1 (h2 _ (by omega))
    rw [show r - 1 - (r - 1 - j) = j by omega] at this
    exact this
  · rintro ⟨_, h2⟩
    exact ⟨rfl, fun j hj => (key j hj).2 (h2 _ (by omega))⟩
theorem TR.zeros {A : List (List Int)} {b : List Int} {r : Nat} {T : List (List Int)} {R : List Int} (h : TR A b r r T R) : TR A (List.replicate r 0) r r T (List.replicate r 0) := by
  refine ⟨h.tl, by simp, fun j hj => ?_⟩
  obtain ⟨sg, hs, h1, h2⟩ := h.at_ j hj
  have e : ∀ i, (List.replicate r (0 : Int)).getD i 0 = 0 := fun i => by
    by_cases hi : i < r <;> simp [List.getD_eq_getElem?_getD, hi]
  exact ⟨sg, hs, h1, by rw [e, e]; omega⟩
theorem sg_rng {sg x M : Int} (hs : sg = 1 ∨ sg = -1) (h : -M ≤ x ∧ x ≤ M) : -M ≤ sg * x ∧ sg * x ≤ M := by
  rcases hs with rfl | rfl <;> omega
theorem TR.sys {A : List (List Int)} {b : List Int} {r n : Nat} {T : List (List Int)} {R : List Int} (h : TR A b r r T R) (hS : Sys A r n) : Sys T r n := by
  have key : ∀ x ∈ T, x.length = n ∧ ∀ y ∈ x, -16 ≤ y ∧ y ≤ 16 := fun x hx => by
    obtain ⟨j, hj, rfl⟩ := mem_getD (d := []) hx
    obtain ⟨sg, hs, h1, _⟩ := h.at_ j (by rw [← h.tl]; exact hj)
    have hr := hS.mat.r1
    have h2 := hS.mat.row (k := r - 1 - j) (by omega)
    rw [h1]
    refine ⟨by rw [List.length_map]; exact h2.1, fun y hy => ?_⟩
    obtain ⟨z, hz, rfl⟩ := List.mem_map.1 hy
    exact sg_rng hs (h2.2 z hz)
  exact ⟨⟨h.tl, hS.mat.r1, hS.mat.c1, hS.mat.few, fun x hx => (key x hx).1, fun x hx => (key x hx).2⟩, hS.r6, hS.n6⟩
theorem TR.rng {A : List (List Int)} {b : List Int} {r : Nat} {T : List (List Int)} {R : List Int} (h : TR A b r r T R) (hb : ∀ i, i < r → 0 ≤ b.getD i 0 ∧ b.getD i 0 ≤ 3) : rngB R = true := by
  unfold rngB
  rw [List.all_eq_true]
  intro y hy
  obtain ⟨j, hj, rfl⟩ := mem_getD (d := 0) hy
  rw [h.rl] at hj
  obtain ⟨sg, hs, _, h1⟩ := h.at_ j hj
  rw [h1]
  have h2 := hb (r - 1 - j) (by omega)
  have := sg_rng (M := 3) hs ⟨by omega, h2.2⟩
  exact decide_eq_true (by omega)
theorem MinQ.uniq {P : List Int → Bool} {k lo hi : Nat} {a b : List (List Int)} (ha : MinQ P k lo hi a) (hb : MinQ P k lo hi b) : a = b := asc_ext ha.1 hb.1 fun x => (ha.2 x).trans (hb.2 x).symm

set_option maxRecDepth 100000 in
set_option maxHeartbeats 8000000 in
theorem signs_law (w : World) (len cap : Nat) (A0 : Option Addr) (l : Nat → Int) (hR : Rd w w.heap.size A0 len (fun i => .int .i64 (l i))) :
    Calls Try.prog 7 #[.slice A0 len cap] w fun e w' => e = .returned (.bool true) ∧ Below w.heap.size w w' := by
  have HR := Lib.hid hR
  clear hR
  by_cases hlen : len ≤ 400
  · have hd : decide ((len : Int) ≤ 400) = true := by simp; omega
    go_enter Try.func7, Try.ntmps7
    go_wp2_with fail
    refine (awake_any w).mono ?_
    rintro e w1 ⟨rfl, hb1⟩
    have hz1 := hb1.size
    go_wp2_with fail
    refine (few_any w1 A0 len cap).mono ?_
    rintro e w' ⟨rfl, rfl⟩
    rw [hd]
    go_wp2_with fail
    refine (new_any w1 w.heap.size A0 len cap l (HR.out.below hb1) hlen hz1).mono ?_
    rintro e w2 ⟨rfl, hD2, hb2⟩
    have hz2 := hb2.size
    have hbl2 := hD2.lt
    have hB2 := hb1.trans (hb2.mono hz1)
    have HD2 := Lib.hid hD2
    have HB2 := Lib.hid hB2
    clear hD2 hB2
    clear hb1 hb2
    generalize w1.heap.size = b at *
    go_wp2_with fail
    refine (next_any w2 b w.heap.size 3 HD2.out (by omega)).mono ?_
    rintro e w3 ⟨r0, rfl, _, hr0, hD3, hK3⟩
    have hr0 := hr0 (by omega)
    have hz3 := hK3.size
    haveI kb3 : KB [b] w3 w2 := ⟨hK3⟩
    have HD3 := Lib.hid hD3
    clear hD3
    clear hK3
    go_wp2_with fail
    obtain ⟨r, hr⟩ : ∃ r : Nat, r = r0 + 1 := ⟨_, rfl⟩
    rw [show (1 : Int) + (r0 : Int) = (r : Int) by omega]
    have hr1 : 1 ≤ r := by omega
    have hr3 : r ≤ 3 := by omega
    clear hr
    refine (next_any w3 b w.heap.size 4 HD3.out (by omega)).mono ?_
    rintro e w4 ⟨c0, rfl, _, hc0, hD4, hK4⟩
    have hc0 := hc0 (by omega)
    have hz4 := hK4.size
    haveI kb4 : KB [b] w4 w3 := ⟨hK4⟩
    have HD4 := Lib.hid hD4
    clear hD4
    clear hK4
    go_wp2_with fail
    obtain ⟨c, hc⟩ : ∃ c : Nat, c = c0 + 1 := ⟨_, rfl⟩
    rw [show (1 : Int) + (c0 : Int) = (c : Int) by omega]
    have hc1 : 1 ≤ c := by omega
    have hc4 : c ≤ 4 := by omega
    clear hc
    refine (matrix_any w4 b w.heap.size r c HD4.out (by omega) (by omega)).mono ?_
    rintro e w5 ⟨V, cV, A, rfl, hAl, hAp, hAI, hD5, hK5⟩
    have hM : Mat A r c := ⟨hAl, by omega, by omega, .inl (by omega), fun x hx => (hAp x hx).1, fun x hx => (hAp x hx).2⟩
    have hS : Sys A r c := ⟨hM, by omega, by omega⟩
    have hz5 := hK5.size
    haveI kb5 : KB [b] w5 w4 := ⟨hK5⟩
    have HD5 := Lib.hid hD5
    have HM := Lib.hid hM
    have HS := Lib.hid hS
    have HAI := Lib.hid hAI
    have HAL := Lib.hid hAl
    have HAP := Lib.hid hAp
    clear hD5 hM hS hAI hAl hAp
    clear hK5
    go_wp2_with fail
    refine (small_any w5 b w.heap.size r 3 HD5.out (by omega) (by omega)).mono ?_
    rintro e w6 ⟨Bb, cb, bb, rfl, hbl, hbr, hown, hD6, hK6⟩
    have hz6 := hK6.size
    have hbI : IsI w6 [b] (.slice Bb r cb) bb := (isN_own (l := [b]) rfl (by rw [hbl]; exact hown)).isL (fun y hy => by rw [List.mem_singleton.1 hy]; omega)
    haveI kb6 : KB [b] w6 w5 := ⟨hK6⟩
    have hA6 : IsII w6 [b] (.slice V r cV) A := HAI.out.now
    have hK6w : Keeps [b] w2 w6 := kf [b] _ _
    have hbr2 : ∀ i, i < r → 0 ≤ bb.getD i 0 ∧ bb.getD i 0 ≤ 3 := fun i hi => by have := hbr _ (getD_mem (d := 0) (show i < bb.length by omega)); omega
    have hbw6 : b < w6.heap.size := by omega
    have HBI := Lib.hid hbI
    have HA6 := Lib.hid hA6
    have HK6W := Lib.hid hK6w
    have HBR2 := Lib.hid hbr2
    have HD6 := Lib.hid hD6
    have HBL := Lib.hid hbl
    have HBR := Lib.hid hbr
    clear hbI hA6 hK6w hbr2 hD6 hbl hbr
    clear hown hK6
    go_wp2_with fail
    go_loopg [7, 8, 9] (r + 2) (fun gh tv rv iv wr => ∃ (m : Nat) (P1 : Option Addr) (k1 : Nat) (P2 : Option Addr) (k2 : Nat) (TT : List (List Int)) (RR : List Int), r + 2 ≤ m + gh ∧ m ≤ r ∧ iv = .int .i64 ((r : Int) - 1 - (m : Int)) ∧ tv = .slice P1 m k1 ∧ rv = .slice P2 m k2 ∧ TR A bb r m TT RR ∧
      OwL IsI [] 22 w6.heap.size wr ((Value.slice P2 m k2).ownBlock.toList ++ [b]) (.slice P1 m k1) TT ∧ OwL IsN 0 3 w6.heap.size wr [b] (.slice P2 m k2) RR ∧ (∀ y ∈ (Value.slice P1 m k1).ownBlock.toList, y ∉ (Value.slice P2 m k2).ownBlock.toList) ∧ Deck wr b w.heap.size ∧ Keeps [b] w6 wr)
    case atStart => exact ⟨0, none, 0, none, 0, [], [], by omega, by omega, by congr 1; omega, rfl, rfl, TR.nil, OwL.nil, OwL.nil, by simp [Value.ownBlock], HD6.out, Keeps.refl _ _⟩
    case round =>
      obtain ⟨m, P1, k1, P2, k2, TT, RR, hgh, hmr, rfl, rfl, rfl, hTR, hO1, hO2, hdj, hDr, hkr⟩ := hrel
      have hzr := hkr.size
      by_cases hlt : m < r
      · obtain ⟨i, hi⟩ : ∃ i : Nat, r = i + m + 1 := ⟨r - 1 - m, by omega⟩
        have hir : r - 1 - m = i := by omega
        have hiv : (r : Int) - 1 - (m : Int) = (i : Int) := by omega
        rw [hiv]
        have hge : decide ((i : Int) ≥ 0) = true := decide_eq_true (by omega)
        have hge2 : decide (0 ≤ (i : Int)) = true := decide_eq_true (by omega)
        have hilt : i < r := by omega
        generalize wr = wo at *
        have HTR := Lib.hid hTR
        have HO1 := Lib.hid hO1
        have HO2 := Lib.hid hO2
        have HDJ := Lib.hid hdj
        have HDR := Lib.hid hDr
        have HKR := Lib.hid hkr
        have HI := Lib.hid hi
        have HIR := Lib.hid hir
        have HIV := Lib.hid hiv
        clear hTR hO1 hO2 hdj hDr hkr hi hir hiv
        go_wp2_with fail
        refine (next_any wo b w.heap.size 2 HDR.out (by omega)).mono ?_
        rintro e w7 ⟨x0, rfl, _, hx0, hD7, hK7⟩
        have hx0 := hx0 (by omega)
        have hz7 := hK7.size
        have hsg : (1 : Int) - 2 * (x0 : Int) = 1 ∨ (1 : Int) - 2 * (x0 : Int) = -1 := by omega
        have hk7 := HKR.out.trans hK7
        obtain ⟨Vr, cr', er, hrow⟩ := (Rok.keeps HA6.out hk7 : IsII w7 [b] (.slice V r cV) A).mrow
        have hmr2 := HM.out.rows
        rw [hmr2] at er hrow
        obtain ⟨rfl, rfl⟩ : V = Vr ∧ cV = cr' := by injection er with e1 _ e2; exact ⟨e1, e2⟩
        obtain ⟨pa, Bk, ck, rfl, hpa, hIk⟩ := hrow i hilt
        obtain ⟨hl1, hl2⟩ := HM.out.row hilt
        have hTs := HTR.out.step hsg
        rw [HIR.out] at hTs
        generalize hx : A.getD i [] = x at *
        rw [hl1] at hpa hIk
        obtain ⟨Bk', ck', ek, _, _, hck⟩ := hIk.open
        rw [hl1] at ek hck
        obtain ⟨rfl, rfl⟩ : Bk = Bk' ∧ ck = ck' := by injection ek with e1 _ e2; exact ⟨e1, e2⟩
        have hxe : ∀ j, j < c → -16 ≤ x.getD j 0 ∧ x.getD j 0 ≤ 16 := fun j hj => hl2 _ (getD_mem (by omega))
        have hxt : ∀ j, j < c → x.take (j + 1) = x.take j ++ [x.getD j 0] := fun j hj => by
          rw [List.take_succ_eq_append_getElem (by omega)]
          simp [List.getD_eq_getElem?_getD, show j < x.length by omega]
        have hxc : x.take c = x := List.take_of_length_le (by omega)
        have hO17 := HO1.out.keeps hK7 (fun y hy => ⟨.inl (List.mem_append.2 (.inr hy)), fun e => by have := (HO1.out.lt e).1; have := List.mem_singleton.1 hy; omega⟩)
        have hO27 := HO2.out.keep hK7 (fun y hy => by rw [List.mem_singleton.1 hy]; omega)
        have HD7 := Lib.hid hD7
        have HK7 := Lib.hid hk7
        have HROW := Lib.hid hrow
        have HIK := Lib.hid hIk
        have HCK := Lib.hid hck
        have HXE := Lib.hid hxe
        have HXT := Lib.hid hxt
        have HXC := Lib.hid hxc
        have HTS := Lib.hid hTs
        have HL1 := Lib.hid hl1
        have HL2 := Lib.hid hl2
        have HO17 := Lib.hid hO17
        have HO27 := Lib.hid hO27
        have HMR2 := Lib.hid hmr2
        have HX := Lib.hid hx
        clear hD7 hk7 hrow hIk hck hxe hxt hxc hTs hl1 hl2 hO17 hO27 hmr2 hx
        clear hK7 er ek
        go_wp2_with fail
        generalize (1 : Int) - 2 * (x0 : Int) = sg at *
        go_loopg [11, 59] (c + 1) (fun gh2 rv jv wr => ∃ (j : Nat) (A2 : Option Addr) (c2 : Nat), c + 1 ≤ j + gh2 ∧ j ≤ c ∧ jv = .int .i64 (j : Int) ∧ rv = .slice A2 j c2 ∧ ((x.take j).map (sg * ·)).length = j ∧ OwL IsN 0 3 w7.heap.size wr [] (.slice A2 j c2) ((x.take j).map (sg * ·)) ∧ Keeps [] w7 wr)
        case atStart => exact ⟨0, none, 0, by omega, by omega, rfl, rfl, by simp, OwL.nil, Keeps.refl _ _⟩
        case round =>
          obtain ⟨j, A2, c2, hgh2, hj, rfl, rfl, hrl, hOr, hkr2⟩ := hrel
          have hzr2 := hkr2.size
          by_cases hlt2 : j < c
          · obtain ⟨pb, rfl, hpb⟩ := (HCK.out.keeps (hkr2.nil _)).at_ hlt2
            have hy := HXE.out j hlt2
            have hsy := sg_rng (M := 16) hsg hy
            have hxt := HXT.out j hlt2
            have hrl2 : ((x.take (j + 1)).map (sg * ·)).length = j + 1 := by rw [hxt, List.map_append, List.length_append, hrl]; rfl
            have hrt : (x.take (j + 1)).map (sg * ·) = (x.take j).map (sg * ·) ++ [sg * x.getD j 0] := by rw [hxt, List.map_append]; rfl
            generalize x.getD j 0 = y at *
            have hw : IntKind.i64.wrap (sg * y) = sg * y := IntWalk.i64_in _ (by omega)
            have HRL := Lib.hid hrl
            have HOR := Lib.hid hOr
            have HKR2 := Lib.hid hkr2
            have HXT := Lib.hid hxt
            have HRL2 := Lib.hid hrl2
            have HRT := Lib.hid hrt
            have HY := Lib.hid hy
            have HSY := Lib.hid hsy
            clear hrl hOr hkr2 hxt hrl2 hrt hy hsy
            go_wp2_with (at_builtin; refine wpList_pushg sl_int rfl _ _ rfl (w := wr) (u := .int .i64 (sg * y)) (y := sg * y) rfl rfl HOR.out rfl (m := j + 1) (by rw [HRL.out]) (by omega) hzr2 ?_; intro V' c' w9 hown hg9 hb9)
            have hkk := HKR2.out.step hg9 (fun y hy => .inr (HOR.out.blocks y hy).1)
            go_roundg (c - j)
            case measure => omega
            case rel => exact ⟨j + 1, V', c', by omega, by omega, by go_num, rfl, HRL2.out, by rw [HRT.out]; exact hown, hkk⟩
          · obtain rfl : j = c := by omega
            rw [HXC.out] at hOr hrl
            generalize hrow2 : x.map (sg * ·) = row at *
            generalize wr = w8 at *
            have hz8 : w6.heap.size ≤ w8.heap.size := by omega
            have hO1 := HO17.out.new hkr2
            have hO2 := HO27.out.new hkr2
            have hob1 : ∀ y ∈ (Value.slice P1 m k1).ownBlock.toList, w6.heap.size ≤ y ∧ y < w7.heap.size := fun y hy => HO17.out.blocks y hy
            have hob2 : ∀ y ∈ (Value.slice P2 m k2).ownBlock.toList, w6.heap.size ≤ y ∧ y < w7.heap.size := fun y hy => HO27.out.blocks y hy
            have hb78 : b < w7.heap.size := by omega
            have hnb7 : ∀ y ∈ (Value.slice P1 m k1).ownBlock.toList ++ ((Value.slice P2 m k2).ownBlock.toList ++ [b]), y < w7.heap.size := fun y hy => by
              rcases List.mem_append.1 hy with h | h
              · exact (hob1 y h).2
              rcases List.mem_append.1 h with h | h
              · exact (hob2 y h).2
              · rw [List.mem_singleton.1 h]; exact hb78
            have hnb : ∀ y ∈ (Value.slice P1 m k1).ownBlock.toList ++ ((Value.slice P2 m k2).ownBlock.toList ++ [b]), y < w8.heap.size := fun y hy => Nat.lt_of_lt_of_le (hnb7 y hy) hzr2
            have hrowI : ∀ W, Keeps [] w8 W → IsI W ((Value.slice P1 m k1).ownBlock.toList ++ ((Value.slice P2 m k2).ownBlock.toList ++ [b])) (.slice A2 j c2) row := fun W k => IsI.new ((hOr.anyN (l' := (Value.slice P1 m k1).ownBlock.toList ++ ((Value.slice P2 m k2).ownBlock.toList ++ [b]))).isL hnb7) k
            have hob1' : ∀ y ∈ (Value.slice P1 m k1).ownBlock.toList, w6.heap.size ≤ y ∧ y < w8.heap.size := fun y hy => ⟨(hob1 y hy).1, Nat.lt_of_lt_of_le (hob1 y hy).2 hzr2⟩
            have hob2' : ∀ y ∈ (Value.slice P2 m k2).ownBlock.toList, w6.heap.size ≤ y ∧ y < w8.heap.size := fun y hy => ⟨(hob2 y hy).1, Nat.lt_of_lt_of_le (hob2 y hy).2 hzr2⟩
            obtain ⟨Bb', cb', eb, _, _, hcb0⟩ := HBI.out.open
            rw [HBL.out] at eb hcb0
            obtain ⟨rfl, rfl⟩ : Bb = Bb' ∧ cb = cb' := by injection eb with e1 _ e2; exact ⟨e1, e2⟩
            have hk68 := HK7.out.trans (hkr2.nil [b])
            obtain ⟨pb, epb, hb0, hcb1⟩ := hcb0 (by omega)
            subst epb
            have hpbl : pb.block < w6.heap.size := by have := lt_of_cell (hcb1 i hilt); rw [block_of_add] at this; exact this
            have hbi : w8.cell? (pb.add i) = some (.int .i64 (bb.getD i 0)) := hk68.read (hcb1 i hilt) (by rw [block_of_add]; exact hb0)
            have hpb : (pb.add i).block ∉ ((Value.slice P1 m k1).ownBlock.toList ++ (Value.slice P2 m k2).ownBlock.toList) := fun hm => by
              rw [block_of_add] at hm
              rcases List.mem_append.1 hm with h | h
              · have := (hob1 _ h).1; omega
              · have := (hob2 _ h).1; omega
            have hy2 := HBR2.out i hilt
            have hs2 := sg_rng (M := 3) hsg ⟨by omega, hy2.2⟩
            generalize bb.getD i 0 = y2 at *
            have hw2 : IntKind.i64.wrap (sg * y2) = sg * y2 := IntWalk.i64_in _ (by omega)
            have hii : (i : Int) < (r : Int) := by omega
            have HOB1 := Lib.hid hob1'
            have HOB2 := Lib.hid hob2'
            clear HO1 HO2
            have HO1 := Lib.hid hO1
            have HO2 := Lib.hid hO2
            have HNB := Lib.hid hnb
            have HNB7 := Lib.hid hnb7
            have HROWI := Lib.hid hrowI
            have HK68 := Lib.hid hk68
            have HKR2 := Lib.hid hkr2
            have HOR := Lib.hid hOr
            have HRL := Lib.hid hrl
            have HPB := Lib.hid hpb
            have HY2 := Lib.hid hy2
            have HS2 := Lib.hid hs2
            have HROW2 := Lib.hid hrow2
            clear hO1 hO2 hnb hnb7 hrowI hk68 hkr2 hOr hrl hpb hy2 hs2 hrow2
            clear hob1 hob2 hob1' hob2' eb hcb0 hcb1 hb0 hpbl
            go_upto_region 18 with fail
            go_region_held3 (fun W => W.cell? (pb.add i) = some (.int .i64 y2)) (exact cell_now (a := w8) ((Value.slice P1 m k1).ownBlock.toList ++ (Value.slice P2 m k2).ownBlock.toList) hbi HPB.out) (first
              | (have _t := hcb; refine step_joing sl_int rfl (.tmp 74) (.tmp 81) rfl (l := [b]) (base := w6.heap.size) (v := .slice P2 m k2) (u := .slice (some ⟨w8.heap.size + 1, 0, none⟩) 1 1) (ys := [sg * y2]) (by first | (simp [Act.eval]; done) | (simp only [Act.eval, Act.put]; simp; done) | simp [Act.eval, Act.put]) (by first | (simp [Act.eval]; done) | (simp only [Act.eval, Act.put]; simp; done) | simp [Act.eval, Act.put]) (h14A.new (kf [] wA _)) (isN_cell hcb (fun hm => by rcases List.mem_append.1 hm with h | h; exact absurd (HOB2.out _ h).2 (by omega); exact absurd (List.mem_singleton.1 h) (by omega))) (m := m + 1) (by rw [HTR.out.rl]; rfl) (by omega) (Nat.le_trans (Nat.le_trans hz8 hzA) (kf [] wA _).size) ?_; intro V2 q2 wB hown2 hg2 hnew2; haveI kbB : KB ((Value.slice P1 m k1).ownBlock.toList ++ (Value.slice P2 m k2).ownBlock.toList) wB _ := ⟨hg2.more (fun y hy => List.mem_append.2 (.inr hy))⟩; have h13B : OwL IsI [] 22 w6.heap.size wB ((Value.slice V2 (m + 1) q2).ownBlock.toList ++ [b]) (.slice V1 (m + 1) q1) (TT ++ [row]) := ((OwL.weak (l' := (Value.slice V2 (m + 1) q2).ownBlock.toList ++ ((Value.slice P2 m k2).ownBlock.toList ++ [b])) (hown1.new (kf [] wA _)) (fun y hy => (List.mem_append.1 hy).elim (fun h => (hnew2 y h).imp (fun h => List.mem_append.2 (.inl h)) id) .inl)).keeps hg2 (fun y hy => ⟨.inl (List.mem_append.2 (.inr (List.mem_append.2 (.inl hy)))), fun e => by rcases hnew1 y (by rw [e]; simp) with h | h; exact HDJ.out y h hy; exact absurd (HOB2.out _ hy).2 (by omega)⟩)).weak (fun y hy => .inl ((List.mem_append.1 hy).elim (fun h => List.mem_append.2 (.inl h)) (fun h => List.mem_append.2 (.inr (List.mem_append.2 (.inr h)))))); have hnew2 : ∀ y ∈ (Value.slice V2 (m + 1) q2).ownBlock.toList, y ∈ (Value.slice P2 m k2).ownBlock.toList ∨ wA.heap.size ≤ y := (fun y hy => (hnew2 y hy).imp id (fun h => Nat.le_trans (kf [] wA _).size h)))
              | (have _t := hcc; refine step_joing sl_int rfl (.tmp 74) (.tmp 81) rfl (l := [b]) (base := w6.heap.size) (v := .slice P2 m k2) (u := .slice (some ⟨w8.heap.size, 0, none⟩) 1 1) (ys := [sg * y2]) (by first | (simp [Act.eval]; done) | (simp only [Act.eval, Act.put]; simp; done) | simp [Act.eval, Act.put]) (by first | (simp [Act.eval]; done) | (simp only [Act.eval, Act.put]; simp; done) | simp [Act.eval, Act.put]) (h14A.new (kf [] wA _)) (isN_cell hcc (fun hm => by rcases List.mem_append.1 hm with h | h; exact absurd (HOB2.out _ h).2 (by omega); exact absurd (List.mem_singleton.1 h) (by omega))) (m := m + 1) (by rw [HTR.out.rl]; rfl) (by omega) (Nat.le_trans (Nat.le_trans hz8 hzA) (kf [] wA _).size) ?_; intro V2 q2 wB hown2 hg2 hnew2; haveI kbB : KB ((Value.slice P1 m k1).ownBlock.toList ++ (Value.slice P2 m k2).ownBlock.toList) wB _ := ⟨hg2.more (fun y hy => List.mem_append.2 (.inr hy))⟩; have h13B : OwL IsI [] 22 w6.heap.size wB ((Value.slice V2 (m + 1) q2).ownBlock.toList ++ [b]) (.slice V1 (m + 1) q1) (TT ++ [row]) := ((OwL.weak (l' := (Value.slice V2 (m + 1) q2).ownBlock.toList ++ ((Value.slice P2 m k2).ownBlock.toList ++ [b])) (hown1.new (kf [] wA _)) (fun y hy => (List.mem_append.1 hy).elim (fun h => (hnew2 y h).imp (fun h => List.mem_append.2 (.inl h)) id) .inl)).keeps hg2 (fun y hy => ⟨.inl (List.mem_append.2 (.inr (List.mem_append.2 (.inl hy)))), fun e => by rcases hnew1 y (by rw [e]; simp) with h | h; exact HDJ.out y h hy; exact absurd (HOB2.out _ hy).2 (by omega)⟩)).weak (fun y hy => .inl ((List.mem_append.1 hy).elim (fun h => List.mem_append.2 (.inl h)) (fun h => List.mem_append.2 (.inr (List.mem_append.2 (.inr h)))))); have hnew2 : ∀ y ∈ (Value.slice V2 (m + 1) q2).ownBlock.toList, y ∈ (Value.slice P2 m k2).ownBlock.toList ∨ wA.heap.size ≤ y := (fun y hy => (hnew2 y hy).imp id (fun h => Nat.le_trans (kf [] wA _).size h)))
              | (have _t := hown1; refine step_joing sl_int rfl (.tmp 74) (.tmp 81) rfl (l := [b]) (base := w6.heap.size) (v := .slice P2 m k2) (u := .slice (some ⟨wA.heap.size, 0, none⟩) 1 1) (ys := [sg * y2]) (by first | (simp [Act.eval]; done) | (simp only [Act.eval, Act.put]; simp; done) | simp [Act.eval, Act.put]) (by first | (simp [Act.eval]; done) | (simp only [Act.eval, Act.put]; simp; done) | simp [Act.eval, Act.put]) (h14A.new (kf [] wA _)) (isN_cell (World.cell?_alloc_new _ _ _ _) (fun hm => by rcases List.mem_append.1 hm with h | h; exact absurd (HOB2.out _ h).2 (by omega); exact absurd (List.mem_singleton.1 h) (by omega))) (m := m + 1) (by rw [HTR.out.rl]; rfl) (by omega) (Nat.le_trans (Nat.le_trans hz8 hzA) (kf [] wA _).size) ?_; intro V2 q2 wB hown2 hg2 hnew2; haveI kbB : KB ((Value.slice P1 m k1).ownBlock.toList ++ (Value.slice P2 m k2).ownBlock.toList) wB _ := ⟨hg2.more (fun y hy => List.mem_append.2 (.inr hy))⟩; have h13B : OwL IsI [] 22 w6.heap.size wB ((Value.slice V2 (m + 1) q2).ownBlock.toList ++ [b]) (.slice V1 (m + 1) q1) (TT ++ [row]) := ((OwL.weak (l' := (Value.slice V2 (m + 1) q2).ownBlock.toList ++ ((Value.slice P2 m k2).ownBlock.toList ++ [b])) (hown1.new (kf [] wA _)) (fun y hy => (List.mem_append.1 hy).elim (fun h => (hnew2 y h).imp (fun h => List.mem_append.2 (.inl h)) id) .inl)).keeps hg2 (fun y hy => ⟨.inl (List.mem_append.2 (.inr (List.mem_append.2 (.inl hy)))), fun e => by rcases hnew1 y (by rw [e]; simp) with h | h; exact HDJ.out y h hy; exact absurd (HOB2.out _ hy).2 (by omega)⟩)).weak (fun y hy => .inl ((List.mem_append.1 hy).elim (fun h => List.mem_append.2 (.inl h)) (fun h => List.mem_append.2 (.inr (List.mem_append.2 (.inr h)))))); have hnew2 : ∀ y ∈ (Value.slice V2 (m + 1) q2).ownBlock.toList, y ∈ (Value.slice P2 m k2).ownBlock.toList ∨ wA.heap.size ≤ y := (fun y hy => (hnew2 y hy).imp id (fun h => Nat.le_trans (kf [] wA _).size h)))
              | ((with_reducible show (if _ then Oper.wp _ _ _ ((World.alloc w8 _).drew) _ _ else _)); refine step_joing sl_rowsi rfl (.tmp 70) (.tmp 72) rfl (l := ((Value.slice P2 m k2).ownBlock.toList ++ [b])) (base := w6.heap.size) (v := .slice P1 m k1) (u := .slice (some ⟨w8.heap.size, 0, none⟩) 1 1) (ys := [row]) (by first | (simp [Act.eval]; done) | (simp only [Act.eval, Act.put]; simp; done) | simp [Act.eval, Act.put]) (by first | (simp [Act.eval]; done) | (simp only [Act.eval, Act.put]; simp; done) | simp [Act.eval, Act.put]) (HO1.out.new (kf [] w8 _)) (isR_cell (World.cell?_alloc_new _ _ _ _) (fun hm => by have := HNB.out _ hm; omega) (HROWI.out _ (kf [] w8 _))) (m := m + 1) (by rw [HTR.out.tl]; rfl) (by omega) (Nat.le_trans hz8 (kf [] w8 _).size) ?_; intro V1 q1 wA hown1 hg1 hnew1; haveI kbA : KB ((Value.slice P1 m k1).ownBlock.toList ++ (Value.slice P2 m k2).ownBlock.toList) wA _ := ⟨hg1.more (fun y hy => List.mem_append.2 (.inl hy))⟩; have hzA : w8.heap.size ≤ wA.heap.size := (kf ((Value.slice P1 m k1).ownBlock.toList ++ (Value.slice P2 m k2).ownBlock.toList) w8 wA).size; have hnew1 : ∀ y ∈ (Value.slice V1 (m + 1) q1).ownBlock.toList, y ∈ (Value.slice P1 m k1).ownBlock.toList ∨ w8.heap.size ≤ y := (fun y hy => (hnew1 y hy).imp id (fun h => Nat.le_trans (kf [] w8 _).size h)); have h14A : OwL IsN 0 3 w6.heap.size wA [b] (.slice P2 m k2) RR := (((HO2.out.new (kf [] w8 _)).anyN (l' := (Value.slice P1 m k1).ownBlock.toList ++ [b])).keeps hg1 (fun y hy => ⟨.inl (List.mem_append.2 (.inl hy)), fun e => HDJ.out y hy (by rw [e]; simp)⟩)).anyN)
              | ((with_reducible show (if _ then Oper.wp _ _ _ ((World.alloc (World.alloc w8 (.cells #[.slice A2 j c2] 22)) _).drew) _ _ else _)); refine step_joing sl_rowsi rfl (.tmp 70) (.tmp 72) rfl (l := ((Value.slice P2 m k2).ownBlock.toList ++ [b])) (base := w6.heap.size) (v := .slice P1 m k1) (u := .slice (some ⟨w8.heap.size, 0, none⟩) 1 1) (ys := [row]) (by first | (simp [Act.eval]; done) | (simp only [Act.eval, Act.put]; simp; done) | simp [Act.eval, Act.put]) (by first | (simp [Act.eval]; done) | (simp only [Act.eval, Act.put]; simp; done) | simp [Act.eval, Act.put]) (HO1.out.new (kf [] w8 _)) (isR_cell ((World.cell?_alloc_old _ _ _ (by simp)).trans (World.cell?_alloc_new _ _ _ _)) (fun hm => by have := HNB.out _ hm; omega) (HROWI.out _ (kf [] w8 _))) (m := m + 1) (by rw [HTR.out.tl]; rfl) (by omega) (Nat.le_trans hz8 (kf [] w8 _).size) ?_; intro V1 q1 wA hown1 hg1 hnew1; haveI kbA : KB ((Value.slice P1 m k1).ownBlock.toList ++ (Value.slice P2 m k2).ownBlock.toList) wA _ := ⟨hg1.more (fun y hy => List.mem_append.2 (.inl hy))⟩; have hzA : w8.heap.size ≤ wA.heap.size := (kf ((Value.slice P1 m k1).ownBlock.toList ++ (Value.slice P2 m k2).ownBlock.toList) w8 wA).size; have hnew1 : ∀ y ∈ (Value.slice V1 (m + 1) q1).ownBlock.toList, y ∈ (Value.slice P1 m k1).ownBlock.toList ∨ w8.heap.size ≤ y := (fun y hy => (hnew1 y hy).imp id (fun h => Nat.le_trans (kf [] w8 _).size h)); have h14A : OwL IsN 0 3 w6.heap.size wA [b] (.slice P2 m k2) RR := (((HO2.out.new (kf [] w8 _)).anyN (l' := (Value.slice P1 m k1).ownBlock.toList ++ [b])).keeps hg1 (fun y hy => ⟨.inl (List.mem_append.2 (.inl hy)), fun e => HDJ.out y hy (by rw [e]; simp)⟩)).anyN; have hcb : wA.cell? ⟨w8.heap.size + 1, 0, none⟩ = some (.int .i64 (sg * y2)) := hg1.read (by simp) (fun hm => absurd (HOB1.out _ hm).2 (by simp)))
              | ((with_reducible show (if _ then Oper.wp _ _ _ ((World.alloc (World.alloc w8 (.cells #[.int .i64 (sg * y2)] 3)) _).drew) _ _ else _)); refine step_joing sl_rowsi rfl (.tmp 70) (.tmp 72) rfl (l := ((Value.slice P2 m k2).ownBlock.toList ++ [b])) (base := w6.heap.size) (v := .slice P1 m k1) (u := .slice (some ⟨w8.heap.size + 1, 0, none⟩) 1 1) (ys := [row]) (by first | (simp [Act.eval]; done) | (simp only [Act.eval, Act.put]; simp; done) | simp [Act.eval, Act.put]) (by first | (simp [Act.eval]; done) | (simp only [Act.eval, Act.put]; simp; done) | simp [Act.eval, Act.put]) (HO1.out.new (kf [] w8 _)) (isR_cell (by simp) (fun hm => by have := HNB.out _ hm; omega) (HROWI.out _ (kf [] w8 _))) (m := m + 1) (by rw [HTR.out.tl]; rfl) (by omega) (Nat.le_trans hz8 (kf [] w8 _).size) ?_; intro V1 q1 wA hown1 hg1 hnew1; haveI kbA : KB ((Value.slice P1 m k1).ownBlock.toList ++ (Value.slice P2 m k2).ownBlock.toList) wA _ := ⟨hg1.more (fun y hy => List.mem_append.2 (.inl hy))⟩; have hzA : w8.heap.size ≤ wA.heap.size := (kf ((Value.slice P1 m k1).ownBlock.toList ++ (Value.slice P2 m k2).ownBlock.toList) w8 wA).size; have hnew1 : ∀ y ∈ (Value.slice V1 (m + 1) q1).ownBlock.toList, y ∈ (Value.slice P1 m k1).ownBlock.toList ∨ w8.heap.size ≤ y := (fun y hy => (hnew1 y hy).imp id (fun h => Nat.le_trans (kf [] w8 _).size h)); have h14A : OwL IsN 0 3 w6.heap.size wA [b] (.slice P2 m k2) RR := (((HO2.out.new (kf [] w8 _)).anyN (l' := (Value.slice P1 m k1).ownBlock.toList ++ [b])).keeps hg1 (fun y hy => ⟨.inl (List.mem_append.2 (.inl hy)), fun e => HDJ.out y hy (by rw [e]; simp)⟩)).anyN; have hcc : wA.cell? ⟨w8.heap.size, 0, none⟩ = some (.int .i64 (sg * y2)) := hg1.read ((World.cell?_alloc_old _ _ _ (by simp)).trans (World.cell?_alloc_new _ _ _ _)) (fun hm => absurd (HOB1.out _ hm).2 (by simp))))
            all_goals
              have hdj2 : ∀ q ∈ (Value.slice V1 (m + 1) q1).ownBlock.toList, q ∉ (Value.slice V2 (m + 1) q2).ownBlock.toList := fun q h1 h2 => by
                rcases hnew1 q h1 with h | h
                · rcases hnew2 q h2 with h' | h'
                  · exact HDJ.out q h h'
                  · have := (HOB1.out _ h).2; omega
                · rcases hnew2 q h2 with h' | h'
                  · have := (HOB2.out _ h').2; omega
                  · have := (hown1.blocks q h1).2; omega
              have hKLb : ∀ y ∈ ((Value.slice P1 m k1).ownBlock.toList ++ (Value.slice P2 m k2).ownBlock.toList), w6.heap.size ≤ y := fun y hy => by
                rcases List.mem_append.1 hy with h | h
                · exact (HOB1.out _ h).1
                · exact (HOB2.out _ h).1
              have hk8B : Keeps ((Value.slice P1 m k1).ownBlock.toList ++ (Value.slice P2 m k2).ownBlock.toList) w8 wB := kf ((Value.slice P1 m k1).ownBlock.toList ++ (Value.slice P2 m k2).ownBlock.toList) w8 wB
              have hkB : Keeps [b] w6 wB := HK68.out.step hk8B (fun y hy => .inr (hKLb y hy))
              have hDB : Deck wB b w.heap.size := (HD7.out.keeps HKR2.out (by simp) (by simp)).keeps hk8B (fun hm => by have := hKLb b hm; omega) (fun y hy => by have := hKLb y hy; omega)
              have HR1 := Lib.hid h13B
              have HR2 := Lib.hid hown2
              have HDJ2 := Lib.hid hdj2
              have HKB := Lib.hid hkB
              have HDB := Lib.hid hDB
              clear hdj2 hkB hDB
              clear h13B hown1 hown2 hnew1 hnew2 hg1 hg2 h14A hKLb hk8B
              go_wp2_with fail
              go_roundg (r + 1 - m)
              case measure => omega
              case rel => exact ⟨m + 1, V1, q1, V2, q2, TT ++ [row], RR ++ [sg * y2], by omega, by omega, by have := HI.out; congr 1; omega, rfl, rfl, HTS.out, HR1.out, HR2.out, HDJ2.out, HDB.out, HKB.out⟩
      · obtain rfl : m = r := by omega
        have hge : decide ((m : Int) - 1 - (m : Int) ≥ 0) = false := decide_eq_false (by omega)
        have hge2 : decide (0 ≤ (m : Int) - 1 - (m : Int)) = false := decide_eq_false (by omega)
        have hTI : IsII wr [b] (.slice P1 m k1) TT := (OwL.weak (l' := [b]) hO1 (fun y hy => .inl (List.mem_append.2 (.inr hy)))).isL (fun y hy => by rw [List.mem_singleton.1 hy]; exact hbw6)
        have hRI : IsI wr [b] (.slice P2 m k2) RR := hO2.isL (fun y hy => by rw [List.mem_singleton.1 hy]; exact hbw6)
        have hAr : IsII wr [b] (.slice V m cV) A := Rok.keeps HA6.out hkr
        have hbIr : IsI wr [b] (.slice Bb m cb) bb := Rok.keeps HBI.out hkr
        have hTs := hTR.sys HS.out
        have hTr := hTR.rng HBR2.out
        have hbr0 : rngB bb = true := by
          unfold rngB
          rw [List.all_eq_true]
          intro y hy
          obtain ⟨j, hj, rfl⟩ := mem_getD (d := 0) hy
          have := HBR2.out j (by rw [← HBL.out]; exact hj)
          exact decide_eq_true (by omega)
        have hso := hTR.sol HM.out.rows HBL.out
        have hso0 := hTR.zeros.sol HM.out.rows (by simp)
        have hkw := HK6W.out.trans hkr
        have hm1 := Minimal_ok (hi := 4) (lx := []) hAr hbIr HS.out HBL.out hbr0 (by omega) (by simp)
        have hm2 := fun W (k : Keeps [] wr W) => Minimal_ok (hi := 4) (lx := []) (hTI.new k) (hRI.new k) hTs hTR.rl hTr (by omega) (by simp)
        have hm3 := fun W (k : Keeps [] wr W) => Free_ok (hi := 4) (lx := []) (hAr.new k) HS.out (by omega) (by simp)
        have hm4 := fun W (k : Keeps [] wr W) => Free_ok (hi := 4) (lx := []) (hTI.new k) hTs (by omega) (by simp)
        rw [show ((4 : Nat) : Int) = 4 from rfl] at hm1 hm2 hm3 hm4
        rw [hso] at hm2
        rw [hso0] at hm4
        generalize solB A bb = P at *
        generalize solB A (List.replicate m 0) = P0 at *
        have HTR := Lib.hid hTR
        have HO1 := Lib.hid hO1
        have HO2 := Lib.hid hO2
        have HDJ := Lib.hid hdj
        have HDR := Lib.hid hDr
        have HKR := Lib.hid hkr
        have HTI := Lib.hid hTI
        have HRI := Lib.hid hRI
        have HAR := Lib.hid hAr
        have HBIR := Lib.hid hbIr
        have HTS := Lib.hid hTs
        have HTR := Lib.hid hTr
        have HBR0 := Lib.hid hbr0
        have HSO := Lib.hid hso
        have HSO0 := Lib.hid hso0
        have HKW := Lib.hid hkw
        have HM1 := Lib.hid hm1
        have HM2 := Lib.hid hm2
        have HM3 := Lib.hid hm3
        have HM4 := Lib.hid hm4
        clear hTR hO1 hO2 hdj hDr hkr hTI hRI hAr hbIr hTs hTr hbr0 hso hso0 hkw hm1 hm2 hm3 hm4
        go_wp2_with fail
        refine HM1.out.mono ?_
        rintro e w7 ⟨V7, m7, c7, x7, h7, rfl, q7, o7, k7⟩
        have hx7 : IsII w7 [] (.slice V7 m7 c7) x7 := o7.isL (by simp)
        have hb7 := q7.len4 (by omega) (by omega) (by omega)
        have hm2' := HM2.out w7 k7
        have HX7 := Lib.hid hx7
        have HM2' := Lib.hid hm2'
        have H7 := Lib.hid h7
        have K7 := Lib.hid k7
        clear hx7 hm2' h7 k7
        clear o7
        go_wp2_with fail
        refine HM2'.out.mono ?_
        rintro e w8 ⟨V8, m8, c8, x8, h8, rfl, q8, o8, k8⟩
        have hx8 : IsII w8 [] (.slice V8 m8 c8) x8 := o8.isL (by simp)
        obtain rfl := q7.uniq q8
        have hk8 := K7.out.trans k8
        have hx78 := HX7.out.new k8
        have hl7 : ∀ y ∈ x7, y.length ≤ 1000000 := fun y hy => by have := ((q7.2 y).1 hy).1.len; omega
        have hm3' := HM3.out w8 hk8
        have HX8 := Lib.hid hx8
        have HM3' := Lib.hid hm3'
        have H8 := Lib.hid h8
        have HK8 := Lib.hid hk8
        have HX78 := Lib.hid hx78
        have HL7 := Lib.hid hl7
        clear hx8 hm3' h8 hk8 hx78 hl7
        clear o8 k8 q8 q7
        go_wp2_with fail
        refine HM3'.out.mono ?_
        rintro e w9 ⟨V9, m9, c9, x9, h9, rfl, q9, o9, k9⟩
        have hx9 : IsII w9 [] (.slice V9 m9 c9) x9 := o9.isL (by simp)
        have hb9 := q9.len4 (by omega) (by omega) (by omega)
        have hk9 := HK8.out.trans k9
        have hx89 := HX8.out.new k9
        have hx79 := HX78.out.new k9
        have hm4' := HM4.out w9 hk9
        have HX9 := Lib.hid hx9
        have HM4' := Lib.hid hm4'
        have H9 := Lib.hid h9
        have HK9 := Lib.hid hk9
        have HX89 := Lib.hid hx89
        have HX79 := Lib.hid hx79
        clear hx9 hm4' h9 hk9 hx89 hx79
        clear o9 k9
        go_wp2_with fail
        refine HM4'.out.mono ?_
        rintro e w10 ⟨V10, m10, c10, x10, h10, rfl, q10, o10, k10⟩
        have hx10 : IsII w10 [] (.slice V10 m10 c10) x10 := o10.isL (by simp)
        obtain rfl := q9.uniq q10
        have hl9 : ∀ y ∈ x9, y.length ≤ 1000000 := fun y hy => by have := ((q9.2 y).1 hy).1.len; omega
        have hk10 := HK9.out.trans k10
        have hsa1 := sameall_is (HX79.out.new k10) (HX89.out.new k10) (by omega) (by omega) HL7.out HL7.out
        rw [decide_eq_true rfl] at hsa1
        have hsa2 := fun W (k : Keeps [] w10 W) => sameall_is ((HX9.out.new k10).new k) (hx10.new k) (by omega) (by omega) hl9 hl9
        rw [decide_eq_true rfl] at hsa2
        have HX10 := Lib.hid hx10
        have H10 := Lib.hid h10
        have HK10 := Lib.hid hk10
        have HL9 := Lib.hid hl9
        have HSA1 := Lib.hid hsa1
        have HSA2 := Lib.hid hsa2
        clear hx10 h10 hk10 hl9 hsa1 hsa2
        clear o10 k10 q9 q10
        go_wp2_with fail
        refine HSA1.out.mono ?_
        rintro e w11 ⟨rfl, hk11⟩
        have hs2 := HSA2.out w11 hk11
        have HS2 := Lib.hid hs2
        clear hs2
        go_wp2_with fail
        refine HS2.out.mono ?_
        rintro e w12 ⟨rfl, hk12⟩
        have hkf := HKW.out.trans (((HK10.out.trans hk11).trans hk12).nil [b])
        have hfin := HB2.out.trans (hkf.below (by simp; omega) (by omega))
        have HFIN := Lib.hid hfin
        clear hfin
        go_wp2_with fail
        go_ret
        exact ⟨rfl, HFIN.out⟩
  · have hd : decide ((len : Int) ≤ 400) = false := by simp; omega
    go_enter Try.func7, Try.ntmps7
    go_wp2_with fail
    refine (awake_any w).mono ?_
    rintro e w1 ⟨rfl, hb1⟩
    go_wp2_with fail
    refine (few_any w1 A0 len cap).mono ?_
    rintro e w' ⟨rfl, rfl⟩
    rw [hd]
    go_wp2_with fail
    refine (awake_any w1).mono ?_
    rintro e w2 ⟨rfl, hb2⟩
    go_wp2_with fail
    go_ret
    exact ⟨rfl, hb1.trans (hb2.mono hb1.size)⟩
end Go.Proofs.Ythpobeeccgmieaa
