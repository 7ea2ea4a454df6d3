/- The walk of coverabilitylaw13.SemilinearSums. -/
import Derived.Test.YtdhadnnakcdfiaaSumL
import Derived.Test.YtdhadnnakcdfiaaNow
import Derived.Deep.RegionHeld3

namespace Go.Proofs.Ytdhadnnakcdfiaa
set_option linter.unusedVariables false
open Go.RowKit

theorem IsLin.now {w w' : World} {l : List Nat} {u v : Value} {s : Lin} (h : IsLin w l u v s) [k : KF l w w'] : IsLin w' l u v s := h.keeps k.out
theorem isN_cell {w : World} {l : List Nat} {B : Nat} {y : Int} (h : w.cell? ⟨B, 0, none⟩ = some (.int .i64 y)) (hB : B ∉ l) : IsL IsN 0 w l (.slice (some ⟨B, 0, none⟩) 1 1) [y] :=
  ⟨some ⟨B, 0, none⟩, 1, fun _ => .int .i64 y, rfl, Nat.le_refl _, (fun h => by cases h), fun _ => ⟨_, rfl, hB, fun i hi => by
    have e : i = 0 := by simpa using hi
    subst e; simpa [Addr.add] using h⟩, fun i hi => by
    have e : i = 0 := by simpa using hi
    subst e; rfl⟩
theorem OwL.anyN {w : World} {l l' : List Nat} {ty : TypeId} {base : Nat} {v : Value} {xs : List Int} (h : OwL IsN 0 ty base w l v xs) : OwL IsN 0 ty base w l' v xs := by
  obtain ⟨us, h1, h2, h3⟩ := h
  exact ⟨us, h1, h2, fun i hi => h3 i hi⟩
theorem made_isI {n : Nat} {s : Lin} {w : World} {g c : Nat} {t : List Int} {l : List Nat} (hb : s.base.length = n) (hg : g ∉ l) (hc : s.base.length ≤ c) (h : Own w g s.base.length (fun i => .int .i64 (accV s.base s.per t t.length i))) : IsI w l (.slice (some ⟨g, 0, none⟩) s.base.length c) (madeL s t) :=
  h.isI hg hc (by simp [madeL]) (fun i hi => by simp [madeL, List.getD_eq_getElem?_getD, hi])

def tabL (i : Nat) (F : Nat → Int) : List Int := (List.range i).map F
theorem tabL_len (i : Nat) (F : Nat → Int) : (tabL i F).length = i := by simp [tabL]
theorem tabL_succ (i : Nat) (F : Nat → Int) : tabL (i + 1) F = tabL i F ++ [F i] := by simp [tabL, List.range_succ]
theorem tabL_get {i k : Nat} {F : Nat → Int} (h : k < i) : (tabL i F).getD k 0 = F k := by simp [tabL, List.getD_eq_getElem?_getD, h]
theorem IsI.cellb {w : World} {l : List Nat} {g n c i : Nat} {xs : List Int} (h : IsI w l (.slice (some ⟨g, 0, none⟩) n c) xs) (hi : i < n) : w.cell? ⟨g, i, none⟩ = some (.int .i64 (xs.getD i 0)) ∧ g ∉ l := by
  obtain ⟨A, c', e, _, _, h4⟩ := h.open
  injection e with e1 e2 e3
  subst e1
  obtain ⟨a, ea, hb, hc⟩ := h4 (by omega)
  injection ea with ea
  subst ea
  refine ⟨?_, hb⟩
  have := hc i (by omega)
  rwa [addz] at this

section
variable {P : Program}
/-- 'append(s, ys...)' as one step of a region that draws its order, with what is known of the new block. -/
theorem step_joing {α : Type} {R : Rp α} [Rok R] {d : α} {t e : TypeId} {z : Value} {bytes : Nat} (T : SlT P t e z bytes) {ops : Array Oper} {o : Oper} {a : Act} {K : Act → World → Prop} {Q : Exit → Act → World → Prop} {X : Prop} (hgd : o.guard = none) (s x : Operand)
    (ho : o.op = .call { callee := .builtin .append, args := #[s, x], argTypes := #[t, t] }) {w : World} {l : List Nat} {base : Nat} {v u : Value} {xs ys : List α}
    (hs : a.eval s = v) (hx : a.eval x = u) (hown : OwL R d e base w l v xs) (hu : IsL R d w (v.ownBlock.toList ++ l) u ys) {m : Nat} (hm : xs.length + ys.length = m) (h63 : m ≤ 1000000000) (hbase : base ≤ w.heap.size)
    (h : ∀ V' c' w', OwL R d e base w' l (.slice V' m c') (xs ++ ys) → Keeps v.ownBlock.toList w w' → (∀ b ∈ (Value.slice V' m c').ownBlock.toList, b ∈ v.ownBlock.toList ∨ w.heap.size ≤ b) → K (a.put o.dst (.slice V' m c')) w') :
    if Region.wanted o (yielded ops a.tmps) = true then Oper.wp P o a w K Q else X := by
  subst hm
  have hown' := hown
  obtain ⟨us, h1, h2, h3⟩ := hown'
  obtain ⟨A, c, rfl⟩ := ownsRow_slice h2
  obtain ⟨A', c', V, rfl, i1, i2, i3, i4⟩ := hu
  have hgd' : ∀ i, i < ys.length → ((List.range ys.length).map V).getD i undef = V i := fun i hi => by simp [List.getD_eq_getElem?_getD, hi]
  refine step_app _ T hgd s x ho base A xs.length c us hs h2 w.heap.size A' ys.length c' ((List.range ys.length).map V) hx (by simp) (i3.congr fun i hi => (hgd' i hi).symm).rd (by
    intro u hu
    obtain ⟨i, hi, rfl⟩ := List.mem_map.1 hu
    exact Rok.one (i4 i (List.mem_range.1 hi))) h63 hbase ?_
  intro V' cv' w' g1 g2 g3
  refine h V' cv' w' ?_ (Keeps.of_grown g2) ?_
  · refine OwL.appended h1 h3 (by simp) (fun i hi => ?_) g1 g2 g3
    rw [hgd' i hi]
    exact i4 i hi
  · intro b hb
    rcases g3 with g3 | g3
    · rw [g3] at hb; exact .inl hb
    · rw [g3] at hb
      have : b = w.heap.size := by simpa using hb
      exact .inr (by omega)
end

def SumOne (n : Nat) (s r : Lin) (b : Nat) (w : World) (e : Ending) (w' : World) : Prop :=
  ∃ (A : Option Addr) (j c : Nat) (A' : Option Addr) (m c' : Nat) (z : Int), e = .returned (.tuple #[.agg #[.slice A j c, .slice A' m c'], .int .i64 z]) ∧ (z = 0 ∨ z = 1) ∧ (z = 0 → ∃ zs, SumOk (n : Int) s r zs ∧ IsLin w' [b] (.slice A j c) (.slice A' m c') ⟨addV s.base r.base, zs⟩) ∧ Keeps [] w w'
theorem sum_one {n : Nat} {s r : Lin} {b : Nat} {w w' : World} {e : Ending} (h1 : 1 ≤ n) (h4 : n ≤ 4) (hs : Small4 n s) (hr : Small4 n r) (h : SumPost (n : Int) s r [b] w e w') : SumOne n s r b w e w' := by
  obtain ⟨hk, ⟨z, rfl, hbad⟩ | ⟨A, n1, c, A', m, c', zs, rfl, hok, hv, hz⟩⟩ := h
  · refine ⟨_, _, _, _, _, _, z, rfl, ?_, fun h0 => ?_, hk⟩
    all_goals
      rcases hbad with ⟨hb, _⟩ | ⟨_, hb, _⟩
      · exact absurd (chk2_zero.2 ⟨hs.all h1 h4, hr.all h1 h4⟩) hb
      · first | exact .inr hb | omega
  · exact ⟨_, _, _, _, _, _, 0, rfl, .inl rfl, fun _ => ⟨zs, hok, hv, hz⟩, hk⟩
def SftOne (s : Lin) (v : List Int) (b : Nat) (w : World) (e : Ending) (w' : World) : Prop :=
  ∃ (A : Option Addr) (j c : Nat) (A' : Option Addr) (m c' : Nat), e = .returned (.tuple #[.agg #[.slice A j c, .slice A' m c'], .int .i64 0]) ∧ IsLin w' [b] (.slice A j c) (.slice A' m c') ⟨addV s.base v, s.per⟩ ∧ Keeps [] w w'
theorem sft_one {n : Nat} {s : Lin} {v : List Int} {b : Nat} {w w' : World} {e : Ending} (hb : b < w.heap.size) (h1 : 1 ≤ n) (h4 : n ≤ 4) (hs : Small4 n s) (hv : v.length = n) (hvr : ∀ x ∈ v, 0 ≤ x ∧ x ≤ 4) (h : SftPost (n : Int) s v [b] w e w') : SftOne s v b w e w' := by
  have hbl := hs.good.base.len
  have hrng : InRng 16 (addV s.base v) := fun x hx => by
    obtain ⟨i, hi, e⟩ := mem_getD (d := 0) hx
    rw [addV_len] at hi
    rw [addV_get _ _ hi] at e
    have e1 := getD_rng hs.b4 hi
    have e2 := getD_rng hvr (i := i) (by rw [hv, ← hbl]; exact hi)
    omega
  obtain ⟨hk, ⟨z, rfl, hbad⟩ | ⟨A, n1, c, A', m, c', rfl, _, _, _, _, hI, hO⟩⟩ := h
  · exfalso
    rcases hbad with ⟨hc, _⟩ | ⟨_, ⟨hc, _⟩ | ⟨_, ⟨hc, _⟩ | ⟨_, hc, _⟩⟩⟩
    · exact hc (chkL_zero.2 (hs.all h1 h4))
    · exact hc (by rw [hv])
    · exact hc (fun x hx => by have := hvr x hx; omega)
    · exact hc hrng
  · exact ⟨_, _, _, _, _, _, rfl, ⟨hI, hO.isL (by simp; omega)⟩, hk⟩

set_option maxRecDepth 100000 in
set_option maxHeartbeats 8000000 in
theorem sums_law (w : World) (len cap : Nat) (A0 : Option Addr) (l : Nat → Int) (hR : Rd w w.heap.size A0 len (fun i => .int .i64 (l i))) :
    Calls Try.prog 7 #[.slice A0 len cap] w fun e w' => e = .returned (.bool true) ∧ Below w.heap.size w w' := by
  have HR := Lib.hid hR
  clear hR
  by_cases hlen : len ≤ 400
  · have hd : decide ((len : Int) ≤ 400) = true := by simp; omega
    go_enter Try.func7, Try.ntmps7
    go_wp2_with fail
    refine (awake_any w).mono ?_
    rintro e w1 ⟨rfl, hb1⟩
    have hz1 := hb1.size
    go_wp2_with fail
    refine (few_any w1 A0 len cap).mono ?_
    rintro e w' ⟨rfl, rfl⟩
    rw [hd]
    go_wp2_with fail
    refine (new_any w1 w.heap.size A0 len cap l (HR.out.below hb1) hlen hz1).mono ?_
    rintro e w2 ⟨rfl, hD2, hb2⟩
    have hz2 := hb2.size
    have hbl2 := hD2.lt
    have hB2 := hb1.trans (hb2.mono hz1)
    have HD2 := Lib.hid hD2
    have HB2 := Lib.hid hB2
    clear hD2 hB2
    clear hb1 hb2
    generalize w1.heap.size = b at *
    go_wp2_with fail
    refine (next_any w2 b w.heap.size 4 HD2.out (by omega)).mono ?_
    rintro e w3 ⟨n0, rfl, _, hn0, hD3, hK3⟩
    have hn0 := hn0 (by omega)
    have hz3 := hK3.size
    have HD3 := Lib.hid hD3
    have HK3 := Lib.hid hK3
    clear hD3 hK3
    go_wp2_with fail
    obtain ⟨n, hn⟩ : ∃ n : Nat, n = n0 + 1 := ⟨_, rfl⟩
    rw [show (1 : Int) + (n0 : Int) = (n : Int) by omega]
    have hn1 : 1 ≤ n := by omega
    have hn4 : n ≤ 4 := by omega
    clear hn
    refine (linear_is w3 b w.heap.size n HD3.out hn1 hn4).mono ?_
    rintro e w4 ⟨A, c, A', m, c', s, rfl, hlin, hs4, hD4, hK4⟩
    have hz4 := hK4.size
    have HK4 := Lib.hid (HK3.out.trans hK4)
    have HLIN := Lib.hid hlin
    have HS4 := Lib.hid hs4
    have HD4 := Lib.hid hD4
    clear hlin hs4 hD4
    clear hK4
    go_wp2_with fail
    refine (linear_is w4 b w.heap.size n HD4.out hn1 hn4).mono ?_
    rintro e w5 ⟨B, d, B', m2, d', r, rfl, hlinr, hr4, hD5, hK5⟩
    have hz5 := hK5.size
    have hal : Keeps [] w5 ((w5.alloc (.cells #[.slice A n c, .slice A' m c'] 29)).alloc (.cells #[.slice B n d, .slice B' m2 d'] 29)) := ((Keeps.refl _ _).alloc _).alloc _
    have hbs := (BoxAt.start w5 (.slice A n c) (.slice A' m c') 29).new ((Keeps.refl _ _).alloc (.cells #[.slice B n d, .slice B' m2 d'] 29))
    have hbr : BoxAt ((w5.alloc (.cells #[.slice A n c, .slice A' m c'] 29)).alloc (.cells #[.slice B n d, .slice B' m2 d'] 29)) (w5.heap.size + 1) (.slice B n d) (.slice B' m2 d') := by
      have := BoxAt.start (w5.alloc (.cells #[.slice A n c, .slice A' m c'] 29)) (.slice B n d) (.slice B' m2 d') 29
      simpa using this
    have hls := (HLIN.out.keeps hK5).new hal
    have hlr := hlinr.new hal
    have hD6 : Deck ((w5.alloc (.cells #[.slice A n c, .slice A' m c'] 29)).alloc (.cells #[.slice B n d, .slice B' m2 d'] 29)).drew b w.heap.size := hD5.keeps hal.drew (by simp) (by simp)
    have HK6 := Lib.hid ((HK4.out.trans hK5).trans (hal.nil [b]))
    have hc0 := hbs.c0
    have hc1 := hbs.c1
    have hd0 := hbr.c0
    have hd1 := hbr.c1
    have HLS := Lib.hid hls
    have HLR := Lib.hid hlr
    have HR4 := Lib.hid hr4
    have HD6 := Lib.hid hD6
    have HBS := Lib.hid hbs
    have HBR := Lib.hid hbr
    clear hls hlr hr4 hD6 hbs hbr
    clear hK5 hal hD5 hlinr
    go_upto_region 6 with fail
    generalize hw6 : (w5.alloc (.cells #[.slice A n c, .slice A' m c'] 29)).alloc (.cells #[.slice B n d, .slice B' m2 d'] 29) = w6 at *
    have hz6 : w5.heap.size + 1 + 1 = w6.heap.size := by rw [← hw6]; simp
    clear hw6
    generalize w5.heap.size = g5 at *
    have hsS := HS4.out.small hn4
    have hsR := HR4.out.small hn4
    have egs := enters_of Try.func13 (by kernel_rfl) rfl
    have egm := enters_of Try.func14 (by kernel_rfl) rfl
    have hms := isL_len HLS.out.2
    have hmr := isL_len HLR.out.2
    have hm3 : m ≤ 3 := by rw [hms]; exact HS4.out.good.few
    have hr3 : m2 ≤ 3 := by rw [hmr]; exact HR4.out.good.few
    have hsl := HS4.out.good.base.len
    have hrl := HR4.out.good.base.len
    have hn5 : (⟨g5, 0, none⟩ : Addr).block ∉ [b] := by simp; omega
    have hn6 : (⟨g5 + 1, 0, none⟩ : Addr).block ∉ [b] := by simp; omega
    have HSS := Lib.hid hsS
    have HSR := Lib.hid hsR
    have HMS := Lib.hid hms
    have HMR := Lib.hid hmr
    have HSL := Lib.hid hsl
    have HRL := Lib.hid hrl
    have HN5 := Lib.hid hn5
    have HN6 := Lib.hid hn6
    clear hsS hsR hms hmr hsl hrl hn5 hn6
    go_cut [7, 8] (fun s7 s8 wx => ∃ (A7 c7 A8 c8 : Nat) (t t' : List Int), s7 = .slice (some ⟨A7, 0, none⟩) n c7 ∧ s8 = .slice (some ⟨A8, 0, none⟩) n c8 ∧ IsI wx [b] (.slice (some ⟨A7, 0, none⟩) n c7) (madeL s t) ∧ IsI wx [b] (.slice (some ⟨A8, 0, none⟩) n c8) (madeL r t') ∧ t.length = m ∧ t'.length = m2 ∧ (∀ x ∈ t, 0 ≤ x ∧ x ≤ 1) ∧ (∀ x ∈ t', 0 ≤ x ∧ x ≤ 1) ∧ Keeps [b] w6 wx)
    case first =>
      go_region_held3 (fun W => W.cell? ⟨g5, 0, none⟩ = some (.slice A n c) ∧ W.cell? ⟨g5, 1, none⟩ = some (.slice A' m c') ∧ W.cell? ⟨g5 + 1, 0, none⟩ = some (.slice B n d) ∧ W.cell? ⟨g5 + 1, 1, none⟩ = some (.slice B' m2 d')) (exact ⟨cell_now (a := w6) [b] hc0 HN5.out, cell_now (a := w6) [b] hc1 HN5.out, cell_now (a := w6) [b] hd0 HN6.out, cell_now (a := w6) [b] hd1 HN6.out⟩) (first
        | (have _t := htS2; refine step_callw 14 #[.tmp 42, .tmp 47] #[29, 22] rfl egm (made_is (l := [b]) (HLR.out.keeps (kf [b] w6 wS2)) (by rw [HRL.out]; exact HR4.out.good.base) (by rw [HRL.out]; exact HR4.out.good.per) (by rw [HRL.out]; omega) (by rw [← HMR.out]; omega) htS2 (by rw [hlS2]; exact Nat.le_of_eq HMR.out) (fun x hx => by have := hrS2 x hx; omega) (by rw [HRL.out]; exact hn1)) (by first | rfl | (simp [Region.wanted, yielded]; done) | simp [Region.wanted, yielded, Act.put]) (by first | (simp [Act.eval]; done) | (simp only [Act.eval, Act.put]; simp; done) | simp [Act.eval, Act.put]) ?_; rintro e wN ⟨gN, cN, he, hN1, hN2, hN3, hN4, hN5⟩; refine ⟨_, he, ?_⟩; haveI kbN : KB [b] wN _ := ⟨hN5.nil _⟩)
        | (have _t := hkM; refine step_callw 13 #[.tmp 43, .tmp 46, .const (.int .i64 1)] #[25, 3, 3] rfl egs (small_any wM b w.heap.size m2 1 (hDS.keeps hM5 (by simp) (by simp)) (by omega) (by omega)) (by first | rfl | (simp [Region.wanted, yielded]; done) | simp [Region.wanted, yielded, Act.put]) (by first | (simp [Act.eval]; done) | (simp only [Act.eval, Act.put]; simp; done) | simp [Act.eval, Act.put]) ?_; rintro e wS2 ⟨ZS2, cS2, tS2, rfl, hlS2, hrS2, hownS2, hDS2, hkS2⟩; refine ⟨_, rfl, ?_⟩; have hbM : b < wM.heap.size := Nat.lt_of_lt_of_le (show b < w6.heap.size by omega) (kf [b] w6 wM).size; have htS2 : IsI wS2 [b] (.slice ZS2 m2 cS2) tS2 := (isN_own (l := [b]) (xs := tS2) (v := .slice ZS2 m2 cS2) rfl (by rw [hlS2]; exact hownS2)).isL (by simp; omega); haveI kbS2 : KB [b] wS2 _ := ⟨hkS2⟩)
        | (have _t := htS; refine step_callw 14 #[.tmp 35, .tmp 40] #[29, 22] rfl egm (made_is (l := [b]) (HLS.out.keeps (kf [b] w6 wS)) (by rw [HSL.out]; exact HS4.out.good.base) (by rw [HSL.out]; exact HS4.out.good.per) (by rw [HSL.out]; omega) (by rw [← HMS.out]; omega) htS (by rw [hlS]; exact Nat.le_of_eq HMS.out) (fun x hx => by have := hrS x hx; omega) (by rw [HSL.out]; exact hn1)) (by first | rfl | (simp [Region.wanted, yielded]; done) | simp [Region.wanted, yielded, Act.put]) (by first | (simp [Act.eval]; done) | (simp only [Act.eval, Act.put]; simp; done) | simp [Act.eval, Act.put]) ?_; rintro e wM ⟨gM, cM, he, hM1, hM2, hM3, hM4, hM5⟩; refine ⟨_, he, ?_⟩; haveI kbM : KB [b] wM _ := ⟨hM5.nil _⟩; have hkM := hM5)
        | (refine step_callw 13 #[.tmp 36, .tmp 39, .const (.int .i64 1)] #[25, 3, 3] rfl egs (small_any w6.drew b w.heap.size m 1 HD6.out (by omega) (by omega)) (by first | rfl | (simp [Region.wanted, yielded]; done) | simp [Region.wanted, yielded, Act.put]) (by first | (simp [Act.eval]; done) | (simp only [Act.eval, Act.put]; simp; done) | simp [Act.eval, Act.put]) ?_; rintro e wS ⟨ZS, cS, tS, rfl, hlS, hrS, hownS, hDS, hkS⟩; refine ⟨_, rfl, ?_⟩; have hb6 : b < w6.drew.heap.size := (show b < w6.heap.size by omega); have htS : IsI wS [b] (.slice ZS m cS) tS := (isN_own (l := [b]) (xs := tS) (v := .slice ZS m cS) rfl (by rw [hlS]; exact hownS)).isL (by simp at hb6 ⊢; omega); haveI kbS : KB [b] wS _ := ⟨hkS⟩))
      all_goals
        go_wp2_with fail
        go_meet
        have hbS := Nat.lt_of_lt_of_le hb6 hkS.size
        have i1 := made_isI (l := [b]) HSL.out (by simp; omega) hM1 hM4
        have i2 := made_isI (l := [b]) HRL.out (by have := hkS2.size; have := hM5.size; simp; omega) hN1 hN4
        rw [HSL.out] at i1
        rw [HRL.out] at i2
        have i1 : IsI wN [b] _ _ := i1.keeps (kf [b] wM wN)
        exact ⟨gM, cM, gN, cN, tS, tS2, by rw [HSL.out], by rw [HRL.out], i1, i2, hlS, hlS2, fun x hx => by have := hrS x hx; omega, fun x hx => by have := hrS2 x hx; omega, kf [b] w6 wN⟩
    case rest =>
      obtain ⟨A7, c7, A8, c8, t, t', rfl, rfl, hx, hy, htl, hul, htr, hur, hkc⟩ := hcut
      obtain ⟨wa, hwa⟩ : ∃ wa : World, wa = wc := ⟨_, rfl⟩
      subst hwa
      haveI kba : KB [b] wa w6 := ⟨hkc⟩
      have hza := hkc.size
      have hc0 := cell_now (c := wa) [b] hc0 HN5.out
      have hc1 := cell_now (c := wa) [b] hc1 HN5.out
      have hd0 := cell_now (c := wa) [b] hd0 HN6.out
      have hd1 := cell_now (c := wa) [b] hd1 HN6.out
      have hls7 := HLS.out.keeps hkc
      have hlr7 := HLR.out.keeps hkc
      have hba : b < wa.heap.size := by omega
      have hbl : ∀ W, Keeps [] wa W → ∀ y ∈ [b], y < W.heap.size := fun W k y hy => by rw [List.mem_singleton.1 hy]; exact Nat.lt_of_lt_of_le hba k.size
      have hsum := fun W (k : Keeps [] wa W) => (sum_is (n := (n : Int)) (hbl W k) (hls7.new k) HSS.out (hlr7.new k) HSR.out).mono fun e w' h => sum_one hn1 hn4 HS4.out HR4.out h
      have hsft := fun W (k : Keeps [] wa W) => (shift_is (n := (n : Int)) (v := r.base) (hbl W k) (hls7.new k) HSS.out (hlr7.new k).1 (by rw [HRL.out]; omega)).mono fun e w' h => sft_one (Nat.lt_of_lt_of_le hba k.size) hn1 hn4 HS4.out HRL.out HR4.out.b4 h
      have HSF := Lib.hid hsft
      have HX := Lib.hid hx
      have HY := Lib.hid hy
      have HTL := Lib.hid htl
      have HUL := Lib.hid hul
      have HTR := Lib.hid htr
      have HUR := Lib.hid hur
      have HLS7 := Lib.hid hls7
      have HLR7 := Lib.hid hlr7
      have HBL := Lib.hid hbl
      have HSUM := Lib.hid hsum
      clear hx hy htl hul htr hur hls7 hlr7 hbl hsum
      clear hkc hsft
      go_wp2_with fail
      refine (HSUM.out _ (Keeps.refl _ _)).mono ?_
      rintro e wb ⟨B9, j9, d9, B9', m9, d9', z, rfl, hz, hS, hk⟩
      haveI kbb : KB [] wb wa := ⟨hk⟩
      have hzb := hk.size
      have hc0 := cell_now (c := wb) [] hc0 (by simp)
      have hc1 := cell_now (c := wb) [] hc1 (by simp)
      have hd0 := cell_now (c := wb) [] hd0 (by simp)
      have hd1 := cell_now (c := wb) [] hd1 (by simp)
      have hc0 := cell_now (c := wb.alloc (.cells #[.slice B9 j9 d9, .slice B9' m9 d9'] 29)) [] hc0 (by simp)
      have hc1 := cell_now (c := wb.alloc (.cells #[.slice B9 j9 d9, .slice B9' m9 d9'] 29)) [] hc1 (by simp)
      have hd0 := cell_now (c := wb.alloc (.cells #[.slice B9 j9 d9, .slice B9' m9 d9'] 29)) [] hd0 (by simp)
      have hd1 := cell_now (c := wb.alloc (.cells #[.slice B9 j9 d9, .slice B9' m9 d9'] 29)) [] hd1 (by simp)
      have HSS9 := Lib.hid hS
      have HZ := Lib.hid hz
      clear hk hS hz
      go_wp2_with fail
      refine (HSF.out (wb.alloc (.cells #[.slice B9 j9 d9, .slice B9' m9 d9'] 29)) (kf [] wa (wb.alloc (.cells #[.slice B9 j9 d9, .slice B9' m9 d9'] 29)))).mono ?_
      rintro e wd ⟨B11, j11, d11, B11', m11, d11', rfl, hS2, hk⟩
      haveI kbd : KB [] wd _ := ⟨hk⟩
      have hzd := hk.size
      simp only [World.size_alloc] at hzd
      have hb9 : BoxAt wd wb.heap.size (.slice B9 j9 d9) (.slice B9' m9 d9') := (BoxAt.start wb (.slice B9 j9 d9) (.slice B9' m9 d9') 29).new hk
      have hc0 := cell_now (c := wd) [] hc0 (by simp)
      have hc1 := cell_now (c := wd) [] hc1 (by simp)
      have hd0 := cell_now (c := wd) [] hd0 (by simp)
      have hd1 := cell_now (c := wd) [] hd1 (by simp)
      have HSS11 := Lib.hid hS2
      have HB9 := Lib.hid hb9
      clear hb9
      clear hk hS2
      go_upto_region 9 with fail
      have hal : Keeps [] wd (wd.alloc (.cells #[.slice B11 j11 d11, .slice B11' m11 d11'] 29)) := (Keeps.refl _ _).alloc _
      have hb9 := HB9.out.new hal
      have hb11 := BoxAt.start wd (.slice B11 j11 d11) (.slice B11' m11 d11') 29
      have hze : wd.heap.size + 1 = (wd.alloc (.cells #[.slice B11 j11 d11, .slice B11' m11 d11'] 29)).heap.size := by simp
      generalize wd.alloc (.cells #[.slice B11 j11 d11, .slice B11' m11 d11'] 29) = we at *
      haveI kbe : KB [] we wd := ⟨hal⟩
      have hd0 := cell_now (c := we) [] hd0 (by simp)
      have hxe : IsI we [b] _ _ := HX.out.new (kf [] wa we)
      have hye : IsI we [b] _ _ := HY.out.new (kf [] wa we)
      have hre := (HLR7.out.new (kf [] wa we)).1
      have hbe : b < we.heap.size := by omega
      have hmx := made_ok HS4.out (by rw [HTL.out]; exact HMS.out) (fun x hx => by have := HTR.out x hx; omega)
      have hmy := made_ok HR4.out (by rw [HUL.out]; exact HMR.out) (fun x hx => by have := HUR.out x hx; omega)
      have hxr := hmx.vec
      have hyr := hmy.vec
      clear hc0 hc1 hd1 hmx hmy hal
      generalize hgx : madeL s t = x at *
      generalize hgy : madeL r t' = y at *
      have hre' := hre.open
      obtain ⟨B0, d0, e0, _, _, hrr⟩ := hre'
      injection e0 with e01 e02 e03
      subst e01
      rw [HRL.out] at hrr
      obtain ⟨pb, ep, hpb, hrc⟩ := hrr (by omega)
      subst ep
      have hAx : ∀ i, i < n → we.cell? ⟨A7, i, none⟩ = some (.int .i64 (x.getD i 0)) := fun i hi => (hxe.cellb hi).1
      have hAy : ∀ i, i < n → we.cell? ⟨A8, i, none⟩ = some (.int .i64 (y.getD i 0)) := fun i hi => (hye.cellb hi).1
      have hrb : ∀ z ∈ r.base, 0 ≤ z ∧ z ≤ 4 := HR4.out.b4
      have hg6 : g5 + 1 < we.heap.size := lt_of_cell hd0
      have HB9 := Lib.hid hb9
      have HB11 := Lib.hid hb11
      have HXE := Lib.hid hxe
      have HYE := Lib.hid hye
      have HRE := Lib.hid hre
      have HXR := Lib.hid hxr
      have HYR := Lib.hid hyr
      have HGX := Lib.hid hgx
      have HGY := Lib.hid hgy
      have HRR := Lib.hid hrr
      have HPB := Lib.hid hpb
      have HRC := Lib.hid hrc
      have HAX := Lib.hid hAx
      have HAY := Lib.hid hAy
      have HRB := Lib.hid hrb
      clear hb9 hb11 hxe hye hre hxr hyr hgx hgy hrr hpb hrc hAx hAy hrb
      clear e02 e03
      go_cut [73] (fun s73 wx => s73 = .bool false ∧ wx = we)
      case first =>
        rcases HZ.out with hz | hz
        · subst hz
          go_wp2_with fail
          go_meet
          exact ⟨rfl, rfl⟩
        · subst hz
          go_wp2_with fail
          go_meet
          exact ⟨rfl, rfl⟩
      case rest =>
        obtain ⟨rfl, rfl⟩ := hcut
        obtain ⟨wf, hwf⟩ : ∃ wf : World, wf = wc := ⟨_, rfl⟩
        subst hwf
        go_wp2_with fail
        go_loopg [13, 14, 76] (n + 1) (fun gh v13 v14 iv wr => ∃ (i : Nat) (P1 : Option Addr) (k1 : Nat) (P2 : Option Addr) (k2 : Nat), n + 1 ≤ i + gh ∧ i ≤ n ∧ iv = .int .i64 (i : Int) ∧ v13 = .slice P1 i k1 ∧ v14 = .slice P2 i k2 ∧ OwL IsN 0 3 wf.heap.size wr [b] (.slice P1 i k1) (tabL i fun k => x.getD k 0 + y.getD k 0) ∧ OwL IsN 0 3 wf.heap.size wr [b] (.slice P2 i k2) (tabL i fun k => x.getD k 0 + r.base.getD k 0) ∧ (∀ q ∈ (Value.slice P1 i k1).ownBlock.toList, q ∉ (Value.slice P2 i k2).ownBlock.toList) ∧ Keeps [] wf wr)
        case atStart => exact ⟨0, none, 0, none, 0, by omega, by omega, rfl, rfl, rfl, OwL.nil, OwL.nil, by simp [Value.ownBlock], Keeps.refl _ _⟩
        case round =>
          obtain ⟨i, P1, k1, P2, k2, hgh, hi, rfl, rfl, rfl, ho1, ho2, hdj, hkr⟩ := hrel
          have hzr := hkr.size
          by_cases hlt : i < n
          · have hxi := hkr.read (HAX.out i hlt) (by simp)
            have hyi := hkr.read (HAY.out i hlt) (by simp)
            have hbi := hkr.read hd0 (by simp)
            have hri := hkr.read (HRC.out i hlt) (by simp)
            have hXr := getD_rng HXR.out.rng (i := i) (by rw [HXR.out.len]; exact hlt)
            have hYr := getD_rng HYR.out.rng (i := i) (by rw [HYR.out.len]; exact hlt)
            have hZr := getD_rng HRB.out (i := i) (by rw [HRL.out]; exact hlt)
            have hs1 := tabL_succ i fun k => x.getD k 0 + y.getD k 0
            have hs2 := tabL_succ i fun k => x.getD k 0 + r.base.getD k 0
            have hl1 := tabL_len i fun k => x.getD k 0 + y.getD k 0
            have hl2 := tabL_len i fun k => x.getD k 0 + r.base.getD k 0
            have hA7 := lt_of_cell (HAX.out i hlt)
            have hA8 := lt_of_cell (HAY.out i hlt)
            have hpbl := lt_of_cell (HRC.out i hlt)
            have hob1 := ho1.blocks
            have hob2 := ho2.blocks
            have hnL : ∀ p : Addr, p.block < wf.heap.size → p.block ∉ (Value.slice P1 i k1).ownBlock.toList ++ (Value.slice P2 i k2).ownBlock.toList := fun p hp hm => by
              rcases List.mem_append.1 hm with h | h
              · have := (hob1 _ h).1; omega
              · have := (hob2 _ h).1; omega
            generalize (tabL i fun k => x.getD k 0 + y.getD k 0) = T1 at *
            generalize (tabL i fun k => x.getD k 0 + r.base.getD k 0) = T2 at *
            generalize x.getD i 0 = X at *
            generalize y.getD i 0 = Y at *
            generalize r.base.getD i 0 = Z at *
            have hw1 : IntKind.i64.wrap (X + Y) = X + Y := IntWalk.i64_in _ (by omega)
            have hw2 : IntKind.i64.wrap (X + Z) = X + Z := IntWalk.i64_in _ (by omega)
            have hii : (i : Int) < (n : Int) := by omega
            have HO1 := Lib.hid ho1
            have HO2 := Lib.hid ho2
            have HS1 := Lib.hid hs1
            have HS2 := Lib.hid hs2
            have HL1 := Lib.hid hl1
            have HL2 := Lib.hid hl2
            have HOB1 := Lib.hid hob1
            have HOB2 := Lib.hid hob2
            have HDJ := Lib.hid hdj
            have HKR := Lib.hid hkr
            have HNL := Lib.hid hnL
            clear hdj hkr hnL
            clear ho1 ho2 hs1 hs2 hl1 hl2 hob1 hob2
            go_upto_region 15 with fail
            go_region_held3 (fun W => W.cell? ⟨A7, i, none⟩ = some (.int .i64 X) ∧ W.cell? ⟨A8, i, none⟩ = some (.int .i64 Y) ∧ W.cell? ⟨g5 + 1, 0, none⟩ = some (.slice (some pb) n d) ∧ W.cell? (pb.add i) = some (.int .i64 Z)) (exact ⟨cell_now (a := wr) ((Value.slice P1 i k1).ownBlock.toList ++ (Value.slice P2 i k2).ownBlock.toList) hxi (HNL.out _ hA7), cell_now (a := wr) ((Value.slice P1 i k1).ownBlock.toList ++ (Value.slice P2 i k2).ownBlock.toList) hyi (HNL.out _ hA8), cell_now (a := wr) ((Value.slice P1 i k1).ownBlock.toList ++ (Value.slice P2 i k2).ownBlock.toList) hbi (HNL.out _ hg6), cell_now (a := wr) ((Value.slice P1 i k1).ownBlock.toList ++ (Value.slice P2 i k2).ownBlock.toList) hri (HNL.out _ hpbl)⟩) (first
              | (have _t := hcb; refine step_joing sl_int rfl (.tmp 91) (.tmp 102) rfl (l := [b]) (base := wf.heap.size) (v := .slice P2 i k2) (u := .slice (some ⟨wr.heap.size + 1, 0, none⟩) 1 1) (ys := [X + Z]) (by first | (simp [Act.eval]; done) | (simp only [Act.eval, Act.put]; simp; done) | simp [Act.eval, Act.put]) (by first | (simp [Act.eval]; done) | (simp only [Act.eval, Act.put]; simp; done) | simp [Act.eval, Act.put]) (h14A.new (kf [] wA _)) (isN_cell hcb (fun hm => by rcases List.mem_append.1 hm with h | h; exact absurd (HOB2.out _ h).2 (by omega); exact absurd (List.mem_singleton.1 h) (by omega))) (m := i + 1) (by rw [HL2.out]; rfl) (by omega) (Nat.le_trans (Nat.le_trans hzr hzA) (kf [] wA _).size) ?_; intro V2 q2 wB hown2 hg2 hnew2; haveI kbB : KB ((Value.slice P1 i k1).ownBlock.toList ++ (Value.slice P2 i k2).ownBlock.toList) wB _ := ⟨hg2.more (fun y hy => List.mem_append.2 (.inr hy))⟩; have h13B : OwL IsN 0 3 wf.heap.size wB [b] (.slice V1 (i + 1) q1) (T1 ++ [X + Y]) := (((hown1.new (kf [] wA _)).anyN (l' := (Value.slice P2 i k2).ownBlock.toList ++ [b])).keeps hg2 (fun y hy => ⟨.inl (List.mem_append.2 (.inl hy)), fun e => by rcases hnew1 y (by rw [e]; simp) with h | h; exact HDJ.out y h hy; exact absurd (HOB2.out _ hy).2 (by omega)⟩)).anyN; have hnew2 : ∀ y ∈ (Value.slice V2 (i + 1) q2).ownBlock.toList, y ∈ (Value.slice P2 i k2).ownBlock.toList ∨ wA.heap.size ≤ y := (fun y hy => (hnew2 y hy).imp id (fun h => Nat.le_trans (kf [] wA _).size h)))
              | (have _t := hcc; refine step_joing sl_int rfl (.tmp 91) (.tmp 102) rfl (l := [b]) (base := wf.heap.size) (v := .slice P2 i k2) (u := .slice (some ⟨wr.heap.size, 0, none⟩) 1 1) (ys := [X + Z]) (by first | (simp [Act.eval]; done) | (simp only [Act.eval, Act.put]; simp; done) | simp [Act.eval, Act.put]) (by first | (simp [Act.eval]; done) | (simp only [Act.eval, Act.put]; simp; done) | simp [Act.eval, Act.put]) (h14A.new (kf [] wA _)) (isN_cell hcc (fun hm => by rcases List.mem_append.1 hm with h | h; exact absurd (HOB2.out _ h).2 (by omega); exact absurd (List.mem_singleton.1 h) (by omega))) (m := i + 1) (by rw [HL2.out]; rfl) (by omega) (Nat.le_trans (Nat.le_trans hzr hzA) (kf [] wA _).size) ?_; intro V2 q2 wB hown2 hg2 hnew2; haveI kbB : KB ((Value.slice P1 i k1).ownBlock.toList ++ (Value.slice P2 i k2).ownBlock.toList) wB _ := ⟨hg2.more (fun y hy => List.mem_append.2 (.inr hy))⟩; have h13B : OwL IsN 0 3 wf.heap.size wB [b] (.slice V1 (i + 1) q1) (T1 ++ [X + Y]) := (((hown1.new (kf [] wA _)).anyN (l' := (Value.slice P2 i k2).ownBlock.toList ++ [b])).keeps hg2 (fun y hy => ⟨.inl (List.mem_append.2 (.inl hy)), fun e => by rcases hnew1 y (by rw [e]; simp) with h | h; exact HDJ.out y h hy; exact absurd (HOB2.out _ hy).2 (by omega)⟩)).anyN; have hnew2 : ∀ y ∈ (Value.slice V2 (i + 1) q2).ownBlock.toList, y ∈ (Value.slice P2 i k2).ownBlock.toList ∨ wA.heap.size ≤ y := (fun y hy => (hnew2 y hy).imp id (fun h => Nat.le_trans (kf [] wA _).size h)))
              | (have _t := hown1; refine step_joing sl_int rfl (.tmp 91) (.tmp 102) rfl (l := [b]) (base := wf.heap.size) (v := .slice P2 i k2) (u := .slice (some ⟨wA.heap.size, 0, none⟩) 1 1) (ys := [X + Z]) (by first | (simp [Act.eval]; done) | (simp only [Act.eval, Act.put]; simp; done) | simp [Act.eval, Act.put]) (by first | (simp [Act.eval]; done) | (simp only [Act.eval, Act.put]; simp; done) | simp [Act.eval, Act.put]) (h14A.new (kf [] wA _)) (isN_cell (World.cell?_alloc_new _ _ _ _) (fun hm => by rcases List.mem_append.1 hm with h | h; exact absurd (HOB2.out _ h).2 (by omega); exact absurd (List.mem_singleton.1 h) (by omega))) (m := i + 1) (by rw [HL2.out]; rfl) (by omega) (Nat.le_trans (Nat.le_trans hzr hzA) (kf [] wA _).size) ?_; intro V2 q2 wB hown2 hg2 hnew2; haveI kbB : KB ((Value.slice P1 i k1).ownBlock.toList ++ (Value.slice P2 i k2).ownBlock.toList) wB _ := ⟨hg2.more (fun y hy => List.mem_append.2 (.inr hy))⟩; have h13B : OwL IsN 0 3 wf.heap.size wB [b] (.slice V1 (i + 1) q1) (T1 ++ [X + Y]) := (((hown1.new (kf [] wA _)).anyN (l' := (Value.slice P2 i k2).ownBlock.toList ++ [b])).keeps hg2 (fun y hy => ⟨.inl (List.mem_append.2 (.inl hy)), fun e => by rcases hnew1 y (by rw [e]; simp) with h | h; exact HDJ.out y h hy; exact absurd (HOB2.out _ hy).2 (by omega)⟩)).anyN; have hnew2 : ∀ y ∈ (Value.slice V2 (i + 1) q2).ownBlock.toList, y ∈ (Value.slice P2 i k2).ownBlock.toList ∨ wA.heap.size ≤ y := (fun y hy => (hnew2 y hy).imp id (fun h => Nat.le_trans (kf [] wA _).size h)))
              | ((with_reducible show (if _ then Oper.wp _ _ _ ((World.alloc wr _).drew) _ _ else _)); refine step_joing sl_int rfl (.tmp 79) (.tmp 89) rfl (l := [b]) (base := wf.heap.size) (v := .slice P1 i k1) (u := .slice (some ⟨wr.heap.size, 0, none⟩) 1 1) (ys := [X + Y]) (by first | (simp [Act.eval]; done) | (simp only [Act.eval, Act.put]; simp; done) | simp [Act.eval, Act.put]) (by first | (simp [Act.eval]; done) | (simp only [Act.eval, Act.put]; simp; done) | simp [Act.eval, Act.put]) (HO1.out.new (kf [] wr _)) (isN_cell (World.cell?_alloc_new _ _ _ _) (fun hm => by rcases List.mem_append.1 hm with h | h; exact absurd (HOB1.out _ h).2 (by omega); exact absurd (List.mem_singleton.1 h) (by omega))) (m := i + 1) (by rw [HL1.out]; rfl) (by omega) (Nat.le_trans hzr (kf [] wr _).size) ?_; intro V1 q1 wA hown1 hg1 hnew1; haveI kbA : KB ((Value.slice P1 i k1).ownBlock.toList ++ (Value.slice P2 i k2).ownBlock.toList) wA _ := ⟨hg1.more (fun y hy => List.mem_append.2 (.inl hy))⟩; have hzA : wr.heap.size ≤ wA.heap.size := (kf ((Value.slice P1 i k1).ownBlock.toList ++ (Value.slice P2 i k2).ownBlock.toList) wr wA).size; have hnew1 : ∀ y ∈ (Value.slice V1 (i + 1) q1).ownBlock.toList, y ∈ (Value.slice P1 i k1).ownBlock.toList ∨ wr.heap.size ≤ y := (fun y hy => (hnew1 y hy).imp id (fun h => Nat.le_trans (kf [] wr _).size h)); have h14A : OwL IsN 0 3 wf.heap.size wA [b] (.slice P2 i k2) T2 := (((HO2.out.new (kf [] wr _)).anyN (l' := (Value.slice P1 i k1).ownBlock.toList ++ [b])).keeps hg1 (fun y hy => ⟨.inl (List.mem_append.2 (.inl hy)), fun e => HDJ.out y hy (by rw [e]; simp)⟩)).anyN)
              | ((with_reducible show (if _ then Oper.wp _ _ _ ((World.alloc (World.alloc wr (.cells #[.int .i64 (X + Y)] 3)) _).drew) _ _ else _)); refine step_joing sl_int rfl (.tmp 79) (.tmp 89) rfl (l := [b]) (base := wf.heap.size) (v := .slice P1 i k1) (u := .slice (some ⟨wr.heap.size, 0, none⟩) 1 1) (ys := [X + Y]) (by first | (simp [Act.eval]; done) | (simp only [Act.eval, Act.put]; simp; done) | simp [Act.eval, Act.put]) (by first | (simp [Act.eval]; done) | (simp only [Act.eval, Act.put]; simp; done) | simp [Act.eval, Act.put]) (HO1.out.new (kf [] wr _)) (isN_cell ((World.cell?_alloc_old _ _ _ (by simp)).trans (World.cell?_alloc_new _ _ _ _)) (fun hm => by rcases List.mem_append.1 hm with h | h; exact absurd (HOB1.out _ h).2 (by omega); exact absurd (List.mem_singleton.1 h) (by omega))) (m := i + 1) (by rw [HL1.out]; rfl) (by omega) (Nat.le_trans hzr (kf [] wr _).size) ?_; intro V1 q1 wA hown1 hg1 hnew1; haveI kbA : KB ((Value.slice P1 i k1).ownBlock.toList ++ (Value.slice P2 i k2).ownBlock.toList) wA _ := ⟨hg1.more (fun y hy => List.mem_append.2 (.inl hy))⟩; have hzA : wr.heap.size ≤ wA.heap.size := (kf ((Value.slice P1 i k1).ownBlock.toList ++ (Value.slice P2 i k2).ownBlock.toList) wr wA).size; have hnew1 : ∀ y ∈ (Value.slice V1 (i + 1) q1).ownBlock.toList, y ∈ (Value.slice P1 i k1).ownBlock.toList ∨ wr.heap.size ≤ y := (fun y hy => (hnew1 y hy).imp id (fun h => Nat.le_trans (kf [] wr _).size h)); have h14A : OwL IsN 0 3 wf.heap.size wA [b] (.slice P2 i k2) T2 := (((HO2.out.new (kf [] wr _)).anyN (l' := (Value.slice P1 i k1).ownBlock.toList ++ [b])).keeps hg1 (fun y hy => ⟨.inl (List.mem_append.2 (.inl hy)), fun e => HDJ.out y hy (by rw [e]; simp)⟩)).anyN; have hcb : wA.cell? ⟨wr.heap.size + 1, 0, none⟩ = some (.int .i64 (X + Z)) := hg1.read (by simp) (fun hm => absurd (HOB1.out _ hm).2 (by simp)))
              | ((with_reducible show (if _ then Oper.wp _ _ _ ((World.alloc (World.alloc wr (.cells #[.int .i64 (X + Z)] 3)) _).drew) _ _ else _)); refine step_joing sl_int rfl (.tmp 79) (.tmp 89) rfl (l := [b]) (base := wf.heap.size) (v := .slice P1 i k1) (u := .slice (some ⟨wr.heap.size + 1, 0, none⟩) 1 1) (ys := [X + Y]) (by first | (simp [Act.eval]; done) | (simp only [Act.eval, Act.put]; simp; done) | simp [Act.eval, Act.put]) (by first | (simp [Act.eval]; done) | (simp only [Act.eval, Act.put]; simp; done) | simp [Act.eval, Act.put]) (HO1.out.new (kf [] wr _)) (isN_cell (by simp) (fun hm => by rcases List.mem_append.1 hm with h | h; exact absurd (HOB1.out _ h).2 (by omega); exact absurd (List.mem_singleton.1 h) (by omega))) (m := i + 1) (by rw [HL1.out]; rfl) (by omega) (Nat.le_trans hzr (kf [] wr _).size) ?_; intro V1 q1 wA hown1 hg1 hnew1; haveI kbA : KB ((Value.slice P1 i k1).ownBlock.toList ++ (Value.slice P2 i k2).ownBlock.toList) wA _ := ⟨hg1.more (fun y hy => List.mem_append.2 (.inl hy))⟩; have hzA : wr.heap.size ≤ wA.heap.size := (kf ((Value.slice P1 i k1).ownBlock.toList ++ (Value.slice P2 i k2).ownBlock.toList) wr wA).size; have hnew1 : ∀ y ∈ (Value.slice V1 (i + 1) q1).ownBlock.toList, y ∈ (Value.slice P1 i k1).ownBlock.toList ∨ wr.heap.size ≤ y := (fun y hy => (hnew1 y hy).imp id (fun h => Nat.le_trans (kf [] wr _).size h)); have h14A : OwL IsN 0 3 wf.heap.size wA [b] (.slice P2 i k2) T2 := (((HO2.out.new (kf [] wr _)).anyN (l' := (Value.slice P1 i k1).ownBlock.toList ++ [b])).keeps hg1 (fun y hy => ⟨.inl (List.mem_append.2 (.inl hy)), fun e => HDJ.out y hy (by rw [e]; simp)⟩)).anyN; have hcc : wA.cell? ⟨wr.heap.size, 0, none⟩ = some (.int .i64 (X + Z)) := hg1.read ((World.cell?_alloc_old _ _ _ (by simp)).trans (World.cell?_alloc_new _ _ _ _)) (fun hm => absurd (HOB1.out _ hm).2 (by simp))))
            all_goals
              have hdj2 : ∀ q ∈ (Value.slice V1 (i + 1) q1).ownBlock.toList, q ∉ (Value.slice V2 (i + 1) q2).ownBlock.toList := fun q h1 h2 => by
                rcases hnew1 q h1 with h | h
                · rcases hnew2 q h2 with h' | h'
                  · exact HDJ.out q h h'
                  · have := (HOB1.out _ h).2; omega
                · rcases hnew2 q h2 with h' | h'
                  · have := (HOB2.out _ h').2; omega
                  · have := (hown1.blocks q h1).2; omega
              have hkB : Keeps [] wf wB := HKR.out.step (kf ((Value.slice P1 i k1).ownBlock.toList ++ (Value.slice P2 i k2).ownBlock.toList) wr wB) (fun y hy => .inr (by
                rcases List.mem_append.1 hy with h | h
                · exact (HOB1.out _ h).1
                · exact (HOB2.out _ h).1))
              have HR1 := Lib.hid h13B
              have HR2 := Lib.hid hown2
              have HDJ2 := Lib.hid hdj2
              have HKB := Lib.hid hkB
              clear hdj2 hkB
              clear h13B hown1 hown2 hnew1 hnew2 hg1 hg2 h14A
              go_wp2_with fail
              go_roundg (n - i)
              case measure => omega
              case rel => exact ⟨i + 1, V1, q1, V2, q2, by omega, by omega, by go_num, rfl, rfl, by rw [HS1.out]; exact HR1.out, by rw [HS2.out]; exact HR2.out, HDJ2.out, HKB.out⟩
          · obtain rfl : i = n := by omega
            have hv1 : IsI wr [b] (.slice P1 i k1) (tabL i fun k => x.getD k 0 + y.getD k 0) := ho1.isL (by simp; omega)
            have hv2 : IsI wr [b] (.slice P2 i k2) (tabL i fun k => x.getD k 0 + r.base.getD k 0) := ho2.isL (by simp; omega)
            have hin2 := shift_in (v := tabL i fun k => x.getD k 0 + r.base.getD k 0) hn1 hn4 HS4.out HRL.out HR4.out.b4 (by rw [HTL.out]; exact HMS.out) HTR.out (tabL_len _ _) (fun k hk => by rw [tabL_get hk, HGX.out])
            have hin1 := fun zs (h : SumOk (i : Int) s r zs) => sum_in (v := tabL i fun k => x.getD k 0 + y.getD k 0) hn1 hn4 HS4.out HR4.out h (by rw [HTL.out]; exact HMS.out) (by rw [HUL.out]; exact HMR.out) HTR.out HUR.out (tabL_len _ _) (fun k hk => by rw [tabL_get hk, HGX.out, HGY.out])
            have hl1 := tabL_len i fun k => x.getD k 0 + y.getD k 0
            have hl2 := tabL_len i fun k => x.getD k 0 + r.base.getD k 0
            generalize (tabL i fun k => x.getD k 0 + y.getD k 0) = T1 at *
            generalize (tabL i fun k => x.getD k 0 + r.base.getD k 0) = T2 at *
            have hb9r := HB9.out.new hkr
            have hb11r := HB11.out.new hkr
            have hkt : Keeps [b] w2 wr := (HK6.out.trans (kf [b] w6 wa)).trans (((kf [] wa wf).trans hkr).nil [b])
            have hbr : b < wr.heap.size := by omega
            haveI kbr : KB [] wr wf := ⟨hkr⟩
            have hm11 := HSS11.out.keeps ((kf [] wd wr).nil [b])
            have hbl2 : (addV s.base r.base).length = i := by rw [addV_len, HSL.out]
            have hsm11 : Lin.Small ⟨addV s.base r.base, s.per⟩ := ⟨by show (addV s.base r.base).length ≤ 1000000; omega, by show s.per.length ≤ 1000000; rw [← HMS.out]; omega, fun k hk => by have := (HS4.out.good.per _ (getD_mem (d := []) hk)).len; show (s.per.getD k []).length ≤ 1000000; omega⟩
            have hga11 : GoodAll (i : Int) [⟨addV s.base r.base, s.per⟩] := by
              have := hin2.1.1
              unfold GoodN at this
              rwa [show ((⟨addV s.base r.base, s.per⟩ : Lin).base.length : Int) = (i : Int) by rw [show (⟨addV s.base r.base, s.per⟩ : Lin).base = addV s.base r.base from rfl, hbl2]] at this
            have hlast := fun W (k : Keeps [] wr W) => has_val (l := [b]) (n := (i : Int)) (ss := [⟨addV s.base r.base, s.per⟩]) (v := T2) (r := true) (w := W.alloc (.cells #[.slice B11 j11 d11, .slice B11' m11 d11'] 29)) (fun y hy => by rw [List.mem_singleton.1 hy]; exact Nat.lt_of_lt_of_le hbr ((k.alloc _).size)) (IsLins.one (t := 29) (fun y hy => by rw [List.mem_singleton.1 hy]; exact Nat.lt_of_lt_of_le hbr k.size) (hm11.new k)) (fun q hq => by rw [List.mem_singleton.1 hq]; exact hsm11) (by simp) ((hv2.new k).new ((Keeps.refl _ _).alloc _)) (by omega) ⟨fun _ => ⟨hga11, _, by simp, hin2⟩, fun _ => rfl⟩
            have hfin : ∀ W, Keeps [] wr W → Below w.heap.size w W := fun W k => HB2.out.trans ((hkt.trans (k.nil [b])).below (by simp; omega) (by omega))
            have HLAST := Lib.hid hlast
            have HFIN := Lib.hid hfin
            clear hlast hfin
            have hc0 := hb9r.c0
            have hc1 := hb9r.c1
            have he0 := hb11r.c0
            have he1 := hb11r.c1
            rcases HZ.out with hz | hz
            · obtain ⟨zs, hok, hl9⟩ := HSS9.out hz
              have hm9 := (hl9.new (kf [] wb wr))
              have hin := hin1 zs hok
              have hsm9 : Lin.Small ⟨addV s.base r.base, zs⟩ := ⟨by show (addV s.base r.base).length ≤ 1000000; omega, by show zs.length ≤ 1000000; have := hok.few; omega, fun k hk => by
                have := (hin.1.1.good.per _ (getD_mem (d := []) hk)).len
                show (zs.getD k []).length ≤ 1000000
                have h2 : (⟨addV s.base r.base, zs⟩ : Lin).base.length = i := hbl2
                rw [h2] at this
                exact Nat.le_trans (Nat.le_of_eq this) (by omega)⟩
              have hga9 : GoodAll (i : Int) [⟨addV s.base r.base, zs⟩] := by
                have := hin.1.1
                unfold GoodN at this
                rwa [show ((⟨addV s.base r.base, zs⟩ : Lin).base.length : Int) = (i : Int) by rw [show (⟨addV s.base r.base, zs⟩ : Lin).base = addV s.base r.base from rfl, hbl2]] at this
              have hfirst := has_val (l := [b]) (n := (i : Int)) (ss := [⟨addV s.base r.base, zs⟩]) (v := T1) (r := true) (w := wr.alloc (.cells #[.slice B9 j9 d9, .slice B9' m9 d9'] 29)) (fun y hy => by rw [List.mem_singleton.1 hy]; exact Nat.lt_of_lt_of_le hbr (((Keeps.refl [] wr).alloc _).size)) (IsLins.one (t := 29) (fun y hy => by rw [List.mem_singleton.1 hy]; exact hbr) hm9) (fun q hq => by rw [List.mem_singleton.1 hq]; exact hsm9) (by simp) (hv1.new ((Keeps.refl _ _).alloc _)) (by omega) ⟨fun _ => ⟨hga9, _, by simp, hin⟩, fun _ => rfl⟩
              subst hz
              have HFIRST := Lib.hid hfirst
              clear hfirst
              clear hin1 hin2 hok hl9 hm9 hin hsm9 hga9 hv1 hv2 hsm11 hga11 hm11 hkt hkr ho1 ho2 hdj hl1 hl2 hbl2
              go_wp2_with fail
              refine HFIRST.out.mono ?_
              rintro e wg ⟨rfl, hk⟩
              have hkg : Keeps [] wr wg := ((Keeps.refl _ _).alloc _).trans hk
              have he0 := hkg.read he0 (by simp)
              have he1 := hkg.read he1 (by simp)
              have HKG := Lib.hid hkg
              clear hkg
              clear hk
              go_wp2_with fail
              refine (HLAST.out wg HKG.out).mono ?_
              rintro e wh ⟨rfl, hk⟩
              have hend := HFIN.out wh (HKG.out.trans (((Keeps.refl _ _).alloc _).trans hk))
              have HEND := Lib.hid hend
              clear hend
              clear hk
              go_wp2_with fail
              go_ret
              exact ⟨rfl, HEND.out⟩
            · subst hz
              clear hin1 hin2 hv1 hv2 hsm11 hga11 hm11 hkt hkr ho1 ho2 hdj hl1 hl2 hbl2
              go_wp2_with fail
              refine (HLAST.out wr (Keeps.refl _ _)).mono ?_
              rintro e wh ⟨rfl, hk⟩
              have hend := HFIN.out wh (((Keeps.refl _ _).alloc _).trans hk)
              have HEND := Lib.hid hend
              clear hend
              clear hk
              go_wp2_with fail
              go_ret
              exact ⟨rfl, HEND.out⟩
  · have hd : decide ((len : Int) ≤ 400) = false := by simp; omega
    go_enter Try.func7, Try.ntmps7
    go_wp2_with fail
    refine (awake_any w).mono ?_
    rintro e w1 ⟨rfl, hb1⟩
    go_wp2_with fail
    refine (few_any w1 A0 len cap).mono ?_
    rintro e w' ⟨rfl, rfl⟩
    rw [hd]
    go_wp2_with fail
    refine (awake_any w1).mono ?_
    rintro e w2 ⟨rfl, hb2⟩
    go_wp2_with fail
    go_ret
    exact ⟨rfl, hb1.trans (hb2.mono hb1.size)⟩
end Go.Proofs.Ytdhadnnakcdfiaa
