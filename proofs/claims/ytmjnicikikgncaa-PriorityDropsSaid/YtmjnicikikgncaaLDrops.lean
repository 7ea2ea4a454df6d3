/- The walk of coverabilitylaw05.PriorityDrops. -/
import Derived.Test.YtmjnicikikgncaaLJoins

namespace Go.Proofs.Ytmjnicikikgncaa
set_option linter.unusedVariables false
open Go.RowKit

def subs : List Int → List (List Int)
  | [] => [[]]
  | x :: a => subs a ++ (subs a).map (x :: ·)
theorem subs_len : ∀ a : List Int, (subs a).length = 2 ^ a.length
  | [] => rfl
  | x :: a => by rw [subs, List.length_append, List.length_map, subs_len a, List.length_cons, Nat.pow_succ]; omega
theorem mem_subs : ∀ {a x : List Int}, x.Sublist a → x ∈ subs a
  | [], x, h => by rw [List.eq_nil_of_sublist_nil h]; simp [subs]
  | y :: a, x, h => by
    rw [subs, List.mem_append]
    cases h with
    | cons _ h => exact .inl (mem_subs h)
    | cons_cons _ h => exact .inr (List.mem_map.2 ⟨_, mem_subs h, rfl⟩)

/-- What the search has come to: distinct words below the first one, it among them; the drops of the first i are there. -/
structure Rch (r v : List Int) (L : List (List Int)) (i : Nat) : Prop where
  nodup : L.Nodup
  top : v ∈ L
  low : ∀ x ∈ L, PValid r x ∧ PLe (rkF r) x v
  closed : ∀ j, j < i → ∀ x, IsPDrop r (L.getD j []) x → x ∈ L
theorem Rch.len {r v : List Int} {L : List (List Int)} {i : Nat} (h : Rch r v L i) (h7 : v.length ≤ 7) : L.length ≤ 128 := by
  have h1 := nodup_len h.nodup (L := subs v) fun x hx => mem_subs (h.low x hx).2.sub
  rw [subs_len] at h1
  exact Nat.le_trans h1 (Nat.pow_le_pow_right (by omega) h7)
theorem Rch.start {r v : List Int} (hv : PValid r v) : Rch r v [v] 0 :=
  ⟨by simp, by simp, fun x hx => by rw [List.mem_singleton.1 hx]; exact ⟨hv, PLe.refl _⟩, fun j hj => absurd hj (Nat.not_lt_zero j)⟩
theorem drop_low {r v y x : List Int} (hy : PValid r y ∧ PLe (rkF r) y v) (h : IsPDrop r y x) : PValid r x ∧ PLe (rkF r) x v := by
  have h1 := h.2.len
  exact ⟨⟨h.1.1, by have := h.1.2.1; omega, fun z hz => h.1.2.2 z (h.2.ple.sub.subset hz)⟩, h.2.ple.trans hy.2⟩
theorem Rch.put {r v : List Int} {L : List (List Int)} {i : Nat} {x : List Int} (h : Rch r v L i) (hi : i ≤ L.length) (hx : PValid r x ∧ PLe (rkF r) x v) (hn : x ∉ L) : Rch r v (L ++ [x]) i := by
  refine ⟨?_, by simp [h.top], fun y hy => ?_, fun j hj y hy => ?_⟩
  · rw [List.nodup_append]
    exact ⟨h.nodup, by simp, fun a ha b hb e => hn (by rw [List.mem_singleton.1 hb] at e; rw [← e]; exact ha)⟩
  · rcases List.mem_append.1 hy with h1 | h1
    · exact h.low y h1
    · rw [List.mem_singleton.1 h1]; exact hx
  · rw [getD_append_left' _ _ _ (by omega)] at hy
    exact List.mem_append.2 (.inl (h.closed j hj y hy))
theorem Rch.next {r v : List Int} {L : List (List Int)} {i : Nat} (h : Rch r v L i) (hx : ∀ x, IsPDrop r (L.getD i []) x → x ∈ L) : Rch r v L (i + 1) :=
  ⟨h.nodup, h.top, h.low, fun j hj x hd => by
    by_cases e : j = i
    · subst e; exact hx x hd
    · exact h.closed j (by omega) x hd⟩
theorem Rch.down {r v : List Int} {L : List (List Int)} (h : Rch r v L L.length) {a : List Int} : ∀ (n : Nat) (y : List Int), y.length ≤ n → y ∈ L → PLe (rkF r) a y → a ∈ L
  | n, y, hn, hy, hp => by
    by_cases e : a = y
    · rw [e]; exact hy
    · obtain ⟨x, hx, hax⟩ := hp.step e
      have hl := hx.len
      obtain ⟨j, hj, rfl⟩ := mem_getD (d := []) hy
      match n, hn with
      | 0, hn => omega
      | n + 1, hn => exact Rch.down h n x (by omega) (h.closed j hj x ⟨(h.low _ hy).1, hx⟩) hax
theorem Rch.leq {r v a : List Int} {L : List (List Int)} (h : Rch r v L L.length) (ha : PValid r a) (hv : PValid r v) : a ∈ L ↔ pleB r a v = true := by
  rw [pleB_true]
  exact ⟨fun h1 => ⟨ha, hv, (h.low a h1).2⟩, fun h1 => h.down _ v (Nat.le_refl _) h.top h1.2.2⟩
theorem take_mem {L : List (List Int)} {q : Nat} {x : List Int} (hq : q < L.length) : x ∈ L.take (q + 1) ↔ x ∈ L.take q ∨ x = L.getD q [] := by
  rw [List.take_succ_eq_append_getElem hq, List.mem_append, List.mem_singleton]
  simp [List.getD_eq_getElem?_getD, hq]

set_option maxRecDepth 100000 in
set_option maxHeartbeats 8000000 in
theorem drops_law_any (w : World) (len cap : Nat) (A0 : Option Addr) (l : Nat → Int) (hR : Rd w w.heap.size A0 len (fun i => .int .i64 (l i))) :
    Calls Try.prog 4 #[.slice A0 len cap] w fun e w' => e = .returned (.bool true) ∧ Below w.heap.size w w' := by
  have HR := Lib.hid hR
  clear hR
  by_cases hlen : len ≤ 400
  · have hd : decide ((len : Int) ≤ 400) = true := by simp; omega
    go_enter Try.func4, Try.ntmps4
    go_wp2_with fail
    refine (awake_any w).mono ?_
    rintro e w1 ⟨rfl, hb1⟩
    have hz1 := hb1.size
    go_wp2_with fail
    refine (few_any w1 A0 len cap).mono ?_
    rintro e w' ⟨rfl, rfl⟩
    rw [hd]
    go_wp2_with fail
    refine (new_any w1 w.heap.size A0 len cap l (HR.out.below hb1) hlen hz1).mono ?_
    rintro e w2 ⟨rfl, hD2, hb2⟩
    have hz2 := hb2.size
    have hbl2 := hD2.lt
    have hB2 := hb1.trans (hb2.mono hz1)
    have HD2 := Lib.hid hD2
    have HB2 := Lib.hid hB2
    clear hD2 hB2
    clear hb1 hb2
    generalize w1.heap.size = b at *
    go_wp2_with fail
    refine (ranks_any w2 b w.heap.size 2 HD2.out (by omega)).mono ?_
    rintro e w3 ⟨Ar, cr, r, rfl, hnr, hrr, hAr, hDr, hK⟩
    have hzr := hK.size
    haveI kbr : KB [b] w3 w2 := ⟨hK⟩
    have HAR := Lib.hid hAr
    have HDR := Lib.hid hDr
    have HNR := Lib.hid hnr
    have HRR := Lib.hid hrr
    clear hAr hDr hnr hrr
    clear hK
    go_wp2_with fail
    refine (word_any w3 b w.heap.size 2 3 HDR.out (by omega) (by omega)).mono ?_
    rintro e w4 ⟨A1, n1, c1, a, rfl, hn1, hle1, har, hA1, hD1, hK⟩
    have hz1 := hK.size
    have hv1 : PValid r a := pvalid_deck (n := 2) HNR.out.symm (by omega) (by omega) HRR.out (by omega) har
    haveI kb1 : KB [b] w4 w3 := ⟨hK⟩
    have HA1 := Lib.hid hA1
    have HD1 := Lib.hid hD1
    have HN1 := Lib.hid hn1
    have HV1 := Lib.hid hv1
    clear hA1 hD1 hn1 hv1
    clear hK har
    go_wp2_with fail
    refine (word_any w4 b w.heap.size 2 7 HD1.out (by omega) (by omega)).mono ?_
    rintro e w5 ⟨A2, n2, c2, v, rfl, hn2, hle2, har, hA2, hD2, hK⟩
    have hz2 := hK.size
    have hv2 : PValid r v := pvalid_deck (n := 2) HNR.out.symm (by omega) (by omega) HRR.out (by omega) har
    haveI kb2 : KB [b] w5 w4 := ⟨hK⟩
    have HA2 := Lib.hid hA2
    have HD2 := Lib.hid hD2
    have HN2 := Lib.hid hn2
    have HV2 := Lib.hid hv2
    clear hA2 hD2 hn2 hv2
    clear hK har
    go_wp2_with fail
    have hb5 : b < w5.heap.size := by omega
    have hr5 : IsI w5 [b] (.slice Ar 2 cr) r := IsI.now HAR.out
    have ha5 : IsI w5 [b] (.slice A1 n1 c1) a := IsI.now HA1.out
    have hv5 : IsI w5 [b] (.slice A2 n2 c2) v := IsI.now HA2.out
    have hlen := fun L i (h : Rch r v L i) => h.len (by rw [← HN2.out]; omega)
    have hone : OwL IsI [] 22 w5.heap.size (w5.alloc (.cells #[.slice A2 n2 c2] 22)) [b] (.slice (some ⟨w5.heap.size, 0, none⟩) 1 1) [v] := OwL.made1 hv5
    have hk5 : Keeps [b] w5 (w5.alloc (.cells #[.slice A2 n2 c2] 22)) := (Keeps.refl _ _).alloc _
    have HR5 := Lib.hid hr5
    have HA5 := Lib.hid ha5
    have HV5 := Lib.hid hv5
    have HLEN := Lib.hid hlen
    have HONE := Lib.hid hone
    have HK5 := Lib.hid hk5
    clear hr5 ha5 hv5 hlen hone hk5
    go_loopg [7, 8] 200 (fun gh sv iv wr => ∃ (i n c : Nat) (V : Option Addr) (L : List (List Int)), 200 ≤ i + gh ∧ i ≤ n ∧ n = L.length ∧ iv = .int .i64 (i : Int) ∧ sv = .slice V n c ∧ Rch r v L i ∧ OwL IsI [] 22 w5.heap.size wr [b] (.slice V n c) L ∧ Keeps [b] w5 wr)
    case atStart => exact ⟨0, 1, 1, _, [v], by omega, by omega, rfl, rfl, rfl, Rch.start HV2.out, HONE.out, HK5.out⟩
    case round =>
      obtain ⟨i, n, c, V, L, hgh, hin, hnl, rfl, rfl, hrch, hO, hkr⟩ := hrel
      haveI kbr : KB [b] wr w5 := ⟨hkr⟩
      have hzr := hkr.size
      have hn128 := HLEN.out L i hrch
      rw [← hnl] at hn128
      by_cases hlt : i < n
      · obtain ⟨g, cc, u, hve, hg5, hgr, hcu, _, hru⟩ := hO.at_ (i := i) (by rw [← hnl]; exact hlt)
        rw [← hnl] at hve
        injection hve with e1 e2 e3
        subst e1; subst e3
        have hKW : Keeps [b] w5 wr := hkr
        have hbw : ∀ y ∈ g :: [b], y < wr.heap.size := fun y hy => by
          simp at hy; omega
        have hrw : IsI wr (g :: [b]) (.slice Ar 2 cr) r := Rok.keeps (Rok.weak HR5.out (l' := g :: [b]) fun y hy => by
          rcases List.mem_cons.1 hy with e | e
          · exact .inr (by omega)
          · exact .inl e) (hkr.more fun y hy => List.mem_cons.2 (.inr hy))
        have hyl := hrch.low _ (getD_mem (d := []) (show i < L.length by rw [← hnl]; exact hlt))
        have hcd := pdrops_is (l := g :: [b]) hbw hrw hru (by rw [← HNR.out]; omega) (by have := hyl.1.2.1; omega)
        obtain ⟨Au, cu, hu, _⟩ := hru.open
        rw [hu] at hcu hcd
        generalize hy0 : L.getD i [] = y0 at *
        obtain ⟨yn, hyn⟩ : ∃ yn, y0.length = yn := ⟨_, rfl⟩
        rw [hyn] at hcu hcd
        clear hyn
        have haz : (⟨g, 0, none⟩ : Addr).add i = ⟨g, i, none⟩ := addz _ _
        have HRCH := Lib.hid hrch
        have HO := Lib.hid hO
        have HKW := Lib.hid hKW
        have HYL := Lib.hid hyl
        have HCD := Lib.hid hcd
        have HNL := Lib.hid hnl
        have HY0 := Lib.hid hy0
        have HBW := Lib.hid hbw
        clear hrch hO hKW hyl hcd hnl hy0 hbw
        clear hu hru hrw hkr e2
        go_wp2_with fail
        refine HCD.out.mono ?_
        rintro e w7 ⟨X, m, cx, xs, hm, rfl, hascx, hxs, hOx, hk7⟩
        have hL7 := hOx.isL HBW.out
        obtain ⟨Y1, cy1, U, hey, _, _, hyc, hyr⟩ := hL7
        injection hey with e1 e2 e3
        subst e1; subst e3
        rw [← hm] at hyc hyr
        have hmb : m ≤ 12 := by
          have h1 := asc_len hascx (L := pdropsL r y0 (y0.length - 1)) fun z hz => (pdropsL_mem HYL.out.1).2 ((hxs z).1 hz)
          have h2 := pdropsL_len r y0 (y0.length - 1)
          have h3 := HYL.out.1.2.1
          omega
        have hO7 := HO.out.new hk7
        have hkw7 := HKW.out.trans (hk7.nil [b])
        have hz7 := hk7.size
        have hxl : ∀ x ∈ xs, PValid r x ∧ PLe (rkF r) x v := fun x hx => drop_low HYL.out ((hxs x).1 hx)
        have HM := Lib.hid hm
        have HYC := Lib.hid hyc
        have HYR := Lib.hid hyr
        have HO7 := Lib.hid hO7
        have HKW7 := Lib.hid hkw7
        have HXL := Lib.hid hxl
        have HXS := Lib.hid hxs
        clear hm hyc hyr hO7 hkw7 hxl hxs
        clear hascx hOx hk7 e2
        go_wp2_with fail
        go_loopg [7, 48] (m + 1) (fun gh sv tv wr => ∃ (t n' c' : Nat) (V' : Option Addr) (L' : List (List Int)), m + 1 ≤ t + gh ∧ t ≤ m ∧ n' = L'.length ∧ tv = .int .i64 (t : Int) ∧ sv = .slice V' n' c' ∧ Rch r v L' i ∧ i < n' ∧ L'.getD i [] = y0 ∧ (∀ q, q < t → xs.getD q [] ∈ L') ∧ OwL IsI [] 22 w5.heap.size wr [b] (.slice V' n' c') L' ∧ Keeps [b] w5 wr ∧ Keeps [g] w7 wr ∧ ∀ y ∈ (Value.slice V' n' c').ownBlock.toList, y = g ∨ w7.heap.size ≤ y)
        case atStart => exact ⟨0, n, c, _, L, by omega, by omega, HNL.out, rfl, rfl, HRCH.out, hlt, HY0.out, fun q hq => by omega, HO7.out, HKW7.out, Keeps.refl _ _, fun y hy => by simp [Value.ownBlock] at hy; exact .inl hy⟩
        case round =>
          obtain ⟨t, n', c', V', L', hgh2, htm, hnl', rfl, rfl, hrch', hin', hy0', hin2, hO', hkw', hkg, hown⟩ := hrel
          have hzr' := hkw'.size
          have hzg := hkg.size
          have hn128' := HLEN.out L' i hrch'
          rw [← hnl'] at hn128'
          have HNL' := Lib.hid hnl'
          have HRCH' := Lib.hid hrch'
          have HY0' := Lib.hid hy0'
          have HIN2 := Lib.hid hin2
          have HO' := Lib.hid hO'
          have HKW' := Lib.hid hkw'
          have HKG := Lib.hid hkg
          have HOWN := Lib.hid hown
          clear hnl' hrch' hy0' hin2 hO' hkw' hkg hown
          by_cases hlt2 : t < m
          · have hkgl := HKG.out.more (l' := g :: [b]) fun y hy => by rw [List.mem_singleton.1 hy]; simp
            obtain ⟨px, rfl, hpx⟩ := (HYC.out.keeps hkgl).at_ hlt2
            have hrow7 : IsI w7 (g :: [b]) (U t) (xs.getD t []) := HYR.out t hlt2
            have hxv := HXL.out _ (getD_mem (d := []) (show t < xs.length by rw [← HM.out]; exact hlt2))
            have hrow : IsI wr ((Value.slice V' n' c').ownBlock.toList ++ [b]) (U t) (xs.getD t []) := by
              have g1 : IsI w7 ((Value.slice V' n' c').ownBlock.toList ++ (g :: [b])) (U t) (xs.getD t []) := Rok.weak hrow7 fun y hy => by
                rcases List.mem_append.1 hy with h | h
                · exact (HOWN.out y h).imp (fun h => by rw [h]; simp) id
                · exact .inl h
              exact Rok.weak (Rok.keeps g1 (HKG.out.more fun y hy => by rw [List.mem_singleton.1 hy]; simp)) fun y hy => .inl (by
                rcases List.mem_append.1 hy with h | h
                · exact List.mem_append.2 (.inl h)
                · exact List.mem_append.2 (.inr (by simp at h; simp [h])))
            obtain ⟨Ur, cr2, hUr, _⟩ := hrow.open
            rw [hUr] at hpx hrow
            generalize hxe : xs.getD t [] = x at *
            generalize hxn : x.length = xn at *
            have HROW := Lib.hid hrow
            have HXE := Lib.hid hxe
            have HXN := Lib.hid hxn
            have HXV := Lib.hid hxv
            clear hrow hxe hxn hxv
            clear hUr hrow7 hkgl
            go_wp2_with fail
            go_loopg [11, 54] (n' + 1) (fun gh kv qv wr2 => ∃ (q : Nat) (s : Bool), n' + 1 ≤ q + gh ∧ q ≤ n' ∧ qv = .int .i64 (q : Int) ∧ kv = .bool s ∧ (s = true ↔ x ∈ L'.take q) ∧ Keeps [] wr wr2)
            case atStart => exact ⟨0, false, by omega, by omega, rfl, rfl, by simp, Keeps.refl _ _⟩
            case round =>
              obtain ⟨q, s, hgh3, hqn, rfl, rfl, hs, hk2⟩ := hrel
              have hz2 := hk2.size
              have HS := Lib.hid hs
              have HK2 := Lib.hid hk2
              clear hs hk2
              by_cases hlt3 : q < n'
              · obtain ⟨g', cc', u', hve', _, _, hcu', _, hru'⟩ := (HO'.out.new HK2.out).at_ (i := q) (by rw [← HNL'.out]; exact hlt3)
                rw [← HNL'.out] at hve'
                injection hve' with e1 e2 e3
                subst e1; subst e3
                have hql := (HRCH'.out.low _ (getD_mem (d := []) (show q < L'.length by rw [← HNL'.out]; exact hlt3))).1.2.1
                have htk := take_mem (L := L') (q := q) (x := x) (by rw [← HNL'.out]; exact hlt3)
                have hcs := same_is (l := []) (Rok.weak (IsI.new HROW.out HK2.out) (l' := []) (by simp)) (Rok.weak hru' (l' := []) (by simp)) (by rw [HXN.out]; have := HXV.out.1.2.1; rw [HXN.out] at this; omega) (by omega)
                have hse : decide (x = L'.getD q []) = true ↔ x = L'.getD q [] := decide_eq_true_iff
                generalize decide (x = L'.getD q []) = sb at *
                have haz2 : (⟨g', 0, none⟩ : Addr).add q = ⟨g', q, none⟩ := addz _ _
                obtain ⟨Aq, cq, hq, _⟩ := hru'.open
                rw [hq] at hcu' hcs
                obtain ⟨qn, hqn2⟩ : ∃ qn, (L'.getD q []).length = qn := ⟨_, rfl⟩
                rw [hqn2] at hcu' hcs
                have HCS := Lib.hid hcs
                have HSE := Lib.hid hse
                have HTK := Lib.hid htk
                clear hcs hse htk
                clear hqn2 hq hru' hql e2
                cases s with
                | true =>
                  go_wp2_with fail
                  go_roundg (n' - q)
                  case measure => omega
                  case rel => exact ⟨q + 1, true, by omega, by omega, by go_num, rfl, by rw [HTK.out, ← HS.out]; simp, HK2.out⟩
                | false =>
                  go_wp2_with fail
                  refine HCS.out.mono ?_
                  rintro e w9 ⟨rfl, hq9⟩
                  have hk9 := HK2.out.trans (quiet_keeps hq9)
                  have HK9 := Lib.hid hk9
                  clear hk9
                  clear hq9
                  go_wp2_with fail
                  go_roundg (n' - q)
                  case measure => omega
                  case rel => exact ⟨q + 1, sb, by omega, by omega, by go_num, rfl, by rw [HTK.out, ← HS.out, HSE.out]; simp, HK9.out⟩
              · obtain rfl : q = n' := by omega
                have htl : L'.take q = L' := by rw [HNL'.out, List.take_length]
                have hxt : xs.getD t [] = x := HXE.out
                have hkw2 := HKW'.out.trans (HK2.out.nil [b])
                have hkg2 := HKG.out.trans (HK2.out.nil [g])
                have hO2 := HO'.out.new HK2.out
                cases s with
                | true =>
                  have hxL : x ∈ L' := HS.out.1 rfl |> fun h => by rw [htl] at h; exact h
                  have hin3 : ∀ k, k < t + 1 → xs.getD k [] ∈ L' := fun k hk => by
                    by_cases e : k = t
                    · subst e; rw [hxt]; exact hxL
                    · exact HIN2.out k (by omega)
                  have HKW2 := Lib.hid hkw2
                  have HKG2 := Lib.hid hkg2
                  have HO2 := Lib.hid hO2
                  have HIN3 := Lib.hid hin3
                  clear hkw2 hkg2 hO2 hin3
                  clear htl hxt hxL
                  go_wp2_with fail
                  go_roundg (m - t)
                  case measure => omega
                  case rel => exact ⟨t + 1, q, c', V', L', by omega, by omega, HNL'.out, by go_num, rfl, HRCH'.out, hin', HY0'.out, HIN3.out, HO2.out, HKW2.out, HKG2.out, HOWN.out⟩
                | false =>
                  have hxL : x ∉ L' := fun h => by
                    have := HS.out.2 (by rw [htl]; exact h)
                    cases this
                  have hput := HRCH'.out.put (by rw [← HNL'.out]; omega) HXV.out hxL
                  have hrow2 := IsI.new HROW.out HK2.out
                  have hb2 : w5.heap.size ≤ wr.heap.size := hkw2.size
                  have hlp : L'.length + 1 = q + 1 := by rw [HNL'.out]
                  have hin3 : ∀ k, k < t + 1 → xs.getD k [] ∈ L' ++ [x] := fun k hk => by
                    by_cases e : k = t
                    · subst e; rw [hxt]; simp
                    · exact List.mem_append.2 (.inl (HIN2.out k (by omega)))
                  have hy2 : (L' ++ [x]).getD i [] = y0 := by rw [getD_append_left' _ _ _ (by rw [← HNL'.out]; exact hin')]; exact HY0'.out
                  have HKW2 := Lib.hid hkw2
                  have HKG2 := Lib.hid hkg2
                  have HO2 := Lib.hid hO2
                  have HPUT := Lib.hid hput
                  have HROW2 := Lib.hid hrow2
                  have HIN3 := Lib.hid hin3
                  have HY2 := Lib.hid hy2
                  have HLP := Lib.hid hlp
                  clear hkw2 hkg2 hO2 hput hrow2 hin3 hy2 hlp
                  clear htl hxt hxL
                  go_wp2_with (at_builtin; refine wpList_pushg sl_rowsi rfl _ _ rfl (w := wr) (y := x) rfl rfl HO2.out HROW2.out (m := q + 1) HLP.out (by omega) hb2 ?_; intro V6 c6 w8 hown8 hg8 hb8)
                  have g1 := HKW2.out.step hg8 fun y hy => .inr (HO2.out.blocks y hy).1
                  have g2 := HKG2.out.step hg8 fun y hy => (HOWN.out y hy).imp (fun h => by rw [h]; simp) id
                  have g3 := HKG2.out.size
                  go_roundg (m - t)
                  case measure => omega
                  case rel => exact ⟨t + 1, q + 1, c6, V6, L' ++ [x], by omega, by omega, by rw [List.length_append, ← HNL'.out]; rfl, by go_num, rfl, HPUT.out, by omega, HY2.out, HIN3.out, hown8, g1, g2, fun y hy => by
                    rcases hb8 y hy with h | h
                    · exact HOWN.out y h
                    · exact .inr (by omega)⟩
          · obtain rfl : t = m := by omega
            have hnext := HRCH'.out.next (fun x hx => by
              rw [HY0'.out] at hx
              obtain ⟨q, hq, e⟩ := mem_getD (d := []) ((HXS.out x).2 hx)
              rw [← e]; exact HIN2.out q (by rw [HM.out]; exact hq))
            have hd : decide ((300 : Int) < (n' : Int)) = false := decide_eq_false (by omega)
            have hd2 : decide (300 < n') = false := decide_eq_false (by omega)
            have HNEXT := Lib.hid hnext
            clear hnext
            go_wp2_with fail
            go_roundg (200 - (i + 1))
            case measure => omega
            case rel => exact ⟨i + 1, n', c', V', L', by omega, by omega, HNL'.out, by go_num, rfl, HNEXT.out, HO'.out, HKW'.out⟩
      · obtain rfl : i = n := by omega
        have hfin := hrch
        rw [hnl] at hfin
        have hlaw := hfin.leq HV1.out HV2.out
        have hlow : ∀ q, q < i → pleB r (L.getD q []) v = true ∧ (L.getD q []).length ≤ 12 := fun q hq => by
          have := hrch.low _ (getD_mem (d := []) (show q < L.length by rw [← hnl]; exact hq))
          exact ⟨pleB_true.2 ⟨this.1, HV2.out, this.2⟩, this.1.2.1⟩
        have hkw0 := hkr
        have HLAW := Lib.hid hlaw
        have HLOW := Lib.hid hlow
        have HNL := Lib.hid hnl
        have HO := Lib.hid hO
        have HKW0 := Lib.hid hkw0
        have HRCH := Lib.hid hrch
        clear hlaw hlow hnl hO hkw0 hrch
        clear hfin hkr
        go_wp2_with fail
        go_loopg [14, 77] (i + 1) (fun gh fv qv wr2 => ∃ (q : Nat) (s : Bool), i + 1 ≤ q + gh ∧ q ≤ i ∧ qv = .int .i64 (q : Int) ∧ fv = .bool s ∧ (s = true ↔ a ∈ L.take q) ∧ Keeps [] wr wr2)
        case atStart => exact ⟨0, false, by omega, by omega, rfl, rfl, by simp, Keeps.refl _ _⟩
        case round =>
          obtain ⟨q, s, hgh2, hqi, rfl, rfl, hs, hk2⟩ := hrel
          have hz2 := hk2.size
          have hkb : Keeps [b] w5 wr := HKW0.out.trans (hk2.nil [b])
          have HS := Lib.hid hs
          have HK2 := Lib.hid hk2
          have HKB := Lib.hid hkb
          clear hs hk2 hkb
          by_cases hlt2 : q < i
          · obtain ⟨g, cc, u, hve, _, _, hcu, _, hru⟩ := (HO.out.new HK2.out).at_ (i := q) (by rw [← HNL.out]; exact hlt2)
            rw [← HNL.out] at hve
            injection hve with e1 e2 e3
            subst e1; subst e3
            have htk := take_mem (L := L) (q := q) (x := a) (by rw [← HNL.out]; exact hlt2)
            obtain ⟨hlq, hll⟩ := HLOW.out q hlt2
            have hrub : IsI wr [b] u (L.getD q []) := Rok.weak hru (l' := [b]) (fun y hy => .inl (by simp at hy; simp [hy]))
            have hcl := pleq_is (l := [b]) (fun y hy => by rw [List.mem_singleton.1 hy]; exact Nat.lt_of_lt_of_le hb5 HKB.out.size) (Rok.keeps HR5.out HKB.out) hrub (Rok.keeps HV5.out HKB.out) (by rw [← HNR.out]; omega) (by omega) (by rw [← HN2.out]; omega)
            rw [hlq] at hcl
            have hcs := fun W (k : Keeps [] wr W) => same_is (w := W) (l := [b]) (Rok.keeps (Rok.keeps HA5.out HKB.out) (k.nil [b])) (Rok.keeps hrub (k.nil [b])) (by rw [← HN1.out]; omega) (by omega)
            have hse : decide (a = L.getD q []) = true ↔ a = L.getD q [] := decide_eq_true_iff
            generalize decide (a = L.getD q []) = sb at *
            have haz2 : (⟨g, 0, none⟩ : Addr).add q = ⟨g, q, none⟩ := addz _ _
            obtain ⟨Aq, cq, hq, _⟩ := hru.open
            rw [hq] at hcu hcl
            simp only [hq] at hcs
            obtain ⟨qn, hqn2⟩ : ∃ qn, (L.getD q []).length = qn := ⟨_, rfl⟩
            rw [hqn2] at hcu hcl
            simp only [hqn2] at hcs
            have HCS := Lib.hid hcs
            have HSE := Lib.hid hse
            have HTK := Lib.hid htk
            have HCL := Lib.hid hcl
            clear hcs hse htk hcl
            clear hqn2 hq hru hrub hlq hll e2
            go_wp2_with fail
            refine HCL.out.mono ?_
            rintro e w9 ⟨rfl, hk9⟩
            have hcs := HCS.out w9 hk9
            have hk9 := HK2.out.trans hk9
            have HCS := Lib.hid hcs
            have HK9 := Lib.hid hk9
            clear hcs hk9
            cases s with
            | true =>
              go_wp2_with fail
              go_roundg (i - q)
              case measure => omega
              case rel => exact ⟨q + 1, true, by omega, by omega, by go_num, rfl, by rw [HTK.out, ← HS.out]; simp, HK9.out⟩
            | false =>
              go_wp2_with fail
              refine HCS.out.mono ?_
              rintro e w10 ⟨rfl, hq10⟩
              have hk10 := HK9.out.trans (quiet_keeps hq10)
              have HK10 := Lib.hid hk10
              clear hk10
              clear hq10
              go_wp2_with fail
              go_roundg (i - q)
              case measure => omega
              case rel => exact ⟨q + 1, sb, by omega, by omega, by go_num, rfl, by rw [HTK.out, ← HS.out, HSE.out]; simp, HK10.out⟩
          · obtain rfl : q = i := by omega
            have htl : L.take q = L := by rw [HNL.out, List.take_length]
            have hs2 := HS.out
            rw [htl, HLAW.out] at hs2
            have hcl := pleq_is (l := [b]) (fun y hy => by rw [List.mem_singleton.1 hy]; exact Nat.lt_of_lt_of_le hb5 HKB.out.size) (Rok.keeps HR5.out HKB.out) (Rok.keeps HA5.out HKB.out) (Rok.keeps HV5.out HKB.out) (by rw [← HNR.out]; omega) (by rw [← HN1.out]; omega) (by rw [← HN2.out]; omega)
            generalize pleB r a v = r2 at *
            have hsr : s = r2 := by rw [Bool.eq_iff_iff]; exact hs2
            subst hsr
            haveI kbz : KB [b] wr w5 := ⟨HKB.out⟩
            have HCL := Lib.hid hcl
            clear hcl
            clear htl hs2
            go_wp2_with fail
            refine HCL.out.mono ?_
            rintro e w9 ⟨rfl, hk9⟩
            haveI kb9 : KB [b] w9 wr := ⟨hk9.nil _⟩
            have hkf := HB2.out.trans ((kf [b] w2 w9).below (by simp; omega) (by omega))
            have HKF := Lib.hid hkf
            clear hkf
            clear hk9
            go_wp2_with fail
            go_ret
            exact ⟨by simp, HKF.out⟩
  · have hd : decide ((len : Int) ≤ 400) = false := by simp; omega
    go_enter Try.func4, Try.ntmps4
    go_wp2_with fail
    refine (awake_any w).mono ?_
    rintro e w1 ⟨rfl, hb1⟩
    go_wp2_with fail
    refine (few_any w1 A0 len cap).mono ?_
    rintro e w' ⟨rfl, rfl⟩
    rw [hd]
    go_wp2_with fail
    refine (awake_any w1).mono ?_
    rintro e w2 ⟨rfl, hb2⟩
    go_wp2_with fail
    go_ret
    exact ⟨rfl, hb1.trans (hb2.mono hb1.size)⟩
end Go.Proofs.Ytmjnicikikgncaa
