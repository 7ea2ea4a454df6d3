/- The walks of limit's Check, check and Has. -/
import Derived.Test.YtnmkinaokjekjaaGreatLim1
import Derived.Test.YtnmkinaokjekjaaGreatBeyL
import Derived.Test.YtnmkinaokjekjaaGreatQuietK
import Derived.Deep.RegionHeld3
namespace Go.Proofs.YtnmkinaokjekjaaGreat
set_option linter.unusedVariables false
open Go.RowKit

/-- 's[i:i+1]': an equation for the walk, and what it reads as. -/
theorem slice_one {P : Program} {t e : TypeId} {z : Value} {bytes : Nat} (T : SlT P t e z bytes) {α : Type} {R : Rp α} {d : α} {w : World} {l : List Nat} {A : Option Addr} {n c : Nat} {xs : List α} (h : IsL R d w l (.slice A n c) xs) (k : Nat) (hk : k < n) :
    ∃ A', (∀ (W : World), (Instr.slice t (.slice A n c) (some (.int .i64 (k : Int))) (some (.int .i64 ((k : Int) + 1))) none).run P W = .ok (.slice A' 1 (c - k)) W) ∧ IsL R d w l (.slice A' 1 (c - k)) [xs.getD k d] := by
  obtain ⟨A1, c1, V, hv, h1, h2, h3, h4⟩ := h
  injection hv with e1 e2 e3
  subst e1; subst e2; subst e3
  refine ⟨if c = k then A else A.map (·.add (k * 1)), fun W => ?_, ?_⟩
  · have hel := elem_of T.ht
    have hu : P.underlying t = some (.slice (P.elem t)) := by rw [hel]; exact T.ht
    rw [run_slice_lh (P := P) W t A xs.length c hu .i64 .i64 (k : Int) ((k : Int) + 1) (by omega) (by omega) (by omega), hel, size_of T]
    have e : ((k : Int) + 1).toNat - k = 1 := by omega
    simp [Result.andThen, sliced, e]
  · refine ⟨_, c - k, fun i => V (i + k), rfl, by simp; omega, fun hA => ?_, fun hn => ?_, fun i hi => ?_⟩
    · rw [if_neg (by omega)] at hA
      have : A = none := by cases A with
        | none => rfl
        | some a => simp at hA
      have := h2 this; omega
    · obtain ⟨a, e, hb, hc⟩ := h3 (by omega)
      refine ⟨a.add k, by rw [if_neg (by omega), e]; simp, by rw [block_of_add]; exact hb, fun i hi => ?_⟩
      have e0 : i = 0 := by simpa using hi
      subst e0
      rw [add_of_add, Nat.add_comm k 0]; exact hc _ (by omega)
    · have e0 : i = 0 := by simpa using hi
      subst e0
      show R w l (V (0 + k)) (xs.getD k d)
      rw [Nat.zero_add]; exact h4 _ hk

def ckAt (n : Int) (l : List (List Int)) (i : Nat) : Int := if elE n vvB (l.getD i []) ≠ 0 then elE n vvB (l.getD i []) else if 0 < i ∧ 0 ≤ cmpL (l.getD (i - 1) []) (l.getD i []) then 4 else 0
def chkL (n : Int) (l : List (List Int)) : Int := if dimB n 6 = false then 2 else if 256 < l.length then 1 else if frst (ckAt n l) l.length ≠ 0 then frst (ckAt n l) l.length else if (redF covG l).length = l.length then 0 else 7
theorem ckAt_zero {n : Int} {l : List (List Int)} {i : Nat} : ckAt n l i = 0 ↔ elE n vvB (l.getD i []) = 0 ∧ (0 < i → cmpL (l.getD (i - 1) []) (l.getD i []) < 0) := by
  unfold ckAt
  by_cases h : elE n vvB (l.getD i []) ≠ 0
  · rw [if_pos h]; exact ⟨fun h' => absurd h' h, fun h' => absurd h'.1 h⟩
  · rw [if_neg h]
    have h := Decidable.not_not.1 h
    by_cases h2 : 0 < i ∧ 0 ≤ cmpL (l.getD (i - 1) []) (l.getD i [])
    · rw [if_pos h2]; exact ⟨fun h => by omega, fun h' => by have := h'.2 h2.1; omega⟩
    · rw [if_neg h2]; exact ⟨fun _ => ⟨h, fun hi => by omega⟩, fun _ => rfl⟩

/-- Limits that are valid. -/
structure LimOk (n : Nat) (l : List (List Int)) : Prop where
  lo : 1 ≤ n
  hi : n ≤ 6
  few : l.length ≤ 256
  el : ∀ x ∈ l, x.length = n ∧ VVal x
  asc : Asc l
  anti : ∀ x ∈ l, ∀ y ∈ l, covG y x = true → y = x
theorem asc_of_steps {l : List (List Int)} (h : ∀ i, i < l.length → 0 < i → cmpL (l.getD (i - 1) []) (l.getD i []) < 0) : Asc l := by
  unfold Asc
  rw [List.pairwise_iff_getElem]
  intro i j hi hj hij
  have key : ∀ d, i + d + 1 < l.length → cmpL (l.getD i []) (l.getD (i + d + 1) []) < 0 := by
    intro d
    induction d with
    | zero => intro hd; have := h (i + 1) hd (by omega); simpa using this
    | succ d ih => intro hd; exact cmpL_trans (ih (by omega)) (by have := h (i + (d + 1) + 1) hd (by omega); simpa [Nat.add_assoc] using this)
  have := key (j - i - 1) (by omega)
  rw [show i + (j - i - 1) + 1 = j by omega] at this
  simpa [List.getD_eq_getElem?_getD, hi, hj] using this
theorem asc_step {l : List (List Int)} (h : Asc l) {i : Nat} (hi : i < l.length) (h0 : 0 < i) : cmpL (l.getD (i - 1) []) (l.getD i []) < 0 := by
  have := List.pairwise_iff_getElem.1 h (i - 1) i (by omega) hi (by omega)
  simpa [List.getD_eq_getElem?_getD, hi, show i - 1 < l.length by omega] using this
theorem nodup_same {a b : List (List Int)} (ha : a.Nodup) (hb : b.Nodup) (h : ∀ x, x ∈ a ↔ x ∈ b) : a.length = b.length :=
  Nat.le_antisymm (nodup_len ha fun x hx => (h x).1 hx) (nodup_len hb fun x hx => (h x).2 hx)
theorem red_all {n : Nat} {l : List (List Int)} (hl : ∀ x ∈ l, VVal x ∧ x.length = n) (hd : l.Nodup) : (redF covG l).length = l.length ↔ ∀ x ∈ l, ∀ y ∈ l, covG y x = true → y = x := by
  have ho := ordG hl
  have hinv := redF_inv ho
  constructor
  · intro hlen x hx y hy e
    have hin : x ∈ redF covG l := by
      refine Decidable.byContradiction fun hno => ?_
      have := nodup_len (L := l.erase x) hinv.nodup fun z hz => (List.mem_erase_of_ne (fun e => hno (by rw [← e]; exact hz))).2 (hinv.sub z hz)
      rw [List.length_erase_of_mem hx] at this
      have := List.length_pos_of_mem hx
      omega
    exact ((redF_mem ho).1 hin).2 y hy e
  · intro h
    exact nodup_same hinv.nodup hd fun x => (redF_mem ho).trans ⟨fun h => h.1, fun hx => ⟨hx, fun y hy e => h x hx y hy e⟩⟩
theorem chkL_zero {n : Int} {l : List (List Int)} : chkL n l = 0 ↔ (0 ≤ n ∧ LimOk n.toNat l) := by
  unfold chkL
  by_cases h : dimB n 6 = false
  · rw [if_pos h]
    exact ⟨fun h => by omega, fun ⟨h0, h'⟩ => absurd ⟨by have := h'.lo; omega, by have := h'.hi; omega⟩ (dimB_false.1 h)⟩
  · rw [if_neg h]
    have h1 := dimB_true.1 (by simpa using h)
    by_cases h2 : 256 < l.length
    · rw [if_pos h2]; exact ⟨fun h => by omega, fun h' => by have := h'.2.few; omega⟩
    · rw [if_neg h2]
      by_cases h3 : frst (ckAt n l) l.length = 0
      · rw [if_neg (by simpa using h3)]
        have h4 := fun i hi => ckAt_zero.1 (frst_zero.1 h3 i hi)
        have hel : ∀ x ∈ l, VVal x ∧ x.length = n.toNat := fun x hx => by
          obtain ⟨i, hi, e⟩ := mem_getD (d := []) hx
          have := elE_zero.1 (h4 i hi).1
          rw [e] at this
          exact ⟨vvB_true.1 this.2, by have := this.1; omega⟩
        have hasc := asc_of_steps fun i hi h0 => (h4 i hi).2 h0
        have hr := red_all hel (asc_nodup hasc)
        by_cases h5 : (redF covG l).length = l.length
        · rw [if_pos h5]; exact ⟨fun _ => ⟨by omega, by omega, by omega, by omega, fun x hx => ⟨(hel x hx).2, (hel x hx).1⟩, hasc, hr.1 h5⟩, fun _ => rfl⟩
        · rw [if_neg h5]; exact ⟨fun h => by omega, fun h' => absurd (hr.2 h'.2.anti) h5⟩
      · rw [if_pos h3]
        refine ⟨fun h => absurd h h3, fun h' => absurd (frst_zero.2 fun i hi => ckAt_zero.2 ⟨elE_zero.2 ?_, fun h0 => asc_step h'.2.asc hi h0⟩) h3⟩
        have := h'.2.el _ (getD_mem (d := []) hi)
        exact ⟨by have := this.1; omega, vvB_true.2 this.2⟩

def CkAtF (n : Int) (L : List (List Int)) (k : Nat) (w : World) (l : List Nat) : Prop := True

set_option maxRecDepth 100000 in
set_option maxHeartbeats 8000000 in
theorem check_is {w : World} {l : List Nat} {lv : Value} {L : List (List Int)} {n : Int} (hlw : ∀ y ∈ l, y < w.heap.size) (h : IsII w l lv L) (hn : L.length ≤ 100000000) (hL : ∀ x ∈ L, x.length ≤ 1000000) :
    Calls Tryz.prog 11 #[.int .i64 n, lv] w (RetE (chkL n L) w) := by
  unfold RetE
  have hd := dim_any n 6
  have egv := enters_of Tryz.func66 (by kernel_rfl) rfl
  have egg := enters_of Tryz.func67 (by kernel_rfl) rfl
  have ege := enters_of Tryz.func35 (by kernel_rfl) rfl
  have h' := h
  obtain ⟨A0, c0, V, rfl, _, _, hcell, hval⟩ := h'
  have heq : chkL n L = if dimB n 6 = false then 2 else if 256 < L.length then 1 else if frst (ckAt n L) L.length ≠ 0 then frst (ckAt n L) L.length else if (redF covG L).length = L.length then 0 else 7 := rfl
  generalize hLn : L.length = m at *
  cases hq : dimB n 6 with
  | false =>
    rw [hq] at hd
    rw [hq, if_pos rfl] at heq
    have H := Lib.hid h
    have HCELL := Lib.hid hcell
    have HVAL := Lib.hid hval
    have HL := Lib.hid hL
    have HLW := Lib.hid hlw
    have HD := Lib.hid hd
    have HEQ := Lib.hid heq
    have HLN := Lib.hid hLn
    clear h hcell hval hL hlw hd heq hLn
    clear hq
    go_enter Tryz.func11, Tryz.ntmps11
    go_wp2_with fail
    refine (HD.out _).mono ?_
    rintro e w' ⟨rfl, rfl⟩
    go_wp2_with fail
    go_ret
    exact ⟨ret_ii HEQ.out, Keeps.refl _ _⟩
  | true =>
    rw [hq] at hd
    rw [hq, if_neg (by simp)] at heq
    by_cases h256 : 256 < m
    · have d1 : decide ((256 : Int) < (m : Int)) = true := decide_eq_true (by omega)
      have d2 : decide (256 < m) = true := decide_eq_true h256
      rw [if_pos h256] at heq
      have H := Lib.hid h
      have HCELL := Lib.hid hcell
      have HVAL := Lib.hid hval
      have HL := Lib.hid hL
      have HLW := Lib.hid hlw
      have HD := Lib.hid hd
      have HEQ := Lib.hid heq
      have HLN := Lib.hid hLn
      clear h hcell hval hL hlw hd heq hLn
      clear hq
      go_enter Tryz.func11, Tryz.ntmps11
      go_wp2_with fail
      refine (HD.out _).mono ?_
      rintro e w' ⟨rfl, rfl⟩
      go_wp2_with fail
      go_ret
      exact ⟨ret_ii HEQ.out, Keeps.refl _ _⟩
    · have d1 : decide ((256 : Int) < (m : Int)) = false := decide_eq_false (by omega)
      have d2 : decide (256 < m) = false := decide_eq_false h256
      rw [if_neg h256] at heq
      have H := Lib.hid h
      have HCELL := Lib.hid hcell
      have HVAL := Lib.hid hval
      have HL := Lib.hid hL
      have HLW := Lib.hid hlw
      have HD := Lib.hid hd
      have HEQ := Lib.hid heq
      have HLN := Lib.hid hLn
      clear h hcell hval hL hlw hd heq hLn
      have HDM := Lib.hid hq
      clear hq
      go_enter Tryz.func11, Tryz.ntmps11
      go_wp2_with fail
      refine (HD.out _).mono ?_
      rintro e w' ⟨rfl, rfl⟩
      go_wp2_with fail
      refine (greatest_is w).mono ?_
      rintro e w1 ⟨rfl, hk1⟩
      have hs0 := World.cell?_alloc_new w1 #[.func (.func 66) #[] #[], .func (.func 67) #[] #[]] 55 0
      have hs1 := World.cell?_alloc_new w1 #[.func (.func 66) #[] #[], .func (.func 67) #[] #[]] 55 1
      have hk2 : Keeps [] w (w1.alloc (.cells #[.func (.func 66) #[] #[], .func (.func 67) #[] #[]] 55)) := hk1.alloc _
      have HS0 := Lib.hid hs0
      have HS1 := Lib.hid hs1
      have HK2 := Lib.hid hk2
      clear hk2
      clear hs0 hs1 hk1
      go_wp2_with fail
      generalize w1.alloc (.cells #[.func (.func 66) #[] #[], .func (.func 67) #[] #[]] 55) = w2 at *
      go_loopg [19] (m + 1) (fun gh kv wr => ∃ (k : Nat), m + 1 ≤ k + gh ∧ k ≤ m ∧ kv = .int .i64 (k : Int) ∧ (∀ i, i < k → ckAt n L i = 0) ∧ Keeps [] w2 wr)
      case atStart => exact ⟨0, by omega, by omega, rfl, fun i hi => by omega, Keeps.refl _ _⟩
      case round =>
        obtain ⟨k, hgh, hk, rfl, hall, hkr⟩ := hrel
        have hKw := HK2.out.trans hkr
        have HALL := Lib.hid hall
        clear hall
        by_cases hlt : k < m
        · have hLI := H.out.new hKw
          obtain ⟨A1, hs, hone⟩ := slice_one sl_rowsi hLI k hlt
          have hs0 := hkr.read HS0.out (by simp)
          have hs1 := hkr.read HS1.out (by simp)
          have hxl := HL.out _ (getD_mem (d := []) (show k < L.length by rw [HLN.out]; exact hlt))
          have hcall := fun W (kp : Keeps [] wr W) => each_is (n := n) (gc := 67) rightF_V egv (IsII.new (show IsII wr l _ _ from hone) kp) (by simp) (fun x hx => by rw [List.mem_singleton.1 hx]; exact hxl)
          have hev : eachL n vvB [L.getD k []] = elE n vvB (L.getD k []) := by unfold eachL; simp [frst]
          rw [hev] at hcall
          have hck : ckAt n L k = if elE n vvB (L.getD k []) ≠ 0 then elE n vvB (L.getD k []) else if 0 < k ∧ 0 ≤ cmpL (L.getD (k - 1) []) (L.getD k []) then 4 else 0 := rfl
          generalize hez : elE n vvB (L.getD k []) = ez at *
          have HEZ := Lib.hid hez
          clear hez hev
          haveI kbr : KB [] wr w2 := ⟨hkr⟩
          have hw1 : IntKind.i64.wrap ((k : Int) + 1) = (k : Int) + 1 := IntWalk.i64_in _ (by omega)
          have HONE := Lib.hid hone
          have HCALL := Lib.hid hcall
          have HCK := Lib.hid hck
          have HLI := Lib.hid hLI
          have HKW := Lib.hid hKw
          have HKR := Lib.hid hkr
          clear hone hcall hck hLI hKw hkr
          go_upto_region 9 with fail
          go_region_held3 (fun W => W.cell? ⟨w1.heap.size, 0, none⟩ = some (.func (.func 66) #[] #[]) ∧ W.cell? ⟨w1.heap.size, 1, none⟩ = some (.func (.func 67) #[] #[])) (exact ⟨cell_now (a := wr) [] hs0 (by simp), cell_now (a := wr) [] hs1 (by simp)⟩) (first
            | (refine step_callw 35 #[.tmp 22, .tmp 23, .tmp 28] #[55, 3, 23] rfl ege (HCALL.out _ (kf [] wr _)) (by first | rfl | (simp [Region.wanted, yielded]; done) | simp [Region.wanted, yielded, Act.put]) (by first | (simp [Act.eval]; done) | (simp only [Act.eval, Act.put]; simp; done) | simp [Act.eval, Act.put]) ?_; rintro e w5 ⟨rfl, hk5⟩; refine ⟨_, rfl, ?_⟩; haveI kb5 : KB [] w5 _ := ⟨hk5⟩))
          all_goals
            have hkf : Keeps [] wr w5 := kf [] wr w5
            by_cases he0 : ez = 0
            · subst he0
              rw [if_neg (by simp)] at HCK
              go_upto_region 12 with fail
              have hLI5 : IsII w5 l (.slice A0 m c0) L := IsII.new HLI.out hkf
              have hK5 := HKR.out.trans hkf
              have HK5 := Lib.hid hK5
              clear hK5
              clear hs0 hs1 hs hw1 hkf hk5
              by_cases hk0 : k = 0
              · have hd0 : decide ((0 : Int) < (k : Int)) = false := decide_eq_false (by omega)
                have h0 : ∀ i, i < k + 1 → ckAt n L i = 0 := fun i hi => by
                  obtain rfl : i = k := by omega
                  rw [HCK.out, if_neg (by omega)]
                have H0 := Lib.hid h0
                clear h0
                clear hLI5
                go_quiet (fail)
                go_wp2_with fail
                go_roundg (m - k)
                case measure => omega
                case rel => exact ⟨k + 1, by omega, by omega, by go_num, H0.out, HK5.out.drewN _⟩
              · have hd0 : decide ((0 : Int) < (k : Int)) = true := decide_eq_true (by omega)
                obtain ⟨A9, c9, V9, hv9, _, _, hc9, hr9⟩ := hLI5
                injection hv9 with e1 e2 e3
                subst e1; subst e3
                rw [HLN.out] at hc9 hr9
                obtain ⟨pa, rfl, hpa2⟩ := hc9.at_ hlt
                obtain ⟨pb, epb, hpa1⟩ := hc9.at_ (show k - 1 < m by omega)
                injection epb with epb
                subst epb
                have hx1 : IsI w5 l (V9 (k - 1)) (L.getD (k - 1) []) := hr9 (k - 1) (by omega)
                have hx2 : IsI w5 l (V9 k) (L.getD k []) := hr9 k hlt
                have hl1 := HL.out _ (getD_mem (d := []) (show k - 1 < L.length by rw [HLN.out]; omega))
                have hl2 := HL.out _ (getD_mem (d := []) (show k < L.length by rw [HLN.out]; omega))
                have hcc := fun W (kp : Keeps [] w5 W) => compare_vec (IsI.new hx1 kp) (IsI.new hx2 kp) hl1 hl2
                have hck := HCK.out
                generalize cmpL (L.getD (k - 1) []) (L.getD k []) = cm at *
                obtain ⟨B1, d1', ev1, _⟩ := hx1.open
                obtain ⟨B2, d2', ev2, _⟩ := hx2.open
                rw [ev1] at hpa1 hcc
                rw [ev2] at hpa2 hcc
                have hp1 : (1 : Int) ≤ (k : Int) := by omega
                have hp2 : (0 : Int) ≤ (k : Int) - 1 := by omega
                have hw3 : IntKind.i64.wrap ((k : Int) - 1) = (k : Int) - 1 := IntWalk.i64_in _ (by omega)
                have hw2 : ((k : Int) - 1).toNat = k - 1 := by omega
                have hlk : k - 1 < m := by omega
                have hp3 : (k : Int) - 1 < (m : Int) := by omega
                have hp4 : (k : Int) < (m : Int) := by omega
                have hp5 : 1 ≤ k := by omega
                have hkp : 0 < k := by omega
                have hdp : decide (0 < k) = true := decide_eq_true hkp
                have HCC := Lib.hid hcc
                have HCK := Lib.hid hck
                clear hcc hck
                clear hc9 hr9 hx1 hx2 hl1 hl2 ev1 ev2 e2
                by_cases hcm : 0 ≤ cm
                · have hd3 : decide ((0 : Int) ≤ cm) = true := decide_eq_true hcm
                  have hfin : chkL n L = 4 := by
                    have h1 := HCK.out
                    rw [if_pos ⟨by omega, hcm⟩] at h1
                    have h2 := frst_hit HALL.out (by rw [h1]; omega) hlt
                    rw [HEQ.out, h2, h1, if_pos (by omega)]
                  have HFIN := Lib.hid hfin
                  have HCM := Lib.hid hcm
                  clear hfin hcm
                  refine wp_quietk (l0 := []) (by kernel_rfl) (by kernel_rfl) ?_
                  repeat ((with_reducible refine wpQuiet_step (fun K hK => ?_)); go_simp; first
                    | ((with_reducible refine hK _ ?_); clear hK K)
                    | (apply Exists.intro; refine ⟨fun W hW => ?_, hK _ ?_⟩
                       · first
                           | with_reducible exact Eq.refl _
                           | ((have hq1 := hW.read hpa1 (by simp); have hq2 := hW.read hpa2 (by simp)); (try go_simp); with_reducible first | done | exact Eq.refl _ | exact ⟨Eq.refl _, Eq.refl _⟩)
                           | ((refine (HCC.out W hW).mono ?_; rintro e w10 ⟨rfl, hk⟩; exact ⟨Eq.refl _, hW.trans (Grew.keeps hk)⟩))
                       clear hK K))
                  with_reducible refine wpQuiet_nil ?_
                  intro w9 hk9
                  have hkk := (HK2.out.trans HK5.out).trans hk9
                  have HKK := Lib.hid hkk
                  clear hkk
                  clear hk9 hpa1 hpa2 hw3 hw2 hp2
                  go_wp2_with fail
                  go_ret
                  exact ⟨ret_ii HFIN.out, HKK.out⟩
                · have hd3 : decide ((0 : Int) ≤ cm) = false := decide_eq_false hcm
                  have h0 : ∀ i, i < k + 1 → ckAt n L i = 0 := fun i hi => by
                    by_cases e : i = k
                    · rw [e, HCK.out, if_neg (fun h => hcm h.2)]
                    · exact HALL.out i (by omega)
                  have H0 := Lib.hid h0
                  have HCM := Lib.hid hcm
                  clear h0 hcm
                  refine wp_quietk (l0 := []) (by kernel_rfl) (by kernel_rfl) ?_
                  repeat ((with_reducible refine wpQuiet_step (fun K hK => ?_)); go_simp; first
                    | ((with_reducible refine hK _ ?_); clear hK K)
                    | (apply Exists.intro; refine ⟨fun W hW => ?_, hK _ ?_⟩
                       · first
                           | with_reducible exact Eq.refl _
                           | ((have hq1 := hW.read hpa1 (by simp); have hq2 := hW.read hpa2 (by simp)); (try go_simp); with_reducible first | done | exact Eq.refl _ | exact ⟨Eq.refl _, Eq.refl _⟩)
                           | ((refine (HCC.out W hW).mono ?_; rintro e w10 ⟨rfl, hk⟩; exact ⟨Eq.refl _, hW.trans (Grew.keeps hk)⟩))
                       clear hK K))
                  with_reducible refine wpQuiet_nil ?_
                  intro w9 hk9
                  have hkk := HK5.out.trans hk9
                  have HKK := Lib.hid hkk
                  clear hkk
                  clear hk9 hpa1 hpa2 hw3 hw2 hp2
                  go_wp2_with fail
                  go_roundg (m - k)
                  case measure => omega
                  case rel => exact ⟨k + 1, by omega, by omega, by go_num, H0.out, HKK.out⟩
            · have hb : (ez != 0) = true := by simpa using he0
              have hfin : chkL n L = ez := by
                have h1 := HCK.out
                rw [if_pos he0] at h1
                have h2 := frst_hit HALL.out (by rw [h1]; exact he0) hlt
                rw [HEQ.out, h2, h1, if_pos he0]
              have hkk := HKW.out.trans hkf
              have HE0 := Lib.hid he0
              have HFIN := Lib.hid hfin
              have HKK := Lib.hid hkk
              clear he0 hfin hkk
              clear hkf hk5
              go_wp2_with fail
              go_ret
              exact ⟨ret_ii HFIN.out, HKK.out⟩
        · obtain rfl : k = m := by omega
          have hfr : frst (ckAt n L) k = 0 := frst_zero.2 HALL.out
          have heq := HEQ.out
          rw [if_neg (by simpa using hfr)] at heq
          have hdm := dimB_true.1 HDM.out
          have hel : ∀ x ∈ L, VVal x ∧ x.length = n.toNat := fun x hx => by
            obtain ⟨i, hi, e⟩ := mem_getD (d := []) hx
            have := elE_zero.1 (ckAt_zero.1 (HALL.out i (by rw [← HLN.out]; exact hi))).1
            rw [e] at this
            exact ⟨vvB_true.1 this.2, by have := this.1; omega⟩
          have hred := reduced_is (gr := 66) (fun y hy => Nat.lt_of_lt_of_le (HLW.out y hy) hKw.size) covF_G egg (ordG hel) (fun x hx => ⟨HL.out x hx, HL.out x hx⟩) (H.out.new hKw) (by rw [HLN.out]; omega)
          have hsame := fun ys (ha : Asc ys) (hy : ∀ x, x ∈ ys ↔ MaxOf covG L x) => nodup_same (asc_nodup ha) (redF_inv (ordG hel)).nodup (fun x => (hy x).trans (redF_mem (ordG hel)).symm)
          have hs0 := hkr.read HS0.out (by simp)
          have hs1 := hkr.read HS1.out (by simp)
          have HEQ := Lib.hid heq
          have HRED := Lib.hid hred
          have HSAME := Lib.hid hsame
          have HKW := Lib.hid hKw
          have HEL := Lib.hid hel
          clear heq hred hsame hKw hel
          clear hkr hfr hdm
          go_wp2_with fail
          refine HRED.out.mono ?_
          rintro e w5 ⟨A5, m5, c5, ys, hm5, rfl, hasc, hys, hO5, hk5⟩
          have hlen := HSAME.out ys hasc hys
          rw [← hm5] at hlen
          have hkk := HKW.out.trans hk5
          have heq := HEQ.out
          rw [← hlen] at heq
          have HKK := Lib.hid hkk
          clear hkk
          clear hm5 hasc hys hO5 hk5 hlen
          by_cases hmm : m5 = k
          · have ht : ((m5 : Int) != (k : Int)) = false := by rw [hmm]; simp
            rw [if_pos hmm] at heq
            have HEQ := Lib.hid heq
            have HMM := Lib.hid hmm
            clear heq hmm
            go_wp2_with fail
            go_ret
            exact ⟨ret_ii HEQ.out, HKK.out⟩
          · have ht : ((m5 : Int) != (k : Int)) = true := by rw [bne_iff_ne]; omega
            rw [if_neg hmm] at heq
            have HEQ := Lib.hid heq
            have HMM := Lib.hid hmm
            clear heq hmm
            go_wp2_with fail
            go_ret
            exact ⟨ret_ii HEQ.out, HKK.out⟩
end Go.Proofs.YtnmkinaokjekjaaGreat
