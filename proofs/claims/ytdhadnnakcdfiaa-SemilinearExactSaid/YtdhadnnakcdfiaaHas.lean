/- The walks of semilinear's Has, check and Within. -/
import Derived.Test.YtdhadnnakcdfiaaTimes
import Derived.Test.YtdhadnnakcdfiaaAny
namespace Go.Proofs.Ytdhadnnakcdfiaa
set_option linter.unusedVariables false
open Go.RowKit

/-- Function value g, captures lb, answers of set i as p does, in every world that holds what w holds. -/
def PredL (g : Nat) (lb : Array Value) (l : List Nat) (ss : List Lin) (p : Nat → Bool) (w : World) : Prop :=
  ∀ (W : World) (i : Nat) (u v : Value), i < ss.length → Keeps [] w W → IsLin W l u v (ss.getD i default) → Calls Try.prog g (#[.agg #[u, v]] ++ lb) W fun e w' => e = .returned (.bool (p i)) ∧ Keeps [] W w'
set_option maxHeartbeats 400000 in
theorem index_lins {w : World} {l : List Nat} {x : Value} {ss : List Lin} {g : Nat} {lb : Array Value} {p : Nat → Bool} (h : IsLins w l x ss) (hn : ss.length ≤ 1000000)
    (eg : ∀ args w, (callFunc g args).run Try.prog w = .ok (.enter g args) w) (hp : PredL g lb l ss p w) :
    Calls Try.prog 63 #[x, .func (.func g) #[] lb] w (IxPost ss.length p w) := by
  obtain ⟨A, c, rfl, _, _, hc⟩ := h
  generalize hnn : ss.length = n at *
  have HC := Lib.hid hc
  have HP := Lib.hid hp
  have HNN := Lib.hid hnn
  clear hc hp hnn
  go_enter Try.func63, Try.ntmps63
  go_wp2_with fail
  go_loopg [5, 8] (n + 1) (fun gh _ iv wr => ∃ i : Nat, n + 1 ≤ i + gh ∧ i ≤ n ∧ iv = .int .i64 (i : Int) ∧ (∀ r, r < i → p r = false) ∧ Keeps [] w wr)
  case atStart => exact ⟨0, by omega, by omega, rfl, fun r hr => by omega, Keeps.refl _ _⟩
  case round =>
    obtain ⟨i, hgh, hi, rfl, hs, hb⟩ := hrel
    have HS := Lib.hid hs
    have HB := Lib.hid hb
    clear hs hb
    by_cases hlt : i < n
    · obtain ⟨a, rfl, _, ha⟩ := HC.out (by omega)
      obtain ⟨u, v, h1, h2, h3⟩ := ha i hlt
      clear ha
      have h1 := HB.out.read h1 (by simp)
      have h2 := HB.out.read h2 (by simp)
      have hcall := HP.out wr i u v (by rw [HNN.out]; exact hlt) HB.out (h3.new HB.out)
      clear h3
      cases hq : p i with
      | true =>
        rw [hq] at hcall
        have HQ := Lib.hid hq
        clear hq
        go_wp2_with (go_at_fn g; refine hcall.mono ?_; rintro e w' ⟨rfl, hb'⟩)
        go_ret
        exact ⟨i, rfl, ⟨fun _ => ⟨i, hlt, HQ.out⟩, fun _ => by omega⟩, HB.out.trans hb'⟩
      | false =>
        rw [hq] at hcall
        have HQ := Lib.hid hq
        clear hq
        go_wp2_with (go_at_fn g; refine hcall.mono ?_; rintro e w' ⟨rfl, hb'⟩)
        go_roundg (n - i)
        case measure => omega
        case rel => exact ⟨i + 1, by omega, by omega, by go_num, fun r hr => by
          by_cases e : r = i
          · subst e; exact HQ.out
          · exact HS.out r (by omega), HB.out.trans hb'⟩
    · obtain rfl : i = n := by omega
      go_wp2_with fail
      go_ret
      exact ⟨-1, rfl, ⟨fun h => by omega, fun ⟨r, h1, h2⟩ => by rw [HS.out r h1] at h2; cases h2⟩, HB.out⟩

set_option maxHeartbeats 400000 in
theorem contains_lins {w : World} {l : List Nat} {x : Value} {ss : List Lin} {g : Nat} {lb : Array Value} {p : Nat → Bool} (h : IsLins w l x ss) (hn : ss.length ≤ 1000000)
    (eg : ∀ args w, (callFunc g args).run Try.prog w = .ok (.enter g args) w) (hp : PredL g lb l ss p w) :
    Calls Try.prog 42 #[x, .func (.func g) #[] lb] w (AnPost ss.length p w) := by
  have h' := h
  obtain ⟨A, c, rfl, _⟩ := h'
  go_enter Try.func42, Try.ntmps42
  go_wp2_with fail
  refine (index_lins h hn eg hp).mono ?_
  rintro e w1 ⟨r, rfl, hr, hb⟩
  have HR := Lib.hid hr
  clear hr
  go_wp2_with fail
  go_ret
  exact ⟨_, rfl, by rw [← HR.out]; exact decide_eq_true_iff, hb⟩

def HasIn (s : Lin) (v : List Int) : Prop := TPre s v ∧ ∃ t, In s v t
open Classical in
noncomputable def hasB (s : Lin) (v : List Int) : Bool := decide (HasIn s v)
theorem hasB_true {s : Lin} {v : List Int} : hasB s v = true ↔ HasIn s v := by simp [hasB]

theorem has_lit {w : World} {l : List Nat} {ss : List Lin} {vv : Value} {v : List Int} {b : Nat} (hl : ∀ y ∈ l, y < w.heap.size) (hs : ∀ s ∈ ss, s.Small) (hv : IsI w l vv v) (hvn : v.length ≤ 1000000) (hb : w.cell? ⟨b, 0, none⟩ = some vv) :
    PredL 43 #[.pointer (some ⟨b, 0, none⟩)] l ss (fun i => hasB (ss.getD i default) v) w := by
  intro W i u pv hi hk hlin
  have hv := hv.new hk
  have hb := hk.read hb (by simp)
  have hs := hs _ (getD_mem (d := default) hi)
  have hl : ∀ y ∈ l, y < W.heap.size := fun y hy => Nat.lt_of_lt_of_le (hl y hy) hk.size
  show Calls Try.prog 43 #[.agg #[u, pv], .pointer (some ⟨b, 0, none⟩)] W fun e w' => e = .returned (.bool (hasB (ss.getD i default) v)) ∧ Keeps [] W w'
  generalize ss.getD i default = s at *
  have hu := hlin.1
  obtain ⟨A, c, rfl, _⟩ := hu.open
  have hp := hlin.2
  obtain ⟨Ap, cp, V, rfl, _⟩ := hp
  obtain ⟨B, cb, rfl, _⟩ := hv.open
  have hal : Keeps [] W (W.alloc (.cells #[.slice A s.base.length c, .slice Ap s.per.length cp] 29)) := (Keeps.refl _ _).alloc _
  have hl1 : ∀ y ∈ l, y < (W.alloc (.cells #[.slice A s.base.length c, .slice Ap s.per.length cp] 29)).heap.size := fun y hy => Nat.lt_of_lt_of_le (hl y hy) hal.size
  have hb := hal.read hb (by simp)
  clear hu
  have HLIN := Lib.hid hlin
  have HV := Lib.hid hv
  have HAL := Lib.hid hal
  have HL1 := Lib.hid hl1
  have HL := Lib.hid hl
  have HS := Lib.hid hs
  clear hlin hv hal hl1 hl hs
  go_enter Try.func43, Try.ntmps43
  go_wp2_with fail
  refine (times_is HL1.out (HLIN.out.new HAL.out) HS.out (HV.out.new HAL.out) hvn).mono ?_
  rintro e w1 ⟨hk1, h⟩
  have HK1 := Lib.hid (HAL.out.trans hk1)
  clear hk1
  rcases h with ⟨rfl, hno⟩ | ⟨A', n', c', k, rfl, hpre, hk, hle⟩
  · have HNO := Lib.hid hno
    clear hno
    go_wp2_with fail
    go_ret
    refine ⟨ret_bl ?_, HK1.out⟩
    have : ¬ hasB s v = true := fun h => by
      obtain ⟨h1, t, h2⟩ := hasB_true.1 h
      exact HNO.out h1 t h2
    simpa using this
  · have HPRE := Lib.hid hpre
    have HLE := Lib.hid hle
    clear hpre hk hle
    go_wp2_with fail
    go_ret
    exact ⟨ret_bl (hasB_true.2 ⟨HPRE.out, k, HLE.out.1⟩), HK1.out⟩

def HasPost (n : Int) (ss : List Lin) (v : List Int) (w : World) (e : Ending) (w' : World) : Prop := ∃ r : Bool, e = .returned (.bool r) ∧ (r = true ↔ GoodAll n ss ∧ ∃ s ∈ ss, HasIn s v) ∧ Keeps [] w w'
set_option maxHeartbeats 1000000 in
theorem has_is {w : World} {l : List Nat} {n : Int} {x vv : Value} {ss : List Lin} {v : List Int} (hl : ∀ y ∈ l, y < w.heap.size) (h : IsLins w l x ss) (hs : ∀ s ∈ ss, s.Small) (hn : ss.length ≤ 1000000) (hv : IsI w l vv v) (hvn : v.length ≤ 1000000) :
    Calls Try.prog 18 #[.int .i64 n, x, vv] w (HasPost n ss v w) := by
  have h' := h
  obtain ⟨A, c, rfl, _⟩ := h'
  obtain ⟨B, cb, rfl, _⟩ := hv.open
  have hal : Keeps [] w (w.alloc (.cells #[.slice B v.length cb] 22)) := (Keeps.refl _ _).alloc _
  have hb := World.cell?_alloc_new w #[.slice B v.length cb] 22 0
  have eg := enters_of Try.func43 (by kernel_rfl) rfl
  have H := Lib.hid h
  have HS := Lib.hid hs
  have HV := Lib.hid hv
  have HAL := Lib.hid hal
  have HB := Lib.hid hb
  have HL := Lib.hid hl
  clear h hs hv hal hb hl
  go_enter Try.func18, Try.ntmps18
  go_wp2_with fail
  refine (check_is (n := n) (H.out.new HAL.out) HS.out hn).mono ?_
  rintro e w1 ⟨rfl, hk⟩
  have hz : ((chkL n ss == 0) = true) ↔ GoodAll n ss := by rw [beq_iff_eq]; exact chkL_zero
  have hk1 := HAL.out.trans hk
  have hb1 := hk.read HB.out (by simp)
  have hl1 : ∀ y ∈ l, y < w1.heap.size := fun y hy => Nat.lt_of_lt_of_le (HL.out y hy) hk1.size
  by_cases hz0 : chkL n ss = 0
  · have hz1 : (chkL n ss == 0) = true := by rw [hz0]; rfl
    have hg := chkL_zero.1 hz0
    generalize chkL n ss = z at *
    have hlit := has_lit (ss := ss) hl1 HS.out (HV.out.new hk1) hvn hb1
    have hco := contains_lins (H.out.new hk1) hn eg hlit
    have HK1 := Lib.hid hk1
    have HG := Lib.hid hg
    have HCO := Lib.hid hco
    have HL1 := Lib.hid hl1
    clear hk1 hg hco hl1
    clear hk hz hz0 hlit
    go_wp2_with fail
    refine HCO.out.mono ?_
    rintro e w2 ⟨r, rfl, hr, hk2⟩
    have HR := Lib.hid hr
    have HK2 := Lib.hid hk2
    clear hr hk2
    go_wp2_with fail
    go_ret
    refine ⟨_, rfl, ?_, HK1.out.trans HK2.out⟩
    rw [HR.out]
    constructor
    · rintro ⟨i, hi, h1⟩
      exact ⟨HG.out, _, getD_mem hi, hasB_true.1 h1⟩
    · rintro ⟨_, s, h1, h2⟩
      obtain ⟨i, hi, e⟩ := mem_getD (d := default) h1
      exact ⟨i, hi, by show hasB (ss.getD i default) v = true; rw [e]; exact hasB_true.2 h2⟩
  · have hz1 : (chkL n ss == 0) = false := by simpa using hz0
    have hg : ¬ GoodAll n ss := fun h => hz0 (chkL_zero.2 h)
    generalize chkL n ss = z at *
    have HK1 := Lib.hid hk1
    have HG := Lib.hid hg
    clear hk1 hg
    clear hk hz hz0 hl1
    go_wp2_with fail
    go_ret
    exact ⟨false, rfl, ⟨(fun h => by cases h), fun h => absurd h.1 HG.out⟩, HK1.out⟩
end Go.Proofs.Ytdhadnnakcdfiaa
