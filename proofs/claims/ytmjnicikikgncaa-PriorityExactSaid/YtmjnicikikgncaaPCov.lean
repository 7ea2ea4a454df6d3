/- The walk of priority.covered. -/
import Derived.Test.YtmjnicikikgncaaPrioV
import Derived.Test.YtmjnicikikgncaaSlM
namespace Go.Proofs.Ytmjnicikikgncaa
set_option linter.unusedVariables false
open Go.RowKit

def gtB (x y : Int) : Bool := decide (y < x)
theorem gtB_true {x y : Int} : gtB x y = true ↔ y < x := by simp [gtB]
open Classical in
noncomputable def covB (rk : Int → Int) (b : List Int) (f p : Nat) : Bool := decide (Cov rk b f p)
theorem covB_true {rk : Int → Int} {b : List Int} {f p : Nat} : covB rk b f p = true ↔ Cov rk b f p := by simp [covB]

set_option maxRecDepth 100000 in
set_option maxHeartbeats 1000000 in
theorem cov_lit {w : World} {l : List Nat} {r b xs : List Int} {gr gb ga n m c c' p : Nat} {R B : Option Addr} (hr : w.cell? ⟨gr, 0, none⟩ = some (.slice R n c)) (hb : w.cell? ⟨gb, 0, none⟩ = some (.slice B m c')) (ha : w.cell? ⟨ga, 0, none⟩ = some (.int .i64 (p : Int)))
    (hR : IsI w l (.slice R n c) r) (hB : IsI w l (.slice B m c') b) (hx : ∀ x ∈ xs, 0 ≤ x ∧ x < n) (hp : p < m) (hbp : 0 ≤ b.getD p 0 ∧ b.getD p 0 < n) (hn : n ≤ 1000000) (hm : m ≤ 1000000) :
    PredR IsN 0 60 #[.pointer (some ⟨gr, 0, none⟩), .pointer (some ⟨gb, 0, none⟩), .pointer (some ⟨ga, 0, none⟩)] l xs (fun i => gtB (rkF r (xs.getD i 0)) (rkF r (b.getD p 0))) w := by
  intro W i u hi hk hu
  have hu : u = .int .i64 (xs.getD i 0) := hu
  subst hu
  have hr := hk.read hr (by simp)
  have hb := hk.read hb (by simp)
  have ha := hk.read ha (by simp)
  have hx := hx _ (getD_mem (d := 0) hi)
  obtain ⟨R1, c1, e1, _, _, hRc⟩ := (hR.new hk).open
  obtain ⟨B1, c2, e2, _, _, hBc⟩ := (hB.new hk).open
  injection e1 with e1 en e1'
  injection e2 with e2 em e2'
  subst e1; subst e1'; subst e2; subst e2'
  rw [← en] at hRc
  rw [← em] at hBc
  show Calls Try.prog 60 #[.int .i64 (xs.getD i 0), .pointer (some ⟨gr, 0, none⟩), .pointer (some ⟨gb, 0, none⟩), .pointer (some ⟨ga, 0, none⟩)] W fun e w' => e = .returned (.bool (gtB (rkF r (xs.getD i 0)) (rkF r (b.getD p 0)))) ∧ Keeps [] W w'
  obtain ⟨pb, rfl, hpb⟩ := hBc.at_ hp
  generalize xs.getD i 0 = x at *
  generalize b.getD p 0 = y at *
  obtain ⟨x, rfl⟩ : ∃ k : Nat, x = (k : Int) := ⟨x.toNat, by omega⟩
  obtain ⟨y, rfl⟩ : ∃ k : Nat, y = (k : Int) := ⟨y.toNat, by omega⟩
  have hxn : x < n := by omega
  have hyn : y < n := by omega
  obtain ⟨px, rfl, hpx⟩ := hRc.at_ hxn
  obtain ⟨py, epy, hpy⟩ := hRc.at_ hyn
  injection epy with epy
  subst epy
  have hrx : rkF r (x : Int) = r.getD x 0 := rfl
  have hry : rkF r (y : Int) = r.getD y 0 := rfl
  rw [hrx, hry]
  generalize r.getD x 0 = vx at *
  generalize r.getD y 0 = vy at *
  have hq1 : (0 : Int) ≤ (x : Int) := by omega
  have hq2 : (x : Int) < (n : Int) := by omega
  have hq3 : (0 : Int) ≤ (y : Int) := by omega
  have hq4 : (y : Int) < (n : Int) := by omega
  have hq5 : (p : Int) < (m : Int) := by omega
  have HRC := Lib.hid hRc
  have HBC := Lib.hid hBc
  have HR := Lib.hid hR
  have HB := Lib.hid hB
  have HK := Lib.hid hk
  clear hRc hBc hR hB hk
  clear en em hrx hry hx hbp hi
  go_enter Try.func60, Try.ntmps60
  go_wp2_with fail
  go_quiet (fail)
  go_wp2_with fail
  go_ret
  exact ⟨rfl, (Keeps.refl _ _).drewN _⟩

set_option maxRecDepth 100000 in
set_option maxHeartbeats 2000000 in
theorem covered_is {w : World} {l : List Nat} {rv bv : Value} {r b : List Int} {f p : Nat} (hr : IsI w l rv r) (hb : IsI w l bv b) (hn : r.length ≤ 1000000) (hm : b.length ≤ 1000000) (hx : ∀ x ∈ b, 0 ≤ x ∧ x < r.length) (hfp : f ≤ p) (hp : p < b.length) :
    Calls Try.prog 44 #[rv, bv, .int .i64 (f : Int), .int .i64 (p : Int)] w (RetB (covB (rkF r) b f p) w) := by
  unfold RetB
  obtain ⟨A, c, rfl, _, _, h1⟩ := hr.open
  obtain ⟨B, c', rfl, _, _, h2⟩ := hb.open
  have eg := enters_of Try.func60 (by kernel_rfl) rfl
  obtain ⟨B1, hs, hM⟩ := slice_mid sl_int (show IsL IsN 0 w l (.slice B b.length c') b from hb) f p hfp (by omega)
  obtain ⟨W0, hW0⟩ : ∃ W0, W0 = ((w.alloc (.cells #[.slice A r.length c] 22)).alloc (.cells #[.slice B b.length c'] 22)).alloc (.cells #[.int .i64 (p : Int)] 3) := ⟨_, rfl⟩
  have hk0 : Keeps [] w W0 := by rw [hW0]; exact kf [] w _
  have c0 : W0.cell? ⟨w.heap.size, 0, none⟩ = some (.slice A r.length c) := by
    rw [hW0]; exact (kf [] (w.alloc (.cells #[.slice A r.length c] 22)) _).read (World.cell?_alloc_new w #[.slice A r.length c] 22 0) (by simp)
  have c1 : W0.cell? ⟨w.heap.size + 1, 0, none⟩ = some (.slice B b.length c') := by
    have h := World.cell?_alloc_new (w.alloc (.cells #[.slice A r.length c] 22)) #[.slice B b.length c'] 22 0
    rw [World.size_alloc] at h
    rw [hW0]; exact (kf [] ((w.alloc (.cells #[.slice A r.length c] 22)).alloc (.cells #[.slice B b.length c'] 22)) _).read h (by simp)
  have c2 : W0.cell? ⟨w.heap.size + 1 + 1, 0, none⟩ = some (.int .i64 (p : Int)) := by
    have h := World.cell?_alloc_new ((w.alloc (.cells #[.slice A r.length c] 22)).alloc (.cells #[.slice B b.length c'] 22)) #[.int .i64 (p : Int)] 3 0
    rw [World.size_alloc, World.size_alloc] at h
    rw [hW0]; exact h
  have hsub : ∀ x ∈ (b.drop f).take (p - f), 0 ≤ x ∧ x < (r.length : Int) := fun x h => hx x (List.mem_of_mem_drop (List.mem_of_mem_take h))
  have hlit := cov_lit c0 c1 c2 (hr.new hk0) (hb.new hk0) hsub hp (hx _ (getD_mem hp)) hn hm
  have hml : ((b.drop f).take (p - f)).length = p - f := by rw [List.length_take, List.length_drop]; omega
  have hco := anr_ints (Rok.keeps (R := IsL IsN 0) hM (hk0.nil l)) (by rw [hml]; omega) eg hlit
  rw [hml] at hco
  have hfin : ∀ q : Bool, (q = true ↔ ∃ i, i < p - f ∧ gtB (rkF r (((b.drop f).take (p - f)).getD i 0)) (rkF r (b.getD p 0)) = true) → covB (rkF r) b f p = !q := fun q hq => by
    have hg : ∀ i, i < p - f → ((b.drop f).take (p - f)).getD i 0 = b.getD (f + i) 0 := fun i hi => by simp [List.getD_eq_getElem?_getD, List.getElem?_take, hi, List.getElem?_drop]
    rw [Bool.eq_iff_iff, covB_true, Bool.not_eq_true', ← Bool.not_eq_true, hq]
    constructor
    · rintro h ⟨i, hi, hgt⟩
      have := h (f + i) (by omega) (by omega)
      rw [hg i hi] at hgt
      have := gtB_true.1 hgt
      omega
    · intro h k hk1 hk2
      refine Classical.byContradiction fun hc => h ⟨k - f, by omega, ?_⟩
      rw [hg _ (by omega), show f + (k - f) = k by omega]
      exact gtB_true.2 (by omega)
  generalize covB (rkF r) b f p = rr at *
  generalize r.length = n at *
  generalize b.length = m at *
  have H1 := Lib.hid h1
  have H2 := Lib.hid h2
  have HR := Lib.hid hr
  have HB := Lib.hid hb
  have HM := Lib.hid hM
  have HFIN := Lib.hid hfin
  have HCO := Lib.hid hco
  have HSUB := Lib.hid hsub
  have HX := Lib.hid hx
  have HK0 := Lib.hid hk0
  have HML := Lib.hid hml
  clear h1 h2 hr hb hM hfin hco hsub hx hk0 hml
  clear hlit c0 c1 c2 eg
  have HW0 := Lib.hid hW0
  subst hW0
  go_enter Try.func44, Try.ntmps44
  go_wp2_with fail
  refine HCO.out.mono ?_
  rintro e w1 ⟨q, rfl, hq, hk⟩
  have hq := HFIN.out q hq
  have hk := HK0.out.trans hk
  have HQ := Lib.hid hq
  have HK := Lib.hid hk
  clear hq hk
  go_wp2_with fail
  go_ret
  exact ⟨ret_bo HQ.out.symm, HK.out⟩
end Go.Proofs.Ytmjnicikikgncaa
