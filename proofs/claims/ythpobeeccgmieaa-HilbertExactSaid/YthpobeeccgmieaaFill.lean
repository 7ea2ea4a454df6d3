/- The walks of hilbert.vectors and of its closures. -/
import Derived.Test.YthpobeeccgmieaaRngV
import Derived.Test.YthpobeeccgmieaaHilL
import Derived.Test.YthpobeeccgmieaaCloneR
import Derived.Shelf.Abstract
import Derived.Shelf.AbstractIn
import Derived.Shelf.RegionOpen
import Derived.WalkKit
import Derived.OwnWalkIn
import Derived.TacticsInMore
import Derived.Sort.LoopGhostIn
import Derived.Stop.RegionWithIn
import Derived.LoopNIn
import Derived.LoopIn
namespace Go.Proofs.Ythpobeeccgmieaa
set_option linter.unusedVariables false
open Go.RowKit
attribute [local go_sem] Oper.semAt_some

/-- The blocks of the iterator, and what they hold; the first elements of its vector are those of p. -/
structure FM (Bn Bv By Bf g N l : Nat) (W : World) (p : List Int) : Prop where
  cn : W.cell? ⟨Bn, 0, none⟩ = some (.int .i64 (N : Int))
  cv : W.cell? ⟨Bv, 0, none⟩ = some (.slice (some ⟨g, 0, none⟩) N N)
  cy : W.cell? ⟨By, 0, none⟩ = some (.func (.yield l) #[] #[])
  cf : W.cell? ⟨Bf, 0, none⟩ = some (.func (.func 73) #[] #[.pointer (some ⟨Bn, 0, none⟩), .pointer (some ⟨Bv, 0, none⟩), .pointer (some ⟨By, 0, none⟩), .pointer (some ⟨Bf, 0, none⟩)])
  row : ∃ f : Nat → Int, Own W g N (fun i => .int .i64 (f i)) ∧ ∀ i, i < p.length → f i = p.getD i 0
def Bl (Bn Bv By Bf g : Nat) (O : List Nat) : Prop := ∀ y ∈ [Bn, Bv, By, Bf, g], y ∈ O
section
variable {Bn Bv By Bf g N l : Nat} {O : List Nat} {W W' : World} {p : List Int}
theorem FM.ko (h : FM Bn Bv By Bf g N l W p) (k : KO O W W') (hb : Bl Bn Bv By Bf g O) : FM Bn Bv By Bf g N l W' p := by
  obtain ⟨f, hf, he⟩ := h.row
  exact ⟨k.cell h.cn (hb _ (by simp)), k.cell h.cv (hb _ (by simp)), k.cell h.cy (hb _ (by simp)), k.cell h.cf (hb _ (by simp)), f, k.own hf (hb _ (by simp)), he⟩
theorem FM.new (h : FM Bn Bv By Bf g N l W p) (k : Keeps [] W W') : FM Bn Bv By Bf g N l W' p := h.ko (KO.of_keeps (O := [Bn, Bv, By, Bf, g]) k (by simp)) (fun y hy => hy)
theorem FM.less (h : FM Bn Bv By Bf g N l W p) (m : Nat) : FM Bn Bv By Bf g N l W (p.take m) := by
  obtain ⟨f, hf, he⟩ := h.row
  refine ⟨h.cn, h.cv, h.cy, h.cf, f, hf, fun i hi => ?_⟩
  rw [List.length_take] at hi
  rw [he i (by omega)]
  simp [List.getD_eq_getElem?_getD, List.getElem?_take, show i < m by omega]
theorem FM.set (h : FM Bn Bv By Bf g N l W p) (hne : Bn ≠ g ∧ Bv ≠ g ∧ By ≠ g ∧ Bf ≠ g) (hp : p.length < N) (x : Int) : FM Bn Bv By Bf g N l (W.setCell ⟨g, p.length, none⟩ (.int .i64 x)) (p ++ [x]) := by
  obtain ⟨f, hf, he⟩ := h.row
  obtain ⟨h1, h2, h3, h4⟩ := hne
  refine ⟨?_, ?_, ?_, ?_, upd f p.length x, hf.updInt hp x, fun i hi => ?_⟩
  · rw [World.cell?_setCell_other _ _ _ _ (by intro h; injection h with h; exact h1 h.symm)]; exact h.cn
  · rw [World.cell?_setCell_other _ _ _ _ (by intro h; injection h with h; exact h2 h.symm)]; exact h.cv
  · rw [World.cell?_setCell_other _ _ _ _ (by intro h; injection h with h; exact h3 h.symm)]; exact h.cy
  · rw [World.cell?_setCell_other _ _ _ _ (by intro h; injection h with h; exact h4 h.symm)]; exact h.cf
  · rw [List.length_append, List.length_singleton] at hi
    by_cases e : i = p.length
    · subst e
      simp [upd, List.getD_eq_getElem?_getD]
    · rw [getD_append_left' _ _ _ (by omega), ← he i (by omega)]
      simp [upd, e]
theorem FM.isI (h : FM Bn Bv By Bf g N l W p) (hp : p.length = N) : IsI W [] (.slice (some ⟨g, 0, none⟩) N N) p := by
  obtain ⟨f, hf, he⟩ := h.row
  exact Own.isI hf (by simp) (Nat.le_refl _) hp fun i hi => (he i (by omega)).symm
end

def FillPost (Bn Bv By Bf g N l : Nat) (p : List Int) (J : List Nat → List (List Int) → World → Prop) (O : List Nat) (ys : List (List Int)) (W : World) (e : Ending) (W' : World) : Prop :=
  e = .returned (.bool true) ∧ J O ys W' ∧ FM Bn Bv By Bf g N l W' p ∧ W.heap.size ≤ W'.heap.size
theorem CloPost.fresh {l O : List Nat} {xs : List Int} {W W' : World} {v : Value} (h : OwL IsN 0 3 W.heap.size W' l v xs) (hO : ∀ y ∈ O, y < W.heap.size) : IsI W' O v xs := by
  obtain ⟨us, h1, h2, h3⟩ := h
  have h' : OwL IsN 0 3 W.heap.size W' O v xs := ⟨us, h1, h2, h3⟩
  exact h'.isL hO
theorem wide_depth (k : Nat) : Fence.wide.depth.isSome = true → 1 ≤ k := fun h => by simp [Fence.wide] at h

set_option maxRecDepth 100000 in
set_option maxHeartbeats 2000000 in
theorem fill0_is {l N Bn Bv By Bf g : Nat} {J : List Nat → List (List Int) → World → Prop} (hJ : JOk J) {xs : List (List Int)} {O : List Nat} (hO : Bl Bn Bv By Bf g O) (hne : Bn ≠ g ∧ Bv ≠ g ∧ By ≠ g ∧ Bf ≠ g) (hN : N ≤ 1000)
    (hY : ∀ pre x rest v Wp W1, xs = pre ++ x :: rest → J O pre Wp → (∀ y ∈ O, y < Wp.heap.size) → Keeps [] Wp W1 → (∀ O', (∀ y ∈ O', y < Wp.heap.size) → IsI W1 O' v x) → YieldAt Fence.wide 0 Try.prog l #[v] W1 (YesP J O (pre ++ [x]) W1))
    (n i : Nat) (rest : Nat) (p : List Int) (done more : List (List Int)) (W : World) (hi : i + 1 = N) (hp : p.length = i) (hF : FM Bn Bv By Bf g N l W p) (hD : J O done W) (hx : xs = done ++ [p ++ [(rest : Int)]] ++ more) (hOs : ∀ y ∈ O, y < W.heap.size) :
    CallsIn Fence.wide n Try.prog 73 #[.int .i64 (i : Int), .int .i64 (rest : Int), .pointer (some ⟨Bn, 0, none⟩), .pointer (some ⟨Bv, 0, none⟩), .pointer (some ⟨By, 0, none⟩), .pointer (some ⟨Bf, 0, none⟩)] W
      (FillPost Bn Bv By Bf g N l p J O (done ++ [p ++ [(rest : Int)]]) W) := by
  unfold FillPost
  subst hp
  have hlt : p.length < N := by omega
  have hF1 := hF.set hne hlt (rest : Int)
  have hk1 : Keeps [g] W (W.setCell ⟨g, p.length, none⟩ (.int .i64 (rest : Int))) := (Keeps.refl _ _).setCell (by simp) _
  have hD1 : J O done (W.setCell ⟨g, p.length, none⟩ (.int .i64 (rest : Int))) := hJ.keeps hD (hk1.more fun y hy => hO y (by rw [List.mem_singleton.1 hy]; simp))
  have hfz : W.frozen? ⟨g, p.length, none⟩ = false := by
    obtain ⟨f, hf, he⟩ := hF.row
    exact (hf _ hlt).2
  have hcl : ∃ u, W.cell? ⟨g, p.length, none⟩ = some u := by
    obtain ⟨f, hf, he⟩ := hF.row
    exact ⟨_, (hf _ hlt).1⟩
  obtain ⟨u, hcl⟩ := hcl
  have hcn := hF.cn
  have hcv := hF.cv
  generalize hW1 : W.setCell ⟨g, p.length, none⟩ (.int .i64 (rest : Int)) = W1 at *
  have hcv1 := hF1.cv
  have hcy1 := hF1.cy
  have hNi : (N : Int) - 1 = (p.length : Int) := by omega
  have hpl : p.length ≤ 1000 := by omega
  have hs1 : W.heap.size ≤ W1.heap.size := hk1.size
  have hOs1 : ∀ y ∈ O, y < W1.heap.size := fun y hy => Nat.lt_of_lt_of_le (hOs y hy) hs1
  have hyield : ∀ W2 v, Keeps [] W1 W2 → (∀ O', (∀ y ∈ O', y < W1.heap.size) → IsI W2 O' v (p ++ [(rest : Int)])) → YieldAt Fence.wide (n - 1) Try.prog l #[v] W2 fun e W3 => e = .returned (.bool true) ∧ J O (done ++ [p ++ [(rest : Int)]]) W3 ∧ FM Bn Bv By Bf g N l W3 p ∧ W.heap.size ≤ W3.heap.size := fun W2 v k hv => by
    refine YieldAt.anyDepth rfl _ (YieldAt.mono (hY done (p ++ [(rest : Int)]) more v W1 W2 (by rw [hx]; simp) hD1 hOs1 k hv) ?_)
    rintro e W3 ⟨rfl, h1, h2⟩
    refine ⟨rfl, h1, ?_, Nat.le_trans hs1 (Nat.le_trans k.size h2.size)⟩
    have := ((hF1.new k).ko h2 hO).less p.length
    simpa using this
  have hpn : (p ++ [(rest : Int)]).length = N := by simp; omega
  have hcl1 : ∀ W2, Keeps [] W1 W2 → Calls Try.prog 66 #[.slice (some ⟨g, 0, none⟩) N N] W2 (fun e w' => ∃ A c, e = .returned (.slice A N c) ∧ (∀ O', (∀ y ∈ O', y < W1.heap.size) → IsI w' O' (.slice A N c) (p ++ [(rest : Int)])) ∧ Keeps [] W2 w') := fun W2 k => by
    refine (clone_is ((hF1.new k).isI hpn) (by omega)).mono ?_
    rintro e w' ⟨A, c, rfl, h1, h2⟩
    rw [hpn] at h1 ⊢
    exact ⟨A, c, rfl, fun O' hO' => CloPost.fresh h1 (fun y hy => Nat.lt_of_lt_of_le (hO' y hy) k.size), h2⟩
  have hcyk : ∀ W2, Keeps [] W1 W2 → W2.cell? ⟨By, 0, none⟩ = some (.func (.yield l) #[] #[]) := fun W2 k => (hF1.new k).cy
  generalize hm : p.length = m at *
  have HF := Lib.hid hF
  have HF1 := Lib.hid hF1
  have HK1 := Lib.hid hk1
  have HD := Lib.hid hD
  have HD1 := Lib.hid hD1
  have HX := Lib.hid hx
  have HY := Lib.hid hY
  have HO := Lib.hid hO
  have HCL1 := Lib.hid hcl1
  have HYIELD := Lib.hid hyield
  have HPN := Lib.hid hpn
  have HM := Lib.hid hm
  have HOS := Lib.hid hOs
  have HOS1 := Lib.hid hOs1
  have HS1 := Lib.hid hs1
  have HCYK := Lib.hid hcyk
  clear hF hF1 hk1 hD hD1 hx hY hO hcl1 hyield hpn hm hOs hOs1 hs1 hcyk
  refine callsIn_of_wp Try.func73 rfl trivial ?_ rfl
  simp only [Try.ntmps73, List.size_toArray, List.length_cons, List.length_nil, Nat.reduceAdd, Nat.reduceSub, Array.replicate_succ, Array.replicate_zero, List.push_toArray, List.append_toArray, List.nil_append, List.cons_append]
  gi_wp2
  gi_region_with (first
    | ((try refine ⟨trivial, ?_⟩); (try refine ⟨wide_depth _, ?_⟩); gi_at_call 66; refine (callsIn_wide.2 (HCL1.out _ ((Keeps.refl [] W1).drew))).mono ?_; rintro e W2 ⟨A2, c2, rfl, hv2, hk2⟩; have hk3 := ((Keeps.refl [] W1).drew).trans hk2; have hcy2 := HCYK.out W2 hk3; obtain ⟨fn, tmps, assign, body, hy, hR⟩ := HYIELD.out W2 _ hk3 hv2)
    | ((try refine ⟨trivial, ?_⟩); (try refine ⟨wide_depth _, ?_⟩); refine hR.mono ?_; rintro e W3 ⟨rfl, hJ3, hF3, hs3⟩))
  all_goals
    gi_wp2
    go_ret
    exact ⟨rfl, hJ3, hF3, hs3⟩

set_option maxRecDepth 100000 in
set_option maxHeartbeats 2000000 in
theorem fill_is {l N Bn Bv By Bf g : Nat} {J : List Nat → List (List Int) → World → Prop} (hJ : JOk J) {xs : List (List Int)} {O : List Nat} (hO : Bl Bn Bv By Bf g O) (hne : Bn ≠ g ∧ Bv ≠ g ∧ By ≠ g ∧ Bf ≠ g) (hN : N ≤ 1000)
    (hY : ∀ pre x rest v Wp W1, xs = pre ++ x :: rest → J O pre Wp → (∀ y ∈ O, y < Wp.heap.size) → Keeps [] Wp W1 → (∀ O', (∀ y ∈ O', y < Wp.heap.size) → IsI W1 O' v x) → YieldAt Fence.wide 0 Try.prog l #[v] W1 (YesP J O (pre ++ [x]) W1)) (k : Nat) :
    ∀ (n i : Nat) (rest : Nat) (p : List Int) (done more : List (List Int)) (W : World), rest ≤ 1000 → i + k + 1 = N → p.length = i → FM Bn Bv By Bf g N l W p → J O done W → xs = done ++ (vecs k rest).map (p ++ ·) ++ more → (∀ y ∈ O, y < W.heap.size) →
    CallsIn Fence.wide n Try.prog 73 #[.int .i64 (i : Int), .int .i64 (rest : Int), .pointer (some ⟨Bn, 0, none⟩), .pointer (some ⟨Bv, 0, none⟩), .pointer (some ⟨By, 0, none⟩), .pointer (some ⟨Bf, 0, none⟩)] W
      (FillPost Bn Bv By Bf g N l p J O (done ++ (vecs k rest).map (p ++ ·)) W) := by
  induction k with
  | zero =>
    intro n i rest p done more W _ hi hp hF hD hx hOs
    exact fill0_is hJ hO hne hN hY n i rest p done more W hi hp hF hD hx hOs
  | succ k ih =>
    intro n i rest p done more W hr hi hp hF hD hx hOs
    unfold FillPost
    have hcn := hF.cn
    have hni : (i : Int) ≠ (N : Int) - 1 := by omega
    have hdec : decide ((i : Int) = (N : Int) - 1) = false := decide_eq_false hni
    have hi1 : i ≤ 1000 := by omega
    have hiN : i < N := by omega
    have ih' := fun (r : Nat) (x : Int) (done more : List (List Int)) (W : World) (h1 : r ≤ 1000) (h2 : FM Bn Bv By Bf g N l W (p ++ [x])) (h3 : J O done W) (h4 : xs = done ++ (vecs k r).map ((p ++ [x]) ++ ·) ++ more) (h5 : ∀ y ∈ O, y < W.heap.size) =>
      ih (n - 1) (i + 1) r (p ++ [x]) done more W h1 (by omega) (by simp [hp]) h2 h3 h4 h5
    clear ih
    have HF := Lib.hid hF
    have HD := Lib.hid hD
    have HX := Lib.hid hx
    have HY := Lib.hid hY
    have HO := Lib.hid hO
    have HOS := Lib.hid hOs
    have IH' := Lib.hid ih'
    have HNE := Lib.hid hne
    have HP := Lib.hid hp
    have HI := Lib.hid hi
    clear hF hD hx hY hO hOs ih' hne hp hi
    refine callsIn_of_wp Try.func73 rfl trivial ?_ rfl
    simp only [Try.ntmps73, List.size_toArray, List.length_cons, List.length_nil, Nat.reduceAdd, Nat.reduceSub, Array.replicate_succ, Array.replicate_zero, List.push_toArray, List.append_toArray, List.nil_append, List.cons_append]
    gi_wp2
    gi_loopg [9] (rest + 2) (fun gh xv wr => ∃ x : Nat, rest + 2 ≤ x + gh ∧ x ≤ rest + 1 ∧ xv = .int .i64 (x : Int) ∧ J O (done ++ (vupto k rest x).map (p ++ ·)) wr ∧ FM Bn Bv By Bf g N l wr p ∧ W.heap.size ≤ wr.heap.size)
    case atStart => exact ⟨0, by omega, by omega, rfl, by simpa [vupto_zero] using HD.out, HF.out, Nat.le_refl _⟩
    case round =>
      obtain ⟨x, hgh, hxr, rfl, hJr, hFr, hsr⟩ := hrel
      by_cases hlt : x ≤ rest
      · obtain ⟨r, rfl⟩ : ∃ r, rest = x + r := ⟨rest - x, by omega⟩
        have hrx : ((x + r : Nat) : Int) - (x : Int) = (r : Int) := by omega
        have hF1 := hFr.set HNE.out (by rw [HP.out]; exact hiN) (x : Int)
        rw [HP.out] at hF1
        have hk1 : Keeps [g] wr (wr.setCell ⟨g, i, none⟩ (.int .i64 (x : Int))) := (Keeps.refl _ _).setCell (by simp) _
        have hJ1 := hJ.keeps hJr (hk1.more fun y hy => HO.out y (by rw [List.mem_singleton.1 hy]; simp))
        have hfz : wr.frozen? ⟨g, i, none⟩ = false := by
          obtain ⟨f, hf, he⟩ := hFr.row
          exact (hf _ hiN).2
        have hcl : ∃ u, wr.cell? ⟨g, i, none⟩ = some u := by
          obtain ⟨f, hf, he⟩ := hFr.row
          exact ⟨_, (hf _ hiN).1⟩
        obtain ⟨u, hcl⟩ := hcl
        have hcv := hFr.cv
        have hsz := hk1.size
        generalize hW1 : wr.setCell ⟨g, i, none⟩ (.int .i64 (x : Int)) = W1 at *
        have hcf := hF1.cf
        obtain ⟨more', hm⟩ := vupto_split k (x + r) x (by omega)
        rw [show x + r - x = r by omega] at hm
        have hcall := IH'.out r (x : Int) (done ++ (vupto k (x + r) x).map (p ++ ·)) (more'.map (p ++ ·) ++ more) W1 (by omega) hF1 hJ1 (by
          rw [HX.out, hm]; simp [List.append_assoc, List.map_append, List.map_map, Function.comp_def]) (fun y hy => Nat.lt_of_lt_of_le (HOS.out y hy) (Nat.le_trans hsr hsz))
        have hstep : done ++ (vupto k (x + r) x).map (p ++ ·) ++ (vecs k r).map ((p ++ [(x : Int)]) ++ ·) = done ++ (vupto k (x + r) (x + 1)).map (p ++ ·) := by
          rw [vupto_succ, show x + r - x = r by omega]; simp [List.append_assoc, List.map_append, List.map_map, Function.comp_def]
        rw [hstep] at hcall
        have hcall : CallsIn Fence.wide (n - 1) Try.prog 73 #[.int .i64 ((i : Int) + 1), .int .i64 ((x : Int) + (r : Int) - (x : Int)), .pointer (some ⟨Bn, 0, none⟩), .pointer (some ⟨Bv, 0, none⟩), .pointer (some ⟨By, 0, none⟩), .pointer (some ⟨Bf, 0, none⟩)] W1 (FillPost Bn Bv By Bf g N l (p ++ [(x : Int)]) J O (done ++ (vupto k (x + r) (x + 1)).map (p ++ ·)) W1) := by
          rw [show (x : Int) + (r : Int) - (x : Int) = (r : Int) by omega, show (i : Int) + 1 = ((i + 1 : Nat) : Int) by omega]
          exact hcall
        have HF1 := Lib.hid hF1
        have HJ1 := Lib.hid hJ1
        have HK1 := Lib.hid hk1
        have HFR := Lib.hid hFr
        have HJR := Lib.hid hJr
        have HCALL := Lib.hid hcall
        have HM := Lib.hid hm
        have HSTEP := Lib.hid hstep
        have HSZ := Lib.hid hsz
        have HSR := Lib.hid hsr
        clear hF1 hJ1 hk1 hFr hJr hcall hm hstep hsz hsr
        gi_wp2_with ((try refine ⟨trivial, ?_⟩); (try refine ⟨wide_depth _, ?_⟩); gi_at_call 73; refine HCALL.out.mono ?_; rintro e W3 ⟨rfl, hJ3, hF3, hs3⟩)
        gi_roundg (x + r + 1 - x)
        case measure => omega
        case rel => exact ⟨x + 1, by omega, by omega, by go_num, hJ3, by
          have := hF3.less i
          rw [← HP.out] at this; simpa using this, Nat.le_trans HSR.out (Nat.le_trans HSZ.out hs3)⟩
      · obtain rfl : x = rest + 1 := by omega
        have hle : decide (((rest + 1 : Nat) : Int) ≤ (rest : Int)) = false := decide_eq_false (by omega)
        rw [vupto_all] at hJr
        have HJR := Lib.hid hJr
        have HFR := Lib.hid hFr
        have HSR := Lib.hid hsr
        clear hJr hFr hsr
        gi_wp2
        go_ret
        exact ⟨rfl, HJR.out, HFR.out, HSR.out⟩
end Go.Proofs.Ythpobeeccgmieaa
