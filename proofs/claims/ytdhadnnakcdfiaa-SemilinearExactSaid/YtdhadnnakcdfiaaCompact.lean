/- The walk of slices.CompactFunc at rows of the call's own, in the words of Rep. -/
import Derived.Test.YtdhadnnakcdfiaaChecked
import Derived.Test.YtdhadnnakcdfiaaCompactL
import Derived.Test.YtdhadnnakcdfiaaCmpL
import Derived.Test.YtdhadnnakcdfiaaNow
import Derived.Lib.SliceRun
import Derived.Shelf.Abstract
import Derived.Deep.QuietTactic
import Derived.BigQuiet
import Derived.WalkSpells
import Derived.IntWalk
namespace Go.Proofs.Ytdhadnnakcdfiaa
set_option linter.unusedVariables false
open Go.RowKit

/-- Function value g, captures cb, tells of two elements whether they are equal, in every world where nothing but block b and new things differ from w. -/
def EqR {α : Type} (R : Rp α) (g : Nat) (cb : Array Value) (l : List Nat) (eq : α → α → Bool) (xs : List α) (w : World) (b : Nat) : Prop :=
  ∀ (W : World) (u u' : Value) (x y : α), x ∈ xs → y ∈ xs → Keeps [b] w W → R W (b :: l) u x → R W (b :: l) u' y → Calls Try.prog g (#[u, u'] ++ cb) W (Quiet (.bool (eq x y)) W)

def CompPost {α : Type} (R : Rp α) (d : α) (ty : TypeId) (base : Nat) (l : List Nat) (v : Value) (ys : List α) (w : World) (e : Ending) (w' : World) : Prop :=
  ∃ A c, e = .returned (.slice A ys.length c) ∧ OwL R d ty base w' l (.slice A ys.length c) ys ∧ Keeps v.ownBlock.toList w w'
/-- The same; the row that is returned lies in the block that it lay in. -/
def CompPostB {α : Type} (R : Rp α) (d : α) (ty : TypeId) (base : Nat) (l : List Nat) (v : Value) (ys : List α) (w : World) (e : Ending) (w' : World) : Prop :=
  ∃ A c, e = .returned (.slice A ys.length c) ∧ OwL R d ty base w' l (.slice A ys.length c) ys ∧ Keeps v.ownBlock.toList w w' ∧ (Value.slice A ys.length c).ownBlock = v.ownBlock

theorem quiet_of {f : Nat} {args : Array Value} {v : Value} {W : World} (h : Calls Try.prog f args W (Quiet v W)) : Calls Try.prog f args W (fun e w' => e = .returned v ∧ ∃ q, w' = W.drewN q) := h

theorem drew_post {f : Nat} {args : Array Value} {v : Value} {w : World} {q a : Nat} (h : Calls Try.prog f args (w.drewN (q + a)) (Quiet v (w.drewN (q + a)))) : Calls Try.prog f args (w.drewN (q + a)) (fun e w'' => e = .returned v ∧ ∃ p, w'' = w.drewN (q + p)) :=
  h.mono fun e w'' ⟨h1, p, h2⟩ => ⟨h1, a + p, by rw [h2, World.drewN_drewN, Nat.add_assoc]⟩
theorem CmI.keepv {α : Type} {eq : α → α → Bool} {d : α} {xs : List α} {us vs : List Value} {m k : Nat} {u : Value} (h : CmI eq d xs us m k vs) (hv : k < vs.length) (hu : us.getD m undef = u) (he : eq (xs.getD m d) (xs.getD (m - 1) d) = false) : CmI eq d xs us (m + 1) (k + 1) (vs.set k u) := by
  rw [← hu]; exact h.keep hv he


set_option maxRecDepth 100000 in
set_option maxHeartbeats 4000000 in
theorem compactB_rows {w : World} {base : Nat} {l : List Nat} {v : Value} {xs : List (List Int)} {g : Nat} {cb : Array Value} {eq : (List Int) → (List Int) → Bool} (h : OwL IsI [] 22 base w l v xs) (hn : xs.length ≤ 1000000000)
    (eg : ∀ args w, (callFunc g args).run Try.prog w = .ok (.enter g args) w) (he : ∀ b, v.ownBlock = some b → EqR IsI g cb l eq xs w b) :
    Calls Try.prog 58 #[v, .func (.func g) #[] cb] w (CompPostB IsI [] 22 base l v (compL eq [] xs) w) := by
  have h0 := h
  obtain ⟨us, h1, h2, h3⟩ := h
  by_cases hlt2 : xs.length < 2
  · obtain ⟨A, c, rfl⟩ := ownsRow_slice h2
    have hall : compL eq [] xs = xs := compL_all fun j h1 h2 => by omega
    rw [hall]
    unfold CompPostB
    generalize hnn : xs.length = n at *
    have H0 := Lib.hid h0
    have H1 := Lib.hid h1
    have H2 := Lib.hid h2
    have H3 := Lib.hid h3
    have HE := Lib.hid he
    have HALL := Lib.hid hall
    have HNN := Lib.hid hnn
    clear h0 h1 h2 h3 he hall hnn
    go_enter Try.func58, Try.ntmps58
    go_wp2_with fail
    go_ret
    exact ⟨A, c, rfl, H0.out, Keeps.refl _ _, rfl⟩
  · rcases h2.2 with ⟨_, h⟩ | ⟨b, cap, cur, rfl, hb, hcur, hcap, hmax, hsz, htk⟩
    · omega
    have hcall := he b rfl
    have hbl : b < w.heap.size := heap_lt hcur
    have hcap63 : cap ≤ 9223372036854775807 := by unfold maxLen at hmax; omega
    unfold CompPostB
    generalize hnn : xs.length = n at *
    have hul : us.length = n := by omega
    have heq : ∀ (W : World) (i j : Nat), i < n → j < n → Keeps [b] w W → Calls Try.prog g (#[us.getD i undef, us.getD j undef] ++ cb) W (Quiet (.bool (eq (xs.getD i []) (xs.getD j []))) W) := fun W i j hi hj hk => by
      have hk' : Keeps (b :: l) w W := hk.more (by simp)
      have ri := Rok.keeps (h3 i hi) hk'
      have rj := Rok.keeps (h3 j hj) hk'
      exact hcall W _ _ _ _ (getD_mem (by omega)) (getD_mem (by omega)) hk ri rj
    have H0 := Lib.hid h0
    have H1 := Lib.hid h1
    have H2 := Lib.hid h2
    have H3 := Lib.hid h3
    have HE := Lib.hid he
    have HNN := Lib.hid hnn
    have HCALL := Lib.hid hcall
    have HEQ := Lib.hid heq
    have HCUR := Lib.hid hcur
    have HSZ := Lib.hid hsz
    have HTK := Lib.hid htk
    have HMAX := Lib.hid hmax
    have HUL := Lib.hid hul
    clear h0 h1 h2 h3 he hnn hcall heq hcur hsz htk hmax hul
    go_enter Try.func58, Try.ntmps58
    go_wp2_with fail
    go_loopg [5] n (fun gh sv wr => ∃ k q : Nat, 1 ≤ k ∧ k ≤ n ∧ n - k ≤ gh ∧ sv = .int .i64 (k : Int) ∧ wr = w.drewN q ∧ ∀ j, 1 ≤ j → j < k → eq (xs.getD j []) (xs.getD (j - 1) []) = false)
    case atStart => exact ⟨1, 0, by omega, by omega, by omega, rfl, rfl, fun j h1 h2 => by omega⟩
    case round =>
      obtain ⟨k, q, hk1, hk, hgh, rfl, rfl, hall⟩ := hrel
      have HALL := Lib.hid hall
      clear hall
      by_cases hlt : k < n
      · have c1 := (ownV_cell (H2.out : (w.drewN q).ownsRow base 22 1 (.slice (some ⟨b, 0, none⟩) n cap) n us) hlt).1
        have c0 := (ownV_cell (H2.out : (w.drewN q).ownsRow base 22 1 (.slice (some ⟨b, 0, none⟩) n cap) n us) (j := k - 1) (by omega)).1
        have hq : ∀ a : Nat, Calls Try.prog g (#[us.getD k undef, us.getD (k - 1) undef] ++ cb) (w.drewN (q + a)) (fun e w'' => e = .returned (.bool (eq (xs.getD k []) (xs.getD (k - 1) []))) ∧ ∃ p, w'' = w.drewN (q + p)) := fun a =>
          drew_post (HEQ.out _ k (k - 1) hlt (by omega) ((Keeps.refl _ _).drewN _))
        generalize us.getD k undef = u1 at *
        generalize us.getD (k - 1) undef = u0 at *
        have HQ := Lib.hid hq
        clear hq
        have hp1 : (1 : Int) ≤ (k : Int) := by omega
        have hp2 : (0 : Int) ≤ (k : Int) - 1 := by omega
        have hw1 : IntKind.i64.wrap ((k : Int) - 1) = (k : Int) - 1 := IntWalk.i64_in _ (by omega)
        have hw2 : ((k : Int) - 1).toNat = k - 1 := by omega
        have hlk : k - 1 < n := by omega
        have hp3 : (k : Int) - 1 < (n : Int) := by omega
        have hp4 : (k : Int) ≤ (n : Int) := by omega
        have hp5 : 1 ≤ k := hk1
        cases hd : eq (xs.getD k []) (xs.getD (k - 1) []) with
        | false =>
          rw [hd] at HQ
          have HD := Lib.hid hd
          clear hd
          go_wp2_with fail
          go_quiet (exact HQ.out _)
          clear hw1 hw2 hp2
          go_wp2_with fail
          go_roundg (n - (k + 1))
          case measure => omega
          case rel => exact ⟨k + 1, _, by omega, by omega, Nat.le_refl _, by go_num, rfl, fun j h1 h2 => by
            by_cases e : j = k
            · subst e; exact HD.out
            · exact HALL.out j h1 (by omega)⟩
        | true =>
          rw [hd] at HQ
          have HI0 := Lib.hid (CmI.start (us := us) hk1 HALL.out hd)
          clear hd
          go_wp2_with fail
          go_quiet (exact HQ.out _)
          go_wp2_with fail
          clear c0 c1 hw1 hw2 hp2 hp3 hp4 hp5
          have hcap' : n ≤ cap := hcap
          go_loopg [5, 7] (n + 1) (fun gh sv jv wr => ∃ (kk j q2 : Nat) (vs : List Value), sv = .int .i64 (kk : Int) ∧ jv = .int .i64 (j : Int) ∧ 1 ≤ j ∧ k + j ≤ n ∧ n - (k + j) ≤ gh ∧ wr.ownsRow base 22 1 (.slice (some ⟨b, 0, none⟩) n cap) n vs ∧ CmI eq [] xs us (k + j) kk vs ∧ Keeps [b] w wr)
          case atStart => exact ⟨k, 1, 0, us, rfl, rfl, by omega, by omega, by omega, H2.out, HI0.out, (Keeps.refl _ _).drewN _⟩
          case round =>
            obtain ⟨kk, j, q2, vs, rfl, rfl, hj1, hj, hgh2, hO, hI, hKr⟩ := hrel
            have hkk := hI.lt
            have hvl : vs.length = n := by have := hO.1; omega
            have hub : ∀ i, kk ≤ i → vs.getD i undef = us.getD i undef := hI.high
            have HO := Lib.hid hO
            have HI := Lib.hid hI
            have HKR := Lib.hid hKr
            have HVL := Lib.hid hvl
            have HUB := Lib.hid hub
            clear hO hI hKr hvl hub
            by_cases hlt3 : k + j < n
            · have c1 := (ownV_cell HO.out (j := k + j) hlt3).1
              have c0 := (ownV_cell HO.out (j := k + (j - 1)) (by omega)).1
              obtain ⟨ck, fk⟩ := ownV_cell HO.out (j := kk) (by omega)
              rw [HUB.out _ (by omega)] at c1 c0
              have hq : ∀ a : Nat, Calls Try.prog g (#[us.getD (k + j) undef, us.getD (k + (j - 1)) undef] ++ cb) (wr.drewN a) (fun e w'' => e = .returned (.bool (eq (xs.getD (k + j) []) (xs.getD (k + j - 1) []))) ∧ ∃ p, w'' = wr.drewN p) := fun a => by
                have := HEQ.out (wr.drewN a) (k + j) (k + (j - 1)) hlt3 (by omega) (HKR.out.drewN _)
                rw [show k + (j - 1) = k + j - 1 by omega] at this ⊢
                exact this.mono fun e w'' ⟨h1, p, h2⟩ => ⟨h1, a + p, by rw [h2, World.drewN_drewN]⟩
              have hsl : ∃ A m c, us.getD (k + j) undef = .slice A m c := by obtain ⟨A, c, e, _⟩ := (show IsI w (b :: l) (us.getD (k + j) undef) (xs.getD (k + j) []) from H3.out _ hlt3).open; exact ⟨_, _, _, e⟩
              generalize hu1 : us.getD (k + j) undef = u1 at *
              obtain ⟨Ax, mx, cx, rfl⟩ := hsl
              generalize us.getD (k + (j - 1)) undef = u0 at *
              generalize vs.getD kk undef = old at *
              have HQ := Lib.hid hq
              have HU1 := Lib.hid hu1
              clear hq hu1
              have hp1 : (1 : Int) ≤ (j : Int) := by omega
              have hp2 : (0 : Int) ≤ (j : Int) - 1 := by omega
              have hlk : j - 1 < n - k := by omega
              have hp3 : (j : Int) - 1 < ((n : Int) - (k : Int)) := by omega
              have hp4 : (j : Int) ≤ ((n : Int) - (k : Int)) := by omega
              have hp6 : (j : Int) < ((n : Int) - (k : Int)) := by omega
              have hp7 : j < n - k := by omega
              have hp5 : 1 ≤ j := hj1
              have hw1 : IntKind.i64.wrap ((j : Int) - 1) = (j : Int) - 1 := IntWalk.i64_in _ (by omega)
              have hw2 : ((j : Int) - 1).toNat = j - 1 := by omega
              cases hd : eq (xs.getD (k + j) []) (xs.getD (k + j - 1) []) with
              | true =>
                rw [hd] at HQ
                have HD := Lib.hid hd
                clear hd
                go_wp2_with fail
                go_quiet (exact HQ.out _)
                clear hw1 hw2 hp2
                go_wp2_with fail
                go_roundg (n - (k + (j + 1)))
                case measure => omega
                case rel => exact ⟨kk, j + 1, q2, vs, rfl, by go_num, by omega, by omega, Nat.le_refl _, HO.out, HI.out.skip HD.out, HKR.out.drewN _⟩
              | false =>
                rw [hd] at HQ
                have HD := Lib.hid hd
                clear hd
                go_wp2_with fail
                go_quiet (exact HQ.out _)
                clear hw1 hw2 hp2
                have hkkn : kk < n := by omega
                go_wp2_with fail
                have hvk : kk < vs.length := by rw [HVL.out]; exact hkkn
                go_roundg (n - (k + (j + 1)))
                case measure => omega
                case rel => exact ⟨kk + 1, j + 1, q2, vs.set kk _, by go_num, by go_num, by omega, by omega, Nat.le_refl _, ownV_set HO.out hkkn _, HI.out.keepv hvk HU1.out HD.out, (HKR.out.drewN _).setCell (by simp) _⟩
            · have hend : k + j = n := by omega
              have hkkn : kk < n := by omega
              have hcl : ∀ ty, (Builtin.clear_ #[27] ty #[.slice (some ⟨b, kk, none⟩) (n - kk) (cap - kk)]).run Try.prog wr = .ok (.tuple #[]) (wr.setCells b kk (List.replicate (n - kk) (Value.slice none 0 0))) := fun ty =>
                Lib.run_clear_slice wr _ _ ty _ sl_rowsi.ht (fun w => Try.zeroValue22 w) rfl rfl b kk _ _ (by omega) (fun i hi => by rw [(ownV_cell HO.out (j := kk + i) (by omega)).1]; rfl) (fun i hi => (ownV_cell HO.out (j := kk + i) (by omega)).2)
              have hj2 : ¬ j < n - k := by omega
              have hkl : (compL eq [] xs).length = kk := by
                have h := HI.out.len
                rw [hend] at h
                unfold compL; rw [List.length_map, HNN.out]; exact h
              obtain ⟨vs', hO2, htk2⟩ := ownV_sets (List.replicate (n - kk) (Value.slice none 0 0)) kk wr vs HO.out (by simp; omega)
              have hK2 := keeps_setCells (l := [b]) (g := b) (by simp) (List.replicate (n - kk) (Value.slice none 0 0)) kk wr HKR.out
              generalize hW : wr.setCells b kk (List.replicate (n - kk) (Value.slice none 0 0)) = W at *
              have HKL := Lib.hid hkl
              have HO2 := Lib.hid hO2
              have HTK2 := Lib.hid htk2
              have HK2 := Lib.hid hK2
              have HW := Lib.hid hW
              clear hkl hO2 htk2 hK2 hW
              go_wp2_with fail
              go_ret
              have hO3 := ownV_cut HO2.out (k := kk) (by omega)
              have hvs := ownV_cut HO.out (k := kk) (by omega)
              refine ⟨some ⟨b, 0, none⟩, cap, by rw [HKL.out]; rfl, ?_, by simpa [Value.ownBlock] using HK2.out, rfl⟩
              have hO4 : W.ownsRow base 22 1 (.slice (some ⟨b, 0, none⟩) (compL eq [] xs).length cap) (compL eq [] xs).length (vs'.take kk) := by rw [HKL.out]; exact hO3
              refine OwL.of_own hO4 fun i hi => ?_
              rw [HKL.out] at hi
              have hkept := HI.out.len
              rw [hend] at hkept
              have hlow := HI.out.low i hi
              rw [hend] at hlow
              have hmem : (keptI eq [] xs n).getD i 0 ∈ keptI eq [] xs n := getD_mem (by omega)
              have hlt4 := keptI_lt hmem
              have e1 : (vs'.take kk).getD i undef = us.getD ((keptI eq [] xs n).getD i 0) undef := by
                rw [HTK2.out, ← hlow]
                simp [List.getD_eq_getElem?_getD, List.getElem?_take, hi]
              have e2 : (compL eq [] xs).getD i [] = xs.getD ((keptI eq [] xs n).getD i 0) [] := by
                have h6 : i < (keptI eq [] xs n).length := by omega
                unfold compL; rw [HNN.out]
                rw [List.getD_eq_getElem?_getD, List.getElem?_map, List.getElem?_eq_getElem h6, Option.map_some, Option.getD_some]
                congr 1
                rw [List.getD_eq_getElem?_getD (l := keptI _ _ _ _), List.getElem?_eq_getElem h6]; rfl
              rw [e1, e2]
              exact Rok.keeps (H3.out _ hlt4) (HK2.out.more (by simp [Value.ownBlock]))
      · obtain rfl : k = n := by omega
        have hcl : compL eq [] xs = xs := compL_all fun j h1 h2 => HALL.out j h1 (by rw [HNN.out] at h2; exact h2)
        have HCL := Lib.hid hcl
        clear hcl
        go_wp2_with fail
        go_ret
        exact ⟨some ⟨b, 0, none⟩, cap, by rw [HCL.out, HNN.out]; rfl, by rw [HCL.out, HNN.out]; exact H0.out, (Keeps.refl _ _).drewN _, rfl⟩
theorem compact_rows {w : World} {base : Nat} {l : List Nat} {v : Value} {xs : List (List Int)} {g : Nat} {cb : Array Value} {eq : (List Int) → (List Int) → Bool} (h : OwL IsI [] 22 base w l v xs) (hn : xs.length ≤ 1000000000)
    (eg : ∀ args w, (callFunc g args).run Try.prog w = .ok (.enter g args) w) (he : ∀ b, v.ownBlock = some b → EqR IsI g cb l eq xs w b) :
    Calls Try.prog 58 #[v, .func (.func g) #[] cb] w (CompPost IsI [] 22 base l v (compL eq [] xs) w) :=
  (compactB_rows h hn eg he).mono fun _ _ ⟨A, c, h1, h2, h3, _⟩ => ⟨A, c, h1, h2, h3⟩
end Go.Proofs.Ytdhadnnakcdfiaa
