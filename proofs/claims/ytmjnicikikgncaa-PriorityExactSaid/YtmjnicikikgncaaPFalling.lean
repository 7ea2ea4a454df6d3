/- The walk of priority.Falling. -/
import Derived.Test.YtmjnicikikgncaaPFall
namespace Go.Proofs.Ytmjnicikikgncaa
set_option linter.unusedVariables false
open Go.RowKit

theorem asc_of_sorted {xs : List (List Int)} (h : xs.Pairwise fun a b => ¬ cmpL b a < 0) (hn : xs.Nodup) : Asc xs := by
  refine (h.and hn).imp fun {a b} hab => ?_
  rcases cmpL_total hab.1 with e | e
  · exact absurd e.symm hab.2
  · exact e
def FlgPost (r : List Int) (most : Int) (l : List Nat) (w : World) (e : Ending) (w' : World) : Prop :=
  Keeps [] w w' ∧ ((¬ PRanks r ∧ e = .returned (.tuple #[.slice none 0 0, .int .i64 2])) ∨
    ∃ A n c ys, PRanks r ∧ n = (ys : List (List Int)).length ∧ e = .returned (.tuple #[.slice A n c, .int .i64 0]) ∧ Asc ys ∧ (∀ x, x ∈ ys ↔ FallW r (min most 6 + 1) x) ∧ OwL IsI [] 22 w.heap.size w' l (.slice A n c) ys)

set_option maxHeartbeats 2000000 in
theorem falling_all {w : World} {l : List Nat} {rv : Value} {r : List Int} {most : Int} (hl : ∀ y ∈ l, y < w.heap.size) (hr : IsI w l rv r) (hn : r.length ≤ 1000) (hmo : -9223372036854775808 ≤ most ∧ most ≤ 9223372036854775807) : Calls Try.prog 26 #[rv, .int .i64 most] w (FlgPost r most l w) := by
  unfold FlgPost
  obtain ⟨R, c, rfl, _, _, h1⟩ := hr.open
  have hma := ranked_is hr (by omega)
  obtain ⟨hm1, hm2⟩ := hmo
  by_cases hva : PRanks r
  · rw [prB_true.2 hva] at hma
    have egc := enters_of Try.func39 (by kernel_rfl) rfl
    have hr0 : ∀ x ∈ r, 0 ≤ x := fun x hx => (hva.2 x hx).1
    have hrun := fun (W : World) (k : Keeps [] w W) => falling_is 7 (w := W) (l := l) (r := r) (below := min most 6 + 1) (Nat.le_refl _) (by omega) hva.1.2 hr0 (fun y hy => Nat.lt_of_lt_of_le (hl y hy) k.size) (hr.new k)
    have hmem := fallL_mem hr0 7 (min most 6 + 1) (by omega)
    have hnd := fallL_nodup hr0 7 (min most 6 + 1) (by omega)
    have hlen := fallL_len hva.1.2 7 (min most 6 + 1)
    have hN : fallN 7 ≤ 335922 := fallN_le (Nat.le_refl _)
    have hx : ∀ x ∈ fallL r 7 (min most 6 + 1), x.length ≤ 1000000 := fun x hx => by have := fallL_words hr0 7 _ x hx; omega
    have hlen := Nat.le_trans hlen hN
    generalize fallL r 7 (min most 6 + 1) = zs at *
    generalize hrn : r.length = rn at *
    have H1 := Lib.hid h1
    have HR := Lib.hid hr
    have HMA := Lib.hid hma
    have HVA := Lib.hid hva
    have HL := Lib.hid hl
    have HRUN := Lib.hid hrun
    have HMEM := Lib.hid hmem
    have HND := Lib.hid hnd
    have HLEN := Lib.hid hlen
    have HX := Lib.hid hx
    have EGC := Lib.hid egc
    have HR0 := Lib.hid hr0
    have HRN := Lib.hid hrn
    clear h1 hr hma hva hl hrun hmem hnd hlen hx egc hr0 hrn
    clear hN
    have hmn1 : min most 6 ≤ 6 := by omega
    have hmn2 : -9223372036854775808 ≤ min most 6 := by omega
    go_enter Try.func26, Try.ntmps26
    go_wp2_with fail
    refine HMA.out.mono ?_
    rintro e w1 ⟨rfl, hk1⟩
    have hrun := HRUN.out w1 hk1
    have HK1 := Lib.hid hk1
    have HRUN := Lib.hid hrun
    clear hk1 hrun
    go_wp2_with fail
    refine HRUN.out.mono ?_
    rintro e w2 ⟨V, k0, c0, hk0, rfl, hO, hk2⟩
    have hk2 := HK1.out.trans hk2
    have hz := HK1.out.size
    have hsort := sort_own Try.sorts38 cmpL_swo EGC.out hO (cb := #[]) (fun b hb => cmpR_word HX.out) (by have := HLEN.out; omega)
    change Calls Try.prog 38 _ _ _ at hsort
    have hbl := hO.blocks
    have HK0 := Lib.hid hk0
    have HO := Lib.hid hO
    have HK2 := Lib.hid hk2
    have HSORT := Lib.hid hsort
    have HBL := Lib.hid hbl
    clear hk0 hO hk2 hsort hbl
    go_wp2_with fail
    refine HSORT.out.mono ?_
    rintro e w3 ⟨rfl, ys, hp, hs, hO3, hk3⟩
    have hasc := asc_of_sorted hs (hp.nodup_iff.2 HND.out)
    have hys : ∀ x, x ∈ ys ↔ FallW r (min most 6 + 1) x := fun x => hp.mem_iff.trans (HMEM.out x)
    have hyl : k0 = ys.length := by rw [hp.length_eq, HK0.out]
    have hO4 := hO3.low hz
    have hk4 := HK2.out.step hk3 fun x hx => .inr (by have := (HBL.out x hx).1; omega)
    have HASC := Lib.hid hasc
    have HYS := Lib.hid hys
    have HYL := Lib.hid hyl
    have HO4 := Lib.hid hO4
    have HK4 := Lib.hid hk4
    clear hasc hys hyl hO4 hk4
    clear hp hs hO3 hk3
    go_wp2_with fail
    go_ret2
    exact ⟨HK4.out, .inr ⟨V, k0, c0, ys, HVA.out, HYL.out, rfl, HASC.out, HYS.out, HO4.out⟩⟩
  · rw [prB_false.2 hva] at hma
    generalize hrn : r.length = rn at *
    have H1 := Lib.hid h1
    have HR := Lib.hid hr
    have HMA := Lib.hid hma
    have HVA := Lib.hid hva
    have HL := Lib.hid hl
    have HRN := Lib.hid hrn
    clear h1 hr hma hva hl hrn
    go_enter Try.func26, Try.ntmps26
    go_wp2_with fail
    refine HMA.out.mono ?_
    rintro e w1 ⟨rfl, hk1⟩
    have HK1 := Lib.hid hk1
    clear hk1
    go_wp2_with fail
    go_ret2
    exact ⟨HK1.out, .inl ⟨HVA.out, rfl⟩⟩
end Go.Proofs.Ytmjnicikikgncaa
