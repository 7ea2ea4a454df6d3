/- The walk of multiset.search: one run of Kuhn's search. -/
import Derived.Test.YtpnkaicbcbimaaaChecked
import Derived.Test.YtpnkaicbcbimaaaTab
import Derived.Test.YtpnkaicbcbimaaaKuhn
namespace Go.Proofs.Ytpnkaicbcbimaaa
set_option linter.unusedVariables false
open Go.RowKit Kuhn

def unseen (s : Nat → Bool) (m : Nat) : Nat := ((List.range m).filter fun c => !s c).length
theorem unseen_mono {s s' : Nat → Bool} {m : Nat} (h : ∀ c, s c = true → s' c = true) : unseen s' m ≤ unseen s m := by
  unfold unseen
  rw [← List.countP_eq_length_filter, ← List.countP_eq_length_filter]
  refine List.countP_mono_left fun c _ hc => ?_
  cases hs : s c with
  | false => rfl
  | true => rw [h c hs] at hc; cases hc
theorem unseen_lt {s : Nat → Bool} {m j : Nat} (hj : j < m) (hs : s j = false) : unseen (upd s j true) m < unseen s m := by
  unfold unseen
  induction m with
  | zero => omega
  | succ m ih =>
    simp only [List.range_succ, List.filter_append, List.length_append]
    by_cases h : j = m
    · subst h
      have e : (List.range j).filter (fun c => !upd s j true c) = (List.range j).filter fun c => !s c := by
        refine List.filter_congr fun c hc => ?_
        have := List.mem_range.1 hc
        rw [upd_ne]; omega
      rw [e]
      simp [upd_same, hs]
    · have := ih (by omega)
      have e : upd s j true m = s m := upd_ne _ _ (fun e => h e.symm)
      have e2 : (List.filter (fun c => !upd s j true c) [m]).length = (List.filter (fun c => !s c) [m]).length := by simp [List.filter_cons, e]
      omega

def SrchPost (E : Nat → Nat → Bool) (m row : Nat) (o : Nat → Int) (s : Nat → Bool) (bo bs : Nat) (w : World) (e : Ending) (w' : World) : Prop :=
  ∃ b o' s', e = .returned (.bool b) ∧ Srch E m row 0 o s b o' s' ∧ Own w' bo m (fun c => .int .i64 (o' c)) ∧ Own w' bs m (fun c => .bool (s' c)) ∧ Keeps [bo, bs] w w'

set_option maxHeartbeats 1000000 in
theorem search_any (E : Nat → Nat → Bool) (m n B bo bs co cs tc : Nat) (A Ao As : Option Addr) (o : Nat → Int) (hbo : B ≤ bo) (hbs : B ≤ bs) (hne : bo ≠ bs) (hAo : 0 < m → Ao = some ⟨bo, 0, none⟩) (hAs : 0 < m → As = some ⟨bs, 0, none⟩)
    (hv : ∀ c, c < m → o c = -1 ∨ ∃ x : Nat, o c = x ∧ x < n) (hm : m ≤ 1000) (k : Nat) : ∀ (row : Nat) (s : Nat → Bool) (w : World), unseen s m < k → row < n → Tab w B A n m E →
    Own w bo m (fun c => .int .i64 (o c)) → Own w bs m (fun c => .bool (s c)) → 
    Calls Try.prog 32 #[.slice A n tc, .slice Ao m co, .slice As m cs, .int .i64 (row : Int)] w (SrchPost E m row o s bo bs w) := by
  induction k with
  | zero => intro row s w h; omega
  | succ k ih =>
    intro row s w hk hrow hT hO hS
    have IH := Lib.hid ih
    clear ih
    obtain ⟨R, C, hR, hE⟩ := id hT
    obtain ⟨a, rfl, hab, hrc⟩ := hR.at_ hrow
    have hEr := hE row hrow
    clear hE hR
    generalize R row = Ar at *
    generalize C row = Cr at *
    clear R C
    go_enter Try.func32, Try.ntmps32
    go_wp2
    go_loopg [16] (m + 1) (fun g i wr => ∃ (j : Nat) (sj : Nat → Bool), j + g = m + 1 ∧ i = .int .i64 j ∧ Own wr bo m (fun c => .int .i64 (o c)) ∧ Own wr bs m (fun c => .bool (sj c)) ∧ Keeps [bo, bs] w wr ∧ unseen sj m ≤ unseen s m ∧
      (∀ b o' s', Srch E m row j o sj b o' s' → Srch E m row 0 o s b o' s'))
    case atStart => exact ⟨0, s, by omega, rfl, hO, hS, Keeps.refl _ _, Nat.le_refl _, fun _ _ _ h => h⟩
    case round =>
      obtain ⟨j, sj, hg, rfl, hOj, hSj, hK, hU, hgo⟩ := hrel
      have HG := Lib.hid hgo
      clear hgo
      by_cases hj : j < m
      · obtain rfl := hAo (by omega)
        obtain rfl := hAs (by omega)
        have hl : ∀ x ∈ [bo, bs], B ≤ x := by simp; omega
        obtain ⟨a', rfl, hab', hec'⟩ := (hEr.keeps hK hl).at_ hj
        have ho1 : wr.cell? ⟨bo, j, none⟩ = some (.int .i64 (o j)) := (hOj j hj).1
        have ho2 := (hOj j hj).2
        have hs1 : wr.cell? ⟨bs, j, none⟩ = some (.bool (sj j)) := (hSj j hj).1
        have hs2 := (hSj j hj).2
        have HT := Lib.hid hT
        have HO := Lib.hid hOj
        have HS := Lib.hid hSj
        clear hT hEr hO hS hOj hSj hAo hAs hrc
        cases hE : E row j with
        | false =>
          rw [hE] at hec'
          have HE := Lib.hid hE
          clear hE hv
          go_wp2_with fail
          go_roundg (m - j)
          case measure => omega
          case rel => exact ⟨j + 1, sj, by omega, by go_num, HO.out, HS.out, hK, hU, fun b o' s' h => HG.out b o' s' (.skip hj (.inl HE.out) h)⟩
        | true =>
          rw [hE] at hec'
          have HE := Lib.hid hE
          clear hE
          cases hsj : sj j with
          | true =>
            rw [hsj] at hs1
            have HJ := Lib.hid hsj
            clear hsj hv
            go_wp2_with fail
            go_roundg (m - j)
            case measure => omega
            case rel => exact ⟨j + 1, sj, by omega, by go_num, HO.out, HS.out, hK, hU, fun b o' s' h => HG.out b o' s' (.skip hj (.inr HJ.out) h)⟩
          | false =>
            rw [hsj] at hs1
            have HJ := Lib.hid hsj
            clear hsj
            have hlt := unseen_lt hj HJ.out
            have HS' : Hid (Own (wr.setCell ⟨bs, j, none⟩ (.bool true)) bs m (fun c => .bool (upd sj j true c))) := HS.out.updBool hj true
            have HO' : Hid (Own (wr.setCell ⟨bs, j, none⟩ (.bool true)) bo m (fun c => .int .i64 (o c))) := HO.out.far (p := ⟨bs, j, none⟩) (fun e => hne e.symm) _
            have HK' : Hid (Keeps [bo, bs] w (wr.setCell ⟨bs, j, none⟩ (.bool true))) := hK.setCell (by simp) _
            have ho1' := (World.cell?_setCell_other wr ⟨bs, j, none⟩ ⟨bo, j, none⟩ (.bool true) (fun e => hne (by injection e with e; exact e.symm))).trans ho1
            by_cases hfree : o j = -1
            · have ht : (o j == -1) = true := by simp [hfree]
              have HF := Lib.hid hfree
              clear hfree hv
              go_wp2_with fail
              go_ret
              exact ⟨true, upd o j row, upd sj j true, rfl, HG.out _ _ _ (.free hj HE.out HJ.out HF.out), HO'.out.updInt hj _, HS'.out.far (p := ⟨bo, j, none⟩) hne _, HK'.out.setCell (by simp) _⟩
            · have ht : (o j == -1) = false := by simp [hfree]
              obtain ⟨x, hx, hxn⟩ := (hv j hj).resolve_left hfree
              have HX := Lib.hid hx
              clear hx hfree hv
              go_wp2_with fail
              rw [HX.out]
              refine (IH.out x (upd sj j true) (wr.setCell ⟨bs, j, none⟩ (.bool true)) (by omega) hxn (HT.out.keeps HK'.out hl) HO'.out HS'.out).mono ?_
              rintro e w' ⟨_ | _, o', s', rfl, hr, hO2, hS2, hK2⟩
              · have hoo := hr.same rfl
                have HR := Lib.hid hr
                have HOO := Lib.hid hoo
                clear hr hoo
                go_wp2_with fail
                go_roundg (m - j)
                case measure => omega
                case rel =>
                  refine ⟨j + 1, s', by omega, by go_num, ?_, hS2, HK'.out.trans hK2, ?_, fun b o'' s'' h => HG.out b o'' s'' (.back hj HE.out HJ.out HX.out HR.out ?_)⟩
                  · rw [← HOO.out]; exact hO2
                  · have := unseen_mono (m := m) (HR.out.mono); omega
                  · rw [HOO.out]; exact h
              · have HR := Lib.hid hr
                clear hr
                have ho3 : w'.cell? ⟨bo, j, none⟩ = some (.int .i64 (o' j)) := (hO2 j hj).1
                have ho4 := (hO2 j hj).2
                have HO2 := Lib.hid hO2
                have HS2 := Lib.hid hS2
                clear hO2 hS2
                go_wp2_with fail
                go_ret
                exact ⟨true, upd o' j row, s', rfl, HG.out _ _ _ (.push hj HE.out HJ.out HX.out HR.out), HO2.out.updInt hj _, HS2.out.far (p := ⟨bo, j, none⟩) hne _, (HK'.out.trans hK2).setCell (by simp) _⟩
      · clear hEr hT hv
        go_wp2_with fail
        go_ret
        exact ⟨false, o, sj, rfl, HG.out _ _ _ (.fin (by omega)), hOj, hSj, hK⟩
end Go.Proofs.Ytpnkaicbcbimaaa
