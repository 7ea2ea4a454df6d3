/- The walks of the reference's try and most: Kuhn's search again. -/
import Derived.Test.YtpnkaicbcbimaaaMatch
namespace Go.Proofs.Ytpnkaicbcbimaaa
set_option linter.unusedVariables false
open Go.RowKit Kuhn

set_option maxHeartbeats 1000000 in
theorem try_any (E : Nat → Nat → Bool) (m n B bo bs co cs tc : Nat) (A Ao As : Option Addr) (o : Nat → Int) (hbo : B ≤ bo) (hbs : B ≤ bs) (hne : bo ≠ bs) (hAo : 0 < m → Ao = some ⟨bo, 0, none⟩) (hAs : 0 < m → As = some ⟨bs, 0, none⟩)
    (hv : ∀ c, c < m → o c = -1 ∨ ∃ x : Nat, o c = x ∧ x < n) (hm : m ≤ 1000) (k : Nat) : ∀ (row : Nat) (s : Nat → Bool) (w : World), unseen s m < k → row < n → Tab w B A n m E →
    Own w bo m (fun c => .int .i64 (o c)) → Own w bs m (fun c => .bool (s c)) →
    Calls Try.prog 34 #[.slice A n tc, .int .i64 (row : Int), .slice As m cs, .slice Ao m co] w (SrchPost E m row o s bo bs w) := by
  induction k with
  | zero => intro row s w h; omega
  | succ k ih =>
    intro row s w hk hrow hT hO hS
    have IH := Lib.hid ih
    clear ih
    obtain ⟨a, rfl, hab⟩ : ∃ a, A = some a ∧ a.block < B := by
      obtain ⟨R0, C0, hR0, _⟩ := hT
      obtain ⟨a, h1, h2, _⟩ := hR0.at_ hrow
      exact ⟨a, h1, h2⟩
    have HT := Lib.hid hT
    clear hT
    go_enter Try.func34, Try.ntmps34
    go_wp2
    go_loopg [9] (m + 1) (fun g i wr => ∃ (j : Nat) (sj : Nat → Bool), j + g = m + 1 ∧ i = .int .i64 (j : Int) ∧ Own wr bo m (fun c => .int .i64 (o c)) ∧ Own wr bs m (fun c => .bool (sj c)) ∧ Keeps [bo, bs] w wr ∧ unseen sj m ≤ unseen s m ∧
      (∀ b o' s', Srch E m row j o sj b o' s' → Srch E m row 0 o s b o' s'))
    case atStart => exact ⟨0, s, by omega, rfl, hO, hS, Keeps.refl _ _, Nat.le_refl _, fun _ _ _ h => h⟩
    case round =>
      obtain ⟨j, sj, hg, rfl, hOj, hSj, hK, hU, hgo⟩ := hrel
      have HG := Lib.hid hgo
      have hl : ∀ x ∈ [bo, bs], B ≤ x := by simp; omega
      obtain ⟨R, C, hR, hE⟩ := HT.out.keeps hK hl
      obtain ⟨a2, ha2, _, hrc⟩ := hR.at_ hrow
      obtain rfl : a = a2 := by injection ha2
      have hEr := hE row hrow
      clear hgo ha2 hR hE
      generalize R row = Ar at *
      generalize C row = Cr at *
      clear R C
      by_cases hj : j < m
      · obtain rfl := hAo (by omega)
        obtain rfl := hAs (by omega)
        obtain ⟨a', rfl, hab', hec'⟩ := hEr.at_ hj
        have hab2 : (a.add row).block < B := by rw [block_of_add]; exact hab
        have ho1 : wr.cell? ⟨bo, j, none⟩ = some (.int .i64 (o j)) := (hOj j hj).1
        have ho2 := (hOj j hj).2
        have hs1 : wr.cell? ⟨bs, j, none⟩ = some (.bool (sj j)) := (hSj j hj).1
        have hs2 := (hSj j hj).2
        have HO := Lib.hid hOj
        have HS := Lib.hid hSj
        clear hEr hO hS hOj hSj hAo hAs
        cases hE : E row j with
        | false =>
          rw [hE] at hec'
          have HE := Lib.hid hE
          clear hE hv
          go_wp2_with fail
          go_roundg (m - j)
          case measure => omega
          case rel => exact ⟨j + 1, sj, by omega, by go_num, HO.out, HS.out, hK, hU, fun b o' s' h => HG.out b o' s' (.skip hj (.inl HE.out) h)⟩
        | true =>
          rw [hE] at hec'
          have HE := Lib.hid hE
          clear hE
          cases hsj : sj j with
          | true =>
            rw [hsj] at hs1
            have HJ := Lib.hid hsj
            clear hsj hv
            go_wp2_with fail
            go_roundg (m - j)
            case measure => omega
            case rel => exact ⟨j + 1, sj, by omega, by go_num, HO.out, HS.out, hK, hU, fun b o' s' h => HG.out b o' s' (.skip hj (.inr HJ.out) h)⟩
          | false =>
            rw [hsj] at hs1
            have HJ := Lib.hid hsj
            clear hsj
            have hlt := unseen_lt hj HJ.out
            have HS' : Hid (Own (wr.setCell ⟨bs, j, none⟩ (.bool true)) bs m (fun c => .bool (upd sj j true c))) := HS.out.updBool hj true
            have HO' : Hid (Own (wr.setCell ⟨bs, j, none⟩ (.bool true)) bo m (fun c => .int .i64 (o c))) := HO.out.far (p := ⟨bs, j, none⟩) (fun e => hne e.symm) _
            have HK' : Hid (Keeps [bo, bs] w (wr.setCell ⟨bs, j, none⟩ (.bool true))) := hK.setCell (by simp) _
            have ho1' := (World.cell?_setCell_other wr ⟨bs, j, none⟩ ⟨bo, j, none⟩ (.bool true) (fun e => hne (by injection e with e; exact e.symm))).trans ho1
            by_cases hfree : o j = -1
            · have ht : o j < 0 := by omega
              have hrc' := (World.cell?_setCell_other wr ⟨bs, j, none⟩ (a.add row) (.bool true) (fun e => by rw [← e] at hab2; simp at hab2; omega)).trans hrc
              have HF := Lib.hid hfree
              clear hfree hv
              go_wp2_with fail
              go_ret
              exact ⟨true, upd o j row, upd sj j true, rfl, HG.out _ _ _ (.free hj HE.out HJ.out HF.out), HO'.out.updInt hj _, HS'.out.far (p := ⟨bo, j, none⟩) hne _, HK'.out.setCell (by simp) _⟩
            · obtain ⟨x, hx, hxn⟩ := (hv j hj).resolve_left hfree
              rw [hx] at ho1'
              have HX := Lib.hid hx
              clear hx hfree hv ho1
              go_wp2_with fail
              refine (IH.out x (upd sj j true) (wr.setCell ⟨bs, j, none⟩ (.bool true)) (by omega) hxn (HT.out.keeps HK'.out hl) HO'.out HS'.out).mono ?_
              rintro e w' ⟨_ | _, o', s', rfl, hr, hO2, hS2, hK2⟩
              · have hoo := hr.same rfl
                have HR := Lib.hid hr
                have HOO := Lib.hid hoo
                clear hr hoo
                go_wp2_with fail
                go_roundg (m - j)
                case measure => omega
                case rel =>
                  refine ⟨j + 1, s', by omega, by go_num, ?_, hS2, HK'.out.trans hK2, ?_, fun b o'' s'' h => HG.out b o'' s'' (.back hj HE.out HJ.out HX.out HR.out ?_)⟩
                  · rw [← HOO.out]; exact hO2
                  · have := unseen_mono (m := m) (HR.out.mono); omega
                  · rw [HOO.out]; exact h
              · have HR := Lib.hid hr
                clear hr
                have ho3 : w'.cell? ⟨bo, j, none⟩ = some (.int .i64 (o' j)) := (hO2 j hj).1
                have ho4 := (hO2 j hj).2
                have HO2 := Lib.hid hO2
                have HS2 := Lib.hid hS2
                clear hO2 hS2
                go_wp2_with fail
                go_ret
                exact ⟨true, upd o' j row, s', rfl, HG.out _ _ _ (.push hj HE.out HJ.out HX.out HR.out), HO2.out.updInt hj _, HS2.out.far (p := ⟨bo, j, none⟩) hne _, (HK'.out.trans hK2).setCell (by simp) _⟩
      · clear hEr hv
        go_wp2_with fail
        go_ret
        exact ⟨false, o, sj, rfl, HG.out _ _ _ (.fin (by omega)), hOj, hSj, hK⟩

set_option maxHeartbeats 1000000 in
theorem rmost_any (w : World) (E : Nat → Nat → Bool) (n m B tc : Nat) (A : Option Addr) (hT : Tab w B A n m E) (hB : B ≤ w.heap.size) (hm : m ≤ 1000) (hn : n ≤ 1000) (h0 : n = 0 → m = 0) :
    Calls Try.prog 28 #[.slice A n tc] w (MostPost E m (fun _ => false) 0 n w) := by
  have HT := Lib.hid hT
  by_cases hn0 : n = 0
  · have hm0 := h0 hn0
    subst hn0; subst hm0
    clear hT
    go_enter Try.func28, Try.ntmps28
    go_wp2_with fail
    go_ret
    exact ⟨0, rfl, ⟨⟨[], ⟨by simp, by simp, by simp⟩, rfl⟩, fun _ => false, fun _ => false, (fun r c h => by cases h), by simp⟩, Below.refl _ _⟩
  · obtain ⟨a, rfl, Rr, Cc, hrc⟩ : ∃ a, A = some a ∧ ∃ Rr Cc, w.cell? a = some (.slice Rr m Cc) := by
      obtain ⟨R0, C0, hR0, _⟩ := hT
      obtain ⟨a, h1, h2, h3⟩ := hR0.at_ (k := 0) (by omega)
      rw [show a.add 0 = a by simp [Addr.add]] at h3
      exact ⟨a, h1, R0 0, C0 0, h3⟩
    clear hT
    have hnz : ((n : Int) == 0) = false := by rw [beq_eq_false_iff_ne]; omega
    have hpos : 0 < n := by omega
    have hmk := run_make_n sl_int m (by omega)
    have hmk2 := run_make_n sl_bool m (by omega)
    have HN0 := Lib.hid hn0
    clear hn0 h0
    go_enter Try.func28, Try.ntmps28
    go_wp2_with fail
    have hO0 := own_made w (.int .i64 0) rfl m 3
    have hB0 : Below w.heap.size w (w.alloc (.cells (madeCells (Value.int .i64 0).cells m) 3)) := (Below.refl _ _).alloc (Nat.le_refl _) _
    have HO0 := Lib.hid hO0
    have HB0 := Lib.hid hB0
    clear hO0 hB0 hmk hrc
    go_loopg [4] (m + 1) (fun gh cv wr => ∃ (c : Nat) (f : Nat → Int), m + 1 ≤ c + gh ∧ c ≤ m ∧ cv = .int .i64 (c : Int) ∧ Own wr w.heap.size m (fun q => .int .i64 (f q)) ∧ (∀ q, q < c → f q = -1) ∧ w.heap.size < wr.heap.size ∧ Below w.heap.size w wr)
    case atStart => exact ⟨0, fun _ => 0, by omega, by omega, rfl, HO0.out, fun q hq => by omega, by simp, HB0.out⟩
    case round =>
      obtain ⟨c, f, hgc, hc, rfl, hO, hf, hsz, hb⟩ := hrel
      have HO := Lib.hid hO
      have HF := Lib.hid hf
      clear hO hf
      by_cases hlt : c < m
      · have ho1 : wr.cell? ⟨w.heap.size, c, none⟩ = some (.int .i64 (f c)) := (HO.out c hlt).1
        have ho2 : wr.frozen? ⟨w.heap.size, c, none⟩ = false := (HO.out c hlt).2
        go_wp2_with fail
        go_roundg (m - c)
        case measure => omega
        case rel =>
          refine ⟨c + 1, upd f c (-1), by omega, by omega, by go_num, HO.out.updInt hlt (-1), fun q hq => ?_, by simpa [World.setCell] using hsz, hb.setCell (by simp) _⟩
          by_cases e : q = c
          · subst e; exact upd_same _ _ _
          · rw [upd_ne _ _ e]; exact HF.out q (by omega)
      · obtain rfl : c = m := by omega
        have hO' : Own wr w.heap.size c (fun q => .int .i64 ((fun _ => (-1 : Int)) q)) := HO.out.congr fun q hq => by rw [HF.out q hq]
        have HO' := Lib.hid hO'
        clear hO'
        go_wp2_with fail
        go_loopg [5, 6] (n + 1) (fun gh cn ri wr => ∃ (i k : Nat) (o : Nat → Int) (F D C : Nat → Bool), n + 1 ≤ i + gh ∧ i ≤ n ∧ ri = .int .i64 (i : Int) ∧ cn = .int .i64 (k : Int) ∧ k ≤ i ∧ Inv E c (fun _ => false) 0 i o k F D C ∧ Own wr w.heap.size c (fun c => .int .i64 (o c)) ∧ w.heap.size < wr.heap.size ∧ Below w.heap.size w wr)
        case atStart => exact ⟨0, 0, _, _, _, _, by omega, by omega, rfl, rfl, by omega, Inv.start _ 0, HO'.out, hsz, hb⟩
        case round =>
          obtain ⟨i, k, o, F, D, C, hgh, hi2, rfl, rfl, hki, hI, hO, hgr, hbr⟩ := hrel
          have HI := Lib.hid hI
          have HOo := Lib.hid hO
          clear hI hO
          have hzr := hbr.size
          by_cases hlt : i < n
          · go_wp2_with fail
            have hS0 := own_made wr (.bool false) rfl c 4
            have hK0 : Keeps [] wr (wr.alloc (.cells (madeCells (Value.bool false).cells c) 4)) := (Keeps.refl _ _).alloc _
            have hB2 : Below w.heap.size w (wr.alloc (.cells (madeCells (Value.bool false).cells c) 4)) := hbr.alloc hzr _
            have hO2 := HOo.out.keep hK0 (by simp)
            have hz2 : (wr.alloc (.cells (madeCells (Value.bool false).cells c) 4)).heap.size = wr.heap.size + 1 := by simp
            refine (try_any E c n B w.heap.size wr.heap.size c c tc (some a) (some ⟨w.heap.size, 0, none⟩) (some ⟨wr.heap.size, 0, none⟩) o hB (by omega) (by omega) (fun _ => rfl) (fun _ => rfl) (fun q hq => ?_) hm (unseen (fun _ => false) c + 1) i (fun _ => false) _ (by omega) hlt (TabG.below HT.out (hB2.mono hB)) hO2 hS0).mono ?_
            · rcases HI.out.val q with h | ⟨r, h1, _, h2, _⟩
              · exact .inl h
              · exact .inr ⟨r, h1, by omega⟩
            rintro e w3 ⟨b, o', s', rfl, hs, hO3, hO4, hK⟩
            have hB3 := hB2.trans (hK.below (B := w.heap.size) (by simp; omega) (by omega))
            have hz3 := hK.size
            have HS := Lib.hid hs
            have HO3 := Lib.hid hO3
            clear hs hO3 hO4 hK hbr hS0 hK0 hB2 hO2
            cases b with
            | true =>
              go_wp2_with fail
              go_roundg (n - i)
              case measure => omega
              case rel => exact ⟨i + 1, k + 1, o', F, D, C, by omega, by omega, by go_num, by go_num, by omega, HI.out.yes (by omega) HS.out, HO3.out, by omega, hB3⟩
            | false =>
              go_wp2_with fail
              go_roundg (n - i)
              case measure => omega
              case rel =>
                obtain ⟨e, F', D', C', hI'⟩ := HI.out.no HS.out
                exact ⟨i + 1, k, o', F', D', C', by omega, by omega, by go_num, rfl, by omega, by rw [e]; exact hI', HO3.out, by omega, hB3⟩
          · obtain rfl : i = n := by omega
            go_wp2_with fail
            go_ret
            exact ⟨k, rfl, HI.out.max, hbr⟩
end Go.Proofs.Ytpnkaicbcbimaaa
