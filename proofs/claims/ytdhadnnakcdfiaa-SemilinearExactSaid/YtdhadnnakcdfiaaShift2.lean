/- The walks of semilinear's Shift, check and Within. -/
import Derived.Test.YtdhadnnakcdfiaaShift
namespace Go.Proofs.Ytdhadnnakcdfiaa
set_option linter.unusedVariables false
open Go.RowKit

def InRng (m : Int) (v : List Int) : Prop := ∀ x ∈ v, 0 ≤ x ∧ x ≤ m
def SftPost (n : Int) (s : Lin) (v : List Int) (l : List Nat) (w : World) (e : Ending) (w' : World) : Prop :=
  Keeps [] w w' ∧ ((∃ z, e = .returned (.tuple #[.agg #[.slice none 0 0, .slice none 0 0], .int .i64 z]) ∧
      ((chkL n [s] ≠ 0 ∧ z = chkL n [s]) ∨ (chkL n [s] = 0 ∧ ((v.length : Int) ≠ n ∧ z = 3 ∨ (v.length : Int) = n ∧ (¬ InRng 16 v ∧ z = 2 ∨ InRng 16 v ∧ ¬ InRng 16 (addV s.base v) ∧ z = 1))))) ∨
    ∃ A n1 c A' m c', e = .returned (.tuple #[.agg #[.slice A n1 c, .slice A' m c'], .int .i64 0]) ∧ GoodAll n [s] ∧ (v.length : Int) = n ∧ InRng 16 v ∧ InRng 16 (addV s.base v) ∧ IsI w' l (.slice A n1 c) (addV s.base v) ∧ OwL IsI [] 22 w.heap.size w' l (.slice A' m c') s.per)



set_option maxRecDepth 100000 in
set_option maxHeartbeats 2000000 in
theorem shift_is {w : World} {l : List Nat} {n : Int} {u pv vv : Value} {s : Lin} {v : List Int} (hl : ∀ y ∈ l, y < w.heap.size) (h : IsLin w l u pv s) (hs : s.Small) (hv : IsI w l vv v) (hvn : v.length ≤ 1000000) :
    Calls Try.prog 27 #[.int .i64 n, .agg #[u, pv], vv] w (SftPost n s v l w) := by
  have hu := h.1
  obtain ⟨A, c, rfl, hc, hA, hrd⟩ := hu.open
  have hpp := h.2
  obtain ⟨Ap, cp, V, rfl, g2, g3, g4, g5⟩ := hpp
  obtain ⟨B, cb, rfl, hcb, hB, hrb⟩ := hv.open
  have hk1 : Keeps [] w ((w.alloc (.cells #[.slice A s.base.length c, .slice Ap s.per.length cp] 29)).alloc (.cells #[.slice none 0 0, .slice none 0 0] 29)) := ((Keeps.refl _ _).alloc _).alloc _
  have hbox : BoxAt ((w.alloc (.cells #[.slice A s.base.length c, .slice Ap s.per.length cp] 29)).alloc (.cells #[.slice none 0 0, .slice none 0 0] 29)) w.heap.size (.slice A s.base.length c) (.slice Ap s.per.length cp) := (BoxAt.start w _ _ _).new ((Keeps.refl _ _).alloc _)
  have hc0 := hbox.c0
  have hc1 := hbox.c1
  have hz0 : Own ((w.alloc (.cells #[.slice A s.base.length c, .slice Ap s.per.length cp] 29)).alloc (.cells #[.slice none 0 0, .slice none 0 0] 29)) (w.heap.size + 1) 2 (fun i => if i = 0 then .slice none 0 0 else .slice none 0 0) := by
    have := own_pair (w := w.alloc (.cells #[.slice A s.base.length c, .slice Ap s.per.length cp] 29)) (x := .slice none 0 0) (y := .slice none 0 0) (e := 29)
    simpa using this
  have hone := IsLins.one (t := 29) (fun y hy => Nat.lt_of_lt_of_le (hl y hy) hk1.size) (h.new hk1)
  simp only [World.size_alloc] at hone
  have hal := (Keeps.refl [] ((w.alloc (.cells #[.slice A s.base.length c, .slice Ap s.per.length cp] 29)).alloc (.cells #[.slice none 0 0, .slice none 0 0] 29))).alloc (.cells #[.slice A s.base.length c, .slice Ap s.per.length cp] 29)
  clear hu
  have H := Lib.hid h
  have HRD := Lib.hid hrd
  have HRB := Lib.hid hrb
  have HV := Lib.hid hv
  have HK1 := Lib.hid hk1
  have HBOX := Lib.hid hbox
  have HL := Lib.hid hl
  have G4 := Lib.hid g4
  have G5 := Lib.hid g5
  have HZ0 := Lib.hid hz0
  have HONE := Lib.hid hone
  have HAL := Lib.hid hal
  have HS := Lib.hid hs
  clear h hrd hrb hv hk1 hbox hl g4 g5 hz0 hone hal hs
  go_enter Try.func27, Try.ntmps27
  go_wp2_with fail
  refine (check_is (n := n) HONE.out (by simpa using HS.out) (by simp)).mono ?_
  rintro e w1 ⟨rfl, hk⟩
  have hk2 := HAL.out.trans hk
  have hK2 := HK1.out.trans hk2
  have hbox2 := HBOX.out.new hk2
  have hc0 := hbox2.c0
  have hc1 := hbox2.c1
  have hz2 := HZ0.out.keep hk2 (by simp)
  have hs1 : w1.cell? ⟨w.heap.size + 1, 0, none⟩ = some (.slice none 0 0) := (hz2 0 (by omega)).1
  have hs2 : w1.cell? ⟨w.heap.size + 1, 1, none⟩ = some (.slice none 0 0) := (hz2 1 (by omega)).1
  have hs3 : w1.frozen? ⟨w.heap.size + 1, 0, none⟩ = false := (hz2 0 (by omega)).2
  have hs4 : w1.frozen? ⟨w.heap.size + 1, 1, none⟩ = false := (hz2 1 (by omega)).2
  have HK2 := Lib.hid hK2
  have HZ2 := Lib.hid hz2
  have HB2 := Lib.hid hbox2
  clear hk hk2 hK2 hz2 hbox2
  by_cases hz : chkL n [s] = 0
  · have hb : (chkL n [s] != 0) = false := by rw [hz]; rfl
    have hg := chkL_zero.1 hz
    have HG := Lib.hid hg
    have hlo := hg.lo
    have hhi := hg.hi
    obtain ⟨m, rfl⟩ : ∃ m : Nat, n = (m : Int) := ⟨n.toNat, by omega⟩
    have hgs : Good m s := by simpa using hg.all s (by simp)
    generalize hze : chkL (m : Int) [s] = z at *
    have HZE := Lib.hid hze
    have HZ := Lib.hid hz
    have HGS := Lib.hid hgs
    clear hze hz hgs
    clear hg
    by_cases hlen : v.length = m
    · have hlb : ((v.length : Int) != (m : Int)) = false := by rw [hlen]; simp
      have HLEN := Lib.hid hlen
      clear hlen
      go_wp2_with fail
      refine (small_has w1 w1.heap.size v.length cb B (fun q => v.getD q 0) 16 (Nat.le_refl _) (HRB.out.keeps (HK2.out.nil l)).rd (by omega)).mono ?_
      rintro e w2 ⟨r, rfl, hr, hb2⟩
      have hk3 : Keeps [] w1 w2 := hb2.toK
      have hz3 := HZ2.out.keep hk3 (by simp)
      have hs1 : w2.cell? ⟨w.heap.size + 1, 0, none⟩ = some (.slice none 0 0) := (hz3 0 (by omega)).1
      have hs2 : w2.cell? ⟨w.heap.size + 1, 1, none⟩ = some (.slice none 0 0) := (hz3 1 (by omega)).1
      have hs3 : w2.frozen? ⟨w.heap.size + 1, 0, none⟩ = false := (hz3 0 (by omega)).2
      have hs4 : w2.frozen? ⟨w.heap.size + 1, 1, none⟩ = false := (hz3 1 (by omega)).2
      have hbox3 := HB2.out.new hk3
      have hc0 := hbox3.c0
      have hc1 := hbox3.c1
      have HK3 := Lib.hid (HK2.out.trans hk3)
      have hsm : r = true ↔ InRng 16 v := hr.trans (small_iff rfl)
      have HSM := Lib.hid hsm
      clear hsm
      have HZ3 := Lib.hid hz3
      clear hr hb2 hk3 hz3 hbox3
      cases r with
      | false =>
        go_wp2_with fail
        obtain ⟨hq1, hq2, hkS⟩ := pair_set (.slice none 0 0) (.slice none 0 0) hs1 hs2
        refine bodyPost_ret (v := .tuple #[.agg #[.slice none 0 0, .slice none 0 0], .int .i64 2]) (by simp [results, Try.results27, go_sem, hq1, hq2]) rfl ⟨HK3.out.step hkS (by simp), .inl ⟨_, rfl, .inr ⟨by rw [HZE.out]; exact HZ.out, .inr ⟨by rw [HLEN.out], .inl ⟨fun h => by have := HSM.out.2 h; simp at this, rfl⟩⟩⟩⟩⟩
      | true =>
        have hrg : InRng 16 v := by simpa using HSM.out
        have hz02 := HK2.out.size
        have hz23 : w.heap.size + 1 < w2.heap.size := lt_of_cell hs1
        have hl2 : ∀ y ∈ (w.heap.size + 1) :: l, y < w2.heap.size := fun y hy => by
          rcases List.mem_cons.1 hy with e | e
          · omega
          · exact Nat.lt_of_lt_of_le (HL.out y e) HK3.out.size
        have hwk : ∀ y ∈ (w.heap.size + 1) :: l, y ∈ l ∨ w.heap.size ≤ y := fun y hy => by
          rcases List.mem_cons.1 hy with e | e
          · exact .inr (by omega)
          · exact .inl e
        have hgs := HGS.out
        have hcall := shifted_is (n := m) hl2 ((H.out.weak hwk).new HK3.out) hgs.base (fun p hp => (hgs.per p hp).len) (by have := hgs.few; omega) ((HV.out.weak hwk).new HK3.out) ⟨HLEN.out, hrg⟩ (by omega) (by omega)
        have HRG := Lib.hid hrg
        have HCALL := Lib.hid hcall
        clear hcall
        clear hl2 hgs hrg
        go_wp2_with fail
        refine HCALL.out.mono ?_
        rintro e w3 ⟨hk4, hh⟩
        have hz4 := HZ3.out.keep hk4 (by simp)
        have hs1 : w3.cell? ⟨w.heap.size + 1, 0, none⟩ = some (.slice none 0 0) := (hz4 0 (by omega)).1
        have hs2 : w3.cell? ⟨w.heap.size + 1, 1, none⟩ = some (.slice none 0 0) := (hz4 1 (by omega)).1
        have hs3 : w3.frozen? ⟨w.heap.size + 1, 0, none⟩ = false := (hz4 0 (by omega)).2
        have hs4 : w3.frozen? ⟨w.heap.size + 1, 1, none⟩ = false := (hz4 1 (by omega)).2
        have HK4 := Lib.hid (HK3.out.trans hk4)
        have hz34 := hk4.size
        clear hk4 hz4
        rcases hh with ⟨rfl, hns⟩ | ⟨A1, n1, c1, A2, m2, c2, rfl, hin, hI, hO⟩
        · have HNS := Lib.hid hns
          clear hns
          go_wp2_with fail
          obtain ⟨hq1, hq2, hkS⟩ := pair_set (.slice none 0 0) (.slice none 0 0) hs1 hs2
          refine bodyPost_ret (v := .tuple #[.agg #[.slice none 0 0, .slice none 0 0], .int .i64 1]) (by simp [results, Try.results27, go_sem, hq1, hq2]) rfl ⟨HK4.out.step hkS (by simp), .inl ⟨_, rfl, .inr ⟨by rw [HZE.out]; exact HZ.out, .inr ⟨by rw [HLEN.out], .inr ⟨HRG.out, HNS.out, rfl⟩⟩⟩⟩⟩
        · have HIN := Lib.hid hin
          have HI := Lib.hid hI
          have HO := Lib.hid hO
          clear hin hI hO
          go_wp2_with fail
          obtain ⟨hq1, hq2, hkS⟩ := pair_set (.slice A1 n1 c1) (.slice A2 m2 c2) hs1 hs2
          refine bodyPost_ret (v := .tuple #[.agg #[.slice A1 n1 c1, .slice A2 m2 c2], .int .i64 0]) (by simp [results, Try.results27, go_sem, hq1, hq2]) rfl ⟨HK4.out.step hkS (by simp), .inr ⟨_, _, _, _, _, _, rfl, HG.out, by rw [HLEN.out], HRG.out, HIN.out, ?_, ?_⟩⟩
          · exact (HI.out.keeps (hkS.more (by simp))).weak (fun y hy => .inl (by simp [hy]))
          · refine ((HO.out.keeps hkS fun y hy => ?_).weak (fun y hy => .inl (by simp [hy]))).low (by omega)
            rw [List.mem_singleton.1 hy]
            exact ⟨.inl (by simp), fun e => by have := (HO.out.lt e).1; omega⟩
    · have hlb : ((v.length : Int) != (m : Int)) = true := by rw [bne_iff_ne]; omega
      have HLEN := Lib.hid hlen
      clear hlen
      go_wp2_with fail
      obtain ⟨hq1, hq2, hkS⟩ := pair_set (.slice none 0 0) (.slice none 0 0) hs1 hs2
      refine bodyPost_ret (v := .tuple #[.agg #[.slice none 0 0, .slice none 0 0], .int .i64 3]) (by simp [results, Try.results27, go_sem, hq1, hq2]) rfl ⟨HK2.out.step hkS (by simp), .inl ⟨_, rfl, .inr ⟨by rw [HZE.out]; exact HZ.out, .inl ⟨fun h => HLEN.out (by omega), rfl⟩⟩⟩⟩
  · have hb : (chkL n [s] != 0) = true := by simpa using hz
    have HZ := Lib.hid hz
    clear hz
    go_wp2_with fail
    obtain ⟨hq1, hq2, hkS⟩ := pair_set (.slice none 0 0) (.slice none 0 0) hs1 hs2
    refine bodyPost_ret (v := .tuple #[.agg #[.slice none 0 0, .slice none 0 0], .int .i64 (chkL n [s])]) (by simp [results, Try.results27, go_sem, hq1, hq2]) rfl ⟨HK2.out.step hkS (by simp), .inl ⟨_, rfl, .inl ⟨HZ.out, rfl⟩⟩⟩
end Go.Proofs.Ytdhadnnakcdfiaa
