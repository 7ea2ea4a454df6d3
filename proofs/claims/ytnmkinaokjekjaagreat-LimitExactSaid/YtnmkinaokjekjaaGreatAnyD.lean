/- slices.IndexFunc (the first place), ContainsFunc and DeleteFunc at rows of numbers, in the words of Rep. -/
import Derived.Test.YtnmkinaokjekjaaGreatAny
import Derived.Test.YtnmkinaokjekjaaGreatCompactL
import Derived.Test.YtnmkinaokjekjaaGreatTypes
import Derived.Test.YtnmkinaokjekjaaGreatNow
import Derived.Lib.SliceRun
import Derived.IntWalk
namespace Go.Proofs.YtnmkinaokjekjaaGreat
set_option linter.unusedVariables false
open Go.RowKit

/-- A function value answers of element i as p does, whatever is written to block b. -/
def PredB {α : Type} (R : Rp α) (d : α) (g : Nat) (lb : Array Value) (bl l : List Nat) (xs : List α) (p : Nat → Bool) (w : World) : Prop :=
  ∀ (W : World) (i : Nat) (u : Value), i < xs.length → Keeps bl w W → R W l u (xs.getD i d) → Calls Tryz.prog g (#[u] ++ lb) W fun e w' => e = .returned (.bool (p i)) ∧ Keeps [] W w'
def FstPost (n : Nat) (p : Nat → Bool) (w : World) (e : Ending) (w' : World) : Prop :=
  Keeps [] w w' ∧ ((e = .returned (.int .i64 (-1)) ∧ ∀ i, i < n → p i = false) ∨ ∃ i : Nat, e = .returned (.int .i64 (i : Int)) ∧ i < n ∧ p i = true ∧ ∀ j, j < i → p j = false)

set_option maxHeartbeats 400000 in
theorem ixs_raw {w : World} {l : List Nat} {A : Option Addr} {n c : Nat} {V : Nat → Value} {g : Nat} {lb : Array Value} {p : Nat → Bool} (hc : RdL w l A n V) (hn : n ≤ 1000000000) (hsl : ∀ i, i < n → ∃ B m c, V i = .slice B m c)
    (eg : ∀ args w, (callFunc g args).run Tryz.prog w = .ok (.enter g args) w) (hp : ∀ (W : World) (i : Nat), i < n → Keeps [] w W → Calls Tryz.prog g (#[V i] ++ lb) W fun e w' => e = .returned (.bool (p i)) ∧ Keeps [] W w') :
    Calls Tryz.prog 78 #[.slice A n c, .func (.func g) #[] lb] w (FstPost n p w) := by
  have HP := Lib.hid hp
  have HC := Lib.hid hc
  have HSL := Lib.hid hsl
  clear hc hsl
  clear hp
  go_enter Tryz.func78, Tryz.ntmps78
  go_wp2_with fail
  go_loopg [5, 8] (n + 1) (fun gh _ iv wr => ∃ i : Nat, n + 1 ≤ i + gh ∧ i ≤ n ∧ iv = .int .i64 (i : Int) ∧ (∀ r, r < i → p r = false) ∧ Keeps [] w wr)
  case atStart => exact ⟨0, by omega, by omega, rfl, fun r hr => by omega, Keeps.refl _ _⟩
  case round =>
    obtain ⟨i, hgh, hi, rfl, hs, hb⟩ := hrel
    have HS := Lib.hid hs
    have HB := Lib.hid hb
    clear hs hb
    by_cases hlt : i < n
    · obtain ⟨a, rfl, ha⟩ := (HC.out.keeps (HB.out.nil l)).at_ hlt
      have hcall := HP.out wr i hlt HB.out
      obtain ⟨Bi, mi, ci, hvi⟩ := HSL.out i hlt
      rw [hvi] at ha hcall
      clear hvi
      cases hq : p i with
      | true =>
        rw [hq] at hcall
        have HQ := Lib.hid hq
        clear hq
        go_wp2_with (go_at_fn g; refine hcall.mono ?_; rintro e w' ⟨rfl, hb'⟩)
        go_ret
        exact ⟨HB.out.trans hb', .inr ⟨i, rfl, hlt, HQ.out, HS.out⟩⟩
      | false =>
        rw [hq] at hcall
        have HQ := Lib.hid hq
        clear hq
        go_wp2_with (go_at_fn g; refine hcall.mono ?_; rintro e w' ⟨rfl, hb'⟩)
        go_roundg (n - i)
        case measure => omega
        case rel => exact ⟨i + 1, by omega, by omega, by go_num, fun r hr => by
          by_cases e : r = i
          · subst e; exact HQ.out
          · exact HS.out r (by omega), HB.out.trans hb'⟩
    · obtain rfl : i = n := by omega
      go_wp2_with fail
      go_ret
      exact ⟨HB.out, .inl ⟨rfl, HS.out⟩⟩
theorem ixs_rows {w : World} {l : List Nat} {x : Value} {xs : List (List Int)} {g : Nat} {lb : Array Value} {p : Nat → Bool} (h : IsL IsI [] w l x xs) (hn : xs.length ≤ 1000000000)
    (eg : ∀ args w, (callFunc g args).run Tryz.prog w = .ok (.enter g args) w) (hp : PredB IsI [] g lb [] l xs p w) :
    Calls Tryz.prog 78 #[x, .func (.func g) #[] lb] w (FstPost xs.length p w) := by
  obtain ⟨A, c, V, rfl, _, _, hc, hv⟩ := h
  refine ixs_raw hc hn (fun i hi => ?_) eg (fun W i hi k => hp W i (V i) hi k (Rok.keeps (hv i hi) (k.nil l)))
  obtain ⟨Ai, ci, hvi, _⟩ := (hv i hi).open
  exact ⟨_, _, _, hvi⟩

def anyB (n : Nat) (p : Nat → Bool) : Bool := (List.range n).any p
theorem anyB_true {n : Nat} {p : Nat → Bool} : anyB n p = true ↔ ∃ i, i < n ∧ p i = true := by
  unfold anyB
  rw [List.any_eq_true]
  exact ⟨fun ⟨i, h1, h2⟩ => ⟨i, List.mem_range.1 h1, h2⟩, fun ⟨i, h1, h2⟩ => ⟨i, List.mem_range.2 h1, h2⟩⟩
set_option maxHeartbeats 400000 in
theorem ans_rows {w : World} {l : List Nat} {x : Value} {xs : List (List Int)} {g : Nat} {lb : Array Value} {p : Nat → Bool} (h : IsL IsI [] w l x xs) (hn : xs.length ≤ 1000000000)
    (eg : ∀ args w, (callFunc g args).run Tryz.prog w = .ok (.enter g args) w) (hp : PredB IsI [] g lb [] l xs p w) :
    Calls Tryz.prog 41 #[x, .func (.func g) #[] lb] w (RetB (anyB xs.length p) w) := by
  have h' := h
  obtain ⟨A, c, V, rfl, _⟩ := h'
  have hcall := ixs_rows h hn eg hp
  unfold RetB
  cases hq : anyB xs.length p with
  | true =>
    have hx := anyB_true.1 hq
    have HX := Lib.hid hx
    have HQ := Lib.hid hq
    have HCALL := Lib.hid hcall
    clear hx hq hcall
    go_enter Tryz.func41, Tryz.ntmps41
    go_wp2_with fail
    refine HCALL.out.mono ?_
    rintro e w1 ⟨hk, ⟨rfl, hno⟩ | ⟨i, rfl, hi, hpi, hfi⟩⟩
    · obtain ⟨i, h1, h2⟩ := HX.out
      rw [hno i h1] at h2; cases h2
    · have HK := Lib.hid hk
      have HPI := Lib.hid hpi
      have HFI := Lib.hid hfi
      clear hk hpi hfi
      go_wp2_with fail
      go_ret
      exact ⟨rfl, HK.out⟩
  | false =>
    have hx : ∀ i, i < xs.length → p i = false := fun i hi => by
      cases hpi : p i with
      | false => rfl
      | true => rw [anyB_true.2 ⟨i, hi, hpi⟩] at hq; cases hq
    have HX := Lib.hid hx
    have HQ := Lib.hid hq
    have HCALL := Lib.hid hcall
    clear hx hq hcall
    go_enter Tryz.func41, Tryz.ntmps41
    go_wp2_with fail
    refine HCALL.out.mono ?_
    rintro e w1 ⟨hk, ⟨rfl, hno⟩ | ⟨i, rfl, hi, hpi, hfi⟩⟩
    · have HK := Lib.hid hk
      have HNO := Lib.hid hno
      clear hk hno
      go_wp2_with fail
      go_ret
      exact ⟨rfl, HK.out⟩
    · rw [HX.out i hi] at hpi; cases hpi

/-- Which of the first m elements stay. -/
def kepD (p : Nat → Bool) (m : Nat) : List Nat := (List.range m).filter fun j => !p j
def delL (p : Nat → Bool) (xs : List (List Int)) : List (List Int) := (kepD p xs.length).map fun j => xs.getD j []
theorem kepD_keep {p : Nat → Bool} {m : Nat} (h : p m = false) : kepD p (m + 1) = kepD p m ++ [m] := by
  unfold kepD
  rw [List.range_succ, List.filter_append]
  congr 1
  exact List.filter_cons_of_pos (by simp [h])
theorem kepD_skip {p : Nat → Bool} {m : Nat} (h : p m = true) : kepD p (m + 1) = kepD p m := by
  unfold kepD
  rw [List.range_succ, List.filter_append, List.filter_cons_of_neg (by rw [h]; simp)]
  simp
theorem kepD_all {p : Nat → Bool} {m : Nat} (h : ∀ j, j < m → p j = false) : kepD p m = List.range m := by
  unfold kepD
  rw [List.filter_eq_self]
  intro j hj
  rw [h j (List.mem_range.1 hj)]; rfl
theorem kepD_lt {p : Nat → Bool} {m j : Nat} (h : j ∈ kepD p m) : j < m := List.mem_range.1 (List.mem_filter.1 h).1
theorem delL_all {p : Nat → Bool} {xs : List (List Int)} (h : ∀ j, j < xs.length → p j = false) : delL p xs = xs := by
  unfold delL
  rw [kepD_all h]
  refine List.ext_getElem (by simp) fun i h1 h2 => ?_
  simp [List.getD_eq_getElem?_getD, h2]
theorem delL_filter (q : List Int → Bool) (xs : List (List Int)) : delL (fun i => q (xs.getD i [])) xs = xs.filter fun x => !q x := by
  have h : ∀ m, m ≤ xs.length → (kepD (fun i => q (xs.getD i [])) m).map (fun j => xs.getD j []) = (xs.take m).filter fun x => !q x := by
    intro m
    induction m with
    | zero => intro _; simp [kepD]
    | succ m ih =>
      intro hm
      have e : xs.take (m + 1) = xs.take m ++ [xs.getD m []] := by
        rw [List.take_succ_eq_append_getElem (by omega)]
        simp [List.getD_eq_getElem?_getD, show m < xs.length by omega]
      rw [e, List.filter_append, ← ih (by omega)]
      by_cases hq : q (xs.getD m []) = true
      · rw [kepD_skip hq, List.filter_cons_of_neg (by rw [hq]; simp)]; simp
      · have hq : q (xs.getD m []) = false := by simpa using hq
        rw [kepD_keep hq, List.filter_cons_of_pos (by rw [hq]; rfl), List.map_append]; simp
  have := h xs.length (Nat.le_refl _)
  rw [List.take_length] at this
  exact this

/-- The loop of DeleteFunc. -/
structure DmI (p : Nat → Bool) (us : List Value) (m k : Nat) (vs : List Value) : Prop where
  len : (kepD p m).length = k
  lt : k < m
  low : ∀ j, j < k → vs.getD j undef = us.getD ((kepD p m).getD j 0) undef
  high : ∀ j, k ≤ j → vs.getD j undef = us.getD j undef
section
variable {p : Nat → Bool} {us vs : List Value} {m k : Nat}
theorem DmI.start {i : Nat} (h : ∀ j, j < i → p j = false) (hi : p i = true) : DmI p us (i + 1) i us := by
  have e : kepD p (i + 1) = List.range i := by rw [kepD_skip hi, kepD_all h]
  refine ⟨by rw [e]; simp, by omega, fun j hj => ?_, fun _ _ => rfl⟩
  rw [e]
  congr 1
  simp [List.getD_eq_getElem?_getD, hj]
theorem DmI.skip (h : DmI p us m k vs) (he : p m = true) : DmI p us (m + 1) k vs := by
  have e := kepD_skip he
  exact ⟨by rw [e]; exact h.len, by have := h.lt; omega, by rw [e]; exact h.low, h.high⟩
theorem DmI.keep (h : DmI p us m k vs) (hv : k < vs.length) {u : Value} (hu : us.getD m undef = u) (he : p m = false) : DmI p us (m + 1) (k + 1) (vs.set k u) := by
  subst hu
  have e := kepD_keep he
  have hg : ∀ j u, (vs.set k u).getD j undef = if j = k then u else vs.getD j undef := fun j u => by
    rw [List.getD_eq_getElem?_getD, List.getElem?_set]
    by_cases hj : k = j
    · subst hj; simp [hv]
    · rw [if_neg hj, if_neg (fun h => hj h.symm), List.getD_eq_getElem?_getD]
  refine ⟨by rw [e]; simp [h.len], by have := h.lt; omega, fun j hj => ?_, fun j hj => ?_⟩
  · rw [hg, e]
    by_cases hj' : j = k
    · subst hj'
      rw [if_pos rfl, getD_append_right' _ _ _ (by rw [h.len]; exact Nat.le_refl _), h.len, Nat.sub_self]; rfl
    · rw [if_neg hj', getD_append_left' _ _ _ (by rw [h.len]; omega)]
      exact h.low j (by omega)
  · rw [hg, if_neg (by omega)]
    exact h.high j (by omega)
end

def DelPost (ty : TypeId) (base : Nat) (l : List Nat) (v : Value) (ys : List (List Int)) (w : World) (e : Ending) (w' : World) : Prop :=
  ∃ A c, e = .returned (.slice A ys.length c) ∧ OwL IsI [] ty base w' l (.slice A ys.length c) ys ∧ Keeps v.ownBlock.toList w w' ∧ ∀ y ∈ (Value.slice A ys.length c).ownBlock.toList, y ∈ v.ownBlock.toList

set_option maxRecDepth 100000 in
set_option maxHeartbeats 4000000 in
theorem delete_rows {w : World} {base : Nat} {l : List Nat} {v : Value} {xs : List (List Int)} {g : Nat} {cb : Array Value} {p : Nat → Bool} (h : OwL IsI [] 22 base w l v xs) (hl : ∀ y ∈ l, y < base) (hn : xs.length ≤ 1000000000)
    (eg : ∀ args w, (callFunc g args).run Tryz.prog w = .ok (.enter g args) w) (hp : PredB IsI [] g cb v.ownBlock.toList (v.ownBlock.toList ++ l) xs p w) :
    Calls Tryz.prog 73 #[v, .func (.func g) #[] cb] w (DelPost 22 base l v (delL p xs) w) := by
  have h0 := h
  have hIs := h0.isL hl
  obtain ⟨us, h1, h2, h3⟩ := h
  rcases h2.2 with ⟨hv0, hx0⟩ | ⟨b, cap, cur, rfl, hb, hcur, hcap, hmax, hsz, htk⟩
  · subst hv0
    have hx : xs = [] := List.eq_nil_of_length_eq_zero hx0
    subst hx
    have hcall := ixs_rows (l := l) (w := w) (x := .slice none 0 0) (xs := []) (p := p) (g := g) (lb := cb) IsL.nil (by simp) eg (fun W i u hi => absurd hi (by simp))
    have hd : delL p [] = [] := rfl
    rw [hd]
    unfold DelPost
    have H0 := Lib.hid h0
    have H1 := Lib.hid h1
    have H2 := Lib.hid h2
    have H3 := Lib.hid h3
    have HCALL := Lib.hid hcall
    have HD := Lib.hid hd
    clear h0 h1 h2 h3 hcall hd
    go_enter Tryz.func73, Tryz.ntmps73
    go_wp2_with fail
    refine HCALL.out.mono ?_
    rintro e w1 ⟨hk, ⟨rfl, hno⟩ | ⟨i, rfl, hi, hpi, hfi⟩⟩
    · have HK := Lib.hid hk
      have HNO := Lib.hid hno
      clear hk hno
      go_wp2_with fail
      go_ret
      exact ⟨none, 0, rfl, OwL.nil, HK.out.nil _, fun y hy => hy⟩
    · simp at hi
  · have hbl : b < w.heap.size := heap_lt hcur
    have hcap63 : cap ≤ 9223372036854775807 := by unfold maxLen at hmax; omega
    have hown : Hid ((Value.slice (some ⟨b, 0, none⟩) xs.length cap).ownBlock.toList = [b]) := rfl
    unfold DelPost
    have hp : PredB IsI [] g cb [b] (b :: l) xs p w := hp
    have h3 : ∀ i, i < xs.length → IsI w (b :: l) (us.getD i undef) (xs.getD i []) := h3
    generalize hnn : xs.length = n at *
    have hul : us.length = n := by omega
    have heq : ∀ (W : World) (i : Nat), i < n → Keeps [b] w W → Calls Tryz.prog g (#[us.getD i undef] ++ cb) W fun e w' => e = .returned (.bool (p i)) ∧ Keeps [] W w' := fun W i hi hk =>
      hp W i _ (by omega) hk (Rok.keeps (show IsI w ([b] ++ l) _ _ from h3 i hi) (hk.more (by simp [Value.ownBlock])))
    have hslc : ∀ i, i < n → ∃ B m c, us.getD i undef = .slice B m c := fun i hi => by
      obtain ⟨A, c, e, _⟩ := (h3 i hi).open
      exact ⟨_, _, _, e⟩
    have hrd : RdL w [] (some ⟨b, 0, none⟩) n (fun i => us.getD i undef) := fun hn0 => ⟨_, rfl, by simp, fun i hi => by rw [addz]; exact (ownV_cell h2 hi).1⟩
    have hcall := ixs_raw (c := cap) hrd hn hslc eg (fun W i hi k => heq W i hi (k.nil [b]))
    have H0 := Lib.hid h0
    have H1 := Lib.hid h1
    have H2 := Lib.hid h2
    have H3 := Lib.hid h3
    have HNN := Lib.hid hnn
    have HEQ := Lib.hid heq
    have HCUR := Lib.hid hcur
    have HSZ := Lib.hid hsz
    have HTK := Lib.hid htk
    have HMAX := Lib.hid hmax
    have HUL := Lib.hid hul
    have HSLC := Lib.hid hslc
    have HRD := Lib.hid hrd
    have HCALL := Lib.hid hcall
    have HIS := Lib.hid hIs
    clear h0 h1 h2 h3 hnn heq hcur hsz htk hmax hul hslc hrd hcall hIs
    clear hp
    go_enter Tryz.func73, Tryz.ntmps73
    go_wp2_with fail
    refine HCALL.out.mono ?_
    rintro e w1 ⟨hk, ⟨rfl, hno⟩ | ⟨i, rfl, hi, hpi, hfi⟩⟩
    · have hd := delL_all (p := p) (xs := xs) (by rw [HNN.out]; exact hno)
      have hO := H0.out.new hk
      have HK := Lib.hid hk
      have HNO := Lib.hid hno
      have HD := Lib.hid hd
      have HO := Lib.hid hO
      clear hk hno hd hO
      go_wp2_with fail
      go_ret
      exact ⟨some ⟨b, 0, none⟩, cap, by rw [HD.out, HNN.out]; rfl, by rw [HD.out, HNN.out]; exact HO.out, HK.out.nil _, fun y hy => hy⟩
    · have hI0 := DmI.start (us := us) hfi hpi
      have hO0 := own_keeps H2.out hk (by simp)
      have hK0 := hk.nil [b]
      have HI0 := Lib.hid hI0
      have HO0 := Lib.hid hO0
      have HK0 := Lib.hid hK0
      have HPI := Lib.hid hpi
      have HFI := Lib.hid hfi
      clear hI0 hO0 hK0 hpi hfi
      clear hk
      have hi1 : ((i : Int) == -1) = false := by rw [beq_eq_false_iff_ne]; omega
      go_wp2_with fail
      go_loopg [5, 6] (n + 1) (fun gh sv jv wr => ∃ (kk j : Nat) (vs : List Value), sv = .int .i64 (kk : Int) ∧ jv = .int .i64 (j : Int) ∧ j ≤ n ∧ n + 1 ≤ j + gh ∧ wr.ownsRow base 22 1 (.slice (some ⟨b, 0, none⟩) n cap) n vs ∧ DmI p us j kk vs ∧ Keeps [b] w wr)
      case atStart => exact ⟨i, i + 1, us, rfl, by go_num, by omega, by omega, HO0.out, HI0.out, HK0.out⟩
      case round =>
        obtain ⟨kk, j, vs, rfl, rfl, hj, hgh, hO, hI, hKr⟩ := hrel
        have hkk := hI.lt
        have hvl : vs.length = n := by have := hO.1; omega
        have hub : ∀ i, kk ≤ i → vs.getD i undef = us.getD i undef := hI.high
        have HO := Lib.hid hO
        have HI := Lib.hid hI
        have HKR := Lib.hid hKr
        have HVL := Lib.hid hvl
        have HUB := Lib.hid hub
        clear hO hI hKr hvl hub
        clear hi1
        by_cases hlt : j < n
        · have c1 := (ownV_cell HO.out (j := j) hlt).1
          obtain ⟨ck, fk⟩ := ownV_cell HO.out (j := kk) (by omega)
          rw [HUB.out _ (by omega)] at c1
          have hq := HEQ.out wr j hlt HKR.out
          have hsl := HSLC.out j hlt
          generalize hu1 : us.getD j undef = u1 at *
          obtain ⟨Ax, mx, cx, rfl⟩ := hsl
          generalize vs.getD kk undef = old at *
          have HU1 := Lib.hid hu1
          clear hu1
          cases hd : p j with
          | true =>
            rw [hd] at hq
            have HD := Lib.hid hd
            clear hd
            go_wp2_with (go_at_fn g; refine hq.mono ?_; rintro e w' ⟨rfl, hb'⟩)
            have hO2 := own_keeps HO.out hb' (by simp)
            have hK2 := HKR.out.trans (hb'.nil [b])
            have HO2 := Lib.hid hO2
            have HK2 := Lib.hid hK2
            clear hO2 hK2
            go_roundg (n - j)
            case measure => omega
            case rel => exact ⟨kk, j + 1, vs, rfl, by go_num, by omega, by omega, HO2.out, HI.out.skip HD.out, HK2.out⟩
          | false =>
            rw [hd] at hq
            have HD := Lib.hid hd
            have hq2 : Calls Tryz.prog g (#[.slice Ax mx cx] ++ cb) wr fun e w' => e = .returned (.bool false) ∧ Keeps [] wr w' ∧ w'.cell? ⟨b, kk, none⟩ = some old ∧ w'.frozen? ⟨b, kk, none⟩ = false := hq.mono fun e w' ⟨g1, g2⟩ => ⟨g1, g2, g2.read ck (by simp), (g2.frozen (p := ⟨b, kk, none⟩) (lt_of_cell ck) (by simp)).trans fk⟩
            clear hd hq
            go_wp2_with (go_at_fn g; refine hq2.mono ?_; rintro e w' ⟨rfl, hb', ck', fk'⟩)
            have hO2 := own_keeps HO.out hb' (by simp)
            have hK2 := HKR.out.trans (hb'.nil [b])
            have hvk : kk < vs.length := by rw [HVL.out]; omega
            have hkn : kk < n := by omega
            have HO2 := Lib.hid hO2
            have HK2 := Lib.hid hK2
            clear hO2 hK2
            go_roundg (n - j)
            case measure => omega
            case rel => exact ⟨kk + 1, j + 1, vs.set kk _, by go_num, by go_num, by omega, by omega, ownV_set HO2.out hkn _, HI.out.keep hvk HU1.out HD.out, HK2.out.setCell (by simp) _⟩
        · obtain rfl : j = n := by omega
          have hkkn : kk < j := by omega
          have hcl : ∀ ty, (Builtin.clear_ #[23] ty #[.slice (some ⟨b, kk, none⟩) (j - kk) (cap - kk)]).run Tryz.prog wr = .ok (.tuple #[]) (wr.setCells b kk (List.replicate (j - kk) (Value.slice none 0 0))) := fun ty =>
            Lib.run_clear_slice wr _ _ ty _ sl_rowsi.ht (fun w => Tryz.zeroValue22 w) rfl rfl b kk _ _ (by omega) (fun i hi => by rw [(ownV_cell HO.out (j := kk + i) (by omega)).1]; rfl) (fun i hi => (ownV_cell HO.out (j := kk + i) (by omega)).2)
          have hkl : (delL p xs).length = kk := by
            have h := HI.out.len
            unfold delL; rw [List.length_map, HNN.out]; exact h
          obtain ⟨vs', hO2, htk2⟩ := ownV_sets (List.replicate (j - kk) (Value.slice none 0 0)) kk wr vs HO.out (by simp; omega)
          have hK2 := keeps_setCells (l := [b]) (g := b) (by simp) (List.replicate (j - kk) (Value.slice none 0 0)) kk wr HKR.out
          generalize hW : wr.setCells b kk (List.replicate (j - kk) (Value.slice none 0 0)) = W at *
          have HKL := Lib.hid hkl
          have HO2 := Lib.hid hO2
          have HTK2 := Lib.hid htk2
          have HK2 := Lib.hid hK2
          have HW := Lib.hid hW
          clear hkl hO2 htk2 hK2 hW
          go_wp2_with fail
          go_ret
          have hO3 := ownV_cut HO2.out (k := kk) (by omega)
          refine ⟨some ⟨b, 0, none⟩, cap, by rw [HKL.out]; rfl, ?_, HK2.out, fun y hy => hy⟩
          have hO4 : W.ownsRow base 22 1 (.slice (some ⟨b, 0, none⟩) (delL p xs).length cap) (delL p xs).length (vs'.take kk) := by rw [HKL.out]; exact hO3
          refine OwL.of_own hO4 fun i hi => ?_
          rw [HKL.out] at hi
          have hkept := HI.out.len
          have hlow := HI.out.low i hi
          have hmem : (kepD p j).getD i 0 ∈ kepD p j := getD_mem (by omega)
          have hlt4 := kepD_lt hmem
          have e1 : (vs'.take kk).getD i undef = us.getD ((kepD p j).getD i 0) undef := by
            rw [HTK2.out, ← hlow]
            simp [List.getD_eq_getElem?_getD, List.getElem?_take, hi]
          have e2 : (delL p xs).getD i [] = xs.getD ((kepD p j).getD i 0) [] := by
            have h6 : i < (kepD p j).length := by omega
            unfold delL; rw [HNN.out]
            rw [List.getD_eq_getElem?_getD, List.getElem?_map, List.getElem?_eq_getElem h6, Option.map_some, Option.getD_some]
            congr 1
            rw [List.getD_eq_getElem?_getD (l := kepD _ _), List.getElem?_eq_getElem h6]; rfl
          rw [e1, e2]
          exact Rok.keeps (H3.out _ hlt4) (HK2.out.more (by simp [Value.ownBlock]))
end Go.Proofs.YtnmkinaokjekjaaGreat
