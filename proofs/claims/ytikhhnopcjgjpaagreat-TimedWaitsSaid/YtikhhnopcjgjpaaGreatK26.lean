/- Contracts of functions of the program, for all arguments that they name. -/
import Derived.Test.YtikhhnopcjgjpaaGreatK09
import Derived.Test.YtikhhnopcjgjpaaGreatK25
namespace Go.Proofs.YtikhhnopcjgjpaaGreat
set_option linter.unusedVariables false
section
open Go.RowKit
set_option maxHeartbeats 2000000
inductive All2 {α β : Type} (R : α → β → Prop) : List α → List β → Prop
 | nil : All2 R [] []
 | cons {a : α} {b : β} {l : List α} {m : List β} : R a b → All2 R l m → All2 R (a :: l) (b :: m)
def lo0 (t : Ty) (v : V) : Prop := (t.k = 1 → ∃ x, v = .mk x [] ∧ 0 ≤ x ∧ x < 4) ∧ (t.k = 2 → ∃ x, v = .mk x [] ∧ 0 ≤ x ∧ x < t.s) ∧ (t.k = 4 ∨ t.k = 5 ∨ t.k = 7 → v = .mk 0 [])
def lo1 (t : Ty) (v : V) : Prop := lo0 t v ∧ (t.k = 3 → ∃ vs, v = .mk 0 vs ∧ All2 lo0 t.ps vs)
theorem qkW {s d : Int} {rs : List Int} {ps : List Ty} (h : qar (.mk 2 s rs ps) d = true) : 1 ≤ s ∧ s ≤ 16 := by
 rw [qar] at h
 split at h
 ·cases h
 ·split at h
  ·cases h
  ·simp at h; omega
theorem qkw {s d : Int} {rs : List Int} {ps : List Ty} (h : qar (.mk 7 s rs ps) d = true) : 1 ≤ s ∧ s ≤ 6 := by
 rw [qar] at h
 split at h
 ·cases h
 ·split at h
  ·cases h
  ·simp at h; omega
theorem qjQ {k s d : Int} {rs : List Int} {ps : List Ty} (h : qar (.mk k s rs ps) d = true) (k1 : k ≠ 1) (k2 : k ≠ 2) (k6 : k ≠ 6) (k7 : k ≠ 7) (k3 : k ≠ 3) : (k = 4 ∨ k = 5) ∧ ∃ p, ps = [p] ∧ qar p (d - 1) = true := by
 rw [qar] at h
 split at h
 ·cases h
 ·split at h
  ·cases h
  ·simp only [k2, k6, if_false, or_self] at h
   split at h
   ·rename_i hk
    simp at h
    obtain ⟨⟨_, h1⟩, h2⟩ := h
    match ps, h1, h2 with
    | [p], _, h2 => exact ⟨hk, p, rfl, by simpa [qaW] using h2⟩
    | [], h1, _ => simp at h1
    | _ :: _ :: _, h1, _ => simp at h1; omega
   ·cases h
theorem qp3 (k s : Int) (rs : List Int) (ps : List Ty) (most : Nat) (hm : most ≤ 3) (hl : ps.length ≤ 8)
 (hrec : ∀ p ∈ ps, ∀ d : Dk, d.ok → ∃ (v : V) (d' : Dk), v.fit ∧ (most = 0 → lo1 p v) ∧ d'.ok ∧ TC Tryz.prog 64 [dkR, qal p, .int .i64 most] (hpL [(99999, dkB d)]) (encV v) (hpL [(99999, dkB d')])) :
 ∀ (rest pre : List Ty) (i : Nat) (done : List V) (d : Dk), ps = pre ++ rest → pre.length = i → done.length = i → d.ok →
 ∃ (ks : List V) (d' : Dk), (∀ k ∈ ks, k.fit) ∧ ks.length = rest.length ∧ (most = 0 → All2 lo0 rest ks) ∧ d'.ok ∧ ∀ Q : IExit → (Nat → T) → Heap → Prop,
  (∀ i : Int, Q (.exit 1) (ofL [(0, dkR), (2, .int .i64 most), (4, .ref 0 4 0), (6, .ref 1 2 0), (7, .ref 1000 2 0), (8, .int .i64 i), (49, .bool false)]) (hpL ([(99999, dkB d'), (0, .live ⟨54, [.int .i64 k, .int .i64 s, .list (qaf rs), .list (qah ps)]⟩), (1, .live ⟨25, [.int .i64 0, .nil]⟩), (1000, .live ⟨25, [.int .i64 0, rowT 1411 (done ++ ks)]⟩)] ++ rowH 1411 25 (done ++ ks)))) →
  WL Tryz.prog 89 qjf (ofL [(0, dkR), (2, .int .i64 most), (4, .ref 0 4 0), (6, .ref 1 2 0), (7, .ref 1000 2 0), (8, .int .i64 i)]) (hpL ([(99999, dkB d), (0, .live ⟨54, [.int .i64 k, .int .i64 s, .list (qaf rs), .list (qah ps)]⟩), (1, .live ⟨25, [.int .i64 0, .nil]⟩), (1000, .live ⟨25, [.int .i64 0, rowT 1411 done]⟩)] ++ rowH 1411 25 done)) Q := by
 intro rest
 induction rest with
 | nil =>
  intro pre i done d he hi hdn hd
  refine ⟨[], d, (fun y hy => absurd hy (List.not_mem_nil)), rfl, fun _ => .nil, hd, fun Q hQ => ?_⟩
  have hb : decide ((i : Int) < ((qah ps).length : Int)) = false := by simp [qaj, he, hi]
  rw [List.append_nil] at hQ
  simp only [List.cons_append, List.nil_append] at hQ ⊢
  have fX := @hb
  refine qaa qjf.eq_1 ?_
  refine wR0 1300 [0,2,4,6,7,8,49] fX ?_
  refine wF @hb ?_
  refine wX ?_
  refine wN ?_
  exact hQ _
 | cons p rest ih =>
  intro pre i done d he hi hdn hd
  obtain ⟨⟨a, bs⟩, d1, hvf, hlo, hok, hls⟩ := hrec p (by rw [he]; simp) d hd
  obtain ⟨ks, d', h1, h2, h3, h4, hW⟩ := ih (pre ++ [p]) (i + 1) (done ++ [.mk a bs]) d1 (by simpa using he) (by simp [hi]) (by simp [hdn]) hok
  refine ⟨.mk a bs :: ks, d', fun y hy => ?_, by simp [h2], fun h0 => .cons (hlo h0).1 (h3 h0), h4, fun Q hQ => ?_⟩
  ·rcases List.mem_cons.1 hy with rfl | hy
   ·exact hvf
   ·exact h1 y hy
  have hlen : ps.length = i + 1 + rest.length := by rw [he]; simp [hi]; omega
  have hlt : (i : Int) < ((qah ps).length : Int) := by rw [qaj]; omega
  have hb : decide ((i : Int) < ((qah ps).length : Int)) = true := decide_eq_true hlt
  have hw : IntKind.wrap .i64 ((i : Int) + 1) = ((i + 1 : Nat) : Int) := by rw [wrap64 (by omega) (by omega)]; rfl
  have hg : (qah ps).getD (i : Int).toNat .undef = qal p := by rw [Int.toNat_natCast, he, ← hi]; exact qcK _ _ _
  rcases p with ⟨pk, pz, prs, pps⟩
  simp only [qal] at hg hls
  simp only [encV] at hls
  have hQ' := hW Q (by simpa using hQ)
  cases done with
  | nil =>
   simp only [rowT, rowH, List.append_nil]
   have fX := (cJ4 @hb @hw @hg @qaz)
   refine qaa qjf.eq_1 ?_
   refine W_gc ?_
   refine wR0 1300 [0,2,4,6,7,8,49] fX ?_
   refine wT fX ?_
   refine wRn 1400 [0,2,4,6,7,8] fX ?_
   refine rU [(99999, dkB d)] [(99999, dkB d1)] fX ?_
   refine ⟨_, hls.full1, rE fX ?_⟩
   refine wR0 1500 [0,2,4,6,7,8] fX ?_
   refine wN ?_
   refine qa1 [99999, 0, 1, 1000, 1411] (by simp [inL]) (by simp [inL, T.cl]) (by simp [qap, inL, Slot.cl, T.cl, clL, qat, qam, qbx]) ?_
   simpa [qap, inL, rowT, rowH, qao, V.n, V.kids] using hQ'
  | cons z l =>
   have hlb : l.length + 1 ≤ 1000000 := by simp at hdn; omega
   simp only [rowT, rowH, List.cons_append, List.nil_append]
   have fX := (cJ5 @hb @hw @hg @qaz @qaE)
   refine qaa qjf.eq_1 ?_
   refine W_gc ?_
   refine wR0 1300 [0,2,4,6,7,8,49] fX ?_
   refine wT fX ?_
   refine wRn 1400 [0,2,4,6,7,8] fX ?_
   refine rU [(99999, dkB d)] [(99999, dkB d1)] fX ?_
   refine ⟨_, hls.full1, rE fX ?_⟩
   refine wR0 1500 [0,2,4,6,7,8] fX ?_
   refine wN ?_
   refine qa1 [99999, 0, 1, 1000, 1411] (by simp [inL]) (by simp [inL, T.cl]) (by simp [qap, inL, Slot.cl, T.cl, clL, qat, qam, qbx, qaQ, qaw]) ?_
   have hs : qao (z :: (l ++ [V.mk a bs])) = qao (z :: l) ++ [.int .i64 a, .list (qac bs)] := qbU (z :: l) (.mk a bs)
   have hm2 : (l.length + 1 + 1) * 2 = (l.length + 1) * 2 + 2 := (by omega)
   simp only [List.cons_append, List.nil_append, rowT, rowH, hs, List.length_append, List.length_cons, List.length_nil, Nat.zero_add, hm2] at hQ'
   simpa [qap, inL] using hQ'
theorem qqt (k s : Int) (rs : List Int) (p : Ty) (most : Nat) (hm : most ≤ 3)
 (hrec : ∀ d : Dk, d.ok → ∃ (v : V) (d' : Dk), v.fit ∧ d'.ok ∧ TC Tryz.prog 64 [dkR, qal p, .int .i64 ((most - 1 : Nat) : Int)] (hpL [(99999, dkB d)]) (encV v) (hpL [(99999, dkB d')])) :
 ∀ (n : Nat) (done : List V) (d : Dk), n + done.length ≤ 1000 → d.ok →
 ∃ (ks : List V) (d' : Dk), (∀ k ∈ ks, k.fit) ∧ ks.length = n ∧ d'.ok ∧ ∀ Q : IExit → (Nat → T) → Heap → Prop,
  (∀ i : Int, Q (.exit 3) (ofL [(0, dkR), (2, .int .i64 most), (4, .ref 0 4 0), (6, .ref 1 2 0), (7, .ref 1000 2 0), (9, .int .i64 i), (71, .bool false)]) (hpL ([(99999, dkB d'), (0, .live ⟨54, [.int .i64 k, .int .i64 s, .list (qaf rs), .list (qah [p])]⟩), (1, .live ⟨25, [.int .i64 0, .nil]⟩), (1000, .live ⟨25, [.int .i64 0, rowT 1912 (done ++ ks)]⟩)] ++ rowH 1912 25 (done ++ ks)))) →
  WL Tryz.prog 89 qjS (ofL [(0, dkR), (2, .int .i64 most), (4, .ref 0 4 0), (6, .ref 1 2 0), (7, .ref 1000 2 0), (9, .int .i64 n)]) (hpL ([(99999, dkB d), (0, .live ⟨54, [.int .i64 k, .int .i64 s, .list (qaf rs), .list (qah [p])]⟩), (1, .live ⟨25, [.int .i64 0, .nil]⟩), (1000, .live ⟨25, [.int .i64 0, rowT 1912 done]⟩)] ++ rowH 1912 25 done)) Q := by
 intro n
 induction n with
 | zero =>
  intro done d hdn hd
  refine ⟨[], d, (fun y hy => absurd hy (List.not_mem_nil)), rfl, hd, fun Q hQ => ?_⟩
  have hb : decide (((0 : Nat) : Int) > 0) = false := rfl
  rw [List.append_nil] at hQ
  simp only [List.cons_append, List.nil_append] at hQ ⊢
  have fX := @hb
  refine qaa qjS.eq_1 ?_
  refine wR0 1800 [0,2,4,6,7,9,71] fX ?_
  refine wF @hb ?_
  refine wX ?_
  refine wN ?_
  exact hQ _
 | succ n ih =>
  intro done d hdn hd
  obtain ⟨⟨a, bs⟩, d1, hvf, hok, hls⟩ := hrec d hd
  obtain ⟨ks, d', h1, h2, h4, hW⟩ := ih (done ++ [.mk a bs]) d1 (by simp; omega) hok
  refine ⟨.mk a bs :: ks, d', fun y hy => ?_, by simp [h2], h4, fun Q hQ => ?_⟩
  ·rcases List.mem_cons.1 hy with rfl | hy
   ·exact hvf
   ·exact h1 y hy
  have hb : decide (((n + 1 : Nat) : Int) > 0) = true := decide_eq_true (by omega)
  have hw : IntKind.wrap .i64 (((n + 1 : Nat) : Int) - 1) = (n : Int) := by rw [wrap64 (by omega) (by omega)]; omega
  have hw1 : IntKind.wrap .i64 ((most : Int) - 1) = (most : Int) - 1 := wrap64 (by omega) (by omega)
  have hmx : (if (most : Int) - 1 > 0 then (most : Int) - 1 else 0) = ((most - 1 : Nat) : Int) := by split <;> omega
  have hlt : (0 : Int) < ((qah [p]).length : Int) := by simp [qaj]
  have hg : (qah [p]).getD (0 : Int).toNat .undef = qal p := rfl
  rcases p with ⟨pk, pz, prs, pps⟩
  simp only [qal] at hg hls
  simp only [encV] at hls
  have hQ' := hW Q (by simpa using hQ)
  cases done with
  | nil =>
   simp only [rowT, rowH, List.append_nil]
   have fX := (cJ6 @hb @hw @hw1 @hmx @hg @qaz)
   refine qaa qjS.eq_1 ?_
   refine W_gc ?_
   refine wR0 1800 [0,2,4,6,7,9,71] fX ?_
   refine wT fX ?_
   refine wRn 1900 [0,2,4,6,7,9] fX ?_
   refine rU [(99999, dkB d)] [(99999, dkB d1)] fX ?_
   refine ⟨_, hls.full1, rE fX ?_⟩
   refine wR0 2000 [0,2,4,6,7,9] fX ?_
   refine wN ?_
   refine qa1 [99999, 0, 1, 1000, 1912] (by simp [inL]) (by simp [inL, T.cl]) (by simp [qap, inL, Slot.cl, T.cl, clL, qat, qam, qbx]) ?_
   simpa [qap, inL, rowT, rowH, qao, V.n, V.kids] using hQ'
  | cons z l =>
   have hlb : l.length + 1 ≤ 1000000 := by simp at hdn; omega
   simp only [rowT, rowH, List.cons_append, List.nil_append]
   have fX := (cJ7 @hb @hw @hw1 @hmx @hg @qaz @qaE)
   refine qaa qjS.eq_1 ?_
   refine W_gc ?_
   refine wR0 1800 [0,2,4,6,7,9,71] fX ?_
   refine wT fX ?_
   refine wRn 1900 [0,2,4,6,7,9] fX ?_
   refine rU [(99999, dkB d)] [(99999, dkB d1)] fX ?_
   refine ⟨_, hls.full1, rE fX ?_⟩
   refine wR0 2000 [0,2,4,6,7,9] fX ?_
   refine wN ?_
   refine qa1 [99999, 0, 1, 1000, 1912] (by simp [inL]) (by simp [inL, T.cl]) (by simp [qap, inL, Slot.cl, T.cl, clL, qat, qam, qbx, qaQ, qaw]) ?_
   have hs : qao (z :: (l ++ [V.mk a bs])) = qao (z :: l) ++ [.int .i64 a, .list (qac bs)] := qbU (z :: l) (.mk a bs)
   have hm2 : (l.length + 1 + 1) * 2 = (l.length + 1) * 2 + 2 := (by omega)
   simp only [List.cons_append, List.nil_append, rowT, rowH, hs, List.length_append, List.length_cons, List.length_nil, Nat.zero_add, hm2] at hQ'
   simpa [qap, inL] using hQ'
theorem qnY {k s : Int} {rs : List Int} {ps : List Ty} {x : Int} (h0 : 0 ≤ x) (h1 : k = 1 → x < 4) (h2 : k = 2 → x < s) (hk : k = 1 ∨ k = 2) : lo1 (.mk k s rs ps) (.mk x []) := by
 refine ⟨⟨fun e => ⟨x, rfl, h0, h1 e⟩, fun e => ⟨x, rfl, h0, h2 e⟩, fun e => ?_⟩, fun e => ?_⟩
 ·simp only [Ty.k] at e; omega
 ·simp only [Ty.k] at e; omega
theorem qef : ∀ (t : Ty) (dep : Int) (most : Nat) (d : Dk), t.fit → qar t dep = true → most ≤ 3 → d.ok →
 ∃ (v : V) (d' : Dk), v.fit ∧ (most = 0 → lo1 t v) ∧ d'.ok ∧ TC Tryz.prog 64 [dkR, qal t, .int .i64 most] (hpL [(99999, dkB d)]) (encV v) (hpL [(99999, dkB d')])
 | .mk k s rs ps, dep, most, d, ht, hv, hm, hd => by
  have hf := Ty.fit_all ht
  by_cases k1 : k = 1
  ·subst k1
   obtain ⟨x, d', hx, hok, hnx⟩ := qaS d 4 hd
   refine ⟨.mk x [], d', by simp [V.fit, fitL], fun _ => qnY hx.1 (fun _ => hx.2.2 (by omega)) (fun h => by omega) (.inl rfl), hok, ?_⟩
   refine qbI fn64 (by simp) ?_
   unfold i64
   simp only [argL, encV, qal]
   refine wR0 0 [0,2,4,6] cJ0 ?_
   refine wR0 100 [0,2,4,6,11] cJ0 ?_
   refine wR0 200 [0,2,4,6,11,12] cJ0 ?_
   refine wT cJ0 ?_
   refine wRn 300 [6] cJ0 ?_
   refine rU [(99999, dkB d)] [(99999, dkB d')] cJ0 ?_
   refine ⟨_, hnx.full1, rE cJ0 ?_⟩
   refine wE ?_
   refine wN ?_
   exact ⟨by simp, _, _, _, rfl, rfl, .aggL (.cons (.same rfl) (.cons .nil .nil)) rfl, .keep rfl (qaJ _) (.dead rfl (fun h => by cases h) (.dead rfl (fun h => by cases h) .nil)), rfl⟩
  have b1 : (k == 1) = false := by simpa using k1
  by_cases k2 : k = 2
  ·subst k2
   have hs := qkW hv
   obtain ⟨x, d', hx, hok, hnx⟩ := qaS d s hd
   refine ⟨.mk x [], d', by simp [V.fit, fitL], fun _ => qnY hx.1 (fun h => by omega) (fun _ => hx.2.2 (by omega)) (.inr rfl), hok, ?_⟩
   have fX := @b1
   refine qbI fn64 (by simp) ?_
   unfold i64
   simp only [argL, encV, qal]
   refine wR0 0 [0,2,4,6] fX ?_
   refine wR0 100 [0,2,4,6,11] fX ?_
   refine wR0 200 [0,2,4,6,11,12] fX ?_
   refine wF fX ?_
   refine wR0 400 [0,2,4,6,11,17] fX ?_
   refine wT fX ?_
   refine wRn 500 [6] fX ?_
   refine rU [(99999, dkB d)] [(99999, dkB d')] fX ?_
   refine ⟨_, hnx.full1, rE fX ?_⟩
   refine wE ?_
   refine wN ?_
   exact ⟨by simp, _, _, _, rfl, rfl, .aggL (.cons (.same rfl) (.cons .nil .nil)) rfl, .keep rfl (qaJ _) (.dead rfl (fun h => by cases h) (.dead rfl (fun h => by cases h) .nil)), rfl⟩
  have b2 : (k == 2) = false := by simpa using k2
  by_cases k6 : k = 6
  ·subst k6
   obtain ⟨x, d1, hx, hok, hnx⟩ := qaS d 4 hd
   have hx4 := hx.2.2 (by omega)
   obtain ⟨m, rfl⟩ := Int.eq_ofNat_of_zero_le hx.1
   obtain ⟨⟨a, bs⟩, d', htf, hok2, htr⟩ := qrE s (1 + m) d1 (by omega) hok
   have hva := qlR (.mk a bs) htf
   simp only [encV] at htr hva
   have hw : IntKind.wrap .i64 (1 + (m : Int)) = ((1 + m : Nat) : Int) := by rw [wrap64 (by omega) (by omega)]; omega
   refine ⟨.mk a bs, d', htf, fun _ => ⟨⟨fun h => ?_, fun h => ?_, fun h => ?_⟩, fun h => ?_⟩, hok2, ?_⟩
   ·simp only [Ty.k] at h; omega
   ·simp only [Ty.k] at h; omega
   ·simp only [Ty.k] at h; omega
   ·simp only [Ty.k] at h; omega
   have fX := (cJ3 @b1 @b2 @hw)
   refine qbI fn64 (by simp) ?_
   unfold i64
   simp only [argL, encV, qal]
   refine wR0 0 [0,2,4,6] fX ?_
   refine wR0 100 [0,2,4,6,11] fX ?_
   refine wR0 200 [0,2,4,6,11,12] fX ?_
   refine wF fX ?_
   refine wR0 400 [0,2,4,6,11,17] fX ?_
   refine wF fX ?_
   refine wR0 600 [0,2,4,6,11,24] fX ?_
   refine wT fX ?_
   refine wRn 700 [6] fX ?_
   refine rU [(99999, dkB d)] [(99999, dkB d1)] fX ?_
   refine ⟨_, hnx.full1, rN fX ?_⟩
   refine rU [(99999, dkB d1)] [(99999, dkB d')] fX ?_
   refine ⟨_, htr.full1, rN fX ?_⟩
   refine rC fX ?_
   refine ⟨_, hva, rE fX ?_⟩
   refine wE ?_
   refine wN ?_
   exact ⟨by simp, _, _, _, rfl, rfl, .same (by simp [mkEl, esz, T.cl, clL, qam]), .keep rfl (qaJ _) (.dead rfl (fun h => by cases h) (.dead rfl (fun h => by cases h) .nil)), rfl⟩
  have b6 : (k == 6) = false := by simpa using k6
  by_cases k7 : k = 7
  ·subst k7
   have hs := qkw hv
   obtain ⟨ys, d', h1, h2, hok, hwd⟩ := qpG d s most (by omega) (by omega) hd
   have hva := qp0 ys (by omega)
   simp only [wordV, encV] at hva
   have hkl : (qeJ ys).length = ys.length := by simp [qeJ]
   refine ⟨.mk 0 (qeJ ys), d', ?_, fun h0 => ⟨⟨fun h => ?_, fun h => ?_, fun h => ?_⟩, fun h => ?_⟩, hok, ?_⟩
   ·simp only [V.fit]
    refine ⟨by rw [hkl]; omega, qdv fun v hv => ?_⟩
    obtain ⟨w, _, rfl⟩ := List.mem_map.1 hv
    simp [V.fit, fitL]
   ·simp only [Ty.k] at h; omega
   ·simp only [Ty.k] at h; omega
   ·obtain rfl : ys = [] := List.eq_nil_of_length_eq_zero (by omega)
    rfl
   ·simp only [Ty.k] at h; omega
   have fX := (cJ3 @b1 @b2 @b6)
   refine qbI fn64 (by simp) ?_
   unfold i64
   simp only [argL, encV, qal]
   refine wR0 0 [0,2,4,6] fX ?_
   refine wR0 100 [0,2,4,6,11] fX ?_
   refine wR0 200 [0,2,4,6,11,12] fX ?_
   refine wF fX ?_
   refine wR0 400 [0,2,4,6,11,17] fX ?_
   refine wF fX ?_
   refine wR0 600 [0,2,4,6,11,24] fX ?_
   refine wF fX ?_
   refine wR0 800 [0,2,4,6,34] fX ?_
   refine wT fX ?_
   refine wRn 900 [6] fX ?_
   refine rU [(99999, dkB d)] [(99999, dkB d')] fX ?_
   refine ⟨_, hwd.full1, rN fX ?_⟩
   refine rC fX ?_
   refine ⟨_, hva, rE fX ?_⟩
   refine wE ?_
   refine wN ?_
   exact ⟨by simp, _, _, _, rfl, rfl, .same (by simp [mkEl, esz, T.cl, clL, qam]), .keep rfl (qaJ _) (.dead rfl (fun h => by cases h) (.dead rfl (fun h => by cases h) .nil)), rfl⟩
  have b7 : (k == 7) = false := by simpa using k7
  by_cases k3 : k = 3
  ·subst k3
   obtain ⟨hvp, hlp⟩ := qdr hv
   obtain ⟨ks, d', h1, h2, h3, hok, hW⟩ := qp3 3 s rs ps most hm hlp (fun p hp d hd => qef p (dep - 1) most d (hf.2.2 p hp) (qb3 hvp p hp) hm hd) ps [] 0 [] d rfl rfl rfl hd
   refine ⟨.mk 0 ks, d', ?_, fun h0 => ⟨⟨fun h => ?_, fun h => ?_, fun h => ?_⟩, fun h => ⟨ks, rfl, h3 h0⟩⟩, hok, ?_⟩
   ·simp only [V.fit]; exact ⟨by omega, qdv h1⟩
   ·simp only [Ty.k] at h; omega
   ·simp only [Ty.k] at h; omega
   ·simp only [Ty.k] at h; omega
   have fX := (cJ4 @b1 @b2 @b6 @b7)
   refine qbI fn64 (by simp) ?_
   unfold i64
   simp only [argL, encV, qal]
   refine wR0 0 [0,2,4,6] fX ?_
   refine wR0 100 [0,2,4,6,11] fX ?_
   refine wR0 200 [0,2,4,6,11,12] fX ?_
   refine wF fX ?_
   refine wR0 400 [0,2,4,6,11,17] fX ?_
   refine wF fX ?_
   refine wR0 600 [0,2,4,6,11,24] fX ?_
   refine wF fX ?_
   refine wR0 800 [0,2,4,6,34] fX ?_
   refine wF fX ?_
   refine wR0 1000 [0,2,4,6,7] fX ?_
   refine wR0 1100 [0,2,4,6,7,44] fX ?_
   refine wT fX ?_
   refine wR0 1200 [0,2,4,6,7,8] fX ?_
   refine wL ?_
   refine hW _ ?_
   ·intro i
    refine wN ?_
    refine wN ?_
    rcases ks with _ | ⟨y, l⟩
    ·skip
     refine wN ?_
     simp only [rowT, rowH, List.append_nil]
     refine wR0 1600 [6] fX ?_
     refine wE ?_
     refine wN ?_
     first | exact ⟨by simp, _, _, _, rfl, rfl, .aggL (.cons (.same rfl) (.cons .nil .nil)) rfl, .keep rfl (qaJ _) (.dead rfl (fun h => by cases h) (.dead rfl (fun h => by cases h) (.dead rfl (fun h => by cases h) .nil))), rfl⟩ | exact ⟨by simp, _, _, _, rfl, rfl, .aggL (.cons (.same rfl) (.cons (qhE (y :: l) rfl rfl rfl rfl) .nil)) rfl, .keep rfl (qaJ _) (.dead rfl (fun h => by cases h) (.dead rfl (fun h => by cases h) (.dead rfl (fun h => by cases h) (.dead rfl (fun h => by cases h) .nil)))), rfl⟩
    ·skip
     refine wN ?_
     simp only [rowT, rowH, List.nil_append, List.cons_append]
     refine wR0 1600 [6] fX ?_
     refine wE ?_
     refine wN ?_
     first | exact ⟨by simp, _, _, _, rfl, rfl, .aggL (.cons (.same rfl) (.cons .nil .nil)) rfl, .keep rfl (qaJ _) (.dead rfl (fun h => by cases h) (.dead rfl (fun h => by cases h) (.dead rfl (fun h => by cases h) .nil))), rfl⟩ | exact ⟨by simp, _, _, _, rfl, rfl, .aggL (.cons (.same rfl) (.cons (qhE (y :: l) rfl rfl rfl rfl) .nil)) rfl, .keep rfl (qaJ _) (.dead rfl (fun h => by cases h) (.dead rfl (fun h => by cases h) (.dead rfl (fun h => by cases h) (.dead rfl (fun h => by cases h) .nil)))), rfl⟩
  have b3 : (k == 3) = false := by simpa using k3
  obtain ⟨k45, p, hps, hvp⟩ := qjQ hv k1 k2 k6 k7 k3
  have hrec := fun (d : Dk) (hd : d.ok) => qef p (dep - 1) (most - 1) d (hf.2.2 p (by rw [hps]; simp)) hvp (by omega) hd
  subst hps
  obtain ⟨x, d1, hx, hok1, hnx⟩ := qaS d ((most : Int) + 1) hd
  have hxm := hx.2.2 (by omega)
  obtain ⟨n, rfl⟩ := Int.eq_ofNat_of_zero_le hx.1
  obtain ⟨ks, d', h1, h2, hok, hW⟩ := qqt k s rs p most hm (fun d hd => by
   obtain ⟨v, d', a1, a2, a3, a4⟩ := hrec d hd
   exact ⟨v, d', a1, a3, a4⟩) n [] d1 (by simp; omega) hok1
  have hw : IntKind.wrap .i64 ((most : Int) + 1) = (most : Int) + 1 := wrap64 (by omega) (by omega)
  refine ⟨.mk 0 ks, d', ?_, fun h0 => ⟨⟨fun h => ?_, fun h => ?_, fun h => ?_⟩, fun h => ?_⟩, hok, ?_⟩
  ·simp only [V.fit]; exact ⟨by omega, qdv h1⟩
  ·simp only [Ty.k] at h; omega
  ·simp only [Ty.k] at h; omega
  ·obtain rfl : ks = [] := List.eq_nil_of_length_eq_zero (by omega)
   rfl
  ·simp only [Ty.k] at h; omega
  have fX := (cJ6 @b1 @b2 @b6 @b7 @b3 @hw)
  refine qbI fn64 (by simp) ?_
  unfold i64
  simp only [argL, encV, qal]
  refine wR0 0 [0,2,4,6] fX ?_
  refine wR0 100 [0,2,4,6,11] fX ?_
  refine wR0 200 [0,2,4,6,11,12] fX ?_
  refine wF fX ?_
  refine wR0 400 [0,2,4,6,11,17] fX ?_
  refine wF fX ?_
  refine wR0 600 [0,2,4,6,11,24] fX ?_
  refine wF fX ?_
  refine wR0 800 [0,2,4,6,34] fX ?_
  refine wF fX ?_
  refine wR0 1000 [0,2,4,6,7] fX ?_
  refine wR0 1100 [0,2,4,6,7,44] fX ?_
  refine wF fX ?_
  refine wRn 1700 [0,2,4,6,7,9] fX ?_
  refine rU [(99999, dkB d)] [(99999, dkB d1)] fX ?_
  refine ⟨_, hnx.full1, rE fX ?_⟩
  refine wL ?_
  refine hW _ ?_
  ·intro i
   refine wN ?_
   refine wN ?_
   rcases ks with _ | ⟨y, l⟩
   ·skip
    refine wN ?_
    simp only [rowT, rowH, List.append_nil]
    refine wR0 2100 [6] fX ?_
    refine wE ?_
    refine wN ?_
    first | exact ⟨by simp, _, _, _, rfl, rfl, .aggL (.cons (.same rfl) (.cons .nil .nil)) rfl, .keep rfl (qaJ _) (.dead rfl (fun h => by cases h) (.dead rfl (fun h => by cases h) (.dead rfl (fun h => by cases h) .nil))), rfl⟩ | exact ⟨by simp, _, _, _, rfl, rfl, .aggL (.cons (.same rfl) (.cons (qhE (y :: l) rfl rfl rfl rfl) .nil)) rfl, .keep rfl (qaJ _) (.dead rfl (fun h => by cases h) (.dead rfl (fun h => by cases h) (.dead rfl (fun h => by cases h) (.dead rfl (fun h => by cases h) .nil)))), rfl⟩
   ·skip
    refine wN ?_
    simp only [rowT, rowH, List.nil_append, List.cons_append]
    refine wR0 2100 [6] fX ?_
    refine wE ?_
    refine wN ?_
    first | exact ⟨by simp, _, _, _, rfl, rfl, .aggL (.cons (.same rfl) (.cons .nil .nil)) rfl, .keep rfl (qaJ _) (.dead rfl (fun h => by cases h) (.dead rfl (fun h => by cases h) (.dead rfl (fun h => by cases h) .nil))), rfl⟩ | exact ⟨by simp, _, _, _, rfl, rfl, .aggL (.cons (.same rfl) (.cons (qhE (y :: l) rfl rfl rfl rfl) .nil)) rfl, .keep rfl (qaJ _) (.dead rfl (fun h => by cases h) (.dead rfl (fun h => by cases h) (.dead rfl (fun h => by cases h) (.dead rfl (fun h => by cases h) .nil)))), rfl⟩
termination_by t => SizeOf.sizeOf t
decreasing_by all_goals first | exact qeD hp _ s rs | exact qeD (by rw [hps]; exact List.mem_singleton.2 rfl) k s rs
def qko (t : Ty) : Prop := ∃ ps, t = .mk 3 0 [] ps ∧ ∀ p ∈ ps, p.k = 1 ∨ p.k = 2 ∨ p.k = 4 ∨ p.k = 5 ∨ p.k = 7
theorem qqG {p : Ty} {v : V} (h : lo0 p v) (hk : p.k = 1 ∨ p.k = 2 ∨ p.k = 4 ∨ p.k = 5 ∨ p.k = 7) : qch p v = v ∧ v.kids = [] ∧ ofV p v = true := by
 rcases p with ⟨k, s, rs, ps⟩
 simp only [Ty.k] at hk
 obtain ⟨h1, h2, h3⟩ := h
 simp only [Ty.k, Ty.s] at h1 h2 h3
 have hs0 : qcW ps [] = [] := by cases ps <;> rfl
 have hh0 : qes ps [] = [] := by cases ps <;> rfl
 have hof : qdO ps [] = true := by cases ps <;> rfl
 rcases hk with rfl | rfl | rfl | rfl | rfl
 ·obtain ⟨x, rfl, a, b⟩ := h1 rfl
  refine ⟨rfl, rfl, ?_⟩
  rw [ofV]
  have e1 : decide (x ≥ 0) = true := decide_eq_true a
  have e2 : decide (x ≤ 1048576) = true := decide_eq_true (by omega)
  simp [V.n, V.kids, a, show x ≤ 1048576 by omega]
 ·obtain ⟨x, rfl, a, b⟩ := h2 rfl
  refine ⟨rfl, rfl, ?_⟩
  rw [ofV]
  simp [V.n, V.kids, a, b]
 ·obtain rfl := h3 (.inl rfl)
  refine ⟨?_, rfl, ?_⟩
  ·simp [qch, V.n, V.kids, hh0]
  ·simp [ofV, V.n, V.kids, hof, qa8]
 ·obtain rfl := h3 (.inr (.inl rfl))
  refine ⟨?_, rfl, ?_⟩
  ·simp [qch, V.n, V.kids, hh0]
  ·simp [ofV, V.n, V.kids, hof, qa8]
 ·obtain rfl := h3 (.inr (.inr rfl))
  refine ⟨?_, rfl, ?_⟩
  ·simp [qch, V.n, V.kids]
  ·simp [ofV, V.n, V.kids]
theorem qo4 : ∀ {ps : List Ty} {vs : List V}, All2 lo0 ps vs → (∀ p ∈ ps, p.k = 1 ∨ p.k = 2 ∨ p.k = 4 ∨ p.k = 5 ∨ p.k = 7) → qcW ps vs = vs ∧ qdm ps vs = true ∧ vs.length = ps.length ∧ ∀ v ∈ vs, v.kids = []
 | [], [], _, _ => ⟨rfl, rfl, rfl, fun v hv => by cases hv⟩
 | p :: ps, v :: vs, .cons h1 h2, hk => by
  obtain ⟨a1, a2, a3⟩ := qqG h1 (hk p (by simp))
  obtain ⟨b1, b2, b3, b4⟩ := qo4 h2 fun q hq => hk q (List.mem_cons_of_mem _ hq)
  refine ⟨by rw [qcW, a1, b1], by rw [qdm, a3, b2]; rfl, by simp [b3], fun w hw => ?_⟩
  rcases List.mem_cons.1 hw with rfl | hw
  ·exact a2
  ·exact b4 w hw
theorem qhJ : ∀ (vs : List V) (n most : Int), (∀ v ∈ vs, v.kids = []) → n + vs.length ≤ most → qcV vs n most ≤ n + vs.length
 | [], n, most, _, _ => by simp [qcV]
 | ⟨a, ks⟩ :: vs, n, most, h, hm => by
  have hk := h (.mk a ks) (by simp)
  simp only [V.kids] at hk
  subst hk
  simp only [List.length_cons] at hm ⊢
  have ih := qhJ vs (n + 1) most (fun v hv => h v (List.mem_cons_of_mem _ hv)) (by omega)
  simp only [qcV, qbw]
  rw [if_pos (by omega)]
  omega
theorem qht {t : Ty} {v : V} (ht : qko t) (hv : qar t 8 = true) (h : lo1 t v) : qbM t v = (v, 0) ∧ qa3 t v = true := by
 obtain ⟨ps, rfl, hk⟩ := ht
 obtain ⟨vs, rfl, h2⟩ := h.2 rfl
 simp only [Ty.ps] at h2
 obtain ⟨a1, a2, a3, a4⟩ := qo4 h2 hk
 have hl := (qdr hv).2
 have hsz : qbw (.mk 0 vs) 128 ≤ 128 := by
  have := qhJ vs 1 128 a4 (by omega)
  simp only [qbw]; omega
 have hof : ofV (.mk 3 0 [] ps) (.mk 0 vs) = true := by simp [ofV, V.n, V.kids, a2, a3]
 have hvv : qa3 (.mk 3 0 [] ps) (.mk 0 vs) = true := by simp [qa3, qbo, hv, hsz, hof]
 have hs : qch (.mk 3 0 [] ps) (.mk 0 vs) = .mk 0 vs := by simp [qch, V.n, V.kids, a1]
 refine ⟨?_, hvv⟩
 rw [qbM, if_neg (by simp [hv]), if_neg (by omega), hs, if_neg (by simp [hvv])]
theorem qcU (t : Ty) (v : V) (hv : v.fit) : (qbM t v).1.fit := by
 unfold qbM
 (repeat' split) <;> first | exact qeZ t v hv | simp [v0, V.fit, fitL]
theorem qpV (t : Ty) (d : Dk) (ht : t.fit) (hv : qar t 8 = true) (hd : d.ok) :
 ∃ (v : V) (d' : Dk), v.fit ∧ (qko t → qa3 t v = true) ∧ d'.ok ∧ TC Tryz.prog 33 [dkR, qal t] (hpL [(99999, dkB d)]) (encV v) (hpL [(99999, dkB d')]) := by
 obtain ⟨v1, d1, f1, _, ok1, l1⟩ := qef t 8 3 d ht hv (by omega) hd
 have s1 := qfp t v1 ht f1
 rcases h1 : (qbM t v1).1 with ⟨a1, b1⟩
 have g1 := qcU t v1 f1
 rw [h1] at s1 g1
 have w1 := qcP t (.mk a1 b1) ht g1
 rcases v1 with ⟨n1, k1⟩
 rcases t with ⟨k, s, rs, ps⟩
 simp only [encV, qal] at l1 s1 w1
 rcases hb : qa3 (.mk k s rs ps) (.mk a1 b1) with _ | _
 ·obtain ⟨v2, d2, f2, lo, ok2, l2⟩ := qef (.mk k s rs ps) 8 0 d1 ht hv (by omega) ok1
  have s2 := qfp (.mk k s rs ps) v2 ht f2
  rcases h2 : (qbM (.mk k s rs ps) v2).1 with ⟨a2, b2⟩
  have g2 := qcU (.mk k s rs ps) v2 f2
  rw [h2] at s2 g2
  refine ⟨.mk a2 b2, d2, g2, fun hft => ?_, ok2, ?_⟩
  ·obtain ⟨e1, e2⟩ := qht hft hv (lo rfl)
   rw [e1] at h2
   rw [← h2]
   exact e2
  rcases v2 with ⟨n2, k2⟩
  simp only [encV, qal] at l2 s2
  have fX := @hb
  refine qbI fn33 (by simp) ?_
  unfold i33
  simp only [argL, encV, qal]
  refine wR0 0 [0,3,4] fX ?_
  refine wRn 100 [0,3,4,5] fX ?_
  refine rU [(99999, dkB d)] [(99999, dkB d1)] fX ?_
  refine ⟨_, l1.full1, rN fX ?_⟩
  refine rC fX ?_
  refine ⟨_, s1, rE fX ?_⟩
  refine wRn 200 [0,3,4,5,18] fX ?_
  refine rC fX ?_
  refine ⟨_, w1, rE fX ?_⟩
  refine wT @Bool.not_false ?_
  refine wRn 300 [4,5] fX ?_
  refine rU [(99999, dkB d1)] [(99999, dkB d2)] fX ?_
  refine ⟨_, l2.full1, rN fX ?_⟩
  refine rC fX ?_
  refine ⟨_, s2, rE fX ?_⟩
  refine wR0 400 [4] fX ?_
  refine wE ?_
  refine wN ?_
  exact ⟨by simp, _, _, _, rfl, rfl, .same (by simp [mkEl, esz, T.cl, clL, qam]), .keep rfl (qaJ _) (.dead rfl (fun h => by cases h) (.dead rfl (fun h => by cases h) (.dead rfl (fun h => by cases h) .nil))), rfl⟩
 ·refine ⟨.mk a1 b1, d1, g1, fun _ => hb, ok1, ?_⟩
  have fX := @hb
  refine qbI fn33 (by simp) ?_
  unfold i33
  simp only [argL, encV, qal]
  refine wR0 0 [0,3,4] fX ?_
  refine wRn 100 [0,3,4,5] fX ?_
  refine rU [(99999, dkB d)] [(99999, dkB d1)] fX ?_
  refine ⟨_, l1.full1, rN fX ?_⟩
  refine rC fX ?_
  refine ⟨_, s1, rE fX ?_⟩
  refine wRn 200 [0,3,4,5,18] fX ?_
  refine rC fX ?_
  refine ⟨_, w1, rE fX ?_⟩
  refine wF @Bool.not_true ?_
  refine wR0 400 [4] fX ?_
  refine wE ?_
  refine wN ?_
  exact ⟨by simp, _, _, _, rfl, rfl, .same (by simp [mkEl, esz, T.cl, clL, qam]), .keep rfl (qaJ _) (.dead rfl (fun h => by cases h) (.dead rfl (fun h => by cases h) (.dead rfl (fun h => by cases h) .nil))), rfl⟩
end
end Go.Proofs.YtikhhnopcjgjpaaGreat
