/- Contracts of functions of the program, for all arguments that they name. -/
import Derived.Shelf.SlSortCmp.NoneTotal
import Derived.Test.YtikhhnopcjgjpaaGreatProg
import Derived.Test.YtikhhnopcjgjpaaGreatK02
namespace Go.Proofs.YtikhhnopcjgjpaaGreat
set_option linter.unusedVariables false
section
open Go.RowKit
inductive Fz (H : Heap) (D : Nat → Bool) : T → T → Prop
 | same {x : T} (h : x.cl D = true) : Fz H D x x
 | nil : Fz H D .nil (.list [])
 | agg {cs cs' : List T} (hl : cs.length = cs'.length) (h1 : Ones cs') (h : ∀ i, i < cs.length → Fz H D (cs.getD i .undef) (cs'.getD i .undef)) : Fz H D (.agg cs) (.agg cs')
 | tup {cs cs' : List T} (hl : cs.length = cs'.length) (h : ∀ i, i < cs.length → Fz H D (cs.getD i .undef) (cs'.getD i .undef)) : Fz H D (.tup cs) (.tup cs')
 | fn {f : FuncId} {cs cs' : List T} (hl : cs.length = cs'.length) (h : ∀ i, i < cs.length → Fz H D (cs.getD i .undef) (cs'.getD i .undef)) : Fz H D (.fn f cs) (.fn f cs')
 | sl {id tot e off n : Nat} {b : Blk} {xs : List T} (hb : H id = .live b) (hd : D id = false) (ht : b.cs.length = tot) (hf : off + n * esz e ≤ tot) (hn : xs.length = n) (hs : qcA (esz e) xs) (h1 : Ones (flat xs))
  (h : ∀ k, k < n * esz e → Fz H D (b.cs.getD (off + k) .undef) ((flat xs).getD k .undef)) : Fz H D (.sl id tot e off n) (.list xs)
 | ref {id tot off : Nat} {b : Blk} {cs : List T} (hb : H id = .live b) (hd : D id = false) (ht : b.cs.length = tot) (hf : off + cs.length ≤ tot) (h1 : Ones cs)
  (h : ∀ k, k < cs.length → Fz H D (b.cs.getD (off + k) .undef) (cs.getD k .undef)) : Fz H D (.ref id tot off) (.ptr cs)
theorem qcL {D : Nat → Bool} {xs : List T} (h : ∀ i, i < xs.length → (xs.getD i .undef).cl D = true) : clL D xs = true := by
 rw [qiC]
 intro x hx
 obtain ⟨i, hi, rfl⟩ := List.getElem_of_mem hx
 have := h i hi
 rw [List.getD_eq_getElem?_getD, List.getElem?_eq_getElem hi] at this
 exact this
theorem qlf {D : Nat → Bool} {x : T} (h : clL D x.cells = true) : x.cl D = true := by
 cases x <;> simp_all [T.cells, T.cl, clL]
theorem qgu {D : Nat → Bool} : ∀ {xs : List T}, clL D (flat xs) = true → clL D xs = true
 | [], _ => rfl
 | x :: xs, h => by
  rw [qbe, qaw, Bool.and_eq_true] at h
  simp only [clL, Bool.and_eq_true]
  exact ⟨qlf h.1, qgu h.2⟩
theorem Fz.cl {H : Heap} {D : Nat → Bool} {x y : T} (h : Fz H D x y) : y.cl D = true := by
 induction h with
 | same h => exact h
 | nil => rfl
 | agg hl h1 h ih => simp only [T.cl]; exact qcL fun i hi => ih i (by omega)
 | tup hl h ih => simp only [T.cl]; exact qcL fun i hi => ih i (by omega)
 | fn hl h ih => simp only [T.cl]; exact qcL fun i hi => ih i (by omega)
 | sl hb hd ht hf hn hs h1 h ih =>
  simp only [T.cl]
  refine qgu (qcL fun i hi => ih i ?_)
  rw [qck hs, hn] at hi
  exact hi
 | ref hb hd ht hf h1 h ih => simp only [T.cl]; exact qcL ih
def frzH (D : Nat → Bool) (H : Heap) : Heap := fun i => if D i then H i else match H i with | .free => .free | _ => .dead
def qoh (A : Sta) (μ : Nat → Nat) (H : Heap) (D : Nat → Bool) : Sta := fun b o => A b o ∨ ∃ i, D i = false ∧ (H i).owns = true ∧ μ i = b
section
variable {w : World} {A : Sta} {μ : Nat → Nat} {H H' : Heap} {D : Nat → Bool} {v : Value} {x y : T}
theorem qoK {i : Nat} (h : D i = true) : frzH D H i = H i := by simp [frzH, h]
theorem qqo {i : Nat} (h : D i = false) : (frzH D H i).owns = false := by
 simp only [frzH, h, Bool.false_eq_true, if_false]
 cases H i <;> rfl
theorem Fz.rep (hS : Sim w A μ H) (h : Fz H D x y) : ∀ v, Rep w A μ H v x → Rep w (qoh A μ H D) μ (frzH D H) v y := by
 induction h with
 | same h => exact fun v hr => (hr.sub (H' := frzH D H) h (fun i hi => qoK hi)).more fun b o ha => .inl ha
 | nil => intro v hr; cases hr; exact .lnil
 | agg hl h1 h ih => intro v hr; cases hr with | agg us _ hn _ hR => exact .agg _ _ (hn.trans hl) h1 fun i hi => ih i (by omega) _ (hR i (by omega))
 | tup hl h ih => intro v hr; cases hr with | tup us _ hn hR => exact .tup _ _ (hn.trans hl) fun i hi => ih i (by omega) _ (hR i (by omega))
 | fn hl h ih => intro v hr; cases hr with | fn _ us _ hn hR => exact .fn _ _ _ (hn.trans hl) fun i hi => ih i (by omega) _ (hR i (by omega))
 | @sl id tot e off n b xs hb hd ht hf hn hs h1 h ih =>
  intro v hr
  cases hr with
  | slS p c _ _ _ _ _ hnc hst =>
   rcases hst with hd | ⟨b', hb', hl'⟩
   ·rw [hb] at hd; cases hd
   ·rw [hb] at hb'; injection hb' with hb'; subst hb'; omega
  | sl _ _ _ _ _ c b0 cur hb0 ht0 hcur hnc hmx hcc hff =>
   rw [hb] at hb0
   injection hb0 with hb0
   subst hb0
   obtain ⟨cur', g1, g2, g3, g4⟩ := hS.blk id b hb
   rw [hcur] at g1
   injection g1 with g1
   injection g1 with g1
   subst g1
   have hfl := qck hs
   subst hn
   refine .list _ _ (esz e) xs (fun q => cur.getD (off + q) Go.undef) hs hnc h1 (fun q hq => .inr ⟨id, hd, by simp [hb, Slot.owns], rfl⟩) (fun q hq => ?_) (fun q hq => ih q (by omega) _ (g4 _ (by omega)))
   rw [qdb]
   have : off + q < cur.size := by omega
   simp [World.cell?, hcur, this]
 | @ref id tot off b cs hb hd ht hf h1 h ih =>
  intro v hr
  cases hr with
  | refS p _ _ _ hst =>
   rcases hst with hd | ⟨b', hb', hl'⟩
   ·rw [hb] at hd; cases hd
   ·rw [hb] at hb'; injection hb' with hb'; subst hb'; omega
  | ref _ _ _ b0 hb0 ht0 =>
   obtain ⟨cur, g1, g2, g3, g4⟩ := hS.blk id b hb
   refine .ptr _ cs (fun q => cur.getD (off + q) Go.undef) h1 (fun q hq => .inr ⟨id, hd, by simp [hb, Slot.owns], rfl⟩) (fun q hq => ?_) (fun q hq => ih q hq _ (g4 _ (by omega)))
   rw [qdb]
   have : off + q < cur.size := by omega
   simp [World.cell?, g1, this]
inductive SShape : Slot → Slot → Prop
 | free : SShape .free .free
 | dead : SShape .dead .dead
 | live {b b' : Blk} (h1 : b'.ty = b.ty) (h2 : b'.cs.length = b.cs.length) : SShape (.live b) (.live b')
 | map (es es' : List (T × T)) : SShape (.map es) (.map es')
theorem SShape.refl : ∀ s : Slot, SShape s s
 | .free => .free
 | .dead => .dead
 | .live b => .live rfl rfl
 | .map es => .map es es
theorem SShape.stale {id tot : Nat} (hs : qfQ H id tot) (h : SShape (H id) (H' id)) : qfQ H' id tot := by
 rcases hs with hd | ⟨b, hb, hl⟩
 ·rw [hd] at h; cases hh : H' id with
  | dead => exact .inl hh
  | _ => rw [hh] at h; cases h
 ·rw [hb] at h; cases hh : H' id with
  | live b' => rw [hh] at h; cases h with | live h1 h2 => exact .inr ⟨b', hh, by omega⟩
  | _ => rw [hh] at h; cases h
theorem SShape.get {b : Blk} {s : Slot} (h : SShape (.live b) s) : ∃ b', s = .live b' ∧ b'.ty = b.ty ∧ b'.cs.length = b.cs.length := by
 cases h with | live h1 h2 => exact ⟨_, rfl, h1, h2⟩
theorem Rep.shape (h : Rep w A μ H v x) (hH : ∀ i, SShape (H i) (H' i)) : Rep w A μ H' v x := by
 induction h with
 | undef v => exact .undef v
 | bool b => exact .bool b
 | int k n => exact .int k n
 | str s => exact .str s
 | agg us cs hn h1 _ ih => exact .agg us cs hn h1 ih
 | tup us vs hn _ ih => exact .tup us vs hn ih
 | list a c k xs U hk hc h1 hA hU _ ih => exact .list a c k xs U hk hc h1 hA hU ih
 | lnil => exact .lnil
 | nil => exact .nil
 | emp p => exact .emp p
 | ptr a cs U h1 hA hU _ ih => exact .ptr a cs U h1 hA hU ih
 | nilp => exact .nilp
 | fn f us caps hn _ ih => exact .fn f us caps hn ih
 | nilfn => exact .nilfn
 | ref id tot off b hb ht =>
  have := hH id
  rw [hb] at this
  obtain ⟨b', e, h1, h2⟩ := this.get
  exact .ref id tot off b' e (by omega)
 | refS p id tot off hs => exact .refS _ _ _ _ (SShape.stale hs (hH id))
 | sl id tot e off n c b cur hb ht hcur hn hm hc hf =>
  have := hH id
  rw [hb] at this
  obtain ⟨b', e', h1, h2⟩ := this.get
  exact .sl id tot e off n c b' cur e' (by omega) (by rw [h1]; exact hcur) hn hm hc hf
 | slS p c id tot e off n hn hs => exact .slS _ _ _ _ _ _ _ hn (SShape.stale hs (hH id))
 | mp id es he =>
  have := hH id
  rw [he] at this
  cases hh : H' id with
  | map es' => exact .mp id es' hh
  | _ => rw [hh] at this; cases this
 | mpS v id hd =>
  have := hH id
  rw [hd] at this
  cases hh : H' id with
  | dead => exact .mpS _ _ hh
  | _ => rw [hh] at this; cases this
 | nilmp => exact .nilmp
inductive SlotFz (H : Heap) (D : Nat → Bool) : Slot → Slot → Prop
 | free : SlotFz H D .free .free
 | dead : SlotFz H D .dead .dead
 | live {ty : TypeId} {cs cs' : List T} (hl : cs.length = cs'.length) (h1 : Ones cs') (h : ∀ i, i < cs.length → Fz H D (cs.getD i .undef) (cs'.getD i .undef)) : SlotFz H D (.live ⟨ty, cs⟩) (.live ⟨ty, cs'⟩)
 | map {es : List (T × T)} (h : ∀ e ∈ es, e.1.cl D = true ∧ e.2.cl D = true) : SlotFz H D (.map es) (.map es)
theorem SlotFz.shape {s s' : Slot} (h : SlotFz H D s s') : SShape s s' := by
 cases h with
 | free => exact .free
 | dead => exact .dead
 | live hl h1 h => exact .live rfl hl.symm
 | map h => exact .map _ _
structure HFz (D : Nat → Bool) (H H' : Heap) : Prop where
 out : ∀ i, D i = false → H' i = frzH D H i
 inn : ∀ i, D i = true → SlotFz H D (H i) (H' i)
theorem HFz.shape (h : HFz D H H') (i : Nat) : SShape (frzH D H i) (H' i) := by
 cases hd : D i with
 | true => rw [qoK hd]; exact (h.inn i hd).shape
 | false => rw [h.out i hd]; exact .refl _
theorem HFz.owns (h : HFz D H H') {i : Nat} (hi : (H' i).owns = true) : D i = true ∧ (H i).owns = true := by
 cases hd : D i with
 | false => rw [h.out i hd, qqo hd] at hi; cases hi
 | true =>
  refine ⟨rfl, ?_⟩
  have h1 := h.inn i hd
  generalize H i = s at h1
  generalize H' i = s' at h1 hi
  cases h1 <;> simp_all [Slot.owns]
theorem HFz.rep (hz : HFz D H H') (hS : Sim w A μ H) (h : Fz H D x y) (hr : Rep w A μ H v x) : Rep w (qoh A μ H D) μ H' v y := (h.rep hS v hr).shape hz.shape
theorem HFz.sim (hz : HFz D H H') (hS : Sim w A μ H) : Sim w (qoh A μ H D) μ H' where
 inj i j hi hj hij := hS.inj i j (hz.owns hi).2 (hz.owns hj).2 hij
 blk i b hb := by
  have ho := hz.owns (i := i) (by rw [hb]; rfl)
  have h1 := hz.inn i ho.1
  rw [hb] at h1
  cases hs : H i with
  | live b0 =>
   rw [hs] at h1
   cases h1 with
   | live hl ho1 h =>
    obtain ⟨cur, g1, g2, g3, g4⟩ := hS.blk i _ hs
    refine ⟨cur, g1, ?_, ho1, fun k hk => hz.rep hS (h k ?_) (g4 k ?_)⟩
    ·simp only at g2 ⊢; omega
    ·simp only at hk; omega
    ·simp only at hk ⊢; omega
  | _ => rw [hs] at h1; cases h1
 map i es hb := by
  have ho := hz.owns (i := i) (by rw [hb]; rfl)
  have h1 := hz.inn i ho.1
  rw [hb] at h1
  cases hs : H i with
  | map es0 =>
   rw [hs] at h1
   cases h1 with
   | map h =>
    obtain ⟨ents, cl, g1, g2, g3⟩ := hS.map i _ hs
    refine ⟨ents, cl, g1, g2, fun k hk => ?_⟩
    have hm := h (es.getD k (.undef, .undef)) (by rw [List.getD_eq_getElem?_getD, List.getElem?_eq_getElem hk]; exact List.getElem_mem hk)
    exact ⟨hz.rep hS (.same hm.1) (g3 k hk).1, hz.rep hS (.same hm.2) (g3 k hk).2⟩
  | _ => rw [hs] at h1; cases h1
 dis i hi o ha := by
  have ho := hz.owns hi
  rcases ha with ha | ⟨j, hj, hj2, hij⟩
  ·exact hS.dis i ho.2 o ha
  ·have := hS.inj i j ho.2 hj2 hij.symm
   subst this
   rw [ho.1] at hj
   cases hj
 sta b o ha := by
  rcases ha with ha | ⟨i, _, hi, rfl⟩
  ·exact hS.sta b o ha
  ·exact hS.lt hi
theorem HFz.trans (hz : HFz D H H') : Trans w A μ H w (qoh A μ H D) μ H' where
 os := rfl
 tape := ⟨rfl, Nat.le_refl _⟩
 output := rfl
 size := Nat.le_refl _
 un b hb hn := ⟨rfl, fun i hi => hn i (hz.owns hi).2⟩
 st b o ha hb := ⟨.inl ha, rfl⟩
 an b o ha := by
  rcases ha with ha | ⟨i, _, hi, hb⟩
  ·exact .inl ha
  ·exact .inr (.inr ⟨i, hi, hb⟩)
 own i b hb := by
  cases hd : D i with
  | false => left; rw [hz.out i hd]; simp [frzH, hd, hb]
  | true =>
   have h1 := hz.inn i hd
   rw [hb] at h1
   cases hs : H' i with
   | live b' =>
    rw [hs] at h1
    cases h1 with
    | live hl ho h => exact .inr ⟨_, rfl, .inr ⟨hl.symm, rfl, rfl, fun cur hc => ⟨cur, hc, rfl⟩⟩⟩
   | _ => rw [hs] at h1; cases h1
 map i es hb := by
  cases hd : D i with
  | false => left; rw [hz.out i hd]; simp [frzH, hd, hb]
  | true =>
   have h1 := hz.inn i hd
   rw [hb] at h1
   cases hs : H' i with
   | map es' => exact .inr ⟨es', rfl, rfl⟩
   | _ => rw [hs] at h1; cases h1
 dead i hd := by
  cases hD : D i with
  | false => rw [hz.out i hD]; simp [frzH, hD, hd]
  | true =>
   have h1 := hz.inn i hD
   rw [hd] at h1
   cases hs : H' i with
   | dead => rfl
   | _ => rw [hs] at h1; cases h1
end
theorem qpZ {env env' : Nat → T} {H H' : Heap} (D : Nat → Bool) (he : ∀ t, env' t = .undef ∨ Fz H D (env t) (env' t)) (hz : HFz D H H') : Weak env H env' H' := by
 intro w A μ a hE hS
 refine ⟨qoh A μ H D, μ, fun t => ?_, hz.sim hS, hz.trans⟩
 rcases he t with h | h
 ·rw [h]; exact .undef _
 ·exact hz.rep hS h (hE t)
inductive EFz (H : Heap) (D : Nat → Bool) : List (Nat × T) → List (Nat × T) → Prop
 | nil : EFz H D [] []
 | cons {t : Nat} {x y : T} {l l' : List (Nat × T)} (h : Fz H D x y) (hl : EFz H D l l') : EFz H D ((t, x) :: l) ((t, y) :: l')
 | drop {t : Nat} {x : T} {l l' : List (Nat × T)} (hl : EFz H D l l') : EFz H D ((t, x) :: l) ((t, .undef) :: l')
theorem EFz.get {H : Heap} {D : Nat → Bool} {l l' : List (Nat × T)} (h : EFz H D l l') (t : Nat) : ofL l' t = .undef ∨ Fz H D (ofL l t) (ofL l' t) := by
 induction h with
 | nil => exact .inl rfl
 | @cons s x y l l' h hl ih =>
  simp only [qc8]
  split
  ·exact .inr h
  ·exact ih
 | @drop s x l l' hl ih =>
  simp only [qc8]
  split
  ·exact .inl rfl
  ·exact ih
inductive LFz (H : Heap) (ids : List Nat) : List (Nat × Slot) → List (Nat × Slot) → Prop
 | nil : LFz H ids [] []
 | keep {i : Nat} {s s' : Slot} {l l' : List (Nat × Slot)} (hi : inL ids i = true) (h : SlotFz H (inL ids) s s') (hl : LFz H ids l l') : LFz H ids ((i, s) :: l) ((i, s') :: l')
 | dead {i : Nat} {s : Slot} {l l' : List (Nat × Slot)} (hi : inL ids i = false) (hs : s ≠ .free) (hl : LFz H ids l l') : LFz H ids ((i, s) :: l) ((i, .dead) :: l')
theorem LFz.hfz {H : Heap} {ids : List Nat} {l l' : List (Nat × Slot)} (h : LFz H ids l l') : (∀ i, inL ids i = false → hpL l' i = frzH (inL ids) (hpL l) i) ∧ (∀ i, inL ids i = true → SlotFz H (inL ids) (hpL l i) (hpL l' i)) := by
 induction h with
 | nil => exact ⟨fun i hi => by simp [hpL, frzH, hi], fun i hi => .free⟩
 | @keep j s s' l l' hj h hl ih =>
  refine ⟨fun i hi => ?_, fun i hi => ?_⟩
  ·have hne : i ≠ j := fun e => by subst e; rw [hi] at hj; cases hj
   have := ih.1 i hi
   simp only [frzH, qaG, hne, if_false] at this ⊢
   exact this
  ·simp only [qaG]
   split
   ·exact h
   ·exact ih.2 i hi
 | @dead j s l l' hj hs hl ih =>
  refine ⟨fun i hi => ?_, fun i hi => ?_⟩
  ·have := ih.1 i hi
   simp only [frzH, qaG] at this ⊢
   by_cases e : i = j
   ·subst e
    simp only [if_true, hi, Bool.false_eq_true, if_false]
    try (cases s <;> simp_all)
   ·simp only [e, if_false]
    try exact this
  ·have hne : i ≠ j := fun e => by subst e; rw [hi] at hj; cases hj
   simp only [qaG, hne, if_false]
   exact ih.2 i hi
theorem qcx {P : Program} {N : Nat} {c : ICode} {Q : IExit → (Nat → T) → Heap → Prop} {l l' : List (Nat × T)} {hl hl' : List (Nat × Slot)} (ids : List Nat) (he : EFz (hpL hl) (inL ids) l l') (hz : LFz (hpL hl) ids hl hl') (h : W P N c (ofL l') (hpL hl') Q) : W P N c (ofL l) (hpL hl) Q :=
 qrd (qpZ (inL ids) he.get ⟨hz.hfz.1, hz.hfz.2⟩) h
theorem TC.frz {P : Program} {f : FuncId} {args : List T} {H H1 H2 : Heap} {r r' : T} (D : Nat → Bool) (h : TC P f args H r H1) (hr : Fz H1 D r r') (hz : HFz D H1 H2) : TC P f args H r' H2 := by
 refine ⟨h.1, fun w A μ vs hS hR => (h.2 w A μ vs hS hR).mono ?_⟩
 rintro e w2 ⟨v, A2, μ2, rfl, k1, k2, k3⟩
 exact ⟨v, _, μ2, rfl, hz.rep k2 hr k1, hz.sim k2, k3.trans hz.trans⟩
theorem qqL {H : Heap} {ids : List Nat} {l l' : List (Nat × Slot)} (h : LFz H ids l l') : ((qap ids l').all fun p => p.2.cl (inL ids)) = true := by
 induction h with
 | nil => rfl
 | @keep i s s' l l' hi h hl ih =>
  simp only [qap, hi, if_true, List.all_cons, ih, Bool.and_true]
  cases h with
  | free => rfl
  | dead => rfl
  | live hl' h1 h => simp only [Slot.cl]; exact qcL fun i hi' => (h i (by omega)).cl
  | map h =>
   simp only [Slot.cl]
   rw [List.all_eq_true]
   intro e he
   simp [h e he]
 | dead hi hs hl ih => simp only [qap, hi, Bool.false_eq_true, if_false, ih]
theorem qli {P : Program} {f : FuncId} {N : Nat} {ic : ICode} {rs : List (Nat × Option Nat)} {args : List T} {l0 l2 : List (Nat × Slot)} {r : T} (ids : List Nat) (h : FnOk P f N rs ic) (hn : args.length ≤ N) (h0 : (l0.all fun p => inL ids p.1) = true)
 (hw : W P N ic (ofL (argL 0 args)) (hpL l0) fun e env' H'' => (e = .ret ∨ e = .normal) ∧ ∃ x hl hl', resT env' H'' rs = some x ∧ H'' = hpL hl ∧ Fz (hpL hl) (inL ids) x r ∧ LFz (hpL hl) ids hl hl' ∧ qap ids hl' = l2) : TC P f args (hpL l0) r (hpL l2) := by
 obtain ⟨e, env', H'', h1, h2, x, hl, hl', h3, h4, h5, h6, h7⟩ := hw
 subst h4 h7
 have hc := qcg h hn ⟨e, env', hpL hl, h1, h2, h3, rfl⟩
 have hf := hc.frz (inL ids) h5 ⟨h6.hfz.1, h6.hfz.2⟩
 exact qb6 ids hf h0 h5.cl (qqL h6)
mutual
def T.ren (σ : Nat → Nat) : T → T
 | .agg cs => .agg (renL σ cs)
 | .tup vs => .tup (renL σ vs)
 | .list xs => .list (renL σ xs)
 | .ptr cs => .ptr (renL σ cs)
 | .fn f cs => .fn f (renL σ cs)
 | .ref id t o => .ref (σ id) t o
 | .sl id t e o n => .sl (σ id) t e o n
 | .mp id => .mp (σ id)
 | .undef => .undef
 | .bool b => .bool b
 | .int k n => .int k n
 | .str s => .str s
 | .nil => .nil
 | .emp => .emp
 | .nilp => .nilp
 | .nilfn => .nilfn
 | .nilmp => .nilmp
def renL (σ : Nat → Nat) : List T → List T
 | [] => []
 | x :: xs => x.ren σ :: renL σ xs
end
theorem qeg (σ : Nat → Nat) : ∀ xs, renL σ xs = xs.map (T.ren σ)
 | [] => rfl
 | x :: xs => by simp [renL, qeg σ xs]
theorem qbb (σ : Nat → Nat) (xs : List T) : (renL σ xs).length = xs.length := by rw [qeg, List.length_map]
theorem qdC (σ : Nat → Nat) (xs : List T) (i : Nat) : (renL σ xs).getD i .undef = (xs.getD i .undef).ren σ := by
 rw [qeg]
 simp only [List.getD_eq_getElem?_getD, List.getElem?_map]
 cases xs[i]? <;> rfl
theorem qjx (σ : Nat → Nat) (x : T) : (x.ren σ).cells = renL σ x.cells := by cases x <;> rfl
theorem qkT (σ : Nat → Nat) (xs ys : List T) : renL σ (xs ++ ys) = renL σ xs ++ renL σ ys := by simp [qeg]
theorem qfY (σ : Nat → Nat) : ∀ xs, flat (renL σ xs) = renL σ (flat xs)
 | [] => rfl
 | x :: xs => by rw [renL, qbe, qbe, qkT, qjx, qfY σ xs]
theorem qrT (σ : Nat → Nat) (x : T) : (x.ren σ).one = x.one := by cases x <;> rfl
theorem qf1 {σ : Nat → Nat} {xs : List T} (h : Ones xs) : Ones (renL σ xs) := by
 intro c hc
 rw [qeg] at hc
 obtain ⟨x, hx, rfl⟩ := List.mem_map.1 hc
 rw [qrT]; exact h x hx
theorem qok {σ : Nat → Nat} {k : Nat} {xs : List T} (h : qcA k xs) : qcA k (renL σ xs) := by
 intro c hc
 rw [qeg] at hc
 obtain ⟨x, hx, rfl⟩ := List.mem_map.1 hc
 rw [qjx, qbb]; exact h x hx
mutual
theorem T.ren_ren {σ τ : Nat → Nat} (h : ∀ i, τ (σ i) = i) : ∀ x : T, (x.ren σ).ren τ = x
 | .agg cs => by simp only [T.ren, qcY h cs]
 | .tup cs => by simp only [T.ren, qcY h cs]
 | .list cs => by simp only [T.ren, qcY h cs]
 | .ptr cs => by simp only [T.ren, qcY h cs]
 | .fn f cs => by simp only [T.ren, qcY h cs]
 | .ref id t o => by simp only [T.ren, h]
 | .sl id t e o n => by simp only [T.ren, h]
 | .mp id => by simp only [T.ren, h]
 | .undef => rfl
 | .bool b => rfl
 | .int k n => rfl
 | .str s => rfl
 | .nil => rfl
 | .emp => rfl
 | .nilp => rfl
 | .nilfn => rfl
 | .nilmp => rfl
theorem qcY {σ τ : Nat → Nat} (h : ∀ i, τ (σ i) = i) : ∀ xs : List T, renL τ (renL σ xs) = xs
 | [] => rfl
 | x :: xs => by simp only [renL, T.ren_ren h x, qcY h xs]
end
mutual
theorem T.ren_fro {σ : Nat → Nat} : ∀ x : T, x.fro = true → x.ren σ = x
 | .agg cs, h => by simp only [T.cl] at h; simp only [T.ren, qbZ cs h]
 | .tup cs, h => by simp only [T.cl] at h; simp only [T.ren, qbZ cs h]
 | .list cs, h => by simp only [T.cl] at h; simp only [T.ren, qbZ cs h]
 | .ptr cs, h => by simp only [T.cl] at h; simp only [T.ren, qbZ cs h]
 | .fn f cs, h => by simp only [T.cl] at h; simp only [T.ren, qbZ cs h]
 | .ref id t o, h => by simp [T.cl] at h
 | .sl id t e o n, h => by simp [T.cl] at h
 | .mp id, h => by simp [T.cl] at h
 | .undef, _ => rfl
 | .bool b, _ => rfl
 | .int k n, _ => rfl
 | .str s, _ => rfl
 | .nil, _ => rfl
 | .emp, _ => rfl
 | .nilp, _ => rfl
 | .nilfn, _ => rfl
 | .nilmp, _ => rfl
theorem qbZ {σ : Nat → Nat} : ∀ xs : List T, froL xs = true → renL σ xs = xs
 | [], _ => rfl
 | x :: xs, h => by
  simp only [clL, Bool.and_eq_true] at h
  simp only [renL, T.ren_fro x h.1, qbZ xs h.2]
end
def Slot.ren (σ : Nat → Nat) : Slot → Slot
 | .live b => .live ⟨b.ty, renL σ b.cs⟩
 | .map es => .map (es.map fun e => (e.1.ren σ, e.2.ren σ))
 | s => s
theorem Slot.ren_ren {σ τ : Nat → Nat} (h : ∀ i, τ (σ i) = i) (s : Slot) : (s.ren σ).ren τ = s := by
 cases s with
 | live b => simp only [Slot.ren, qcY h]
 | map es =>
  simp only [Slot.ren, List.map_map]
  congr 1
  conv => rhs; rw [← List.map_id es]
  apply List.map_congr_left
  intro e _
  simp [T.ren_ren h]
 | _ => rfl
theorem Slot.ren_owns (σ : Nat → Nat) (s : Slot) : (s.ren σ).owns = s.owns := by cases s <;> rfl
def renH (σ τ : Nat → Nat) (H : Heap) : Heap := fun j => (H (τ j)).ren σ
theorem qjq {σ τ : Nat → Nat} (h : ∀ i, τ (σ i) = i) (H : Heap) : renH τ σ (renH σ τ H) = H := by
 funext i
 simp only [renH, h, Slot.ren_ren h]
section
variable {w w' : World} {A A' : Sta} {μ μ' : Nat → Nat} {H H' : Heap} {v : Value} {x : T} {σ τ : Nat → Nat}
theorem qfQ.ren (h : ∀ i, τ (σ i) = i) {id tot : Nat} (hs : qfQ H id tot) : qfQ (renH σ τ H) (σ id) tot := by
 rcases hs with hd | ⟨b, hb, hl⟩
 ·left; simp [renH, h, hd, Slot.ren]
 ·right; exact ⟨⟨b.ty, renL σ b.cs⟩, by simp [renH, h, hb, Slot.ren], by simpa [qbb] using hl⟩
theorem Rep.ren (h : ∀ i, τ (σ i) = i) (hr : Rep w A μ H v x) : Rep w A (fun j => μ (τ j)) (renH σ τ H) v (x.ren σ) := by
 induction hr with
 | undef v => exact .undef v
 | bool b => exact .bool b
 | int k n => exact .int k n
 | str s => exact .str s
 | agg us cs hn h1 _ ih => exact .agg us _ (by rw [qbb]; exact hn) (qf1 h1) fun i hi => by rw [qdC]; exact ih i (by rw [qbb] at hi; exact hi)
 | tup us vs hn _ ih => exact .tup us _ (by rw [qbb]; exact hn) fun i hi => by rw [qdC]; exact ih i (by rw [qbb] at hi; exact hi)
 | list a c k xs U hk hc h1 hA hU _ ih =>
  have e : xs.length = (renL σ xs).length := (qbb σ xs).symm
  have el : (flat (renL σ xs)).length = (flat xs).length := by rw [qfY, qbb]
  simp only [T.ren]
  rw [e]
  exact .list a c k _ U (qok hk) (by rw [← e]; exact hc) (by rw [qfY]; exact qf1 h1) (fun p hp => hA p (by omega)) (fun p hp => hU p (by omega)) fun p hp => by rw [qfY, qdC]; exact ih p (by omega)
 | lnil => exact .lnil
 | nil => exact .nil
 | emp p => exact .emp p
 | ptr a cs U h1 hA hU _ ih => exact .ptr a _ U (qf1 h1) (fun p hp => hA p (by rw [qbb] at hp; exact hp)) (fun p hp => hU p (by rw [qbb] at hp; exact hp)) fun p hp => by rw [qdC]; exact ih p (by rw [qbb] at hp; exact hp)
 | nilp => exact .nilp
 | fn f us caps hn _ ih => exact .fn f us _ (by rw [qbb]; exact hn) fun i hi => by rw [qdC]; exact ih i (by rw [qbb] at hi; exact hi)
 | nilfn => exact .nilfn
 | ref id tot off b hb ht =>
  have := Rep.ref (w := w) (A := A) (μ := fun j => μ (τ j)) (H := renH σ τ H) (σ id) tot off ⟨b.ty, renL σ b.cs⟩ (by simp [renH, h, hb, Slot.ren]) (by simpa [qbb] using ht)
  simpa [h, T.ren] using this
 | refS p id tot off hs => exact .refS _ _ _ _ (hs.ren h)
 | sl id tot e off n c b cur hb ht hcur hn hm hc hf =>
  have := Rep.sl (w := w) (A := A) (μ := fun j => μ (τ j)) (H := renH σ τ H) (σ id) tot e off n c ⟨b.ty, renL σ b.cs⟩ cur (by simp [renH, h, hb, Slot.ren]) (by simpa [qbb] using ht) (by simpa [h] using hcur) hn hm hc hf
  simpa [h, T.ren] using this
 | slS p c id tot e off n hn hs => exact .slS _ _ _ _ _ _ _ hn (hs.ren h)
 | mp id es he =>
  have := Rep.mp (w := w) (A := A) (μ := fun j => μ (τ j)) (H := renH σ τ H) (σ id) (es.map fun e => (e.1.ren σ, e.2.ren σ)) (by simp [renH, h, he, Slot.ren])
  simpa [h, T.ren] using this
 | mpS v id hd => exact .mpS _ _ (by simp [renH, h, hd, Slot.ren])
 | nilmp => exact .nilmp
theorem qkg (h' : ∀ j, σ (τ j) = j) {j : Nat} {b : Blk} (hb : renH σ τ H j = .live b) : ∃ b0, H (τ j) = .live b0 ∧ b = ⟨b0.ty, renL σ b0.cs⟩ := by
 simp only [renH] at hb
 cases hs : H (τ j) <;> rw [hs] at hb <;> simp [Slot.ren] at hb
 exact ⟨_, rfl, hb.symm⟩
theorem qlE {j : Nat} {es : List (T × T)} (hb : renH σ τ H j = .map es) : ∃ es0, H (τ j) = .map es0 ∧ es = es0.map fun e => (e.1.ren σ, e.2.ren σ) := by
 simp only [renH] at hb
 cases hs : H (τ j) <;> rw [hs] at hb <;> simp [Slot.ren] at hb
 exact ⟨_, rfl, hb.symm⟩
theorem qdJ {j : Nat} : (renH σ τ H j).owns = (H (τ j)).owns := Slot.ren_owns _ _
theorem Sim.ren (h : ∀ i, τ (σ i) = i) (h' : ∀ j, σ (τ j) = j) (hS : Sim w A μ H) : Sim w A (fun j => μ (τ j)) (renH σ τ H) where
 inj i j hi hj hij := by
  rw [qdJ] at hi hj
  have := hS.inj _ _ hi hj hij
  rw [← h' i, ← h' j, this]
 blk i b hb := by
  obtain ⟨b0, hb0, rfl⟩ := qkg h' hb
  obtain ⟨cur, g1, g2, g3, g4⟩ := hS.blk _ _ hb0
  exact ⟨cur, g1, by simpa [qbb] using g2, qf1 g3, fun k hk => by simp only [qdC]; exact (g4 k (by simpa [qbb] using hk)).ren h⟩
 map i es hb := by
  obtain ⟨es0, he0, rfl⟩ := qlE hb
  obtain ⟨ents, cl, g1, g2, g3⟩ := hS.map _ _ he0
  refine ⟨ents, cl, g1, by simpa using g2, fun k hk => ?_⟩
  have hk' : k < es0.length := by simpa using hk
  have e : (es0.map fun e => (e.1.ren σ, e.2.ren σ)).getD k (.undef, .undef) = ((es0.getD k (.undef, .undef)).1.ren σ, (es0.getD k (.undef, .undef)).2.ren σ) := by
   simp [List.getD_eq_getElem?_getD, List.getElem?_eq_getElem hk']
  rw [e]
  exact ⟨(g3 k hk').1.ren h, (g3 k hk').2.ren h⟩
 dis i hi := by rw [qdJ] at hi; exact hS.dis _ hi
 sta := hS.sta
theorem Trans.ren (h : ∀ i, τ (σ i) = i) (h' : ∀ j, σ (τ j) = j) (ht : Trans w A μ H w' A' μ' H') : Trans w A (fun j => μ (τ j)) (renH σ τ H) w' A' (fun j => μ' (τ j)) (renH σ τ H') where
 os := ht.os
 tape := ht.tape
 output := ht.output
 size := ht.size
 un b hb hn := by
  obtain ⟨g1, g2⟩ := ht.un b hb fun i hi => by
   have := hn (σ i) (by rw [qdJ, h]; exact hi)
   simpa [h] using this
  exact ⟨g1, fun i hi => g2 _ (by rw [qdJ] at hi; exact hi)⟩
 st := ht.st
 an b o ha := by
  rcases ht.an b o ha with g | g | ⟨i, hi, hb⟩
  ·exact .inl g
  ·exact .inr (.inl g)
  ·exact .inr (.inr ⟨σ i, by rw [qdJ, h]; exact hi, by simpa [h] using hb⟩)
 own i b hb := by
  obtain ⟨b0, hb0, rfl⟩ := qkg h' hb
  rcases ht.own _ _ hb0 with g | ⟨b', g, g2⟩
  ·left; simp [renH, g, Slot.ren]
  ·right
   refine ⟨⟨b'.ty, renL σ b'.cs⟩, by simp [renH, g, Slot.ren], ?_⟩
   simpa [qbb] using g2
 map i es hb := by
  obtain ⟨es0, he0, rfl⟩ := qlE hb
  rcases ht.map _ _ he0 with g | ⟨es', g, g2⟩
  ·left; simp [renH, g, Slot.ren]
  ·right
   exact ⟨es'.map fun e => (e.1.ren σ, e.2.ren σ), by simp only [renH, g, Slot.ren], g2⟩
 dead i hd := by
  have : H (τ i) = .dead := by
   simp only [renH] at hd
   cases hs : H (τ i) <;> rw [hs] at hd <;> simp_all [Slot.ren]
  simp [renH, ht.dead _ this, Slot.ren]
end
theorem TC.ren {P : Program} {f : FuncId} {args : List T} {H H1 : Heap} {r : T} (σ τ : Nat → Nat) (s1 : ∀ i, τ (σ i) = i) (s2 : ∀ j, σ (τ j) = j) (h : TC P f args H r H1) : TC P f (renL σ args) (renH σ τ H) (r.ren σ) (renH σ τ H1) := by
 refine ⟨h.1, fun w A μ vs hS hR => ?_⟩
 have hS' := hS.ren (σ := τ) (τ := σ) s2 s1
 rw [qjq s1] at hS'
 refine (h.2 w A (fun j => μ (σ j)) vs hS' ⟨by rw [hR.1, qbb], fun i hi => ?_⟩).mono ?_
 ·have := (hR.2 i (by rw [qbb]; exact hi)).ren (σ := τ) (τ := σ) s2
  rw [qjq s1, qdC, T.ren_ren s1] at this
  exact this
 ·rintro e w2 ⟨v, A2, μ2, rfl, k1, k2, k3⟩
  have ht := k3.ren (σ := σ) (τ := τ) s1 s2
  simp only [s2] at ht
  exact ⟨v, A2, _, rfl, k1.ren s1, k2.ren s1 s2, ht⟩
def swp (a b : Nat) (i : Nat) : Nat := if i = a then b else if i = b then a else i
theorem qnH (a b i : Nat) : swp a b (swp a b i) = i := by
 unfold swp
 by_cases h1 : i = a <;> by_cases h2 : i = b <;> simp_all
theorem qje (σ τ : Nat → Nat) (s1 : ∀ i, τ (σ i) = i) (s2 : ∀ j, σ (τ j) = j) : ∀ l : List (Nat × Slot), renH σ τ (hpL l) = hpL (l.map fun p => (σ p.1, p.2.ren σ))
 | [] => by funext j; rfl
 | (i, s) :: l => by
  have ih := qje σ τ s1 s2 l
  funext j
  have hj := congrFun ih j
  simp only [renH, List.map_cons, qaG] at hj ⊢
  by_cases e : τ j = i
  ·have : j = σ i := by rw [← e, s2]
   subst this
   simp [s1]
  ·have : j ≠ σ i := fun e' => e (by rw [e', s1])
   simp only [e, this, if_false]
   exact hj
def swps : List (Nat × Nat) → Nat → Nat
 | [], i => i
 | (a, b) :: l, i => swps l (swp a b i)
def qmy : List (Nat × Nat) → Nat → Nat
 | [], i => i
 | (a, b) :: l, i => swp a b (qmy l i)
theorem qf7 : ∀ (l : List (Nat × Nat)) (i : Nat), qmy l (swps l i) = i
 | [], i => rfl
 | (a, b) :: l, i => by simp only [swps, qmy, qf7 l, qnH]
theorem swps_inv' : ∀ (l : List (Nat × Nat)) (i : Nat), swps l (qmy l i) = i
 | [], i => rfl
 | (a, b) :: l, i => by simp only [swps, qmy, qnH, swps_inv' l]
theorem qrl {P : Program} {f : FuncId} {args args' : List T} {l0 l0' l1 l1' : List (Nat × Slot)} {r r' : T} (s : List (Nat × Nat)) (h : TC P f args (hpL l0) r (hpL l1)) (ha : renL (swps s) args = args') (hl0 : (l0.map fun p => (swps s p.1, p.2.ren (swps s))) = l0') (hr : r.ren (swps s) = r') (hl1 : (l1.map fun p => (swps s p.1, p.2.ren (swps s))) = l1') : TC P f args' (hpL l0') r' (hpL l1') := by
 have := h.ren (swps s) (qmy s) (qf7 s) (swps_inv' s)
 rw [qje _ _ (qf7 s) (swps_inv' s), qje _ _ (qf7 s) (swps_inv' s), ha, hl0, hr, hl1] at this
 exact this
theorem qss {P : Program} {N : Nat} {a b : ICode} {env : Nat → T} {H : Heap} {Q : IExit → (Nat → T) → Heap → Prop} {x : Opd} {t : Bool} (hx : x.ev env = .bool t) (h1 : t = true → W P N a env H Q) (h2 : t = false → W P N b env H Q) : W P N (.cond x a b) env H Q :=
 qae hx (by cases t with
  | true => exact h1 rfl
  | false => exact h2 rfl)
section
variable {P : Program} {base j : Nat} {d : Option Nat} {rs : List IRow} {env : Nat → T} {H : Heap} {log : List LogE} {K : (Nat → T) → Heap → List LogE → Prop} {f : FuncId} {args : List Opd} {xs : List T} {v : T}
theorem qjz {t : Nat} {want b : Bool} (hb : env t = .bool b) (ha : (b == want) = true → args.map (·.ev env) = xs) (hc : (b == want) = true → TC P f xs (fun _ => .free) v (fun _ => .free)) (hf : froL xs = true)
 (h : RunR P base (j + 1) rs (putE env d (if (b == want) = true then v else .tup [])) H log K) : RunR P base j (⟨d, .call (.call f args), some (t, want)⟩ :: rs) env H log K := by
 cases hbw : (b == want) with
 | true =>
  rw [hbw] at h
  simp only [if_true] at h
  exact qdc (by simp [qbr, hb, hbw]) (ha hbw) (hc hbw) hf h
 | false =>
  rw [hbw] at h
  simp only [Bool.false_eq_true, if_false] at h
  exact qly (by simp [qbr, hb, hbw]) h
theorem qjR {t : Nat} {want b : Bool} {ys : List T} (C : List (Nat × Slot)) (hb : env t = .bool b) (ha : (b == want) = true → args.map (·.ev env) = xs) (hC : qcn H C) (hz : FrzL (hp C) xs ys) (hc : (b == want) = true → TP P f ys v) (hs : v.scal = true) (hcl : clL (fun i => decide (i ∈ C.map (·.1))) xs = true)
 (h : RunR P base (j + 1) rs (putE env d (if (b == want) = true then v else .tup [])) H (qbh j (C.map (·.1)) [] log) K) : RunR P base j (⟨d, .call (.call f args), some (t, want)⟩ :: rs) env H log K := by
 cases hbw : (b == want) with
 | true =>
  rw [hbw] at h
  simp only [if_true] at h
  exact qd2 C (by simp [qbr, hb, hbw]) (ha hbw) hC hz (hc hbw) hs hcl h
 | false =>
  rw [hbw] at h
  simp only [Bool.false_eq_true, if_false] at h
  refine ⟨.tup [], C.map (·.1), [], .inl ⟨by simp [qbr, hb, hbw], rfl, rfl⟩, ?_⟩
  exact h
end
theorem qoc {H : Heap} {C : List (Nat × Slot)} (h : (C.all fun p => match p.2 with | .free => false | _ => true) = true) (h1 : ∀ p ∈ C, H p.1 = hp C p.1) (h2 : (C.all fun p => (hp C p.1).cl (fun i => decide (i ∈ C.map (·.1)))) = true) : qcn H C := by
 intro p hp
 refine ⟨?_, h1 p hp, List.all_eq_true.1 h2 p hp⟩
 have := List.all_eq_true.1 h p hp
 intro e
 rw [e] at this
 cases this
theorem qph : ∀ (C : List (Nat × Slot)), (C.map (·.1)).Nodup → hp C = hpL C
 | [], _ => rfl
 | (i, s) :: C, h => by
  simp only [List.map_cons, List.nodup_cons] at h
  have ih := qph C h.2
  funext t
  show Heap.upd (Heap.set (fun _ => .free) i s) C t = _
  by_cases e : t = i
  ·subst e
   rw [qaU h.1]
   simp [Heap.set, hpL]
  ·simp only [qaG, e, if_false]
   rw [← ih]
   by_cases hm : t ∈ C.map (·.1)
   ·exact qjs hm
   ·rw [qaU hm, qfI hm, Heap.set_other _ _ e]
theorem Frz.aggL {H : Heap} {cs cs' : List T} (h : FrzL H cs cs') (h1 : (cs'.all T.one) = true) : Frz H (.agg cs) (.agg cs') := .agg h.1 (fun c hc => List.all_eq_true.1 h1 c hc) h.2
theorem Frz.tupL {H : Heap} {cs cs' : List T} (h : FrzL H cs cs') : Frz H (.tup cs) (.tup cs') := .tup h.1 h.2
theorem Frz.slL {H : Heap} {id tot e n ty : Nat} {cs xs : List T} (hb : H id = .live ⟨ty, cs⟩) (ht : cs.length = tot) (hn : xs.length = n) (hf : n * esz e = tot) (hs : (xs.all fun x => x.cells.length == esz e) = true) (h1 : ((flat xs).all T.one) = true) (h : FrzL H cs (flat xs)) : Frz H (.sl id tot e 0 n) (.list xs) := by
 refine Frz.sl hb ht (by omega) hn (fun x hx => by simpa using List.all_eq_true.1 hs x hx) (fun c hc => List.all_eq_true.1 h1 c hc) fun k hk => ?_
 rw [Nat.zero_add]
 exact h.2 k (by omega)
def FzL (H : Heap) (D : Nat → Bool) (xs ys : List T) : Prop := xs.length = ys.length ∧ ∀ i, i < xs.length → Fz H D (xs.getD i .undef) (ys.getD i .undef)
theorem FzL.nil {H : Heap} {D : Nat → Bool} : FzL H D [] [] := ⟨rfl, fun i hi => by cases hi⟩
theorem FzL.cons {H : Heap} {D : Nat → Bool} {x y : T} {xs ys : List T} (h : Fz H D x y) (t : FzL H D xs ys) : FzL H D (x :: xs) (y :: ys) := ⟨by simp [t.1], fun i hi => by
 cases i with
 | zero => exact h
 | succ i => exact t.2 i (by simpa using hi)⟩
theorem Fz.aggL {H : Heap} {D : Nat → Bool} {cs cs' : List T} (h : FzL H D cs cs') (h1 : (cs'.all T.one) = true) : Fz H D (.agg cs) (.agg cs') := .agg h.1 (fun c hc => List.all_eq_true.1 h1 c hc) h.2
theorem Fz.tupL {H : Heap} {D : Nat → Bool} {cs cs' : List T} (h : FzL H D cs cs') : Fz H D (.tup cs) (.tup cs') := .tup h.1 h.2
theorem Fz.slL {H : Heap} {D : Nat → Bool} {id tot e n ty : Nat} {cs xs : List T} (hb : H id = .live ⟨ty, cs⟩) (hd : D id = false) (ht : cs.length = tot) (hn : xs.length = n) (hf : n * esz e = tot) (hs : (xs.all fun x => x.cells.length == esz e) = true) (h1 : ((flat xs).all T.one) = true) (h : FzL H D cs (flat xs)) : Fz H D (.sl id tot e 0 n) (.list xs) := by
 refine Fz.sl hb hd ht (by omega) hn (fun x hx => by simpa using List.all_eq_true.1 hs x hx) (fun c hc => List.all_eq_true.1 h1 c hc) fun k hk => ?_
 rw [Nat.zero_add]
 exact h.2 k (by omega)
theorem SlotFz.liveL {H : Heap} {D : Nat → Bool} {ty : TypeId} {cs cs' : List T} (h : FzL H D cs cs') (h1 : (cs'.all T.one) = true) : SlotFz H D (.live ⟨ty, cs⟩) (.live ⟨ty, cs'⟩) := .live h.1 (fun c hc => List.all_eq_true.1 h1 c hc) h.2
theorem SlotFz.liveS {H : Heap} {D : Nat → Bool} {ty : TypeId} {cs : List T} (h : clL D cs = true) (h1 : Ones cs) : SlotFz H D (.live ⟨ty, cs⟩) (.live ⟨ty, cs⟩) := .live rfl h1 fun i hi => .same (qa7 h i)
def ovrH (H H1 : Heap) : Heap := fun i => match H i with | .free => H1 i | _ => .dead
theorem TC.give {P : Program} {f : FuncId} {xs ys : List T} {r : T} {H H1 : Heap} (h : TC P f ys (fun _ => .free) r H1) (hz : FrzL H xs ys) (hd : ∀ i, H1 i ≠ .free → H i = .free) : TC P f xs H r (ovrH H H1) := by
 refine ⟨h.1, fun w A μ vs hS hR => (h.2 w _ μ vs hS.kept (qiL hS hz hR)).mono ?_⟩
 rintro e w' ⟨v, A', μ', rfl, h1, h2, h3⟩
 have hc : ∀ i, H1 i ≠ .free → ovrH H H1 i = H1 i := fun i hi => by simp [ovrH, hd i hi]
 have hown : ∀ i, (ovrH H H1 i).owns = true → (H1 i).owns = true ∧ ovrH H H1 i = H1 i := fun i hi => by
  cases hh : H i with
  | free => simp only [ovrH, hh] at hi ⊢; exact ⟨hi, trivial⟩
  | _ => simp [ovrH, hh, Slot.owns] at hi
 have hlt : ∀ i, (H1 i).owns = true → μ' i < w.heap.size → ∀ j, (H j).owns = true → False := fun i hi hlt j hj => by
  have := (h3.un (μ' i) hlt (fun k hk => by cases hk)).2 i hi
  exact this rfl
 refine ⟨v, A', μ', rfl, h1.ext fun i hi => ⟨hc i hi, rfl⟩, ⟨fun i j hi hj hij => h2.inj i j (hown i hi).1 (hown j hj).1 hij, fun i b hb => ?_, fun i es hb => ?_, fun i hi => h2.dis i (hown i hi).1, h2.sta⟩,
  ⟨h3.os, h3.tape, h3.output, h3.size, fun b hb hn => ⟨(h3.un b hb fun i hi => by cases hi).1, fun i hi => (h3.un b hb fun i hi => by cases hi).2 i (hown i hi).1⟩, fun b o ha hb => h3.st b o (.inl ha) hb, fun b o ha => ?_, fun i b hb => .inl (by simp [ovrH, hb]), fun i es hb => .inl (by simp [ovrH, hb]), fun i hd => by simp [ovrH, hd]⟩⟩
 ·have ho := hown i (by rw [hb]; rfl)
  rw [ho.2] at hb
  obtain ⟨cur, a1, a2, a3, a4⟩ := h2.blk i b hb
  exact ⟨cur, a1, a2, a3, fun k hk => (a4 k hk).ext fun i hi => ⟨hc i hi, rfl⟩⟩
 ·have ho := hown i (by rw [hb]; rfl)
  rw [ho.2] at hb
  obtain ⟨ents, cl, a1, a2, a3⟩ := h2.map i es hb
  exact ⟨ents, cl, a1, a2, fun k hk => ⟨(a3 k hk).1.ext fun i hi => ⟨hc i hi, rfl⟩, (a3 k hk).2.ext fun i hi => ⟨hc i hi, rfl⟩⟩⟩
 ·rcases h3.an b o ha with ha | ha | ⟨k, hk, _⟩
  ·rcases ha with ha | ⟨i, hi, hb⟩
   ·exact .inl ha
   ·exact .inr (.inr ⟨i, hi, hb⟩)
  ·exact .inr (.inl ha)
  ·cases hk
theorem qmT (H : Heap) (U U' : List (Nat × Slot)) : H.upd (U ++ U') = (H.upd U).upd U' := by simp [Heap.upd, List.foldl_append]
theorem qpH (C U1 : List (Nat × Slot)) (hC : ∀ p ∈ C, p.2 ≠ .free) (hn : ∀ p ∈ U1, p.1 ∉ C.map (·.1)) : ovrH (hp C) (hp U1) = (hp C).upd ((C.map fun p => (p.1, .dead)) ++ U1) := by
 rw [qmT, ← qln C hC]
 funext i
 by_cases h1 : i ∈ U1.map (·.1)
 ·rw [qgh h1]
  have h2 : i ∉ C.map (·.1) := by
   obtain ⟨p, hp1, rfl⟩ := List.mem_map.1 h1
   exact hn p hp1
  simp [ovrH, qfI h2]
 ·rw [qaU h1]
  simp only [ovrH, qfI h1]
  cases hp C i <;> rfl
theorem qmI {P : Program} {base j : Nat} {d : Option Nat} {g : Option (Nat × Bool)} {rs : List IRow} {env : Nat → T} {H : Heap} {log : List LogE} {K : (Nat → T) → Heap → List LogE → Prop} {f : FuncId} {args : List Opd} {xs ys : List T} {v : T}
 (C U1 : List (Nat × Slot)) (hw : qbr env g = some true) (ha : args.map (·.ev env) = xs) (hC : qcn H C) (hz : FrzL (hp C) xs ys) (hc : TC P f ys (fun _ => .free) v (hp U1)) (hU : ∀ p ∈ U1, p.2 ≠ .free ∧ p.1 ∉ C.map (·.1) ∧ H p.1 = .free) (hcl : clL (fun i => decide (i ∈ C.map (·.1))) xs = true)
 (h : RunR P base (j + 1) rs (putE env d v) (H.upd ((C.map fun p => (p.1, .dead)) ++ U1)) (qbh j (C.map (·.1)) ((C.map fun p => (p.1, .dead)) ++ U1) log) K) : RunR P base j (⟨d, .call (.call f args), g⟩ :: rs) env H log K := by
 refine ⟨v, C.map (·.1), (C.map fun p => (p.1, .dead)) ++ U1, .inr ⟨hw, ?_⟩, h⟩
 show qc1 P f (args.map (·.ev env)) H v _ _
 rw [ha]
 have hCf : ∀ p ∈ C, p.2 ≠ .free := fun p hp => (hC p hp).1
 refine qc1.of ?_ hC (fun p hp => ?_) (fun p hp hn => ?_) hcl
 ·rw [← qpH C U1 hCf (fun p hp => (hU p hp).2.1)]
  refine hc.give hz fun i hi => ?_
  have := qmb hi
  obtain ⟨p, hp1, rfl⟩ := List.mem_map.1 this
  exact qfI (hU p hp1).2.1
 ·rcases List.mem_append.1 hp with hp | hp
  ·obtain ⟨q, hq, rfl⟩ := List.mem_map.1 hp
   simp
  ·exact (hU p hp).1
 ·rcases List.mem_append.1 hp with hp | hp
  ·obtain ⟨q, hq, rfl⟩ := List.mem_map.1 hp
   exact absurd (List.mem_map.2 ⟨q, hq, rfl⟩) hn
  ·exact (hU p hp).2.2
theorem cJ0  : True := trivial
theorem cJ2 {a b : Prop} (x : a) (y : b) : a ∧ b := ⟨x, y⟩
theorem cJ3 {a b c : Prop} (x : a) (y : b) (z : c) : a ∧ b ∧ c := ⟨x, y, z⟩
theorem cJ4 {a b c d : Prop} (x : a) (y : b) (z : c) (u : d) : a ∧ b ∧ c ∧ d := ⟨x, y, z, u⟩
theorem cJ5 {a b c d e : Prop} (x : a) (y : b) (z : c) (u : d) (v : e) : a ∧ b ∧ c ∧ d ∧ e := ⟨x, y, z, u, v⟩
theorem cJ6 {a b c d e f : Prop} (x : a) (y : b) (z : c) (u : d) (v : e) (w : f) : a ∧ b ∧ c ∧ d ∧ e ∧ f := ⟨x, y, z, u, v, w⟩
theorem cJ7 {a b c d e f g : Prop} (x : a) (y : b) (z : c) (u : d) (v : e) (w : f) (s : g) : a ∧ b ∧ c ∧ d ∧ e ∧ f ∧ g := ⟨x, y, z, u, v, w, s⟩
theorem cJ8 {a b c d e f g h : Prop} (x : a) (y : b) (z : c) (u : d) (v : e) (w : f) (s : g) (t : h) : a ∧ b ∧ c ∧ d ∧ e ∧ f ∧ g ∧ h := ⟨x, y, z, u, v, w, s, t⟩
section
variable {P : Program} {base j : Nat} {d : Option Nat} {g : Option (Nat × Bool)} {rs : List IRow} {env env' : Nat → T} {H H' : Heap} {log log' : List LogE} {K : (Nat → T) → Heap → List LogE → Prop} {f : FuncId} {args : List Opd} {xs ys : List T} {v : T} {F : Prop} {io : IOp} {o : IAct}
theorem eV {α : Type} {a b : α} (fx : F) (h : F → a = b := by intro fx; (simp only [reqC, runC, Opd.ev, qc8, qk9, qf4, qeM, qaG, qbm, qbc, qaA, qaO, qaX, qbr, binT, binI, shI, qdB, lenT, qgw, qk8, qfi, qi3, qgr, qk1, qg0, qkE, qfk, qh7, qhj, qkQ, qfh, qih, qiF, qop, qew, qgj, qg8, qkN, qiD, qo7, qig, qnM, qev, qgm, qgo, qk7, esz, mkEl, splice, qcr, loI, hiI, Nat.reduceEqDiff, reduceIte, if_true, if_false, Option.map_some, Option.map_none, List.map_cons, List.map_nil, List.length_cons, List.length_nil, List.drop_succ_cons, List.drop_zero, List.take_succ_cons, List.take_zero, List.cons_append, List.nil_append, List.append_nil, List.getD_cons_zero, List.getD_cons_succ, Nat.zero_add, Nat.add_zero, Nat.reduceAdd, Nat.reduceMul, Bool.false_eq_true, beq_self_eq_true, qbh, qoz, qn2, qnS, qrB, fx]); (first | done | rfl)) : a = b := h fx
theorem eVi {α : Type} {a b : α} (fx : F) (h : F → a = b := by intro fx; (simp only [reqC, runC, Opd.ev, qc8, qk9, qf4, qeM, qaG, qbm, qbc, qaA, qaO, qaX, qbr, binT, binI, shI, qdB, lenT, qgw, qk8, qfi, qi3, qgr, qk1, qg0, qkE, qfk, qh7, qhj, qkQ, qfh, qih, qiF, qop, qew, qgj, qg8, qkN, qiD, qo7, qig, qnM, qev, qgm, qgo, qk7, esz, mkEl, splice, qcr, loI, hiI, Nat.reduceEqDiff, reduceIte, if_true, if_false, Option.map_some, Option.map_none, List.map_cons, List.map_nil, List.length_cons, List.length_nil, List.drop_succ_cons, List.drop_zero, List.take_succ_cons, List.take_zero, List.cons_append, List.nil_append, List.append_nil, List.getD_cons_zero, List.getD_cons_succ, Nat.zero_add, Nat.add_zero, Nat.reduceAdd, Nat.reduceMul, Bool.false_eq_true, beq_self_eq_true, qbh, qoz, qn2, qnS, qrB, ite_self, fx]); (first | done | rfl)) : a = b := h fx
theorem pE {x : Nat → T} (h : putE env d v = x := by first | exact qf4 _ _ _ | exact qeM _ _ | rfl) : putE env d v = x := h
theorem pK {C : List (Nat × Slot)} (h : qcn H C := by first | (intro p hp; cases hp; done) | (first | exact qei rfl (by simp) (by first | (simp [Slot.cl, clL, T.cl, qcT, qam, qat]; done) | (simp_all [Slot.cl, clL, T.cl]; done) | (simp [Slot.cl, clL, T.cl]; exact qc4 (fun i hi => by cases hi) _ (by assumption))) | exact qoc rfl (fun p hp => by simp only [List.mem_cons, List.not_mem_nil, or_false] at hp; rcases hp with rfl | rfl | rfl | rfl | rfl | rfl <;> rfl) (by simp [qph, hpL, Slot.cl, clL, T.cl, qcT, qam, qat]))) : qcn H C := h
theorem fRo {a b : Bool} (h : a = b := by (first | assumption | (simp [froL, clL, T.cl]; done) | (simp [froL, clL, T.cl, qcT, qam]; done) | (simp [froL, clL, T.cl, qcT, qam, qat]; done) | (simp_all [froL, clL, T.cl]; done))) : a = b := h
theorem uK1 {U : List (Nat × Slot)} (h : ∀ p ∈ U, p.2 ≠ .free := by first | (intro p hp; simp only [List.mem_cons, List.not_mem_nil, or_false] at hp; first | (subst hp; simp [qaG, qbm]; done) | (rcases hp with rfl | rfl | rfl | rfl <;> simp [qaG, qbm]; done) | (rcases hp with rfl | rfl | rfl <;> simp [qaG, qbm]; done) | (rcases hp with rfl | rfl <;> simp [qaG, qbm]; done) | (cases hp; done)) | (intro p hp; simp only [List.mem_cons, List.not_mem_nil, or_false] at hp; first | (rcases hp with rfl | rfl | rfl | rfl | rfl <;> simp [qaG, qbm]; done) | (rcases hp with rfl | rfl | rfl | rfl | rfl | rfl <;> simp [qaG, qbm]; done) | (rcases hp with rfl | rfl | rfl | rfl | rfl | rfl | rfl <;> simp [qaG, qbm]; done))) : ∀ p ∈ U, p.2 ≠ .free := h
theorem uK2 {U C : List (Nat × Slot)} (h : ∀ p ∈ U, p.1 ∉ C.map (·.1) → H p.1 = .free := by first | (intro p hp; simp only [List.mem_cons, List.not_mem_nil, or_false] at hp; first | (subst hp; simp [qaG, qbm]; done) | (rcases hp with rfl | rfl | rfl | rfl <;> simp [qaG, qbm]; done) | (rcases hp with rfl | rfl | rfl <;> simp [qaG, qbm]; done) | (rcases hp with rfl | rfl <;> simp [qaG, qbm]; done) | (cases hp; done)) | (intro p hp; simp only [List.mem_cons, List.not_mem_nil, or_false] at hp; first | (rcases hp with rfl | rfl | rfl | rfl | rfl <;> simp [qaG, qbm]; done) | (rcases hp with rfl | rfl | rfl | rfl | rfl | rfl <;> simp [qaG, qbm]; done) | (rcases hp with rfl | rfl | rfl | rfl | rfl | rfl | rfl <;> simp [qaG, qbm]; done))) : ∀ p ∈ U, p.1 ∉ C.map (·.1) → H p.1 = .free := h
theorem uK3 {U C : List (Nat × Slot)} (h : ∀ p ∈ U, p.2 ≠ .free ∧ p.1 ∉ C.map (·.1) ∧ H p.1 = .free := by (intro p hp; simp only [List.mem_cons, List.not_mem_nil, or_false] at hp; first | (subst hp; simp [qaG, qbm]; done) | (rcases hp with rfl | rfl | rfl | rfl <;> simp [qaG, qbm]; done) | (rcases hp with rfl | rfl | rfl <;> simp [qaG, qbm]; done) | (rcases hp with rfl | rfl <;> simp [qaG, qbm]; done) | (cases hp; done))) : ∀ p ∈ U, p.2 ≠ .free ∧ p.1 ∉ C.map (·.1) ∧ H p.1 = .free := h
theorem cHk {dd : Bool} {bm : List Nat} (h : dd = true → log.Pairwise (chkP bm) := by exact (by first | (intro h; cases h; done) | (intro _; simp [List.pairwise_cons, chkP]; done) | (intro _; simp [List.pairwise_cons, chkP, Nat.testBit]; done) | (intro _; decide) | (intro _; simp [qbh, List.pairwise_cons, chkP]; done) | (intro _; simp [qbh, List.pairwise_cons, chkP, Nat.testBit]; done))) : dd = true → log.Pairwise (chkP bm) := h
theorem fF {x y : T} (h : Frz H x y := by (repeat (first | exact FrzL.nil | refine FrzL.cons ?_ ?_ | exact Frz.nil | exact Frz.same rfl | exact Frz.same (by simp [T.cl, clL]; done) | refine Frz.aggL ?_ (by rfl) | refine Frz.tupL ?_ | refine Frz.slL (by rfl) (by rfl) (by rfl) (by rfl) (by rfl) (by rfl) ?_))) : Frz H x y := h
theorem eG {G G1 : Prop} (k : G1) (h : G1 → G := by intro hk; (try (simp only [reqC, runC, Opd.ev, qc8, qk9, qf4, qeM, qaG, qbm, qbc, qaA, qaO, qaX, qbr, binT, binI, shI, qdB, lenT, qgw, qk8, qfi, qi3, qgr, qk1, qg0, qkE, qfk, qh7, qhj, qkQ, qfh, qih, qiF, qop, qew, qgj, qg8, qkN, qiD, qo7, qig, qnM, qev, qgm, qgo, qk7, esz, mkEl, splice, qcr, loI, hiI, Nat.reduceEqDiff, reduceIte, if_true, if_false, Option.map_some, Option.map_none, List.map_cons, List.map_nil, List.length_cons, List.length_nil, List.drop_succ_cons, List.drop_zero, List.take_succ_cons, List.take_zero, List.cons_append, List.nil_append, List.append_nil, List.getD_cons_zero, List.getD_cons_succ, Nat.zero_add, Nat.add_zero, Nat.reduceAdd, Nat.reduceMul, Bool.false_eq_true, beq_self_eq_true, qbh, qoz, qn2, qnS, qrB])); exact hk) : G := h k
theorem fZl {xs ys : List T} (h : FrzL H xs ys := by (repeat (first | exact FrzL.nil | refine FrzL.cons ?_ ?_ | exact Frz.nil | exact .same (by simp [T.cl, clL, qcT, qam, qat]; done) | exact qh0 rfl rfl (fun c hc => by simp only [List.mem_cons, List.not_mem_nil, or_false] at hc; rcases hc with rfl | rfl | rfl | rfl | rfl | rfl | rfl | rfl | rfl | rfl <;> rfl) (by first | (simp [clL, T.cl, qcT, qam, qat]; done) | (simp_all [clL, T.cl]; done))))) : FrzL H xs ys := h
theorem fZx {xs ys : List T} (h : FrzL H xs ys := by (repeat (first | exact FrzL.nil | refine FrzL.cons ?_ ?_ | exact Frz.nil | exact Frz.same rfl | exact Frz.same (by simp [T.cl, clL]; done) | exact qgb _ rfl rfl rfl | refine Frz.aggL ?_ rfl | refine Frz.tupL ?_ | refine Frz.slL rfl rfl rfl rfl rfl rfl ?_ | exact qh0 rfl rfl (fun c hc => by simp only [List.mem_cons, List.not_mem_nil, or_false] at hc; rcases hc with rfl | rfl | rfl | rfl <;> rfl) (by simp [clL, T.cl])))) : FrzL H xs ys := h
theorem fZt {xs ys : List T} (h : FrzL H xs ys := by (repeat (first | exact FrzL.nil | refine FrzL.cons ?_ ?_ | exact Frz.nil | exact Frz.same rfl | exact Frz.same (by simp [T.cl, clL]; done) | refine Frz.aggL ?_ (by rfl) | refine Frz.tupL ?_ | refine Frz.slL (by rfl) (by rfl) (by rfl) (by rfl) (by rfl) (by rfl) ?_))) : FrzL H xs ys := h
theorem fZy {xs ys : List T} (h : FrzL H xs ys := by (repeat (first | exact FrzL.nil | refine FrzL.cons ?_ ?_ | exact Frz.nil | exact Frz.same rfl | exact Frz.same (by simp [T.cl, clL]; done) | refine Frz.fnL ?_ | exact Frz.refL rfl rfl rfl (by simp [clL, T.cl]; done) | exact qgb _ rfl rfl rfl | refine Frz.aggL ?_ rfl | refine Frz.tupL ?_ | refine Frz.slL rfl rfl rfl rfl rfl rfl ?_))) : FrzL H xs ys := h
theorem wN {G G1 : Prop} (k : G1) (st : G1 → G := by intro hk; (try simp only [thn, inB, if_true]); (repeat (first | refine qbC ?_ | refine qci ?_ | (refine qct ?_; (try simp only [thn, inB, if_true])))); exact hk) : G := st k
theorem rV (fx : F) {c : Prop} (h : RunR P base (j + 1) rs env' H log K) (hw : F → qbr env g = some true := by intro fx; (first | rfl | exact eV fx)) (hq : F → reqC env io = some (c, .val v) := by intro fx; exact eV fx) (hc : F → c := by intro fx; (first | trivial | omega | (simp; done) | (simp; omega) | (refine ⟨?_, ?_⟩ <;> first | trivial | omega | (simp; done)) | (refine ⟨?_, ?_, ?_⟩ <;> first | trivial | omega | (simp; done)))) (he : putE env d v = env' := by exact pE) : RunR P base j (⟨d, .op io, g⟩ :: rs) env H log K := by
 subst he
 exact qp7 (hw fx) (hq fx) (hc fx) h
theorem rM (fx : F) {c c' : Prop} {q : Req} {L : List Nat} {U : List (Nat × Slot)} (h : RunR P base (j + 1) rs env' H' log' K) (hw : F → qbr env g = some true := by intro fx; (first | rfl | exact eV fx)) (hq : F → reqC env io = some (c, q) := by intro fx; exact eV fx) (hc : F → c := by intro fx; (first | trivial | omega | (simp; done) | (simp; omega) | (refine ⟨?_, ?_⟩ <;> first | trivial | omega | (simp; done)) | (refine ⟨?_, ?_, ?_⟩ <;> first | trivial | omega | (simp; done)))) (hv : F → runC (base + j) H q = some (c', v, L, U) := by intro fx; exact eV fx) (hc' : F → c' := by intro fx; (first | trivial | omega | (simp; done) | (simp; omega) | (refine ⟨?_, ?_⟩ <;> first | trivial | omega | (simp; done)) | (refine ⟨?_, ?_, ?_⟩ <;> first | trivial | omega | (simp; done)))) (he : putE env d v = env' := by exact pE) (hH : F → H.upd U = H' := by intro fx; exact eV fx) (hl : F → qbh j L U log = log' := by intro fx; exact eV fx) : RunR P base j (⟨d, .op io, g⟩ :: rs) env H log K := by
 subst he
 refine qpP (hw fx) (hq fx) (hc fx) (hv fx) (hc' fx) ?_
 rw [hH fx, hl fx]
 exact h
theorem rI (fx : F) {t : Nat} {want b : Bool} {c : Prop} (h : RunR P base (j + 1) rs env' H log K) (hb : F → env t = .bool b := by intro fx; exact eV fx) (hq : F → (b == want) = true → reqC env io = some (c, .val v) := by intro fx hw; exact eVi (cJ2 fx hw)) (hc : F → (b == want) = true → c := by intro fx _; (first | trivial | omega | (simp; done) | (simp; omega) | (refine ⟨?_, ?_⟩ <;> first | trivial | omega | (simp; done)) | (refine ⟨?_, ?_, ?_⟩ <;> first | trivial | omega | (simp; done)))) (he : putE env d (if (b == want) = true then v else .tup []) = env' := by exact pE) : RunR P base j (⟨d, .op io, some (t, want)⟩ :: rs) env H log K := by
 subst he
 exact qrQ (hb fx) (hq fx) (hc fx) h
theorem rIm (fx : F) {t : Nat} {want b : Bool} {c c' : Prop} {q : Req} {L : List Nat} (h : RunR P base (j + 1) rs env' H log' K) (hb : F → env t = .bool b := by intro fx; exact eV fx) (hq : F → (b == want) = true → reqC env io = some (c, q) := by intro fx hw; exact eVi (cJ2 fx hw)) (hc : F → (b == want) = true → c := by intro fx _; (first | trivial | omega | (simp; done) | (simp; omega) | (refine ⟨?_, ?_⟩ <;> first | trivial | omega | (simp; done)) | (refine ⟨?_, ?_, ?_⟩ <;> first | trivial | omega | (simp; done)))) (hv : F → (b == want) = true → runC (base + j) H q = some (c', v, L, []) := by intro fx hw; exact eVi (cJ2 fx hw)) (hc' : F → (b == want) = true → c' := by intro fx _; (first | trivial | omega | (simp; done) | (simp; omega) | (refine ⟨?_, ?_⟩ <;> first | trivial | omega | (simp; done)) | (refine ⟨?_, ?_, ?_⟩ <;> first | trivial | omega | (simp; done)))) (he : putE env d (if (b == want) = true then v else .tup []) = env' := by exact pE) (hl : F → qbh j L [] log = log' := by intro fx; exact eV fx) : RunR P base j (⟨d, .op io, some (t, want)⟩ :: rs) env H log K := by
 subst he
 refine qqf (hb fx) (hq fx) (hc fx) (hv fx) (hc' fx) ?_
 rw [hl fx]
 exact h
theorem rNt (fx : F) (h : RunR P base (j + 1) rs env' H log K) (hw : F → qbr env g = some false := by intro fx; exact eV fx) (he : putE env d (.tup []) = env' := by exact pE) : RunR P base j (⟨d, o, g⟩ :: rs) env H log K := by
 subst he
 exact qly (hw fx) h
theorem rN {rs' : List IRow} {j' : Nat} (fx : F) (k : RunR P base j' rs' env' H' log' K) (h : F → RunR P base j' rs' env' H' log' K → RunR P base j rs env H log K := by intro fx hk; (repeat (first | refine rV fx ?_ | refine rM fx ?_ | refine rI fx ?_ | refine rIm fx ?_ | refine rNt fx ?_)); exact hk) : RunR P base j rs env H log K := h fx k
theorem rN1 {rs' : List IRow} {j' : Nat} (fx : F) (k : RunR P base j' rs' env' H' log' K) (h : F → RunR P base j' rs' env' H' log' K → RunR P base j rs env H log K := by intro fx hk; (first | refine rV fx ?_ | refine rM fx ?_ | refine rI fx ?_ | refine rIm fx ?_ | refine rNt fx ?_); exact hk) : RunR P base j rs env H log K := h fx k
def FinK (dd : Bool) (bm : List Nat) (ss : List Nat) (R : (Nat → T) → Heap → Prop) : (Nat → T) → Heap → List LogE → Prop := fun env H log => (dd = true → log.Pairwise (chkP bm)) ∧ R (ofL (ss.map fun s => (s, env s))) H
theorem rFi {dd : Bool} {bm : List Nat} (h : dd = true → log.Pairwise (chkP bm) := by exact cHk) : RunR P base j [] env H log (Fin dd bm env H) := qmm h
theorem rF {dd : Bool} {bm ss : List Nat} {l : List (Nat × T)} {R : (Nat → T) → Heap → Prop} (fx : F) (k : R (ofL l) H) (hc : dd = true → log.Pairwise (chkP bm) := by exact cHk) (hl : F → ss.map (fun s => (s, env s)) = l := by intro fx; exact eV fx) : RunR P base j [] env H log (FinK dd bm ss R) :=
 ⟨hc, by rw [hl fx]; exact k⟩
theorem rE {dd : Bool} {bm ss : List Nat} {l : List (Nat × T)} {R : (Nat → T) → Heap → Prop} (fx : F) (k : R (ofL l) H') (h : F → R (ofL l) H' → RunR P base j rs env H log (FinK dd bm ss R) := by intro fx hk; refine rN fx ?_; exact rF fx hk) : RunR P base j rs env H log (FinK dd bm ss R) := h fx k
theorem rC (fx : F) (k : ∃ v, TC P f xs (fun _ => .free) v (fun _ => .free) ∧ RunR P base (j + 1) rs (putE env d v) H log K) (hw : F → qbr env g = some true := by intro fx; (first | rfl | exact eV fx)) (ha : F → args.map (·.ev env) = xs := by intro fx; exact eV fx) (hf : froL xs = true := by exact fRo) : RunR P base j (⟨d, .call (.call f args), g⟩ :: rs) env H log K :=
 let ⟨_, hc, h⟩ := k; qdc (hw fx) (ha fx) hc hf h
theorem rCv {x : Opd} {caps : List T} (fx : F) (k : ∃ v, TC P f xs (fun _ => .free) v (fun _ => .free) ∧ RunR P base (j + 1) rs (putE env d v) H log K) (hw : F → qbr env g = some true := by intro fx; (first | rfl | exact eV fx)) (hx : F → x.ev env = .fn f caps := by intro fx; exact eV fx) (ha : F → args.map (·.ev env) ++ caps = xs := by intro fx; exact eV fx) (hf : froL xs = true := by exact fRo) : RunR P base j (⟨d, .call (.callv x args), g⟩ :: rs) env H log K :=
 let ⟨_, hc, h⟩ := k; qee (hw fx) (hx fx) (ha fx) hc hf h
theorem rCi {t : Nat} {want b : Bool} (fx : F) (k : ∃ v, ((b == want) = true → TC P f xs (fun _ => .free) v (fun _ => .free)) ∧ RunR P base (j + 1) rs (putE env d (if (b == want) = true then v else .tup [])) H log K) (hb : F → env t = .bool b := by intro fx; (first | rfl | exact eV fx)) (ha : F → (b == want) = true → args.map (·.ev env) = xs := by intro fx hw; exact eV (cJ2 fx hw)) (hf : froL xs = true := by exact fRo) : RunR P base j (⟨d, .call (.call f args), some (t, want)⟩ :: rs) env H log K :=
 let ⟨_, hc, h⟩ := k; qjz (hb fx) (ha fx) hc hf h
theorem rL (C : List (Nat × Slot)) (fx : F) (k : ∃ ys v, TP P f ys v ∧ FrzL (hp C) xs ys ∧ v.scal = true ∧ RunR P base (j + 1) rs (putE env d v) H (qbh j (C.map (·.1)) [] log) K) (hw : F → qbr env g = some true := by intro fx; (first | rfl | exact eV fx)) (ha : F → args.map (·.ev env) = xs := by intro fx; exact eV fx) (hC : qcn H C := by exact pK) (hcl : clL (fun i => decide (i ∈ C.map (·.1))) xs = true := by exact fRo) : RunR P base j (⟨d, .call (.call f args), g⟩ :: rs) env H log K :=
 let ⟨_, _, hc, hz, hs, h⟩ := k; qd2 C (hw fx) (ha fx) hC hz hc hs hcl h
theorem rLi {t : Nat} {want b : Bool} (C : List (Nat × Slot)) (fx : F) (k : ∃ ys v, ((b == want) = true → TP P f ys v) ∧ FrzL (hp C) xs ys ∧ v.scal = true ∧ RunR P base (j + 1) rs (putE env d (if (b == want) = true then v else .tup [])) H (qbh j (C.map (·.1)) [] log) K) (hb : F → env t = .bool b := by intro fx; (first | rfl | exact eV fx)) (ha : F → (b == want) = true → args.map (·.ev env) = xs := by intro fx hw; exact eV (cJ2 fx hw)) (hC : qcn H C := by exact pK) (hcl : clL (fun i => decide (i ∈ C.map (·.1))) xs = true := by exact fRo) : RunR P base j (⟨d, .call (.call f args), some (t, want)⟩ :: rs) env H log K :=
 let ⟨_, _, hc, hz, hs, h⟩ := k; qjR C (hb fx) (ha fx) hC hz hc hs hcl h
theorem rG (C : List (Nat × Slot)) (fx : F) (k : ∃ ys v, TP P f ys v ∧ FrzL (hp C) xs ys ∧ RunR P base (j + 1) rs (putE env d v) H' log' K) (hw : F → qbr env g = some true := by intro fx; (first | rfl | exact eV fx)) (ha : F → args.map (·.ev env) = xs := by intro fx; exact eV fx) (hC : qcn H C := by exact pK) (hcl : clL (fun i => decide (i ∈ C.map (·.1))) xs = true := by exact fRo) (hH : F → H.upd (C.map fun p => (p.1, .dead)) = H' := by intro fx; exact eV fx) (hl : F → qbh j (C.map (·.1)) (C.map fun p => (p.1, .dead)) log = log' := by intro fx; exact eV fx) : RunR P base j (⟨d, .call (.call f args), g⟩ :: rs) env H log K := by
 obtain ⟨ys, v, hc, hz, h⟩ := k
 refine qo9 C (hw fx) (ha fx) hC hz hc hcl ?_
 rw [hH fx, hl fx]
 exact h
theorem rGc (C U1 : List (Nat × Slot)) (fx : F) (k : ∃ ys v, TC P f ys (fun _ => .free) v (hp U1) ∧ FrzL (hp C) xs ys ∧ RunR P base (j + 1) rs (putE env d v) H' log' K) (hw : F → qbr env g = some true := by intro fx; (first | rfl | exact eV fx)) (ha : F → args.map (·.ev env) = xs := by intro fx; exact eV fx) (hC : qcn H C := by exact pK) (hU : ∀ p ∈ U1, p.2 ≠ .free ∧ p.1 ∉ C.map (·.1) ∧ H p.1 = .free := by exact uK3) (hcl : clL (fun i => decide (i ∈ C.map (·.1))) xs = true := by exact fRo) (hH : F → H.upd ((C.map fun p => (p.1, .dead)) ++ U1) = H' := by intro fx; exact eV fx) (hl : F → qbh j (C.map (·.1)) ((C.map fun p => (p.1, .dead)) ++ U1) log = log' := by intro fx; exact eV fx) : RunR P base j (⟨d, .call (.call f args), g⟩ :: rs) env H log K := by
 obtain ⟨ys, v, hc, hz, h⟩ := k
 refine qmI C U1 (hw fx) (ha fx) hC hz hc hU hcl ?_
 rw [hH fx, hl fx]
 exact h
theorem rU (C U : List (Nat × Slot)) (fx : F) (k : ∃ v, TC P f xs (hp C) v ((hp C).upd U) ∧ RunR P base (j + 1) rs (putE env d v) H' log' K) (hw : F → qbr env g = some true := by intro fx; (first | rfl | exact eV fx)) (ha : F → args.map (·.ev env) = xs := by intro fx; exact eV fx) (hC : qcn H C := by exact pK) (hU : ∀ p ∈ U, p.2 ≠ .free := by exact uK1) (hn : ∀ p ∈ U, p.1 ∉ C.map (·.1) → H p.1 = .free := by exact uK2) (hcl : clL (fun i => decide (i ∈ C.map (·.1))) xs = true := by exact fRo) (hH : F → H.upd U = H' := by intro fx; exact eV fx) (hl : F → qbh j (C.map (·.1)) U log = log' := by intro fx; exact eV fx) : RunR P base j (⟨d, .call (.call f args), g⟩ :: rs) env H log K := by
 obtain ⟨v, hc, h⟩ := k
 refine qgk C U (hw fx) (ha fx) hC hc hU hn hcl ?_
 rw [hH fx, hl fx]
 exact h
theorem rUv {x : Opd} {caps : List T} (C U : List (Nat × Slot)) (fx : F) (k : ∃ v, TC P f xs (hp C) v ((hp C).upd U) ∧ RunR P base (j + 1) rs (putE env d v) H' log' K) (hw : F → qbr env g = some true := by intro fx; (first | rfl | exact eV fx)) (hx : F → x.ev env = .fn f caps := by intro fx; exact eV fx) (ha : F → args.map (·.ev env) ++ caps = xs := by intro fx; exact eV fx) (hC : qcn H C := by exact pK) (hU : ∀ p ∈ U, p.2 ≠ .free := by exact uK1) (hn : ∀ p ∈ U, p.1 ∉ C.map (·.1) → H p.1 = .free := by exact uK2) (hcl : clL (fun i => decide (i ∈ C.map (·.1))) xs = true := by exact fRo) (hH : F → H.upd U = H' := by intro fx; exact eV fx) (hl : F → qbh j (C.map (·.1)) U log = log' := by intro fx; exact eV fx) : RunR P base j (⟨d, .call (.callv x args), g⟩ :: rs) env H log K := by
 obtain ⟨v, hc, h⟩ := k
 refine qm9 C U (hw fx) (hx fx) (ha fx) hC hc hU hn hcl ?_
 rw [hH fx, hl fx]
 exact h
theorem rCut {e id tot n : Nat} {x y : Opd} {k : IntKind} {b : Blk} (fx : F) (h : RunR P base (j + 1) rs env' H' log' K) (hw : F → qbr env g = some true := by intro fx; (first | rfl | exact eV fx)) (hx : F → x.ev env = .sl id tot e 0 n := by intro fx; (first | rfl | exact eV fx)) (hy : F → y.ev env = .int k 0 := by intro fx; (first | rfl | exact eV fx)) (hb : F → H id = .live b := by intro fx; (first | rfl | exact eV fx)) (hl : F → b.cs.length = tot := by intro fx; (first | rfl | exact eV fx)) (hf : F → H (base + j) = .free := by intro fx; (first | rfl | exact eV fx)) (hH : F → H.upd [(id, .dead), (base + j, .live ⟨b.ty, []⟩)] = H' := by intro fx; exact eV fx) (hg : F → qbh j [id] [(id, .dead), (base + j, .live ⟨b.ty, []⟩)] log = log' := by intro fx; exact eV fx) (he : putE env d (.sl (base + j) 0 e 0 0) = env' := by (try simp only [Nat.reduceAdd, Nat.add_zero, Nat.zero_add]); exact pE) : RunR P base j (⟨d, .op (.slice e x none (some y)), g⟩ :: rs) env H log K := by
 subst he
 refine qqC (hw fx) (hx fx) (hy fx) (hb fx) (hl fx) (hf fx) ?_
 rw [hH fx, hg fx]
 exact h
end
section
variable {P : Program} {N : Nat} {rows : List IRow} {bm : List Nat} {dd : Bool} {env : Nat → T} {H h' : Heap} {Q : IExit → (Nat → T) → Heap → Prop} {l : List (Nat × T)} {F G : Prop}
theorem W_rK (base : Nat) (ss : List Nat) (hm : P.follows .mixedOrders = true) (h : RunR P base 0 rows env H [] (FinK dd bm ss (Q .normal))) : W P N (.reg rows bm dd) env H Q := by
 obtain ⟨e, env1, H1, h1, h2⟩ := W_reg (N := N) (Q := fun e env' H' => e = .normal ∧ Q .normal (ofL (ss.map fun s => (s, env' s))) H') base hm (qg9 _ _ _ _ _ _ _ (fun a b c hh => ⟨hh.1, rfl, hh.2⟩) h)
 obtain ⟨rfl, k⟩ := h2
 refine ⟨.normal, _, _, fun code hc w A μ a he hS hN Q' hQ => h1 code hc w A μ a he hS hN Q' fun a' w' A' μ' g1 g2 g3 g4 g5 => hQ a' w' A' μ' (fun t => ?_) g2 g3 g4 g5, k⟩
 rcases qil env1 t ss with e | e
 ·rw [e]; exact g1 t
 ·rw [e]; exact .undef _
theorem wR (base : Nat) (ss : List Nat) (h : RunR P base 0 rows env H [] (FinK dd bm ss (Q .normal))) (st : W P N (.reg rows bm dd) env H Q → G := by intro hk; (try simp only [thn, inB, if_true]); (repeat (first | refine qbC ?_ | refine qci ?_ | (refine qct ?_; (try simp only [thn, inB, if_true])))); exact hk) (hm : P.follows .mixedOrders = true := by rfl) : G := st (W_rK base ss hm h)
theorem wRn {j' : Nat} {rs' : List IRow} {env' : Nat → T} {log' : List LogE} (base : Nat) (ss : List Nat) (fx : F) (k : RunR P base j' rs' env' h' log' (FinK dd bm ss (Q .normal))) (st : W P N (.reg rows bm dd) env H Q → G := by intro hk; (try simp only [thn, inB, if_true]); (repeat (first | refine qbC ?_ | refine qci ?_ | (refine qct ?_; (try simp only [thn, inB, if_true])))); exact hk) (hm : P.follows .mixedOrders = true := by rfl)
 (h : F → RunR P base j' rs' env' h' log' (FinK dd bm ss (Q .normal)) → RunR P base 0 rows env H [] (FinK dd bm ss (Q .normal)) := by intro fx hk; refine rN fx ?_; exact hk) : G := st (W_rK base ss hm (h fx k))
theorem wR0 (base : Nat) (ss : List Nat) (fx : F) (k : Q .normal (ofL l) h') (st : W P N (.reg rows bm dd) env H Q → G := by intro hk; (try simp only [thn, inB, if_true]); (repeat (first | refine qbC ?_ | refine qci ?_ | (refine qct ?_; (try simp only [thn, inB, if_true])))); exact hk) (hm : P.follows .mixedOrders = true := by rfl)
 (h : F → Q .normal (ofL l) h' → RunR P base 0 rows env H [] (FinK dd bm ss (Q .normal)) := by intro fx hk; refine rN fx ?_; exact rF fx hk) : G := st (W_rK base ss hm (h fx k))
theorem wT {x : Opd} {t : Bool} {a b : ICode} (fx : F) (k : W P N a env H Q) (st : W P N (.cond x a b) env H Q → G := by intro hk; (try simp only [thn, inB, if_true]); (repeat (first | refine qbC ?_ | refine qci ?_ | (refine qct ?_; (try simp only [thn, inB, if_true])))); exact hk) (hx : F → x.ev env = .bool t := by intro fx; exact eV fx) (ht : F → t = true := by intro fx; (first | rfl | (simp only [fx, if_true, Bool.false_eq_true, if_false]; done) | (simp [fx]; done) | (simp_all; done))) : G :=
 st (qae (hx fx) (by rw [ht fx]; exact k))
theorem wF {x : Opd} {t : Bool} {a b : ICode} (fx : F) (k : W P N b env H Q) (st : W P N (.cond x a b) env H Q → G := by intro hk; (try simp only [thn, inB, if_true]); (repeat (first | refine qbC ?_ | refine qci ?_ | (refine qct ?_; (try simp only [thn, inB, if_true])))); exact hk) (hx : F → x.ev env = .bool t := by intro fx; exact eV fx) (ht : F → t = false := by intro fx; (first | rfl | (simp only [fx, if_true, Bool.false_eq_true, if_false]; done) | (simp [fx]; done) | (simp_all; done))) : G :=
 st (qae (hx fx) (by rw [ht fx]; exact k))
theorem wS {x : Opd} {t : Bool} {a b : ICode} (fx : F) (h1 : t = true → W P N a env H Q) (h2 : t = false → W P N b env H Q) (st : W P N (.cond x a b) env H Q → G := by intro hk; (try simp only [thn, inB, if_true]); (repeat (first | refine qbC ?_ | refine qci ?_ | (refine qct ?_; (try simp only [thn, inB, if_true])))); exact hk) (hx : F → x.ev env = .bool t := by intro fx; exact eV fx) : G := st (qss (hx fx) h1 h2)
theorem wX {id : Nat} (k : Q (.exit id) env H) (st : W P N (.exit id) env H Q → G := by intro hk; (try simp only [thn, inB, if_true]); (repeat (first | refine qbC ?_ | refine qci ?_ | (refine qct ?_; (try simp only [thn, inB, if_true])))); exact hk) : G := st (qbp k)
theorem wE (k : Q .ret env H) (st : W P N .ret env H Q → G := by intro hk; (try simp only [thn, inB, if_true]); (repeat (first | refine qbC ?_ | refine qci ?_ | (refine qct ?_; (try simp only [thn, inB, if_true])))); exact hk) : G := st (qaC k)
theorem wP {x r : T} (k : Frz H x r) (st : W P N .ret env H Q → G := by intro hk; (try simp only [thn, inB, if_true]); (repeat (first | refine qbC ?_ | refine qci ?_ | (refine qct ?_; (try simp only [thn, inB, if_true])))); exact hk) (hq : Frz H x r → Q .ret env H := by intro hk; (try simp only [thn, inB]); exact ⟨by simp, _, rfl, hk⟩) : G := st (qaC (hq k))
theorem wL {c : ICode} (k : WL P N c env H Q) (st : W P N (.loop c) env H Q → G := by intro hk; (try simp only [thn, inB, if_true]); (repeat (first | refine qbC ?_ | refine qci ?_ | (refine qct ?_; (try simp only [thn, inB, if_true])))); exact hk) : G := st (qbF k)
end
end
section
set_option maxHeartbeats 2000000
open Go.RowKit Go.Sort Go.Shelf
def rowW {X : Type} (enc : X → List T) (xs : List X) : List T := xs.flatMap enc
theorem qi6 {X : Type} {enc : X → List T} {k : Nat} (hk : ∀ x, (enc x).length = k) : ∀ xs : List X, (rowW enc xs).length = xs.length * k
 | [] => by simp [rowW]
 | x :: xs => by
  have := qi6 hk xs
  simp only [rowW, List.flatMap_cons, List.length_append, List.length_cons, hk, Nat.add_mul, Nat.one_mul] at this ⊢
  omega
theorem qiz {X : Type} {enc : X → List T} {k : Nat} (hk : ∀ x, (enc x).length = k) : ∀ (xs : List X) (i j : Nat) (x : X), xs[i]? = some x → j < k → (rowW enc xs).getD (i * k + j) .undef = (enc x).getD j .undef
 | [], i, j, x, h, _ => by simp at h
 | y :: xs, 0, j, x, h, hj => by
  simp at h
  subst h
  simp only [rowW, List.flatMap_cons, Nat.zero_mul, Nat.zero_add, List.getD_eq_getElem?_getD]
  rw [List.getElem?_append_left (by rw [hk]; exact hj)]
 | y :: xs, i + 1, j, x, h, hj => by
  have := qiz hk xs i j x (by simpa using h) hj
  simp only [rowW, List.flatMap_cons, List.getD_eq_getElem?_getD] at this ⊢
  rw [List.getElem?_append_right (by rw [hk, Nat.add_mul]; omega), hk]
  have e : (i + 1) * k + j - k = i * k + j := by rw [Nat.add_mul]; omega
  rw [e]
  exact this
theorem qkz {W w' : World} (h1 : w'.os = W.os) (h2 : w'.tape = W.tape) (h3 : W.drawn ≤ w'.drawn) (h4 : w'.output = W.output) (h5 : W.heap.size ≤ w'.heap.size) (h6 : ∀ b, b < W.heap.size → w'.heap[b]? = W.heap[b]?) :
 ∃ q os, w' = Sort.grow (W.drewN q) os := by
 refine ⟨w'.drawn - W.drawn, w'.heap.extract W.heap.size w'.heap.size, ?_⟩
 have hh : w'.heap = W.heap ++ w'.heap.extract W.heap.size w'.heap.size := by
  refine Array.ext (by simp; omega) fun i hi hi2 => ?_
  by_cases hb : i < W.heap.size
  ·have := h6 i hb
   rw [Array.getElem?_eq_getElem hi, Array.getElem?_eq_getElem hb] at this
   rw [Array.getElem_append_left hb]
   exact Option.some.inj this
  ·rw [Array.getElem_append_right (by omega)]
   simp only [Array.getElem_extract]
   congr 1
   omega
 obtain ⟨h, t, d, o, u⟩ := w'
 obtain ⟨h', t', d', o', u'⟩ := W
 simp only at h1 h2 h3 h4 hh
 subst h1 h2 h4
 simp only [Sort.grow, World.drewN]
 congr 1
 omega
theorem qrw {α β : Type} {cf : α → α → Int} (h : SWO (ltOf cf)) (f : β → α) : SWO (ltOf fun i j => cf (f i) (f j)) :=
 ⟨fun x => h.irrefl (f x), fun x y z => h.trans (f x) (f y) (f z), fun x y z => h.ntrans (f x) (f y) (f z)⟩
theorem qou {β : Type} (a : Array β) (n : Nat) (h : a.size = n) : a.extract 0 n = a := by subst h; simp
theorem get!_at {β : Type} [Inhabited β] (a : Array β) (i : Nat) (h : i < a.size) : a[i]! = a[i] := getElem!_pos a i h
theorem qcu (id : Nat) (s : Slot) : hpL [(id, s)] id = s := by simp [hpL]
theorem one_hp' {id i : Nat} {s : Slot} (h : i ≠ id) : hpL [(id, s)] i = .free := by simp [hpL, h]
theorem qji {w W : World} {A : Sta} {μ : Nat → Nat} {id ty : Nat} {cs : List T} (hS : Sim w A μ (hpL [(id, .live ⟨ty, cs⟩)])) (h1 : W.os = w.os) (h2 : W.tape = w.tape) (h3 : w.drawn ≤ W.drawn) (h4 : W.output = w.output) (h5 : w.heap.size ≤ W.heap.size) (h6 : ∀ b, b < w.heap.size → b ≠ μ id → W.heap[b]? = w.heap[b]?) :
 Trans w A μ (hpL [(id, .live ⟨ty, cs⟩)]) W A μ (hpL [(id, .dead)]) ∧ Sim W A μ (fun _ => .free) := by
 refine ⟨⟨h1, ⟨h2, h3⟩, h4, h5, fun b hb hn => ⟨h6 b hb fun he => hn id (by rw [qcu]; rfl) he.symm, fun i hi => ?_⟩, fun b o ha hb => ⟨ha, ?_⟩, fun _ _ h => .inl h, fun i b hb => ?_, fun i es hb => ?_, fun i hb => ?_⟩, ⟨fun i j hi => ?_, fun i b hb => ?_, fun i es hb => ?_, fun i hi => ?_, fun b o ha => Nat.lt_of_lt_of_le (hS.sta b o ha) h5⟩⟩
 ·by_cases he : i = id
  ·rw [he, qcu] at hi; cases hi
  ·rw [one_hp' he] at hi; cases hi
 ·have hne : b ≠ μ id := fun he => hS.dis id (by rw [qcu]; rfl) o (he ▸ ha)
  simp [World.cell?, h6 b hb hne]
 ·by_cases he : i = id
  ·exact .inl (by rw [he, qcu])
  ·rw [one_hp' he] at hb; cases hb
 ·by_cases he : i = id
  ·rw [he, qcu] at hb; cases hb
  ·rw [one_hp' he] at hb; cases hb
 ·by_cases he : i = id
  ·rw [he, qcu] at hb; cases hb
  ·rw [one_hp' he] at hb; cases hb
 ·cases hi
 ·cases hb
 ·cases hb
 ·cases hi
theorem qeQ {α : Type} [Inhabited α] (enc : α → List Value) (k : Nat) (w : World) (b m : Nat) (dk : Array α) (os : Array Obj) :
 (sortWorldK enc k w b 0 m dk os).os = w.os ∧ (sortWorldK enc k w b 0 m dk os).tape = w.tape ∧ w.drawn ≤ (sortWorldK enc k w b 0 m dk os).drawn ∧ (sortWorldK enc k w b 0 m dk os).output = w.output ∧ w.heap.size ≤ (sortWorldK enc k w b 0 m dk os).heap.size ∧ (∀ c, c < w.heap.size → c ≠ b → (sortWorldK enc k w b 0 m dk os).heap[c]? = w.heap[c]?) ∧
 ∀ cur ty, w.heap[b]? = some (.cells cur ty) → (sortWorldK enc k w b 0 m dk os).heap[b]? = some (.cells (putCells (fun v : Value => v) 0 (flatK enc k dk) cur) ty) := by
 refine ⟨rfl, rfl, Nat.le_add_right _ _, rfl, by simp [sortWorldK, Sort.grow, putRowK, putRow, mapBlock, Sort.ahead], fun c hc hne => ?_, fun cur ty hcur => ?_⟩
 ·have hk' : c < (putRowK enc k (Sort.ahead w m) b 0 dk).heap.size := by simpa [putRowK, putRow, mapBlock, Sort.ahead] using hc
  show (Sort.grow _ _).heap[c]? = _
  rw [heap_grow_old _ _ hk']
  simp [putRowK, putRow, mapBlock, Sort.ahead, Array.getElem?_modify, Ne.symm hne]
 ·have hb : b < w.heap.size := qbj hcur
  show (Sort.grow _ _).heap[b]? = _
  rw [heap_grow_old _ _ (by simpa [putRowK, putRow, mapBlock, Sort.ahead] using hb)]
  simp [putRowK, putRow, mapBlock, Sort.ahead, Array.getElem?_modify, hcur, onCells]
  rfl
variable {P : Program} {ρ : Ren}
theorem qrr (L : SlLaysF0.n6 P ρ) {X : Type} (enc : X → List T) (e : Nat) (hk : ∀ x, (enc x).length = esz e) (hcl : ∀ x D, clL D (enc x) = true) (h1 : ∀ x, Ones (enc x)) (aE : ∀ w, (isAgg (ρ.t 24)).run P w = .ok true w) (zE : ∀ w, (Go.sizeOf (ρ.t 24)).run P w = .ok (esz e) w)
 (cf : X → X → Int) (hO : SWO (ltOf cf)) (g id ty : Nat) (xs ys : List X) (hne : xs ≠ []) (hn : xs.length ≤ 1000000000) (hg : ∀ x ∈ xs, ∀ y ∈ xs, TP P g [.agg (enc x), .agg (enc y)] (.int .i64 (cf x y)))
 (hu : ∀ zs : List X, zs.Perm xs → zs.Pairwise (fun a b => ¬ cf b a < 0) → zs = ys) (hen : Enters P (ρ.f 6)) :
 TC P (ρ.f 6) [.sl id (xs.length * esz e) e 0 xs.length, .fn g []] (hpL [(id, .live ⟨ty, rowW enc xs⟩)]) (.tup []) (hpL [(id, .live ⟨ty, rowW enc ys⟩)]) := by
 refine ⟨hen, fun w A μ vs hS hR => ?_⟩
 obtain ⟨hs, hr⟩ := hR
 have hvs : vs = #[vs.getD 0 Go.undef, vs.getD 1 Go.undef] := by
  refine Array.ext (by simpa using hs) fun i hi _ => ?_
  have h2 : vs.size = 2 := by simpa using hs
  match i, (by omega : i < 2) with
  | 0, _ => simp [hi]
  | 1, _ => simp [hi]
 have r0 := hr 0 (by simp)
 have r1 := hr 1 (by simp)
 rw [hvs]
 generalize vs.getD 0 Go.undef = v0 at r0 ⊢
 generalize vs.getD 1 Go.undef = v1 at r1 ⊢
 simp only [List.getD_eq_getElem?_getD, List.getElem?_cons_zero, List.getElem?_cons_succ, Option.getD_some] at r0 r1
 have hpos : 0 < esz e := by unfold esz; split <;> omega
 have hl := qi6 hk xs
 cases r1 with
 | fn _ us _ hus _ =>
 obtain rfl : us = #[] := Array.eq_empty_of_size_eq_zero (by simpa using hus)
 cases r0 with
 | slS p c _ _ _ _ _ hnc hst =>
  rcases hst with h | ⟨b, h, h'⟩
  ·rw [qcu] at h; cases h
  ·rw [qcu] at h; injection h with h; subst h; simp only at h'; omega
 | sl _ _ _ _ _ c b0 cur hb0 ht hcur hnc hm hcc hff =>
 rw [qcu] at hb0
 injection hb0 with hb0
 subst hb0
 obtain ⟨cur', hcur', hle, hones, hrep⟩ := hS.blk id _ (qcu _ _)
 rw [hcur] at hcur'
 injection hcur' with hcur'
 injection hcur' with hcur'
 subst hcur'
 simp only at hcur hle hones hrep ht
 have hmul : ∀ i j, i < xs.length → j < esz e → i * esz e + j < xs.length * esz e := fun i j hi hj => by
  have := Nat.mul_le_mul_right (esz e) (show i + 1 ≤ xs.length from hi)
  rw [Nat.add_mul] at this; omega
 have hsz : xs.length * esz e ≤ cur.size := by rw [← hl]; exact hle
 have hpx : 0 < xs.length := List.length_pos_iff.2 hne
 haveI : Inhabited (_root_.Fin xs.length) := ⟨⟨0, hpx⟩⟩
 let encK : _root_.Fin xs.length → List Value := fun i => (cur.toList.drop (i.val * esz e)).take (esz e)
 have hkK : ∀ i, (encK i).length = esz e := fun i => by
  have := hmul i.val (esz e - 1) i.isLt (by omega)
  simp only [encK, List.length_take, List.length_drop, Array.length_toList]; omega
 have hgK : ∀ (i : _root_.Fin xs.length) (j : Nat), j < esz e → (encK i).getD j Go.undef = cur.getD (i.val * esz e + j) Go.undef := fun i j hj => by
  simp only [encK, List.getD_eq_getElem?_getD]
  rw [List.getElem?_take, if_pos hj, List.getElem?_drop]
  simp
 have hgK! : ∀ (i : _root_.Fin xs.length) (j : Nat), j < esz e → (encK i)[j]! = cur.getD (i.val * esz e + j) Go.undef := fun i j hj => by
  rw [← hgK i j hj, List.getD_eq_getElem?_getD, List.getElem!_eq_getElem?_getD]
  rw [List.getElem?_eq_getElem (by rw [hkK]; exact hj)]
  rfl
 have hRK : ∀ (i : _root_.Fin xs.length) (j : Nat), j < esz e → Rep w A μ (hpL [(id, .live ⟨ty, rowW enc xs⟩)]) (cur.getD (i.val * esz e + j) Go.undef) ((enc xs[i]).getD j .undef) := fun i j hj => by
  have := hrep (i.val * esz e + j) (by rw [hl]; exact hmul _ _ i.isLt hj)
  rwa [qiz hk xs i.val j xs[i] (by simp) hj] at this
 let ids : Array (_root_.Fin xs.length) := Array.ofFn (fun i => i)
 have hids : ids.size = xs.length := by simp [ids]
 have hget : ∀ j, (hj : j < xs.length) → ids[j]! = ⟨j, hj⟩ := fun j hj => by
  rw [get!_at ids j (by omega)]; simp [ids]
 have hdm : ∀ j, j < xs.length * esz e → j / esz e < xs.length ∧ j % esz e < esz e ∧ j / esz e * esz e + j % esz e = j := fun j hj =>
  ⟨(Nat.div_lt_iff_lt_mul hpos).2 hj, Nat.mod_lt _ hpos, Nat.div_add_mod' j (esz e)⟩
 have hH : HoldsK encK (esz e) w (μ id) 0 ids := fun j hj => by
  rw [size_flatK, hids] at hj
  obtain ⟨d1, d2, d3⟩ := hdm j hj
  have hjc : j < cur.size := by omega
  rw [get_flatK _ _ _ _ (by rw [hids]; exact hj), hget _ d1, hgK! _ _ d2, Nat.zero_add]
  simp only [d3]
  refine ⟨by simp [World.cell?, hcur, hjc], ?_⟩
  simp [World.frozen?, hcur]
 have hone : ∀ x, ∀ v ∈ encK x, v.oneCell' = true := fun x v hv => by
  obtain ⟨j, hj, rfl⟩ := List.getElem_of_mem hv
  rw [hkK] at hj
  have r := hRK x j hj
  rw [← hgK x j hj, List.getD_eq_getElem?_getD, List.getElem?_eq_getElem (by rw [hkK]; exact hj)] at r
  refine r.one (h1 xs[x] _ ?_)
  rw [List.getD_eq_getElem?_getD, List.getElem?_eq_getElem (by rw [hk]; exact hj)]
  exact List.getElem_mem _
 have hcmp : CmpLays P g #[] encK (esz e) (fun i j : _root_.Fin xs.length => cf xs[i] xs[j]) (μ id) 0 ids.size w := fun m os dk hdk x y => by
  obtain ⟨k1, k2, k3, k4, k5, k6, _⟩ := qeQ encK (esz e) w (μ id) m dk os
  generalize sortWorldK encK (esz e) w (μ id) 0 m dk os = W at k1 k2 k3 k4 k5 k6 ⊢
  obtain ⟨hT, hS'⟩ := qji hS k1 k2 k3 k4 k5 k6
  have hA : ∀ x : _root_.Fin xs.length, Rep W A μ (fun _ => .free) (.agg (encK x).toArray) (.agg (enc xs[x])) := fun x => by
   refine .agg _ _ (by simp [hkK, hk]) (h1 _) fun i hi => ?_
   rw [hk] at hi
   have r := (hRK x i hi).trans hT
   rw [← hgK x i hi] at r
   have hc : ((enc xs[x]).getD i .undef).cl (fun _ => false) = true := qa7 (hcl xs[x] _) i
   have := r.sub (H' := fun _ => .free) hc fun i hi => by cases hi
   simpa [List.getD_eq_getElem?_getD] using this
  have hc := (hg xs[x] (List.getElem_mem _) xs[y] (List.getElem_mem _)).2 W A μ #[.agg (encK x).toArray, .agg (encK y).toArray] hS' ⟨rfl, fun i hi => by
   match i, hi with
   | 0, _ => exact hA x
   | 1, _ => exact hA y⟩
  refine hc.mono ?_
  rintro en w' ⟨v, A', μ', rfl, hv, hS2, hT2⟩
  cases hv with
  | int _ _ =>
  exact ⟨rfl, qkz hT2.os hT2.tape.1 hT2.tape.2 hT2.output hT2.size fun b hb => (hT2.un b hb fun i hi => by cases hi).1⟩
 have eg : ∀ args w, (callFunc g args).run P w = .ok (.enter g args) w := (hg xs[0] (List.getElem_mem _) xs[0] (List.getElem_mem _)).1
 have hmain := AnyQ.slices_SortFunc (P := P) (ρ := ρ) L (esz e) aE zE encK hkK hone _ (qrw hO fun i : _root_.Fin xs.length => xs[i]) g #[] (μ id) 0 c ids w eg hcmp hH (qbj hcur) (by omega)
 rw [hids] at hmain
 refine hmain.mono ?_
 rintro en w' ⟨rfl, d', n', os, hp, hs', rfl⟩
 have hd' : d'.size = xs.length := by rw [hp.1, hids]
 have hperm : d'.toList.Perm ids.toList := by
  have := hp.2.2
  rwa [qou d' _ hd', qou ids _ hids] at this
 have hys : d'.toList.map (fun i => xs[i]) = ys := by
  refine hu _ ?_ ?_
  ·have := hperm.map (fun i => xs[i])
   have e1 : ids.toList.map (fun i => xs[i]) = xs := List.ext_getElem (by simp [ids]) fun i h1 h2 => by simp [ids]
   rwa [e1] at this
  ·rw [List.pairwise_iff_getElem]
   intro i j hi hj hij
   simp only [List.length_map, Array.length_toList] at hi hj
   have := hs' i j (by omega) hij (by omega)
   rw [get!_at d' i (by omega), get!_at d' j (by omega)] at this
   simpa [ltOf] using this
 have hyl : ys.length = xs.length := by rw [← hys]; simp [hd']
 have hly := qi6 hk ys
 obtain ⟨k1, k2, k3, k4, k5, k6, k7⟩ := qeQ encK (esz e) w (μ id) n' d' os
 have k7 := k7 cur ty hcur
 generalize sortWorldK encK (esz e) w (μ id) 0 n' d' os = W at k1 k2 k3 k4 k5 k6 k7 ⊢
 have hT : Trans w A μ (hpL [(id, .live ⟨ty, rowW enc xs⟩)]) W A μ (hpL [(id, .live ⟨ty, rowW enc ys⟩)]) := by
  obtain ⟨hT, _⟩ := qji hS k1 k2 k3 k4 k5 k6
  refine ⟨k1, ⟨k2, k3⟩, k4, k5, fun b hb hn => ⟨(hT.un b hb hn).1, fun i hi => ?_⟩, hT.st, hT.an, fun i b hb => ?_, fun i es hb => ?_, fun i hb => ?_⟩
  ·by_cases he : i = id
   ·rw [he]; exact hn id (by rw [qcu]; rfl)
   ·rw [one_hp' he] at hi; cases hi
  ·by_cases he : i = id
   ·rw [he, qcu] at hb ⊢
    injection hb with hb
    subst hb
    refine .inr ⟨_, rfl, .inr ⟨by simp only; rw [hly, hl, hyl], rfl, rfl, fun cur1 hc1 => ?_⟩⟩
    simp only at hc1
    rw [hcur] at hc1
    injection hc1 with hc1
    injection hc1 with hc1
    subst hc1
    exact ⟨_, k7, by simp [putCells]⟩
   ·rw [one_hp' he] at hb; cases hb
  ·by_cases he : i = id
   ·rw [he, qcu] at hb; cases hb
   ·rw [one_hp' he] at hb; cases hb
  ·by_cases he : i = id
   ·rw [he, qcu] at hb; cases hb
   ·rw [one_hp' he] at hb; cases hb
 refine ⟨_, A, μ, rfl, .tup #[] [] rfl (fun i hi => by cases hi), ⟨fun i j hi hj hij => ?_, fun i b hb => ?_, fun i es hb => ?_, fun i hi o => ?_, fun b o ha => Nat.lt_of_lt_of_le (hS.sta b o ha) k5⟩, hT⟩
 ·have a1 : i = id := Classical.byContradiction fun he => by rw [one_hp' he] at hi; cases hi
  have a2 : j = id := Classical.byContradiction fun he => by rw [one_hp' he] at hj; cases hj
  rw [a1, a2]
 ·have a1 : i = id := Classical.byContradiction fun he => by rw [one_hp' he] at hb; cases hb
  subst a1
  rw [qcu] at hb
  injection hb with hb
  subst hb
  refine ⟨_, k7, by simp only [putCells, Array.size_mapIdx]; rw [hly, hyl]; exact hsz, fun c hc => ?_, fun t ht => ?_⟩
  ·obtain ⟨y, _, hy⟩ := List.mem_flatMap.1 hc
   exact h1 y c hy
  ·simp only at ht ⊢
   rw [hly, hyl] at ht
   obtain ⟨d1, d2, d3⟩ := hdm t ht
   have h6 : t / esz e < d'.size := by omega
   have hyt : ys[t / esz e]? = some xs[d'[t / esz e]] := (congrArg (fun l : List X => l[t / esz e]?) hys.symm).trans (by simp [h6])
   have hcell : (putCells (fun v : Value => v) 0 (flatK encK (esz e) d') cur).getD t Go.undef = cur.getD (d'[t / esz e].val * esz e + t % esz e) Go.undef := by
    have h5 : t < cur.size := by omega
    have h7 : t < d'.size * esz e := by rw [hd']; exact ht
    rw [← hgK! _ _ d2, ← get!_at d' _ h6, ← get_flatK encK (esz e) d' t h7]
    simp [putCells, h5, h7]
   have hg2 := qiz hk ys _ _ _ hyt d2
   rw [d3] at hg2
   rw [hcell, hg2]
   have r := hRK d'[t / esz e] _ d2
   have hc : ((enc xs[d'[t / esz e]]).getD (t % esz e) .undef).cl (fun _ => false) = true := qa7 (hcl _ _) _
   have r2 := (r.sub (H' := fun _ => .free) hc fun i hi => by cases hi)
   exact (r.trans hT)
 ·by_cases he : i = id
  ·rw [he, qcu] at hb; cases hb
  ·rw [one_hp' he] at hb; cases hb
 ·have a1 : i = id := Classical.byContradiction fun he => by rw [one_hp' he] at hi; cases hi
  rw [a1]
  exact hS.dis id (by rw [qcu]; rfl) o
end
section
set_option maxRecDepth 100000
open Go.RowKit
abbrev Bn (d : Nat) (o : BinOp) (a b : Nat) : IRow := ⟨some d, .op (.bin o .none (.tmp a) (.tmp b)), none⟩
abbrev Bc (d : Nat) (o : BinOp) (a : Nat) (n : Int) : IRow := ⟨some d, .op (.bin o .none (.tmp a) (.con (.int .i64 n))), none⟩
abbrev Mb (d : Nat) (b : Bool) : IRow := ⟨some d, .op (.mv (.con (.bool b))), none⟩
abbrev Bx (d t s : Nat) : IRow := ⟨some d, .op (.box t (.tmp s)), none⟩
abbrev Nt (d s : Nat) : IRow := ⟨some d, .op (.un .not (.tmp s)), none⟩
abbrev Mc (d : Nat) (n : Int) : IRow := ⟨some d, .op (.mv (.con (.int .i64 n))), none⟩
abbrev Cd (s : Nat) (a b : ICode) : ICode := .cond (.tmp s) a b
abbrev Rg (l : List IRow) : ICode := .reg l [] false
abbrev Sr (l : List IRow) (c : ICode) : ICode := .seq (.reg l [] false) c
theorem fnO {P : Program} {f N : Nat} {rs : List (Nat × Option Nat)} {ic : ICode} {fn : Func} (h1 : P.funcs[f]? = some fn) (h5 : Enters P f) (h2 : fn.ntmps = N := by kernel_rfl) (h3 : fn.body.bind (qaH P N) = some ic := by kernel_rfl) (h4 : qcQ P fn.results.toList = some rs := by kernel_rfl) : FnOk P f N rs ic := ⟨fn, h1, h2, h3, h4, h5⟩
abbrev ci (n : Int) : Opd := .con (.int .i64 n)
abbrev Mv (d s : Nat) : IRow := ⟨some d, .op (.mv (.tmp s)), none⟩
abbrev Ld (d e s : Nat) : IRow := ⟨some d, .op (.load e (.tmp s)), none⟩
abbrev Fa (d o k s : Nat) : IRow := ⟨some d, .op (.faddr o k (.tmp s)), none⟩
abbrev Ex (d s i : Nat) : IRow := ⟨some d, .op (.extract (.tmp s) i), none⟩
abbrev Ln (d s : Nat) : IRow := ⟨some d, .op (.len (.tmp s)), none⟩
abbrev Sv (e a x : Nat) : IRow := ⟨none, .op (.store e (.tmp a) (.tmp x)), none⟩
abbrev Ia (d e a i : Nat) : IRow := ⟨some d, .op (.iaddr e none (.tmp a) (.tmp i)), none⟩
abbrev Gm (d s g : Nat) (b : Bool) : IRow := ⟨some d, .op (.mv (.tmp s)), some (g, b)⟩
abbrev Op (d : Nat) (o : IOp) : IRow := ⟨some d, .op o, none⟩
abbrev St (o : IOp) : IRow := ⟨none, .op o, none⟩
abbrev Gd (d : Nat) (o : IOp) (g : Nat) (b : Bool) : IRow := ⟨some d, .op o, some (g, b)⟩
abbrev Cl (d f : Nat) (l : List Opd) : IRow := ⟨some d, .call (.call f l), none⟩
abbrev Cg (d f : Nat) (l : List Opd) (g : Nat) (b : Bool) : IRow := ⟨some d, .call (.call f l), some (g, b)⟩
def i2 : ICode := (Rg [Cl 0 1 []])
def i3_l2 : ICode := (Sr [Bn 80 .lss 79 78] (.seq (Cd 80 .skip (.exit 4)) (.seq (.block 5 (Sr [Ia 81 0 77 79,Ld 82 0 81,Mv 14 82] (Sr [Ld 84 10 10,Mv 85 14,Ld 86 2 12,Cl 87 17 [(.tmp 84),(.tmp 85),(.tmp 86)],Mv 83 87,Ex 88 83 0,Ex 89 83 1,Mv 15 88,Mv 16 89] (Sr [Ld 91 10 10,Mv 92 14,Ld 93 2 12,Cl 94 18 [(.tmp 91),(.tmp 92),(.tmp 93)],Mv 90 94,Ex 95 90 0,Ex 96 90 1,Mv 17 95,Mv 18 96] (Sr [Mv 97 16,Mv 98 18,Bn 99 .neq 97 98,Mv 100 99,Gm 101 15 100 false,Gm 102 17 100 false,Cg 103 19 [(.tmp 101),(.tmp 102)] 100 false,Gd 104 (.un .not (.tmp 103)) 100 false,Op 105 (.pick (.tmp 100) (.con (.bool true)) (.tmp 104))] (Cd 105 (Sr [Mb 6 false] .ret) .skip)))))) (Rg [Bc 106 .add 79 1,Mv 79 106]))))
def i3_l3 : ICode := (Sr [Bn 155 .lss 154 153] (.seq (Cd 155 .skip (.exit 6)) (.seq (.block 7 (Sr [Mv 156 154,Mv 27 156] (.seq (.reg [Mv 157 23,Mv 158 27,Ia 159 2 157 158,Ld 160 2 159,Mv 161 25,Mv 162 27,Ia 163 2 161 162,Ld 164 2 163,Op 165 (.bin .neq (.ints 2) (.tmp 160) (.tmp 164))] [0,0,3,7,0,0,48,112,255] true) (Cd 165 (Sr [Mb 6 false] .ret) .skip)))) (Rg [Bc 166 .add 154 1,Mv 154 166]))))
def i3_l1 : ICode := (Sr [Bn 71 .lss 70 69] (.seq (Cd 71 .skip (.exit 2)) (.seq (.block 3 (Sr [Ia 72 2 68 70,Ld 73 2 72,Op 12 (.alloc 25 [(.int .i64 0),.nil]),Sv 2 12 73] (.seq (Sr [Mv 74 1,Mv 75 7,Cl 76 16 [(.tmp 75),(ci 5)],Op 77 (.rows 3 0 3 [(.int .i64 0)] [(0,1,(.tmp 74)),(1,1,(.tmp 76)),(2,1,(ci 0))]),Ln 78 77,Mc 79 0] (.block 4 (.loop i3_l2))) (Sr [Ld 108 10 10,Ld 109 2 12,Cl 110 20 [(.tmp 108),(.tmp 109)],Mv 107 110,Ex 111 107 0,Ex 112 107 1,Op 19 (.alloc 25 [(.int .i64 0),.nil]),Sv 2 19 111,Mv 20 112] (Sr [Ld 114 10 10,Ld 115 2 12,Cl 116 21 [(.tmp 114),(.tmp 115)],Mv 113 116,Ex 117 113 0,Ex 118 113 1,Op 21 (.alloc 25 [(.int .i64 0),.nil]),Sv 2 21 117,Mv 22 118] (Sr [Ld 120 10 10,Ld 121 2 12,Cl 122 22 [(.tmp 120),(.tmp 121)],Mv 119 122,Ex 123 119 0,Ex 124 119 1,Mv 23 123,Mv 24 124] (Sr [Ld 126 10 10,Ld 127 2 12,Cl 128 23 [(.tmp 126),(.tmp 127)],Mv 125 128,Ex 129 125 0,Ex 130 125 1,Mv 25 129,Mv 26 130] (.seq (Sr [Mv 131 20,Mv 132 22,Bn 133 .neq 131 132,Mv 134 133,Gm 135 24 134 false,Gm 136 26 134 false,Gd 137 (.bin .neq .none (.tmp 135) (.tmp 136)) 134 false,Op 138 (.pick (.tmp 134) (.con (.bool true)) (.tmp 137)),Mv 139 138,Gd 140 (.load 2 (.tmp 19)) 139 false,Gd 141 (.load 2 (.tmp 21)) 139 false,Cg 142 24 [(.tmp 140),(.tmp 141)] 139 false,Gd 143 (.un .not (.tmp 142)) 139 false,Op 144 (.pick (.tmp 139) (.con (.bool true)) (.tmp 143)),Mv 145 144,Gm 146 23 145 false,Gd 147 (.len (.tmp 146)) 145 false,Gm 148 25 145 false,Gd 149 (.len (.tmp 148)) 145 false,Gd 150 (.bin .neq .none (.tmp 147) (.tmp 149)) 145 false,Op 151 (.pick (.tmp 145) (.con (.bool true)) (.tmp 150))] (Cd 151 (Sr [Mb 6 false] .ret) .skip)) (Sr [Mv 152 23,Ln 153 152,Mc 154 0] (.block 6 (.loop i3_l3))))))))))) (Rg [Bc 167 .add 70 1,Mv 70 167]))))
def i3_l0 : ICode := (Sr [Bn 53 .lss 52 51] (.seq (Cd 53 .skip (.exit 0)) (.seq (.block 1 (Sr [Ia 54 10 50 52,Ld 55 10 54,Op 10 (.alloc 34 [(.int .i64 0),.nil,.nil,.nil,.nil,(.int .i64 0),(.int .i64 0),.nil,(.int .i64 0),.nil]),Sv 10 10 55] (.seq (.reg [Ld 56 2 5,Mv 57 7,Ld 58 10 8,Cl 59 14 [(.tmp 57),(.tmp 58)],Mv 60 7,Ld 61 10 8,Mv 62 7,Ld 63 10 8,Cl 64 14 [(.tmp 62),(.tmp 63)],Cl 65 15 [(.tmp 60),(.tmp 61),(.tmp 64)],Fa 66 8 2 10,Ld 67 2 66,Op 68 (.rows 25 2 4 [(.int .i64 0),.nil] [(0,2,(.tmp 56)),(2,2,(.tmp 59)),(4,2,(.tmp 65)),(6,2,(.tmp 67))]),Ln 69 68,Mc 70 0] [0,0,0,6,0,0,0,0,206,510,0,1024,4095,8191,0] true) (.block 2 (.loop i3_l1))))) (Rg [Bc 168 .add 52 1,Mv 52 168]))))
def i3 : ICode := (Sr [Bx 5 25 2,Mb 6 false] (.seq (Sr [Cl 28 8 [],Nt 29 28,Mv 30 29,Gm 31 0 30 false,Cg 32 9 [(.tmp 31)] 30 false,Gd 33 (.un .not (.tmp 32)) 30 false,Op 34 (.pick (.tmp 30) (.con (.bool true)) (.tmp 33)),Mv 35 34,Gd 36 (.load 2 (.tmp 5)) 35 false,Cg 37 10 [(.tmp 36),(ci 5)] 35 false,Gd 38 (.un .not (.tmp 37)) 35 false,Op 39 (.pick (.tmp 35) (.con (.bool true)) (.tmp 38))] (Cd 39 (Sr [Cl 40 8 [],Mv 6 40] .ret) .skip)) (Sr [Mv 41 0,Cl 42 11 [(.tmp 41)],Mv 7 42] (Sr [Mv 43 7,Cl 44 12 [(.tmp 43),(ci 5)],Op 8 (.alloc 34 [(.int .i64 0),.nil,.nil,.nil,.nil,(.int .i64 0),(.int .i64 0),.nil,(.int .i64 0),.nil]),Sv 10 8 44] (.seq (.seq (.reg [Ld 45 10 8,Mv 46 7,Cl 47 13 [(.tmp 46),(ci 5)],Mv 48 7,Cl 49 12 [(.tmp 48),(ci 0)],Op 50 (.rows 34 10 3 [(.int .i64 0),.nil,.nil,.nil,.nil,(.int .i64 0),(.int .i64 0),.nil,(.int .i64 0),.nil] [(0,10,(.tmp 45)),(10,10,(.tmp 47)),(20,10,(.tmp 49))]),Ln 51 50,Mc 52 0] [0,0,2,0,14,31,63,0] true) (.block 0 (.loop i3_l0))) (Sr [Mb 6 true] .ret))))))
def qqH : ICode := (.seq (Sr [Mv 33 7,Fa 34 6 1 4,Ld 35 0 34,Bn 36 .leq 33 35] (Cd 36 .skip (.exit 0))) (.seq (.block 1 (Sr [Ld 40 10 4,Ld 41 2 6,Cl 42 20 [(.tmp 40),(.tmp 41)],Mv 39 42,Ex 43 39 0,Ex 44 39 1,Op 8 (.alloc 25 [(.int .i64 0),.nil]),Sv 2 8 43,Mv 9 44] (.seq (Sr [Mv 45 9,Bc 46 .neq 45 0] (Cd 46 (Sr [Mb 2 false] .ret) .skip)) (Rg [Ld 47 2 8,Sv 2 6 47])))) (Rg [Mv 37 7,Bc 38 .add 37 1,Mv 7 38])))
def qpO : ICode := (Sr [Bn 92 .lss 91 90] (.seq (Cd 92 .skip (.exit 2)) (.seq (.block 3 (Sr [Mv 93 91,Mv 16 93] (.seq (.reg [Mv 94 14,Mv 95 16,Ia 96 2 94 95,Ld 97 2 96,Mv 98 12,Mv 99 16,Ia 100 2 98 99,Op 101 (.iaddr 0 (some 2) (.tmp 100) (ci 0)),Ld 102 0 101,Fa 103 6 1 4,Ld 104 0 103,Bc 105 .add 104 1,Op 106 (.build [(.int .i64 0),(.int .i64 0)] [(0,1,(.tmp 102)),(1,1,(.tmp 105))]),Op 107 (.bin .neq (.ints 2) (.tmp 97) (.tmp 106))] [0,0,3,7,0,0,48,112,240,0,512,1536,4080,8191] true) (Cd 107 (Sr [Mb 2 false] .ret) .skip)))) (Rg [Bc 108 .add 91 1,Mv 91 108]))))
def i5 : ICode := (Sr [Mb 2 false] (.seq (Sr [Cl 17 8 [],Nt 18 17,Mv 19 18,Gm 20 0 19 false,Cg 21 9 [(.tmp 20)] 19 false,Gd 22 (.un .not (.tmp 21)) 19 false,Op 23 (.pick (.tmp 19) (.con (.bool true)) (.tmp 22))] (Cd 23 (Sr [Cl 24 8 [],Mv 2 24] .ret) .skip)) (Sr [Mv 25 0,Cl 26 11 [(.tmp 25)],Mv 3 26] (Sr [Mv 27 3,Cl 28 12 [(.tmp 27),(ci 5)],Op 4 (.alloc 34 [(.int .i64 0),.nil,.nil,.nil,.nil,(.int .i64 0),(.int .i64 0),.nil,(.int .i64 0),.nil]),Sv 10 4 28] (Sr [Mv 29 3,Ld 30 10 4,Cl 31 14 [(.tmp 29),(.tmp 30)],Op 5 (.alloc 25 [(.int .i64 0),.nil]),Sv 2 5 31] (Sr [Ld 32 2 5,Op 6 (.alloc 25 [(.int .i64 0),.nil]),Sv 2 6 32] (.seq (Sr [Mc 7 0] (.block 0 (.loop qqH))) (Sr [Ld 49 10 4,Ld 50 2 6,Cl 51 20 [(.tmp 49),(.tmp 50)],Mv 48 51,Ex 52 48 0,Ex 53 48 1,Op 10 (.alloc 25 [(.int .i64 0),.nil]),Sv 2 10 52,Mv 11 53] (Sr [Ld 55 10 4,Ld 56 2 5,Cl 57 22 [(.tmp 55),(.tmp 56)],Mv 54 57,Ex 58 54 0,Ex 59 54 1,Mv 12 58,Mv 13 59] (Sr [Ld 61 10 4,Ld 62 2 6,Cl 63 22 [(.tmp 61),(.tmp 62)],Mv 60 63,Ex 64 60 0,Ex 65 60 1,Mv 14 64,Mv 15 65] (.seq (Sr [Mv 66 11,Bc 67 .neq 66 0,Mv 68 67,Gm 69 13 68 false,Gd 70 (.bin .neq .none (.tmp 69) (ci 0)) 68 false,Op 71 (.pick (.tmp 68) (.con (.bool true)) (.tmp 70)),Mv 72 71,Gm 73 15 72 false,Gd 74 (.bin .neq .none (.tmp 73) (ci 0)) 72 false,Op 75 (.pick (.tmp 72) (.con (.bool true)) (.tmp 74)),Mv 76 75,Gd 77 (.load 2 (.tmp 10)) 76 false,Gd 78 (.load 2 (.tmp 6)) 76 false,Cg 79 24 [(.tmp 77),(.tmp 78)] 76 false,Gd 80 (.un .not (.tmp 79)) 76 false,Op 81 (.pick (.tmp 76) (.con (.bool true)) (.tmp 80)),Mv 82 81,Gm 83 12 82 false,Gd 84 (.len (.tmp 83)) 82 false,Gm 85 14 82 false,Gd 86 (.len (.tmp 85)) 82 false,Gd 87 (.bin .neq .none (.tmp 84) (.tmp 86)) 82 false,Op 88 (.pick (.tmp 82) (.con (.bool true)) (.tmp 87))] (Cd 88 (Sr [Mb 2 false] .ret) .skip)) (.seq (Sr [Mv 89 14,Ln 90 89,Mc 91 0] (.block 2 (.loop qpO))) (Sr [Mb 2 true] .ret)))))))))))))
theorem fn5 : FnOk Tryz.prog 5 109 [(2, none)] i5 := fnO Tryz.func5 Tryz.call5
def qny : ICode := (Sr [Bn 97 .lss 96 95] (.seq (Cd 97 .skip (.exit 2)) (.seq (.block 3 (Sr [Ia 98 2 94 96,Ld 99 2 98,Op 17 (.alloc 50 [(.int .i64 0),(.int .i64 0)]),Sv 2 17 99] (Sr [Op 100 (.iaddr 0 (some 2) (.tmp 17) (ci 1)),Ld 101 0 100,Bc 102 .eql 101 0] (Cd 102 (Rg [Mv 103 15,Bc 104 .add 103 1,Mv 15 104]) .skip)))) (Rg [Bc 105 .add 96 1,Mv 96 105]))))
def qqJ : ICode := (Sr [Bn 85 .lss 84 83] (.seq (Cd 85 .skip (.exit 0)) (.seq (.block 1 (Sr [Ia 86 2 82 84,Ld 87 2 86,Op 12 (.alloc 25 [(.int .i64 0),.nil]),Sv 2 12 87] (Sr [Ld 89 10 4,Ld 90 2 12,Cl 91 22 [(.tmp 89),(.tmp 90)],Mv 88 91,Ex 92 88 0,Ex 93 88 1,Mv 13 92,Mv 14 93] (Sr [Mc 15 0] (.seq (Sr [Mv 94 13,Ln 95 94,Mc 96 0] (.block 2 (.loop qny))) (.seq (.reg [Mv 106 14,Bc 107 .neq 106 0,Mv 108 107,Gm 109 13 108 false,Gd 110 (.len (.tmp 109)) 108 false,Gm 111 7 108 false,Gd 112 (.len (.tmp 111)) 108 false,Gd 113 (.faddr 7 1 (.tmp 4)) 108 false,Gd 114 (.load 0 (.tmp 113)) 108 false,Gm 115 5 108 false,Gd 116 (.iaddr 14 none (.tmp 114) (.tmp 115)) 108 false,Gd 117 (.faddr 12 1 (.tmp 116)) 108 false,Gd 118 (.load 0 (.tmp 117)) 108 false,Gd 119 (.len (.tmp 118)) 108 false,Gd 120 (.bin .add .none (.tmp 112) (.tmp 119)) 108 false,Gd 121 (.faddr 7 1 (.tmp 4)) 108 false,Gd 122 (.load 0 (.tmp 121)) 108 false,Gm 123 5 108 false,Gd 124 (.iaddr 14 none (.tmp 122) (.tmp 123)) 108 false,Gd 125 (.faddr 11 1 (.tmp 124)) 108 false,Gd 126 (.load 0 (.tmp 125)) 108 false,Gd 127 (.len (.tmp 126)) 108 false,Gd 128 (.bin .sub .none (.tmp 120) (.tmp 127)) 108 false,Gd 129 (.bin .neq .none (.tmp 110) (.tmp 128)) 108 false,Op 130 (.pick (.tmp 108) (.con (.bool true)) (.tmp 129)),Mv 131 130,Gm 132 15 131 false,Gd 133 (.faddr 7 1 (.tmp 4)) 131 false,Gd 134 (.load 0 (.tmp 133)) 131 false,Gm 135 5 131 false,Gd 136 (.iaddr 14 none (.tmp 134) (.tmp 135)) 131 false,Gd 137 (.faddr 12 1 (.tmp 136)) 131 false,Gd 138 (.load 0 (.tmp 137)) 131 false,Gd 139 (.len (.tmp 138)) 131 false,Gd 140 (.bin .lss .none (.tmp 132) (.tmp 139)) 131 false,Op 141 (.pick (.tmp 131) (.con (.bool true)) (.tmp 140)),Mv 142 141,Gd 143 (.faddr 1 1 (.tmp 12)) 142 false,Gd 144 (.load 0 (.tmp 143)) 142 false,Gd 145 (.iaddr 2 none (.tmp 144) (ci 0)) 142 false,Gd 146 (.faddr 0 1 (.tmp 145)) 142 false,Gd 147 (.load 0 (.tmp 146)) 142 false,Gd 148 (.faddr 7 1 (.tmp 4)) 142 false,Gd 149 (.load 0 (.tmp 148)) 142 false,Gm 150 5 142 false,Gd 151 (.iaddr 14 none (.tmp 149) (.tmp 150)) 142 false,Gd 152 (.faddr 2 1 (.tmp 151)) 142 false,Gd 153 (.load 0 (.tmp 152)) 142 false,Gd 154 (.bin .neq .none (.tmp 147) (.tmp 153)) 142 false,Op 155 (.pick (.tmp 142) (.con (.bool true)) (.tmp 154))] [0,1,3,7,15,7,39,7,135,7,903,1927,3975,8071,16359,7,32775,7,229383,491527,1015815,2064391,4194279,8388607,16777215,33554431,67108863,67108863,201326591,67108863,1006632959,2080374783,4227858431,8522825727,17179869183,34359738367,68719476735,137438953471,274877906943,549755813887,1099511627775,2199023255551,137438953471,4535485464575,137438953471,30923764531199,66108136620031,136476880797695,281474976710655,562949953421311] true) (Cd 155 (Sr [Mb 2 false] .ret) .skip))))))) (Rg [Bc 156 .add 84 1,Mv 84 156]))))
def i6 : ICode := (Sr [Mb 2 false] (.seq (Sr [Cl 18 8 [],Nt 19 18,Mv 20 19,Gm 21 0 20 false,Cg 22 9 [(.tmp 21)] 20 false,Gd 23 (.un .not (.tmp 22)) 20 false,Op 24 (.pick (.tmp 20) (.con (.bool true)) (.tmp 23))] (Cd 24 (Sr [Cl 25 8 [],Mv 2 25] .ret) .skip)) (Sr [Mv 26 0,Cl 27 11 [(.tmp 26)],Mv 3 27] (Sr [Mv 28 3,Cl 29 12 [(.tmp 28),(ci 5)],Op 4 (.alloc 34 [(.int .i64 0),.nil,.nil,.nil,.nil,(.int .i64 0),(.int .i64 0),.nil,(.int .i64 0),.nil]),Sv 10 4 29] (.seq (Sr [Fa 30 7 1 4,Ld 31 0 30,Ln 32 31,Bc 33 .eql 32 0] (Cd 33 (Sr [Mb 2 true] .ret) .skip)) (Sr [Mv 34 3,Fa 35 7 1 4,Ld 36 0 35,Ln 37 36,Cl 38 16 [(.tmp 34),(.tmp 37)],Mv 5 38] (Sr [Mv 39 3,Ld 40 10 4,Cl 41 14 [(.tmp 39),(.tmp 40)],Op 6 (.alloc 25 [(.int .i64 0),.nil]),Sv 2 6 41] (.seq (.reg [Fa 42 1 1 6,Ld 43 0 42,Fa 44 7 1 4,Ld 45 0 44,Mv 46 5,Ia 47 14 45 46,Fa 48 1 1 47,Ld 49 0 48,Op 50 (.iaddr 2 none (.tmp 43) (ci 0)),Fa 51 0 1 50,Sv 0 51 49] [0,1,0,4,0,28,60,124,255,511,1023] true) (Sr [Ld 53 10 4,Ld 54 2 6,Cl 55 22 [(.tmp 53),(.tmp 54)],Mv 52 55,Ex 56 52 0,Ex 57 52 1,Mv 7 56,Mv 8 57] (Sr [Ld 59 10 4,Mv 60 5,Ld 61 2 6,Cl 62 17 [(.tmp 59),(.tmp 60),(.tmp 61)],Mv 58 62,Ex 63 58 0,Ex 64 58 1,Mv 9 63,Mv 10 64] (.seq (Sr [Fa 65 7 1 4,Ld 66 0 65,Mv 67 5,Ia 68 14 66 67,Fa 69 11 1 68,Ld 70 0 69,Ln 71 70,Bc 72 .eql 71 0,Mv 73 72,Gm 74 10 73 true,Gd 75 (.bin .eql .none (.tmp 74) (ci 0)) 73 true,Op 76 (.pick (.tmp 73) (.tmp 75) (.con (.bool false))),Mv 77 76,Gm 78 9 77 true,Gd 79 (.len (.tmp 78)) 77 true,Gd 80 (.bin .neq .none (.tmp 79) (ci 1)) 77 true,Op 81 (.pick (.tmp 77) (.tmp 80) (.con (.bool false)))] (Cd 81 (Sr [Mb 2 false] .ret) .skip)) (.seq (Sr [Mv 82 9,Ln 83 82,Mc 84 0] (.block 0 (.loop qqJ))) (Sr [Mv 157 8,Bc 158 .eql 157 0,Mv 159 158,Gm 160 10 159 true,Gd 161 (.bin .eql .none (.tmp 160) (ci 0)) 159 true,Gm 162 161 159 true,Gm 163 10 162 false,Gd 164 (.bin .eql .none (.tmp 163) (ci 1)) 162 false,Gd 165 (.pick (.tmp 162) (.con (.bool true)) (.tmp 164)) 159 true,Op 166 (.pick (.tmp 159) (.tmp 165) (.con (.bool false))),Mv 2 166] .ret)))))))))))))
theorem fn6 : FnOk Tryz.prog 6 167 [(2, none)] i6 := fnO Tryz.func6 Tryz.call6
def qpY : ICode := (.seq (Sr [Mv 54 12,Mv 55 7,Bn 56 .lss 54 55,Mv 57 56,Gm 58 11 57 true,Gd 59 (.bin .eql .none (.tmp 58) (ci 0)) 57 true,Op 60 (.pick (.tmp 57) (.tmp 59) (.con (.bool false)))] (Cd 60 .skip (.exit 0))) (.seq (.block 1 (Rg [Ld 64 10 6,Ld 65 2 10,Cl 66 20 [(.tmp 64),(.tmp 65)],Mv 63 66,Ex 67 63 0,Ex 68 63 1,Sv 2 10 67,Mv 11 68])) (Rg [Mv 61 12,Bc 62 .add 61 1,Mv 12 62])))
def i7 : ICode := (Sr [Mb 4 false] (.seq (Sr [Cl 15 8 [],Nt 16 15,Mv 17 16,Gm 18 0 17 false,Cg 19 9 [(.tmp 18)] 17 false,Gd 20 (.un .not (.tmp 19)) 17 false,Op 21 (.pick (.tmp 17) (.con (.bool true)) (.tmp 20))] (Cd 21 (Sr [Cl 22 8 [],Mv 4 22] .ret) .skip)) (Sr [Mv 23 0,Cl 24 11 [(.tmp 23)],Mv 5 24] (Sr [Mv 25 5,Cl 26 12 [(.tmp 25),(ci 5)],Op 6 (.alloc 34 [(.int .i64 0),.nil,.nil,.nil,.nil,(.int .i64 0),(.int .i64 0),.nil,(.int .i64 0),.nil]),Sv 10 6 26] (Sr [Mv 27 1,Op 28 (.conv .i64 (.tmp 27)),Bc 29 .rem 28 5,Mv 7 29] (.seq (.reg [Mv 30 5,Fa 31 2 1 6,Ld 32 0 31,Ln 33 32,Cl 34 16 [(.tmp 30),(.tmp 33)],Mv 35 5,Fa 36 6 1 6,Ld 37 0 36,Bc 38 .add 37 2,Cl 39 16 [(.tmp 35),(.tmp 38)],Mv 8 34,Mv 9 39] [0,0,2,6,15,0,0,64,192,511,1023,2047] true) (Sr [Ld 41 10 6,Mv 42 8,Op 43 (.build [(.int .i64 0),.nil] [(0,1,(.tmp 42))]),Mv 44 9,Op 45 (.build [(.int .i64 0),.nil] [(0,1,(.tmp 44))]),Op 46 (.rows 25 2 2 [(.int .i64 0),.nil] [(0,2,(.tmp 43)),(2,2,(.tmp 45))]),Op 47 (.build [(.int .i64 0),.nil] [(1,1,(.tmp 46))]),Op 48 (.rows 25 2 1 [(.int .i64 0),.nil] [(0,2,(.tmp 47))]),Op 49 (.build [(.int .i64 0),.nil] [(1,1,(.tmp 48))]),Op 50 (.rows 25 2 1 [(.int .i64 0),.nil] [(0,2,(.tmp 49))]),Cl 51 27 [(.tmp 41),(ci 0),(.tmp 50)],Mv 40 51,Ex 52 40 0,Ex 53 40 1,Op 10 (.alloc 25 [(.int .i64 0),.nil]),Sv 2 10 52,Mv 11 53] (.seq (Sr [Mc 12 0] (.block 0 (.loop qpY))) (.seq (Sr [Mv 69 11,Bc 70 .neq 69 0] (Cd 70 (Sr [Mb 4 false] .ret) .skip)) (Sr [Ld 72 10 6,Ld 73 2 10,Cl 74 22 [(.tmp 72),(.tmp 73)],Mv 71 74,Ex 75 71 0,Ex 76 71 1,Mv 13 75,Mv 14 76] (.seq (.reg [Mv 77 14,Bc 78 .eql 77 0,Mv 79 78,Gm 80 13 79 true,Gd 81 (.len (.tmp 80)) 79 true,Gd 82 (.bin .eql .none (.tmp 81) (ci 1)) 79 true,Op 83 (.pick (.tmp 79) (.tmp 82) (.con (.bool false))),Mv 84 83,Gm 85 13 84 true,Gd 86 (.iaddr 2 none (.tmp 85) (ci 0)) 84 true,Gd 87 (.load 2 (.tmp 86)) 84 true,Gm 88 8 84 true,Gm 89 9 84 true,Gm 90 7 84 true,Gd 91 (.bin .add .none (.tmp 89) (.tmp 90)) 84 true,Gd 92 (.faddr 6 1 (.tmp 6)) 84 true,Gd 93 (.load 0 (.tmp 92)) 84 true,Gd 94 (.bin .add .none (.tmp 93) (ci 1)) 84 true,Gd 95 (.mm false (.tmp 91) (.tmp 94)) 84 true,Gd 96 (.build [(.int .i64 0),(.int .i64 0)] [(0,1,(.tmp 88)),(1,1,(.tmp 95))]) 84 true,Gd 97 (.bin .eql (.ints 2) (.tmp 87) (.tmp 96)) 84 true,Op 98 (.pick (.tmp 84) (.tmp 97) (.con (.bool false))),Mv 4 98] [0,1,3,7,15,31,63,127,255,511,1023,255,255,255,12543,255,33023,98559,258303,522495,1048575,2097151,4194303] true) .ret)))))))))))
theorem fn7 : FnOk Tryz.prog 7 99 [(4, none)] i7 := fnO Tryz.func7 Tryz.call7
def i8 : ICode := (Sr [Mb 0 false] (Sr [⟨some 8,.op (.rows 9 0 1 [(.str ⟨#[]⟩)] [(0,1,(.con (.str ⟨#[113]⟩)))]), none⟩,⟨some 9,.op (.rows 9 0 1 [(.str ⟨#[]⟩)] [(0,1,(.con (.str ⟨#[112]⟩)))]), none⟩,Op 10 (.build [(.int .i64 0),(.int .i64 0),(.int .i64 0)] [(1,1,(ci 1)),(2,1,(ci 2))]),Op 11 (.rows 64 3 1 [(.int .i64 0),(.int .i64 0),(.int .i64 0)] [(0,3,(.tmp 10))]),Op 12 (.rows 3 0 1 [(.int .i64 0)] [(0,1,(ci 0))]),⟨some 13,.op (.build [(.str ⟨#[]⟩),(.int .i64 0),(.int .i64 0),.nil,.nil,.nil,(.int .i64 0),(.int .i64 0),(.int .i64 0),.nil,.nil,.nil,.nil,(.int .i64 0)] [(0,1,(.con (.str ⟨#[114]⟩))),(11,1,(.tmp 11)),(12,1,(.tmp 12))]), none⟩,⟨some 14,.op (.rows 60 14 1 [(.str ⟨#[]⟩),(.int .i64 0),(.int .i64 0),.nil,.nil,.nil,(.int .i64 0),(.int .i64 0),(.int .i64 0),.nil,.nil,.nil,.nil,(.int .i64 0)] [(0,14,(.tmp 13))]), none⟩,Op 15 (.build [(.int .i64 0),.nil] []),Op 16 (.build [(.int .i64 0),.nil] []),Op 17 (.build [(.int .i64 0),.nil] [(0,1,(ci 2))]),Op 18 (.rows 25 2 2 [(.int .i64 0),.nil] [(0,2,(.tmp 16)),(2,2,(.tmp 17))]),Op 19 (.build [(.int .i64 0),.nil] [(1,1,(.tmp 18))]),Op 20 (.rows 25 2 1 [(.int .i64 0),.nil] [(0,2,(.tmp 19))]),Op 21 (.build [(.int .i64 0),.nil] [(1,1,(.tmp 20))]),Op 22 (.rows 25 2 2 [(.int .i64 0),.nil] [(0,2,(.tmp 15)),(2,2,(.tmp 21))]),Op 23 (.build [(.int .i64 0),.nil] [(1,1,(.tmp 22))]),Op 24 (.build [(.int .i64 0),.nil,.nil,.nil,.nil,(.int .i64 0),(.int .i64 0),.nil,(.int .i64 0),.nil] [(0,1,(ci 5)),(1,1,(.tmp 8)),(2,1,(.tmp 9)),(6,1,(ci 1)),(7,1,(.tmp 14)),(8,2,(.tmp 23))]),Op 1 (.alloc 34 [(.int .i64 0),.nil,.nil,.nil,.nil,(.int .i64 0),(.int .i64 0),.nil,(.int .i64 0),.nil]),Sv 10 1 24] (Sr [Ld 26 10 1,Fa 27 8 2 1,Ld 28 2 27,Cl 29 20 [(.tmp 26),(.tmp 28)],Mv 25 29,Ex 30 25 0,Ex 31 25 1,Op 2 (.alloc 25 [(.int .i64 0),.nil]),Sv 2 2 30,Mv 3 31] (Sr [Ld 33 10 1,Ld 34 2 2,Cl 35 17 [(.tmp 33),(ci 0),(.tmp 34)],Mv 32 35,Ex 36 32 0,Ex 37 32 1,Mv 4 36,Mv 5 37] (Sr [Ld 39 10 1,Ld 40 2 2,Cl 41 22 [(.tmp 39),(.tmp 40)],Mv 38 41,Ex 42 38 0,Ex 43 38 1,Mv 6 42,Mv 7 43] (Sr [Mv 44 3,Bc 45 .eql 44 0,Mv 46 45,Gm 47 5 46 true,Gd 48 (.bin .eql .none (.tmp 47) (ci 0)) 46 true,Op 49 (.pick (.tmp 46) (.tmp 48) (.con (.bool false))),Mv 50 49,Gm 51 7 50 true,Gd 52 (.bin .eql .none (.tmp 51) (ci 0)) 50 true,Op 53 (.pick (.tmp 50) (.tmp 52) (.con (.bool false))),Mv 54 53,Gd 55 (.load 2 (.tmp 2)) 54 true,Gd 56 (.faddr 8 2 (.tmp 1)) 54 true,Gd 57 (.load 2 (.tmp 56)) 54 true,Cg 58 24 [(.tmp 55),(.tmp 57)] 54 true,Op 59 (.pick (.tmp 54) (.tmp 58) (.con (.bool false))),Mv 60 59,Gm 61 4 60 true,Gd 62 (.len (.tmp 61)) 60 true,Gd 63 (.bin .eql .none (.tmp 62) (ci 1)) 60 true,Op 64 (.pick (.tmp 60) (.tmp 63) (.con (.bool false))),Mv 65 64,Gm 66 4 65 true,Gd 67 (.iaddr 2 none (.tmp 66) (ci 0)) 65 true,Gd 68 (.faddr 1 1 (.tmp 67)) 65 true,Gd 69 (.load 0 (.tmp 68)) 65 true,Gd 70 (.iaddr 2 none (.tmp 69) (ci 1)) 65 true,Gd 71 (.faddr 1 1 (.tmp 70)) 65 true,Gd 72 (.load 0 (.tmp 71)) 65 true,Gd 73 (.iaddr 2 none (.tmp 72) (ci 0)) 65 true,Gd 74 (.faddr 1 1 (.tmp 73)) 65 true,Gd 75 (.load 0 (.tmp 74)) 65 true,Gd 76 (.iaddr 2 none (.tmp 75) (ci 1)) 65 true,Gd 77 (.faddr 0 1 (.tmp 76)) 65 true,Gd 78 (.load 0 (.tmp 77)) 65 true,Gd 79 (.bin .eql .none (.tmp 78) (ci 0)) 65 true,Op 80 (.pick (.tmp 65) (.tmp 79) (.con (.bool false))),Mv 81 80,Gm 82 6 81 true,Gd 83 (.len (.tmp 82)) 81 true,Gd 84 (.bin .eql .none (.tmp 83) (ci 1)) 81 true,Op 85 (.pick (.tmp 81) (.tmp 84) (.con (.bool false))),Mv 86 85,Gm 87 6 86 true,Gd 88 (.iaddr 2 none (.tmp 87) (ci 0)) 86 true,Gd 89 (.load 2 (.tmp 88)) 86 true,Gd 90 (.build [(.int .i64 0),(.int .i64 0)] [(0,1,(ci 0)),(1,1,(ci 2))]) 86 true,Gd 91 (.bin .eql (.ints 2) (.tmp 89) (.tmp 90)) 86 true,Op 92 (.pick (.tmp 86) (.tmp 91) (.con (.bool false))),Mv 0 92] .ret))))))
theorem fn8 : FnOk Tryz.prog 8 93 [(0, none)] i8 := fnO Tryz.func8 Tryz.call8
def i9 : ICode := (Sr [Mb 2 false] (Sr [Mv 3 0,Ln 4 3,Bc 5 .leq 4 400,Mv 2 5] .ret))
theorem fn9 : FnOk Tryz.prog 9 6 [(2, none)] i9 := fnO Tryz.func9 Tryz.call9
def i11 : ICode := (Sr [Op 2 (.mv (.con .nilp))] (Sr [Mv 3 0,Op 4 (.build [.nil,(.int .i64 0),(.int .u64 0)] [(0,1,(.tmp 3)),(2,1,(.con (.int .u64 11400714819323198485)))]),Bx 5 67 4,Mv 2 5] .ret))
theorem fn11 : FnOk Tryz.prog 11 6 [(2, none)] i11 := fnO Tryz.func11 Tryz.call11
def qkm : ICode := (.seq (Sr [Mv 76 6,Bc 77 .gtr 76 0] (Cd 77 .skip (.exit 1))) (.seq (.block 2 (Sr [Mv 80 0,Ld 81 10 5,Cl 82 31 [(.tmp 80),(.tmp 81)],⟨some 7,.op (.alloc 60 [(.str ⟨#[]⟩),(.int .i64 0),(.int .i64 0),.nil,.nil,.nil,(.int .i64 0),(.int .i64 0),(.int .i64 0),.nil,.nil,.nil,.nil,(.int .i64 0)]), none⟩,Sv 14 7 82] (Sr [Mv 83 6,Op 84 (.bin .add .none (ci 48) (.tmp 83)),Op 85 (.conv .u8 (.tmp 84)),Op 86 (.rows 5 0 1 [(.int .u8 0)] [(0,1,(.tmp 85))]),Op 87 (.b2s (.tmp 86)),⟨some 88,.op (.bin .add .none (.con (.str ⟨#[114]⟩)) (.tmp 87)), none⟩,Fa 89 0 1 7,Sv 0 89 88] (Rg [Fa 90 7 1 5,Ld 91 0 90,Ld 92 14 7,⟨some 93,.op (.rows 60 14 1 [(.str ⟨#[]⟩),(.int .i64 0),(.int .i64 0),.nil,.nil,.nil,(.int .i64 0),(.int .i64 0),(.int .i64 0),.nil,.nil,.nil,.nil,(.int .i64 0)] [(0,14,(.tmp 92))]), none⟩,Op 94 (.app 60 14 (.tmp 91) (.tmp 93)),Fa 95 7 1 5,Sv 0 95 94])))) (Rg [Mv 78 6,Bc 79 .sub 78 1,Mv 6 79])))
def i12 : ICode := (Sr [Op 4 (.alloc 34 [(.int .i64 0),.nil,.nil,.nil,.nil,(.int .i64 0),(.int .i64 0),.nil,(.int .i64 0),.nil])] (.seq (Sr [Mv 8 1,Bc 9 .eql 8 0] (Cd 9 (Rg [Mv 10 0,Cl 11 16 [(.tmp 10),(ci 5)],Op 12 (.bin .add .none (ci 1) (.tmp 11)),Mv 1 12]) .skip)) (Sr [Mv 13 1,Mv 14 0,Cl 15 16 [(.tmp 14),(ci 3)],Op 16 (.bin .add .none (ci 1) (.tmp 15)),⟨some 17,.call (.call 28 [(.con (.str ⟨#[113]⟩)),(.tmp 16)]), none⟩,Op 18 (.build [(.int .i64 0),.nil,.nil,.nil,.nil,(.int .i64 0),(.int .i64 0),.nil,(.int .i64 0),.nil] [(0,1,(.tmp 13)),(1,1,(.tmp 17))]),Op 5 (.alloc 34 [(.int .i64 0),.nil,.nil,.nil,.nil,(.int .i64 0),(.int .i64 0),.nil,(.int .i64 0),.nil]),Sv 10 5 18] (.seq (Sr [Mv 19 1] (.block 0 (.seq (Sr [Bc 21 .eql 19 2,Mv 20 21] (Cd 20 .skip (Rg [Bc 22 .eql 19 3,Mv 20 22]))) (Cd 20 (Rg [Mv 23 0,Cl 24 16 [(.tmp 23),(ci 2)],Op 25 (.bin .add .none (ci 1) (.tmp 24)),⟨some 26,.call (.call 28 [(.con (.str ⟨#[99]⟩)),(.tmp 25)]), none⟩,Fa 27 2 1 5,Sv 0 27 26]) (.seq (Sr [Bc 29 .eql 19 1,Mv 28 29] (Cd 28 .skip (Sr [Bc 30 .eql 19 6,Mv 28 30] (Cd 28 .skip (Rg [Bc 31 .eql 19 5,Mv 28 31]))))) (Cd 28 (Rg [Mv 32 0,Cl 33 16 [(.tmp 32),(ci 3)],Op 34 (.bin .add .none (ci 1) (.tmp 33)),⟨some 35,.call (.call 28 [(.con (.str ⟨#[112]⟩)),(.tmp 34)]), none⟩,Fa 36 2 1 5,Sv 0 36 35]) .skip)))))) (.seq (Sr [Mv 37 1,Bc 38 .eql 37 2,Mv 39 38,Gm 40 1 39 false,Gd 41 (.bin .eql .none (.tmp 40) (ci 3)) 39 false,Op 42 (.pick (.tmp 39) (.con (.bool true)) (.tmp 41)),Mv 43 42,Gm 44 1 43 false,Gd 45 (.bin .eql .none (.tmp 44) (ci 4)) 43 false,Op 46 (.pick (.tmp 43) (.con (.bool true)) (.tmp 45))] (Cd 46 (Rg [Mv 47 0,Cl 48 16 [(.tmp 47),(ci 3)],Op 49 (.bin .add .none (ci 1) (.tmp 48)),⟨some 50,.call (.call 28 [(.con (.str ⟨#[108]⟩)),(.tmp 49)]), none⟩,Fa 51 3 1 5,Sv 0 51 50]) .skip)) (.seq (Sr [Mv 52 1,Bc 53 .eql 52 3] (Cd 53 (Rg [Mv 54 0,Fa 55 3 1 5,Ld 56 0 55,Ln 57 56,Cl 58 29 [(.tmp 54),(.tmp 57)],Fa 59 4 1 5,Sv 0 59 58]) .skip)) (.seq (Sr [Mv 60 1,Bc 61 .eql 60 4] (Cd 61 (Rg [Mv 62 0,Cl 63 16 [(.tmp 62),(ci 2)],Op 64 (.bin .add .none (ci 1) (.tmp 63)),Fa 65 5 1 5,Sv 0 65 64]) .skip)) (.seq (Sr [Mv 66 1,Bc 67 .eql 66 5] (Cd 67 (Sr [Mv 68 0,Cl 69 16 [(.tmp 68),(ci 2)],Fa 70 6 1 5,Sv 0 70 69] (Sr [Mv 71 0,Cl 72 30 [(.tmp 71),(ci 6)]] (Cd 72 (Rg [Fa 73 6 1 5,St (.store 0 (.tmp 73) (ci 2))]) .skip))) .skip)) (.seq (Sr [Mv 74 0,Cl 75 16 [(.tmp 74),(ci 5)],Mv 6 75] (.block 1 (.loop qkm))) (.seq (Sr [Mv 96 1,Bc 97 .neq 96 6] (Cd 97 (Rg [Mv 98 0,Ld 99 10 5,Cl 100 14 [(.tmp 98),(.tmp 99)],Fa 101 8 2 5,Sv 2 101 100]) .skip)) (Sr [Ld 102 10 5,Sv 10 4 102] .ret)))))))))))
theorem fn12 : FnOk Tryz.prog 12 103 [(4, some 10)] i12 := fnO Tryz.func12 Tryz.call12
def i14 : ICode := (Sr [Bx 3 34 1,Op 4 (.alloc 25 [(.int .i64 0),.nil])] (Sr [Ld 6 10 3,Op 5 (.alloc 34 [(.int .i64 0),.nil,.nil,.nil,.nil,(.int .i64 0),(.int .i64 0),.nil,(.int .i64 0),.nil]),Sv 10 5 6] (Sr [Fa 7 7 1 5,St (.store 0 (.tmp 7) (.con .nil))] (Sr [Op 8 (.build [(.int .i64 0),.nil] []),Fa 9 8 2 5,Sv 2 9 8] (Sr [Mv 10 0,Ld 11 10 5,Cl 12 36 [(.tmp 11)],Cl 13 33 [(.tmp 10),(.tmp 12)],Sv 2 4 13] .ret)))))
theorem fn14 : FnOk Tryz.prog 14 14 [(4, some 2)] i14 := fnO Tryz.func14 Tryz.call14
def i16 : ICode := (Sr [Mc 4 0] (.seq (Sr [Mv 5 1,Bc 6 .lss 5 1] (Cd 6 (Sr [Mc 4 0] .ret) .skip)) (Sr [Mv 7 0,Cl 8 40 [(.tmp 7)],Op 9 (.bin .shr .none (.tmp 8) (.con (.int .u64 1))),Op 10 (.conv .i64 (.tmp 9)),Mv 11 1,Bn 12 .rem 10 11,Mv 4 12] .ret)))
theorem fn16 : FnOk Tryz.prog 16 13 [(4, none)] i16 := fnO Tryz.func16 Tryz.call16
def qjX : ICode := (Sr [Bn 56 .lss 55 54] (.seq (Cd 56 .skip (.exit 1)) (.seq (.block 2 (Sr [Ia 57 0 53 55,Ld 58 0 57,Mv 12 58] (Rg [Ld 59 0 10,Mv 60 12,Op 61 (.build [(.int .i64 0),(.int .i64 0)] [(0,1,(.tmp 60)),(1,1,(ci 0))]),Op 62 (.rows 50 2 1 [(.int .i64 0),(.int .i64 0)] [(0,2,(.tmp 61))]),Op 63 (.app 50 2 (.tmp 59) (.tmp 62)),Sv 0 10 63]))) (Rg [Bc 64 .add 55 1,Mv 55 64]))))
def i17 : ICode := (Sr [Bx 3 34 0,Bx 5 25 2,Op 6 (.mv (.con .nil)),Mc 7 0] (.seq (Sr [Ld 15 10 3,Cl 16 41 [(.tmp 15)],Mv 8 16] (Sr [Mv 17 8,Bc 18 .neq 17 0] (Cd 18 (Sr [Mv 19 8,Op 6 (.mv (.con .nil)),Mv 7 19] .ret) .skip))) (.seq (.block 0 (Sr [Fa 21 0 1 3,Ld 22 0 21,Bc 23 .neq 22 5,Mv 20 23] (Cd 20 (Sr [Op 6 (.mv (.con .nil)),Mc 7 15] .ret) (Sr [Mv 25 1,Bc 26 .lss 25 0,Mv 27 26,Gm 28 1 27 false,Gd 29 (.faddr 7 1 (.tmp 3)) 27 false,Gd 30 (.load 0 (.tmp 29)) 27 false,Gd 31 (.len (.tmp 30)) 27 false,Gd 32 (.bin .geq .none (.tmp 28) (.tmp 31)) 27 false,Op 33 (.pick (.tmp 27) (.con (.bool true)) (.tmp 32)),Mv 24 33] (Cd 24 (Sr [Op 6 (.mv (.con .nil)),Mc 7 16] .ret) (Sr [Ld 35 10 3,Ld 36 2 5,Cl 37 42 [(.tmp 35),(.tmp 36)],Nt 38 37,Mv 34 38] (Cd 34 (Sr [Op 6 (.mv (.con .nil)),Mc 7 17] .ret) .skip))))))) (Sr [Fa 39 7 1 3,Ld 40 0 39,Mv 41 1,Ia 42 14 40 41,Ld 43 14 42,⟨some 9,.op (.alloc 60 [(.str ⟨#[]⟩),(.int .i64 0),(.int .i64 0),.nil,.nil,.nil,(.int .i64 0),(.int .i64 0),(.int .i64 0),.nil,.nil,.nil,.nil,(.int .i64 0)]), none⟩,Sv 14 9 43] (.seq (.seq (.reg [Fa 44 1 1 5,Ld 45 0 44,Op 46 (.iaddr 2 none (.tmp 45) (ci 0)),Fa 47 0 1 46,Ld 48 0 47,Fa 49 1 1 9,Ld 50 0 49,Bn 51 .neq 48 50] [0,1,3,7,15,0,32,127] true) (Cd 51 (Sr [Op 6 (.mv (.con .nil)),Mc 7 0] .ret) .skip)) (Sr [Op 10 (.alloc 46 [.nil])] (.seq (Sr [Fa 52 12 1 9,Ld 53 0 52,Ln 54 53,Mc 55 0] (.block 1 (.loop qjX))) (Sr [Op 13 (.alloc 23 [.nil])] (Sr [Op 14 (.alloc 4 [(.bool false)]),St (.store 0 (.tmp 14) (.con (.bool true)))] (.seq (.reg [Ld 65 2 5,Cl 66 44 [(.tmp 65)],Fa 67 11 1 9,Ld 68 0 67,Op 69 (.mkfn 45 [(.tmp 3),(.tmp 9),(.tmp 10),(.tmp 13),(.tmp 14)]),Cl 70 43 [(.tmp 66),(.tmp 68),(.tmp 69)]] [0,1,0,4,0,31] true) (.seq (Sr [Ld 71 0 14,Nt 72 71] (Cd 72 (Sr [Op 6 (.mv (.con .nil)),Mc 7 1] .ret) .skip)) (Sr [Ld 73 0 13,Cl 74 48 [(.tmp 73),(.fnc 49)]] (Sr [Ld 75 0 13,Cl 76 50 [(.tmp 75),(.fnc 51)],Mv 6 76,Mc 7 0] .ret)))))))))))))
theorem fn17 : FnOk Tryz.prog 17 77 [(6, none), (7, none)] i17 := fnO Tryz.func17 Tryz.call17
def qjH : ICode := (Sr [Bn 23 .lss 22 21] (.seq (Cd 23 .skip (.exit 0)) (.seq (.block 1 (Sr [Mv 24 22,Mv 8 24] (.reg [Mv 25 7,Mv 26 8,Mv 27 7,Mv 28 8,Ia 29 2 27 28,Op 30 (.iaddr 0 (some 2) (.tmp 29) (ci 1)),Ld 31 0 30,Bc 32 .add 31 1,Fa 33 6 1 2,Ld 34 0 33,Bc 35 .add 34 1,Op 36 (.mm false (.tmp 32) (.tmp 35)),Ia 37 2 25 26,Op 38 (.iaddr 0 (some 2) (.tmp 37) (ci 1)),Sv 0 38 36] [0,0,0,0,12,28,60,124,0,256,768,2044,3,8191,16383] true))) (Rg [Bc 39 .add 22 1,Mv 22 39]))))
def i20 : ICode := (Sr [Bx 2 34 0,Bx 3 25 1,Op 4 (.alloc 25 [(.int .i64 0),.nil]),Mc 5 0] (.seq (Sr [Ld 11 10 2,Ld 12 2 3,Cl 13 57 [(.tmp 11),(.tmp 12)],Mv 6 13] (Sr [Mv 14 6,Bc 15 .neq 14 0] (Cd 15 (Sr [Op 16 (.build [(.int .i64 0),.nil] []),Mv 17 6,Sv 2 4 16,Mv 5 17] .ret) .skip))) (Sr [Ld 18 2 3,Cl 19 44 [(.tmp 18)],Mv 7 19] (.seq (Sr [Mv 20 7,Ln 21 20,Mc 22 0] (.block 0 (.loop qjH))) (.seq (.reg [Ld 41 10 2,Fa 42 1 1 3,Ld 43 0 42,Op 44 (.iaddr 2 none (.tmp 43) (ci 0)),Fa 45 0 1 44,Ld 46 0 45,Mv 47 7,Cl 48 46 [(.tmp 41),(.tmp 46),(.tmp 47)],Mv 40 48,Ex 49 40 0,Ex 50 40 1,Op 9 (.alloc 25 [(.int .i64 0),.nil]),Sv 2 9 49,Mv 10 50] [0,0,2,6,14,30,0,127,255,511,511,0,3071,8191] true) (Sr [Ld 51 2 9,Sv 2 4 51,Mc 5 0] .ret))))))
theorem fn20 : FnOk Tryz.prog 20 52 [(4, some 2), (5, none)] i20 := fnO Tryz.func20 Tryz.call20
def i22 : ICode := (Sr [Bx 2 34 0,Bx 3 25 1,Op 4 (.mv (.con .nil)),Mc 5 0] (.seq (Sr [Ld 7 10 2,Ld 8 2 3,Cl 9 57 [(.tmp 7),(.tmp 8)],Mv 6 9] (Sr [Mv 10 6,Bc 11 .neq 10 0] (Cd 11 (Sr [Mv 12 6,Op 4 (.mv (.con .nil)),Mv 5 12] .ret) .skip))) (Sr [Ld 13 2 3,Cl 14 44 [(.tmp 13)],Mv 4 14,Mc 5 0] .ret)))
theorem fn22 : FnOk Tryz.prog 22 15 [(4, none), (5, none)] i22 := fnO Tryz.func22 Tryz.call22
def i24 : ICode := (Sr [Bx 2 25 0,Bx 3 25 1,Mb 4 false] (Sr [Ld 5 2 2,Ld 6 2 3,Cl 7 58 [(.tmp 5),(.tmp 6)],Bc 8 .eql 7 0,Mv 4 8] .ret))
theorem fn24 : FnOk Tryz.prog 24 9 [(4, none)] i24 := fnO Tryz.func24 Tryz.call24
def i25 : ICode := (Sr [Bx 1 34 0,Op 2 (.alloc 54 [(.int .i64 0),(.int .i64 0),.nil,.nil]),Mc 3 0] (.seq (Sr [Ld 5 10 1,Cl 6 59 [(.tmp 5)],Mv 4 6] (Sr [Mv 7 4,Bc 8 .neq 7 0] (Cd 8 (Sr [Op 9 (.build [(.int .i64 0),(.int .i64 0),.nil,.nil] []),Mv 10 4,Sv 4 2 9,Mv 3 10] .ret) .skip))) (Sr [Ld 11 10 1,Cl 12 60 [(.tmp 11)],Sv 4 2 12,Mc 3 0] .ret)))
theorem fn25 : FnOk Tryz.prog 25 13 [(2, some 4), (3, none)] i25 := fnO Tryz.func25 Tryz.call25
def i27 : ICode := (Sr [Bx 3 34 0,Op 6 (.alloc 25 [(.int .i64 0),.nil]),Mc 7 0] (.seq (Sr [Ld 10 10 3,Cl 11 59 [(.tmp 10)],Mv 8 11] (Sr [Mv 12 8,Bc 13 .neq 12 0] (Cd 13 (Sr [Op 14 (.build [(.int .i64 0),.nil] []),Mv 15 8,Sv 2 6 14,Mv 7 15] .ret) .skip))) (Sr [Mv 16 1,Op 17 (.build [(.int .i64 0),.nil] [(0,1,(.tmp 16))]),Op 18 (.rows 25 2 1 [(.int .i64 0),.nil] [(0,2,(.tmp 17))]),Mv 19 2,Op 20 (.app 25 2 (.tmp 18) (.tmp 19)),Op 21 (.build [(.int .i64 0),.nil] [(1,1,(.tmp 20))]),Op 9 (.alloc 25 [(.int .i64 0),.nil]),Sv 2 9 21] (.seq (.seq (.reg [Ld 22 10 3,Cl 23 60 [(.tmp 22)],Ld 24 2 9,Cl 25 61 [(.tmp 23),(.tmp 24)],Nt 26 25] [0,1,0,7,15] true) (Cd 26 (Sr [Op 27 (.build [(.int .i64 0),.nil] []),Sv 2 6 27,Mc 7 17] .ret) .skip)) (Sr [Ld 28 2 9,Cl 29 37 [(.tmp 28)],Sv 2 6 29,Mc 7 0] .ret)))))
theorem fn27 : FnOk Tryz.prog 27 30 [(6, some 2), (7, none)] i27 := fnO Tryz.func27 Tryz.call27
def qkl : ICode := (.seq (Sr [Mv 7 6,Mv 8 1,Bn 9 .lss 7 8] (Cd 9 .skip (.exit 0))) (.seq (.block 1 (Rg [Mv 12 5,Mv 13 0,Mv 14 6,Op 15 (.bin .add .none (ci 48) (.tmp 14)),Op 16 (.conv .u8 (.tmp 15)),Op 17 (.rows 5 0 1 [(.int .u8 0)] [(0,1,(.tmp 16))]),Op 18 (.b2s (.tmp 17)),Bn 19 .add 13 18,⟨some 20,.op (.rows 9 0 1 [(.str ⟨#[]⟩)] [(0,1,(.tmp 19))]), none⟩,Op 21 (.app 9 0 (.tmp 12) (.tmp 20)),Mv 5 21])) (Rg [Mv 10 6,Bc 11 .add 10 1,Mv 6 11])))
def i28 : ICode := (Sr [Op 4 (.mv (.con .nil))] (Sr [Op 5 (.mv (.con .nil))] (.seq (Sr [Mc 6 0] (.block 0 (.loop qkl))) (Sr [Mv 22 5,Mv 4 22] .ret))))
theorem fn28 : FnOk Tryz.prog 28 23 [(4, none)] i28 := fnO Tryz.func28 Tryz.call28
def i30 : ICode := (Sr [Mb 4 false] (Sr [Mv 5 0,Mv 6 1,Cl 7 16 [(.tmp 5),(.tmp 6)],Bc 8 .eql 7 0,Mv 4 8] .ret))
theorem fn30 : FnOk Tryz.prog 30 9 [(4, none)] i30 := fnO Tryz.func30 Tryz.call30
def i31_l0 : ICode := (.seq (Sr [Mv 38 7,Mv 39 6,Bn 40 .lss 38 39] (Cd 40 .skip (.exit 1))) (.seq (.block 2 (.reg [Fa 43 5 1 5,Ld 44 0 43,Mv 45 0,Mv 46 6,Bc 47 .add 46 1,Cl 48 16 [(.tmp 45),(.tmp 47)],Bc 49 .sub 48 1,Op 50 (.rows 3 0 1 [(.int .i64 0)] [(0,1,(.tmp 49))]),Op 51 (.app 3 0 (.tmp 44) (.tmp 50)),Fa 52 5 1 5,Sv 0 52 51] [0,1,0,0,8,28,60,124,255,511,1023] true)) (Rg [Mv 41 7,Bc 42 .add 41 1,Mv 7 42])))
def qe9 : ICode := (.seq (Sr [Mv 106 8,Bc 107 .gtr 106 0] (Cd 107 .skip (.exit 3))) (.seq (.block 4 (Sr [Mv 110 0,Fa 111 6 1 3,Ld 112 0 111,Bc 113 .add 112 2,Cl 114 16 [(.tmp 110),(.tmp 113)],Mv 9 114] (.reg [Fa 115 11 1 5,Ld 116 0 115,Mv 117 0,Mv 118 6,Cl 119 16 [(.tmp 117),(.tmp 118)],Mv 120 9,Mv 121 9,Mv 122 0,Fa 123 6 1 3,Ld 124 0 123,Bc 125 .add 124 2,Mv 126 9,Bn 127 .sub 125 126,Cl 128 16 [(.tmp 122),(.tmp 127)],Bn 129 .add 121 128,Op 130 (.build [(.int .i64 0),(.int .i64 0),(.int .i64 0)] [(0,1,(.tmp 119)),(1,1,(.tmp 120)),(2,1,(.tmp 129))]),Op 131 (.rows 64 3 1 [(.int .i64 0),(.int .i64 0),(.int .i64 0)] [(0,3,(.tmp 130))]),Op 132 (.app 64 3 (.tmp 116) (.tmp 131)),Fa 133 11 1 5,Sv 0 133 132] [0,1,0,0,12,0,0,0,0,256,768,0,3840,8092,16348,32764,65532,131071,262143,524287] true))) (Rg [Mv 108 8,Bc 109 .sub 108 1,Mv 8 109])))
def i31 : ICode := (Sr [Bx 3 34 1,⟨some 4,.op (.alloc 60 [(.str ⟨#[]⟩),(.int .i64 0),(.int .i64 0),.nil,.nil,.nil,(.int .i64 0),(.int .i64 0),(.int .i64 0),.nil,.nil,.nil,.nil,(.int .i64 0)]), none⟩] (.seq (.reg [Mv 10 0,Fa 11 1 1 3,Ld 12 0 11,Ln 13 12,Cl 14 16 [(.tmp 10),(.tmp 13)],Mv 15 0,Fa 16 1 1 3,Ld 17 0 16,Ln 18 17,Cl 19 16 [(.tmp 15),(.tmp 18)],⟨some 20,.op (.build [(.str ⟨#[]⟩),(.int .i64 0),(.int .i64 0),.nil,.nil,.nil,(.int .i64 0),(.int .i64 0),(.int .i64 0),.nil,.nil,.nil,.nil,(.int .i64 0)] [(1,1,(.tmp 14)),(2,1,(.tmp 19))]), none⟩,⟨some 5,.op (.alloc 60 [(.str ⟨#[]⟩),(.int .i64 0),(.int .i64 0),.nil,.nil,.nil,(.int .i64 0),(.int .i64 0),(.int .i64 0),.nil,.nil,.nil,.nil,(.int .i64 0)]), none⟩,Sv 14 5 20] [0,0,2,6,15,0,0,64,192,511,1023,0,4095] true) (Sr [Fa 21 2 1 3,Ld 22 0 21,Ln 23 22,Mv 6 23] (.seq (Sr [Fa 24 0 1 3,Ld 25 0 24] (.block 0 (Sr [Bc 27 .eql 25 1,Mv 26 27] (Cd 26 (Sr [Mv 28 0,Mv 29 6,Cl 30 35 [(.tmp 28),(.tmp 29),(ci 2)],Mv 31 0,Mv 32 6,Cl 33 35 [(.tmp 31),(.tmp 32),(ci 2)],Fa 34 3 1 5,Sv 0 34 30,Fa 35 4 1 5,Sv 0 35 33] (Sr [Mv 36 0,Cl 37 30 [(.tmp 36),(ci 3)]] (Cd 37 (Sr [Mc 7 0] (.block 1 (.loop i31_l0))) .skip))) (.seq (Sr [Bc 54 .eql 25 2,Mv 53 54] (Cd 53 .skip (Rg [Bc 55 .eql 25 3,Mv 53 55]))) (Cd 53 (Sr [Mv 56 0,Cl 57 16 [(.tmp 56),(ci 3)],Fa 58 7 1 5,Sv 0 58 57] (Sr [Fa 59 7 1 5,Ld 60 0 59,Bc 61 .neq 60 0] (Cd 61 (.reg [Mv 62 0,Mv 63 6,Cl 64 16 [(.tmp 62),(.tmp 63)],Mv 65 0,Fa 66 3 1 3,Ld 67 0 66,Ln 68 67,Cl 69 16 [(.tmp 65),(.tmp 68)],Fa 70 6 1 5,Sv 0 70 64,Fa 71 8 1 5,Sv 0 71 69] [0,0,3,0,0,16,48,127,7,511,1023,2047] true) .skip))) (Sr [Bc 73 .eql 25 4,Mv 72 73] (Cd 72 (.seq (.reg [Mv 74 0,Fa 75 3 1 3,Ld 76 0 75,Ln 77 76,Fa 78 5 1 3,Ld 79 0 78,Cl 80 63 [(.tmp 74),(.tmp 77),(.tmp 79)],Mv 81 0,Fa 82 3 1 3,Ld 83 0 82,Ln 84 83,Fa 85 5 1 3,Ld 86 0 85,Cl 87 63 [(.tmp 81),(.tmp 84),(.tmp 86)],Fa 88 9 1 5,Sv 0 88 80,Fa 89 10 1 5,Sv 0 89 87] [0,0,2,6,0,16,63,0,0,256,768,0,2048,8191,127,32767,65535,131071] true) (Sr [Fa 90 9 1 5,Ld 91 0 90,Ln 92 91,Fa 93 10 1 5,Ld 94 0 93,Ln 95 94,Bn 96 .add 92 95,Bc 97 .eql 96 0] (Cd 97 (Rg [Op 98 (.rows 3 0 1 [(.int .i64 0)] [(0,1,(ci 0))]),Fa 99 10 1 5,Sv 0 99 98]) .skip))) (Sr [Bc 101 .eql 25 5,Mv 100 101] (Cd 100 (Sr [Mv 102 0,Cl 103 16 [(.tmp 102),(ci 2)],Mv 8 103] (.seq (Sr [Mv 104 0,Cl 105 30 [(.tmp 104),(ci 8)]] (Cd 105 (Rg [Mc 8 2]) .skip)) (.seq (.block 3 (.loop qe9)) (Sr [Mv 134 0,Cl 135 30 [(.tmp 134),(ci 2)]] (Cd 135 (Rg [Mv 136 0,Mv 137 6,Cl 138 16 [(.tmp 136),(.tmp 137)],Op 139 (.rows 3 0 1 [(.int .i64 0)] [(0,1,(.tmp 138))]),Fa 140 12 1 5,Sv 0 140 139]) .skip))))) (Sr [Bc 142 .eql 25 6,Mv 141 142] (Cd 141 (.seq (.reg [Mv 143 6,Op 144 (.mks 3 0 [(.int .i64 0)] (.tmp 143) (.tmp 143)),Mv 145 0,Mv 146 6,Cl 147 35 [(.tmp 145),(.tmp 146),(ci 2)],Fa 148 3 1 5,Sv 0 148 144,Fa 149 4 1 5,Sv 0 149 147,Fa 150 13 1 5,St (.store 0 (.tmp 150) (.con (.int .i64 (-1))))] [0,1,0,0,12,3,63,127,255,511,1023] true) (.seq (Sr [Mv 151 0,Cl 152 30 [(.tmp 151),(ci 3)]] (Cd 152 (Sr [Fa 153 1 1 5,St (.store 0 (.tmp 153) (.con (.int .i64 (-1))))] (Sr [Ld 154 14 5,Sv 14 4 154] .ret)) .skip)) (Sr [Mv 155 0,Mv 156 6,Cl 157 35 [(.tmp 155),(.tmp 156),(ci 1)],Fa 158 3 1 5,Sv 0 158 157] (Rg [Mv 159 0,Fa 160 1 1 3,Ld 161 0 160,Ln 162 161,Bc 163 .add 162 1,Cl 164 16 [(.tmp 159),(.tmp 163)],Bc 165 .sub 164 1,Fa 166 13 1 5,Sv 0 166 165])))) .skip)))))))))))) (Sr [Ld 167 14 5,Sv 14 4 167] .ret)))))
theorem fn31 : FnOk Tryz.prog 31 168 [(4, some 14)] i31 := fnO Tryz.func31 Tryz.call31
def i33 : ICode := (Sr [Bx 3 54 1,Op 4 (.alloc 25 [(.int .i64 0),.nil])] (.seq (.reg [Ld 8 4 3,Mv 9 0,Ld 10 4 3,Cl 11 64 [(.tmp 9),(.tmp 10),(ci 3)],Cl 12 39 [(.tmp 8),(.tmp 11)],Mv 7 12,Ex 13 7 0,Ex 14 7 1,Op 5 (.alloc 25 [(.int .i64 0),.nil]),Sv 2 5 13,Mv 6 14] [0,0,0,6,15,31,63,63,0,383,1023] true) (.seq (Sr [Ld 15 4 3,Ld 16 2 5,Cl 17 61 [(.tmp 15),(.tmp 16)],Nt 18 17] (Cd 18 (.reg [Ld 20 4 3,Mv 21 0,Ld 22 4 3,Cl 23 64 [(.tmp 21),(.tmp 22),(ci 0)],Cl 24 39 [(.tmp 20),(.tmp 23)],Mv 19 24,Ex 25 19 0,Ex 26 19 1,Sv 2 5 25] [0,0,0,6,15,31,63,63,127] true) .skip)) (Sr [Ld 27 2 5,Sv 2 4 27] .ret))))
theorem fn33 : FnOk Tryz.prog 33 28 [(4, some 2)] i33 := fnO Tryz.func33 Tryz.call33
def qj8 : ICode := (.seq (Sr [Mv 9 8,Mv 10 1,Bn 11 .lss 9 10] (Cd 11 .skip (.exit 0))) (.seq (.block 1 (Rg [Mv 14 7,Mv 15 0,Mv 16 2,Bc 17 .add 16 1,Cl 18 16 [(.tmp 15),(.tmp 17)],Op 19 (.rows 3 0 1 [(.int .i64 0)] [(0,1,(.tmp 18))]),Op 20 (.app 3 0 (.tmp 14) (.tmp 19)),Mv 7 20])) (Rg [Mv 12 8,Bc 13 .add 12 1,Mv 8 13])))
def i35 : ICode := (Sr [Op 6 (.mv (.con .nil))] (Sr [Op 7 (.mv (.con .nil))] (.seq (Sr [Mc 8 0] (.block 0 (.loop qj8))) (Sr [Mv 21 7,Mv 6 21] .ret))))
theorem fn35 : FnOk Tryz.prog 35 22 [(6, none)] i35 := fnO Tryz.func35 Tryz.call35
def qgY : ICode := (.seq (Sr [Mv 9 4,Bc 10 .lss 9 2] (Cd 10 .skip (.exit 0))) (.seq (.block 1 (.seq (Sr [Ld 14 10 3,Cl 15 25 [(.tmp 14)],Mv 13 15,Ex 16 13 0,Ex 17 13 1,Op 5 (.alloc 54 [(.int .i64 0),(.int .i64 0),.nil,.nil]),Sv 4 5 16,Mv 6 17] (Sr [Mv 18 6,Bc 19 .eql 18 0] (Cd 19 (Sr [Ld 20 4 5,Sv 4 2 20] .ret) .skip))) (Rg [Ld 21 10 3,Cl 22 65 [(.tmp 21)],Fa 23 8 2 3,Sv 2 23 22]))) (Rg [Mv 11 4,Bc 12 .add 11 1,Mv 4 12])))
def i36 : ICode := (Sr [Bx 1 34 0,Op 2 (.alloc 54 [(.int .i64 0),(.int .i64 0),.nil,.nil])] (Sr [Ld 7 10 1,Op 3 (.alloc 34 [(.int .i64 0),.nil,.nil,.nil,.nil,(.int .i64 0),(.int .i64 0),.nil,(.int .i64 0),.nil]),Sv 10 3 7] (Sr [Fa 8 7 1 3,St (.store 0 (.tmp 8) (.con .nil))] (.seq (Sr [Mc 4 0] (.block 0 (.loop qgY))) (Sr [Op 24 (.build [(.int .i64 0),(.int .i64 0),.nil,.nil] [(0,1,(ci 1))]),Sv 4 2 24] .ret)))))
theorem fn36 : FnOk Tryz.prog 36 25 [(2, some 4)] i36 := fnO Tryz.func36 Tryz.call36
def qkk : ICode := (.seq (Sr [Mv 8 4,Fa 9 1 1 1,Ld 10 0 9,Ln 11 10,Bn 12 .lss 8 11] (Cd 12 .skip (.exit 0))) (.seq (.block 1 (.reg [Fa 15 1 1 3,Ld 16 0 15,Fa 17 1 1 1,Ld 18 0 17,Mv 19 4,Ia 20 2 18 19,Ld 21 2 20,Cl 22 37 [(.tmp 21)],Op 23 (.rows 25 2 1 [(.int .i64 0),.nil] [(0,2,(.tmp 22))]),Op 24 (.app 25 2 (.tmp 16) (.tmp 23)),Fa 25 1 1 3,Sv 0 25 24] [0,1,0,4,0,28,60,124,252,511,1023,2047] true)) (Rg [Mv 13 4,Bc 14 .add 13 1,Mv 4 14])))
def i37 : ICode := (Sr [Bx 1 25 0,Op 2 (.alloc 25 [(.int .i64 0),.nil])] (Sr [Fa 5 0 1 1,Ld 6 0 5,Op 7 (.build [(.int .i64 0),.nil] [(0,1,(.tmp 6))]),Op 3 (.alloc 25 [(.int .i64 0),.nil]),Sv 2 3 7] (.seq (Sr [Mc 4 0] (.block 0 (.loop qkk))) (Sr [Ld 26 2 3,Sv 2 2 26] .ret))))
theorem fn37 : FnOk Tryz.prog 37 27 [(2, some 2)] i37 := fnO Tryz.func37 Tryz.call37
def i39 : ICode := (Sr [Bx 2 54 0,Bx 3 25 1,Op 4 (.alloc 25 [(.int .i64 0),.nil]),Mc 5 0] (.seq (Sr [Ld 8 4 2,Cl 9 66 [(.tmp 8)],Mv 6 9] (Sr [Mv 10 6,Bc 11 .neq 10 0] (Cd 11 (Sr [Op 12 (.build [(.int .i64 0),.nil] []),Mv 13 6,Sv 2 4 12,Mv 5 13] .ret) .skip))) (.seq (Sr [Ld 14 2 3,Cl 15 67 [(.tmp 14),(ci 128)],Bc 16 .gtr 15 128] (Cd 16 (Sr [Op 17 (.build [(.int .i64 0),.nil] []),Sv 2 4 17,Mc 5 5] .ret) .skip)) (Sr [Ld 18 4 2,Ld 19 2 3,Cl 20 68 [(.tmp 18),(.tmp 19)],Op 7 (.alloc 25 [(.int .i64 0),.nil]),Sv 2 7 20] (.seq (Sr [Ld 21 4 2,Ld 22 2 7,Cl 23 61 [(.tmp 21),(.tmp 22)],Nt 24 23] (Cd 24 (Sr [Op 25 (.build [(.int .i64 0),.nil] []),Sv 2 4 25,Mc 5 5] .ret) .skip)) (Sr [Ld 26 2 7,Sv 2 4 26,Mc 5 0] .ret))))))
theorem fn39 : FnOk Tryz.prog 39 27 [(4, some 2), (5, none)] i39 := fnO Tryz.func39 Tryz.call39
def i40 : ICode := (Sr [Op 2 (.mv (.con (.int .u64 0)))] (Sr [Op 3 (.mv (.con (.int .u64 0)))] (.seq (.seq (.reg [Mv 5 0,Op 6 (.nilck (.tmp 5)),Fa 7 1 1 6,Ld 8 0 7,Mv 9 0,Op 10 (.nilck (.tmp 9)),Fa 11 0 1 10,Ld 12 0 11,Ln 13 12,Bn 14 .lss 8 13] [0,1,3,7,0,16,48,112,240,511] true) (Cd 14 (.seq (.reg [Mv 15 0,Op 16 (.nilck (.tmp 15)),Fa 17 0 1 16,Ld 18 0 17,Mv 19 0,Op 20 (.nilck (.tmp 19)),Fa 21 1 1 20,Ld 22 0 21,Ia 23 0 18 22,Ld 24 0 23,Op 25 (.conv .u64 (.tmp 24)),Mv 3 25] [0,1,3,7,0,16,48,112,255,511,1023,2047] true) (Rg [Mv 26 0,Op 27 (.nilck (.tmp 26)),Fa 28 1 1 27,Ld 29 0 28,Bc 30 .add 29 1,Op 31 (.nilck (.tmp 26)),Fa 32 1 1 31,Sv 0 32 30])) .skip)) (Sr [Mv 33 0,Mv 34 0,Op 35 (.nilck (.tmp 34)),Fa 36 2 1 35,Ld 37 0 36,Mv 38 3,Bn 39 .add 37 38,Op 40 (.bin .mul .none (.tmp 39) (.con (.int .u64 6364136223846793005))),Op 41 (.bin .add .none (.tmp 40) (.con (.int .u64 1442695040888963407))),Op 42 (.nilck (.tmp 33)),Fa 43 2 1 42,Sv 0 43 41] (.seq (.reg [Mv 44 0,Op 45 (.nilck (.tmp 44)),Fa 46 2 1 45,Ld 47 0 46,Mv 48 0,Op 49 (.nilck (.tmp 48)),Fa 50 2 1 49,Ld 51 0 50,Op 52 (.bin .shr .none (.tmp 51) (.con (.int .u64 33))),Bn 53 .xor 47 52,Mv 4 53] [0,1,3,7,0,16,48,112,240,511,1023] true) (Sr [Mv 54 4,Op 55 (.bin .mul .none (.tmp 54) (.con (.int .u64 18397679294719823053))),Mv 4 55] (Sr [Mv 56 4,Mv 57 4,Op 58 (.bin .shr .none (.tmp 57) (.con (.int .u64 29))),Bn 59 .xor 56 58,Mv 2 59] .ret)))))))
theorem fn40 : FnOk Tryz.prog 40 60 [(2, none)] i40 := fnO Tryz.func40 Tryz.call40
def i41 : ICode := (Sr [Bx 1 34 0,Mc 2 0] (.seq (.block 0 (Sr [Fa 4 0 1 1,Ld 5 0 4,Cl 6 69 [(.tmp 5),(ci 1),(ci 6)],Nt 7 6,Mv 3 7] (Cd 3 (Sr [Mc 2 15] .ret) (Sr [Ld 9 10 1,Cl 10 70 [(.tmp 9)],Nt 11 10,Mv 8 11] (Cd 8 (Sr [Mc 2 1] .ret) (Sr [Ld 13 10 1,Cl 14 71 [(.tmp 13)],Nt 15 14,Mv 12 15] (Cd 12 (Sr [Mc 2 14] .ret) (Sr [Ld 17 10 1,Cl 18 72 [(.tmp 17)],Nt 19 18,Mv 16 19] (Cd 16 (Sr [Mc 2 13] .ret) (Sr [Fa 21 7 1 1,Ld 22 0 21,Op 23 (.mkfn 74 [(.tmp 1)]),Cl 24 73 [(.tmp 22),(.tmp 23)],Mv 20 24] (Cd 20 (Sr [Mc 2 16] .ret) (Sr [Ld 26 10 1,Cl 27 76 [(.tmp 26)],Nt 28 27,Mv 25 28] (Cd 25 (Sr [Mc 2 17] .ret) .skip))))))))))))) (Sr [Mc 2 0] .ret)))
theorem fn41 : FnOk Tryz.prog 41 29 [(2, none)] i41 := fnO Tryz.func41 Tryz.call41
def i42 : ICode := (Sr [Bx 2 34 0,Bx 3 25 1,Mb 4 false] (.seq (.reg [Ld 5 10 2,Cl 6 41 [(.tmp 5)],Bc 7 .eql 6 0,Mv 8 7,Gd 9 (.load 10 (.tmp 2)) 8 true,Cg 10 78 [(.tmp 9)] 8 true,Gd 11 (.load 2 (.tmp 3)) 8 true,Cg 12 77 [(.tmp 10),(.tmp 11)] 8 true,Op 13 (.pick (.tmp 8) (.tmp 12) (.con (.bool false))),Mv 4 13] [0,1,3,7,15,31,15,127,255,511] true) .ret))
theorem fn42 : FnOk Tryz.prog 42 14 [(4, none)] i42 := fnO Tryz.func42 Tryz.call42
def qdl : ICode := (Sr [Bn 21 .lss 20 19] (.seq (Cd 21 .skip (.exit 0)) (.seq (.block 1 (Sr [Mv 22 20,Ia 23 2 18 20,Ld 24 2 23,Op 8 (.alloc 50 [(.int .i64 0),(.int .i64 0)]),Mv 7 22,Sv 2 8 24] (.seq (.reg [Op 25 (.iaddr 0 (some 2) (.tmp 8) (ci 0)),Ld 26 0 25,Fa 27 0 1 6,Ld 28 0 27,Bn 29 .eql 26 28,Mv 30 29,Gd 31 (.iaddr 0 (some 2) (.tmp 8) (ci 1)) 30 true,Gd 32 (.load 0 (.tmp 31)) 30 true,Gd 33 (.faddr 1 1 (.tmp 6)) 30 true,Gd 34 (.load 0 (.tmp 33)) 30 true,Gd 35 (.bin .geq .none (.tmp 32) (.tmp 34)) 30 true,Op 36 (.pick (.tmp 30) (.tmp 35) (.con (.bool false))),Mv 37 36,Gd 38 (.iaddr 0 (some 2) (.tmp 8) (ci 1)) 37 true,Gd 39 (.load 0 (.tmp 38)) 37 true,Gd 40 (.faddr 2 1 (.tmp 6)) 37 true,Gd 41 (.load 0 (.tmp 40)) 37 true,Gd 42 (.bin .leq .none (.tmp 39) (.tmp 41)) 37 true,Op 43 (.pick (.tmp 37) (.tmp 42) (.con (.bool false))),Mv 44 43,Gm 45 7 44 true,Gd 46 (.bin .eql .none (.tmp 45) (ci 0)) 44 true,Gm 47 46 44 true,Gm 48 0 47 false,Gm 49 7 47 false,Gd 50 (.bin .sub .none (.tmp 49) (ci 1)) 47 false,Gd 51 (.iaddr 2 none (.tmp 48) (.tmp 50)) 47 false,Gd 52 (.load 2 (.tmp 51)) 47 false,Gd 53 (.load 2 (.tmp 8)) 47 false,Gd 54 (.bin .neq (.ints 2) (.tmp 52) (.tmp 53)) 47 false,Gd 55 (.pick (.tmp 47) (.con (.bool true)) (.tmp 54)) 44 true,Op 56 (.pick (.tmp 44) (.tmp 55) (.con (.bool false)))] [0,1,0,4,15,31,63,127,63,319,1023,2047,4095,8191,16383,8191,40959,131071,262143,524287,1048575,2097151,4194303,8388607,8388607,25165823,67108863,134217727,8388607,536870911,1073741823,2147483647] true) (Cd 56 (.reg [Mv 57 0,Mv 58 7,Op 59 (.slice 2 (.tmp 57) none (some (.tmp 58))),Mv 60 0,Mv 61 7,Bc 62 .add 61 1,Op 63 (.slice 2 (.tmp 60) (some (.tmp 62)) none),Op 64 (.rows 46 0 2 [.nil] [(0,1,(.tmp 59)),(1,1,(.tmp 63))]),Cl 65 47 [(.tmp 64)],Mv 66 1,Op 67 (.slice 3 (.tmp 66) (some (ci 1)) none),Mv 68 2,Cl 69 43 [(.tmp 65),(.tmp 67),(.tmp 68)]] [0,0,3,0,0,16,56,127,255,0,512,0,4095] true) .skip)))) (Rg [Bc 70 .add 20 1,Mv 20 70]))))
def i43 : ICode := (.seq (Sr [Mv 9 1,Ln 10 9,Bc 11 .eql 10 0] (Cd 11 (Sr [Mv 12 2,Mv 13 0,⟨some 14,.call (.callv (.tmp 12) [(.tmp 13)]), none⟩] .ret) .skip)) (Sr [Mv 15 1,Op 16 (.iaddr 3 none (.tmp 15) (ci 0)),Ld 17 3 16,Op 6 (.alloc 64 [(.int .i64 0),(.int .i64 0),(.int .i64 0)]),Sv 3 6 17] (Sr [Mv 18 0,Ln 19 18,Mc 20 0] (.block 0 (.loop qdl)))))
theorem fn43 : FnOk Tryz.prog 43 71 [] i43 := fnO Tryz.func43 Tryz.call43
def qjN : ICode := (Sr [Bn 13 .lss 12 11] (.seq (Cd 13 .skip (.exit 0)) (.seq (.block 1 (Sr [Ia 14 2 10 12,Ld 15 2 14,Op 5 (.alloc 25 [(.int .i64 0),.nil]),Sv 2 5 15] (.reg [Mv 16 3,Fa 17 1 1 5,Ld 18 0 17,Op 19 (.iaddr 2 none (.tmp 18) (ci 0)),Fa 20 0 1 19,Ld 21 0 20,Fa 22 1 1 5,Ld 23 0 22,Op 24 (.iaddr 2 none (.tmp 23) (ci 1)),Fa 25 0 1 24,Ld 26 0 25,Op 27 (.build [(.int .i64 0),(.int .i64 0)] [(0,1,(.tmp 21)),(1,1,(.tmp 26))]),Op 28 (.rows 50 2 1 [(.int .i64 0),(.int .i64 0)] [(0,2,(.tmp 27))]),Op 29 (.app 50 2 (.tmp 16) (.tmp 28)),Mv 3 29] [0,0,2,6,14,30,0,64,192,448,960,2046,4094,8191,16383] true))) (Rg [Bc 30 .add 12 1,Mv 12 30]))))
def i44 : ICode := (Sr [Bx 1 25 0,Op 2 (.mv (.con .nil))] (Sr [Op 3 (.mv (.con .nil))] (.seq (Sr [Fa 6 1 1 1,Ld 7 0 6,Op 8 (.iaddr 2 none (.tmp 7) (ci 1)),Fa 9 1 1 8,Ld 10 0 9,Ln 11 10,Mc 12 0] (.block 0 (.loop qjN))) (Sr [Mv 31 3,Mv 2 31] .ret))))
theorem fn44 : FnOk Tryz.prog 44 32 [(2, none)] i44 := fnO Tryz.func44 Tryz.call44
def i45 : ICode := (.seq (.reg [Ld 10 10 1,Fa 11 2 1 2,Ld 12 0 11,Mv 13 0,Ld 14 0 3,Op 15 (.rows 46 0 2 [.nil] [(0,1,(.tmp 13)),(1,1,(.tmp 14))]),Cl 16 47 [(.tmp 15)],Cl 17 46 [(.tmp 10),(.tmp 12),(.tmp 16)],Mv 9 17,Ex 18 9 0,Ex 19 9 1,Op 7 (.alloc 25 [(.int .i64 0),.nil]),Sv 2 7 18,Mv 8 19] [0,0,2,0,0,24,56,127,255,511,511,0,3071,8191] true) (.reg [Ld 20 0 4,Ld 21 2 7,Op 22 (.rows 25 2 1 [(.int .i64 0),.nil] [(0,2,(.tmp 21))]),Op 23 (.app 25 2 (.tmp 20) (.tmp 22)),Ld 24 0 5,Mv 25 24,Gm 26 8 25 true,Op 27 (.pick (.tmp 25) (.tmp 26) (.con (.bool false))),Sv 0 4 23,Sv 0 5 27] [0,0,2,7,0,31,63,127,63,511] true))
theorem fn45 : FnOk Tryz.prog 45 28 [] i45 := fnO Tryz.func45 Tryz.call45
def qjF : ICode := (Sr [Bn 16 .lss 15 14] (.seq (Cd 16 .skip (.exit 0)) (.seq (.block 1 (Sr [Ia 17 2 13 15,Ld 18 2 17,Op 10 (.alloc 50 [(.int .i64 0),(.int .i64 0)]),Sv 2 10 18] (Rg [Fa 19 1 1 8,Ld 20 0 19,Op 21 (.iaddr 0 (some 2) (.tmp 10) (ci 0)),Ld 22 0 21,Op 23 (.build [(.int .i64 0),.nil] [(0,1,(.tmp 22))]),Op 24 (.iaddr 0 (some 2) (.tmp 10) (ci 1)),Ld 25 0 24,Op 26 (.build [(.int .i64 0),.nil] [(0,1,(.tmp 25))]),Op 27 (.rows 25 2 2 [(.int .i64 0),.nil] [(0,2,(.tmp 23)),(2,2,(.tmp 26))]),Op 28 (.build [(.int .i64 0),.nil] [(1,1,(.tmp 27))]),Op 29 (.rows 25 2 1 [(.int .i64 0),.nil] [(0,2,(.tmp 28))]),Op 30 (.app 25 2 (.tmp 20) (.tmp 29)),Fa 31 1 1 8,Sv 0 31 30]))) (Rg [Bc 32 .add 15 1,Mv 15 32]))))
def i46 : ICode := (Sr [Bx 3 34 0,Op 6 (.alloc 25 [(.int .i64 0),.nil]),Mb 7 false] (Sr [Op 12 (.build [(.int .i64 0),.nil] []),Op 8 (.alloc 25 [(.int .i64 0),.nil]),Sv 2 8 12] (.seq (Sr [Mv 13 2,Ln 14 13,Mc 15 0] (.block 0 (.loop qjF))) (Sr [Fa 33 1 1 8,Ld 34 0 33,Cl 35 48 [(.tmp 34),(.fnc 49)]] (Sr [Mv 36 1,Ld 37 2 8,Op 38 (.rows 25 2 1 [(.int .i64 0),.nil] [(0,2,(.tmp 37))]),Cl 39 79 [(.tmp 36),(.tmp 38)],Op 11 (.alloc 25 [(.int .i64 0),.nil]),Sv 2 11 39] (.seq (.reg [Ld 40 2 11,Ld 41 10 3,Ld 42 2 11,Cl 43 42 [(.tmp 41),(.tmp 42)],Sv 2 6 40,Mv 7 43] [0,0,0,6,15,31] true) .ret))))))
theorem fn46 : FnOk Tryz.prog 46 44 [(6, some 2), (7, none)] i46 := fnO Tryz.func46 Tryz.call46
def qlJ : ICode := (Sr [Bn 12 .lss 11 10] (.seq (Cd 12 .skip (.exit 0)) (.seq (.block 1 (Sr [Ia 13 0 9 11,Ld 14 0 13,Mv 5 14] (Sr [Mv 15 3,Mv 16 5,Ln 17 16,Bn 18 .add 15 17,Mv 3 18] (Sr [Mv 19 3,Bc 20 .lss 19 0] (Cd 20 (Rg [Op 21 (.bad),St (.bad)]) .skip))))) (Rg [Bc 22 .add 11 1,Mv 11 22]))))
def qfO : ICode := (Sr [Bn 28 .lss 27 26] (.seq (Cd 28 .skip (.exit 2)) (.seq (.block 3 (Sr [Ia 29 0 25 27,Ld 30 0 29,Mv 8 30] (Rg [Mv 31 6,Mv 32 8,Op 33 (.app 50 2 (.tmp 31) (.tmp 32)),Mv 6 33]))) (Rg [Bc 34 .add 27 1,Mv 27 34]))))
def i47 : ICode := (Sr [Op 2 (.mv (.con .nil))] (Sr [Mc 3 0] (.seq (Sr [Mv 9 0,Ln 10 9,Mc 11 0] (.block 0 (.loop qlJ))) (Sr [Mv 23 3,Cl 24 80 [(.con .nil),(.tmp 23)],Mv 6 24] (.seq (Sr [Mv 25 0,Ln 26 25,Mc 27 0] (.block 2 (.loop qfO))) (Sr [Mv 35 6,Mv 2 35] .ret))))))
theorem fn47 : FnOk Tryz.prog 47 36 [(2, none)] i47 := fnO Tryz.func47 Tryz.call47
def i49 : ICode := (Sr [Bx 2 25 0,Bx 3 25 1,Mc 4 0] (.seq (.reg [Fa 5 0 1 2,Ld 6 0 5,Fa 7 0 1 3,Ld 8 0 7,Cl 9 84 [(.tmp 6),(.tmp 8)],Fa 10 1 1 2,Ld 11 0 10,Ln 12 11,Fa 13 1 1 3,Ld 14 0 13,Ln 15 14,Cl 16 84 [(.tmp 12),(.tmp 15)],Fa 17 1 1 2,Ld 18 0 17,Fa 19 1 1 3,Ld 20 0 19,Cl 21 85 [(.tmp 18),(.tmp 20),(.fnc 49)],Op 22 (.rows 3 0 3 [(.int .i64 0)] [(0,1,(.tmp 9)),(1,1,(.tmp 16)),(2,1,(.tmp 21))]),Cl 23 83 [(.tmp 22)],Mv 4 23] [0,1,0,4,15,0,32,96,0,256,768,2047,0,4096,0,16384,65535,131071,262143,524287] true) .ret))
theorem fn49 : FnOk Tryz.prog 49 24 [(4, none)] i49 := fnO Tryz.func49 Tryz.call49
def qlY : ICode := (.seq (Sr [Mv 32 7,Mv 33 6,Ln 34 33,Bn 35 .lss 32 34] (Cd 35 .skip (.exit 2))) (.seq (.block 3 (.seq (.reg [Mv 38 1,Mv 39 6,Mv 40 7,Ia 41 2 39 40,Ld 42 2 41,Mv 43 6,Mv 44 7,Bc 45 .sub 44 1,Ia 46 2 43 45,Ld 47 2 46,⟨some 48,.call (.callv (.tmp 38) [(.tmp 42),(.tmp 47)]), none⟩,Nt 49 48] [0,0,0,6,14,0,0,64,224,480,1023,2047] true) (Cd 49 (Sr [Mv 50 0,Mv 51 5,Mv 52 6,Mv 53 7,Ia 54 2 52 53,Ld 55 2 54,Ia 56 2 50 51,Sv 2 56 55] (Rg [Mv 57 5,Bc 58 .add 57 1,Mv 5 58])) .skip))) (Rg [Mv 36 7,Bc 37 .add 36 1,Mv 7 37])))
def qlw : ICode := (.seq (Sr [Mv 12 5,Mv 13 0,Ln 14 13,Bn 15 .lss 12 14] (Cd 15 .skip (.exit 0))) (.seq (.block 1 (.seq (.reg [Mv 18 1,Mv 19 0,Mv 20 5,Ia 21 2 19 20,Ld 22 2 21,Mv 23 0,Mv 24 5,Bc 25 .sub 24 1,Ia 26 2 23 25,Ld 27 2 26,⟨some 28,.call (.callv (.tmp 18) [(.tmp 22),(.tmp 27)]), none⟩] [0,0,0,6,14,0,0,64,224,480,1023] true) (Cd 28 (Sr [Mv 29 0,Mv 30 5,Op 31 (.slice 2 (.tmp 29) (some (.tmp 30)) none),Mv 6 31] (.seq (Sr [Mc 7 1] (.block 2 (.loop qlY))) (Sr [Mv 59 0,Mv 60 5,Op 61 (.slice 2 (.tmp 59) (some (.tmp 60)) none),St (.clear 2 [(.int .i64 0),.nil] (.tmp 61))] (Sr [Mv 62 0,Mv 63 5,Op 64 (.slice 2 (.tmp 62) none (some (.tmp 63))),Mv 4 64] .ret)))) .skip))) (Rg [Mv 16 5,Bc 17 .add 16 1,Mv 5 17])))
def i50 : ICode := (Sr [Op 4 (.mv (.con .nil))] (.seq (Sr [Mv 8 0,Ln 9 8,Bc 10 .lss 9 2] (Cd 10 (Sr [Mv 11 0,Mv 4 11] .ret) .skip)) (.seq (Sr [Mc 5 1] (.block 0 (.loop qlw))) (Sr [Mv 65 0,Mv 4 65] .ret))))
theorem fn50 : FnOk Tryz.prog 50 66 [(4, none)] i50 := fnO Tryz.func50 Tryz.call50
def i51 : ICode := (Sr [Bx 2 25 0,Bx 3 25 1,Mb 4 false] (Sr [Ld 5 2 2,Ld 6 2 3,Cl 7 49 [(.tmp 5),(.tmp 6)],Bc 8 .eql 7 0,Mv 4 8] .ret))
theorem fn51 : FnOk Tryz.prog 51 9 [(4, none)] i51 := fnO Tryz.func51 Tryz.call51
def i57 : ICode := (Sr [Bx 2 34 0,Bx 3 25 1,Mc 4 0] (.seq (Sr [Ld 6 10 2,Cl 7 41 [(.tmp 6)],Mv 5 7] (Sr [Mv 8 5,Bc 9 .neq 8 0] (Cd 9 (Sr [Mv 10 5,Mv 4 10] .ret) .skip))) (.seq (.block 0 (Sr [Fa 12 0 1 2,Ld 13 0 12,Bc 14 .neq 13 5,Mv 11 14] (Cd 11 (Sr [Mc 4 15] .ret) (Sr [Ld 16 10 2,Ld 17 2 3,Cl 18 42 [(.tmp 16),(.tmp 17)],Nt 19 18,Mv 15 19] (Cd 15 (Sr [Mc 4 17] .ret) .skip))))) (Sr [Mc 4 0] .ret))))
theorem fn57 : FnOk Tryz.prog 57 20 [(4, none)] i57 := fnO Tryz.func57 Tryz.call57
def qlX : ICode := (.seq (Sr [Mv 31 5,Fa 32 1 1 2,Ld 33 0 32,Ln 34 33,Bn 35 .lss 31 34] (Cd 35 .skip (.exit 0))) (.seq (.block 1 (.seq (.reg [Fa 38 1 1 2,Ld 39 0 38,Mv 40 5,Ia 41 2 39 40,Ld 42 2 41,Fa 43 1 1 3,Ld 44 0 43,Mv 45 5,Ia 46 2 44 45,Ld 47 2 46,Cl 48 58 [(.tmp 42),(.tmp 47)],Mv 6 48] [0,1,0,7,15,0,32,0,224,480,1023,2047] true) (Sr [Mv 49 6,Bc 50 .neq 49 0] (Cd 50 (Sr [Mv 51 6,Mv 4 51] .ret) .skip)))) (Rg [Mv 36 5,Bc 37 .add 36 1,Mv 5 37])))
def i58 : ICode := (Sr [Bx 2 25 0,Bx 3 25 1,Mc 4 0] (.seq (Sr [Fa 7 0 1 2,Ld 8 0 7,Fa 9 0 1 3,Ld 10 0 9,Bn 11 .neq 8 10] (Cd 11 (Sr [Fa 12 0 1 2,Ld 13 0 12,Fa 14 0 1 3,Ld 15 0 14,Cl 16 86 [(.tmp 13),(.tmp 15)],Mv 4 16] .ret) .skip)) (.seq (Sr [Fa 17 1 1 2,Ld 18 0 17,Ln 19 18,Fa 20 1 1 3,Ld 21 0 20,Ln 22 21,Bn 23 .neq 19 22] (Cd 23 (Sr [Fa 24 1 1 2,Ld 25 0 24,Ln 26 25,Fa 27 1 1 3,Ld 28 0 27,Ln 29 28,Cl 30 86 [(.tmp 26),(.tmp 29)],Mv 4 30] .ret) .skip)) (.seq (Sr [Mc 5 0] (.block 0 (.loop qlX))) (Sr [Mc 4 0] .ret)))))
theorem fn58 : FnOk Tryz.prog 58 52 [(4, none)] i58 := fnO Tryz.func58 Tryz.call58
def ql4 : ICode := (.seq (Sr [Mv 17 3,Fa 18 7 1 1,Ld 19 0 18,Ln 20 19,Bn 21 .lss 17 20] (Cd 21 .skip (.exit 0))) (.seq (.block 1 (.seq (.reg [Ld 24 10 1,Fa 25 7 1 1,Ld 26 0 25,Mv 27 3,Ia 28 14 26 27,Ld 29 14 28,Cl 30 91 [(.tmp 24),(.tmp 29)],Nt 31 30] [0,0,2,0,14,30,63,127] true) (Cd 31 (Sr [Mc 2 16] .ret) .skip))) (Rg [Mv 22 3,Bc 23 .add 22 1,Mv 3 23])))
def i59 : ICode := (Sr [Bx 1 34 0,Mc 2 0] (.seq (Sr [Fa 4 0 1 1,Ld 5 0 4,Cl 6 87 [(.tmp 5),(ci 1),(ci 6)],Nt 7 6] (Cd 7 (Sr [Mc 2 15] .ret) .skip)) (.seq (Sr [Ld 8 10 1,Cl 9 88 [(.tmp 8)],Nt 10 9] (Cd 10 (Sr [Mc 2 1] .ret) .skip)) (.seq (Sr [Ld 11 10 1,Cl 12 89 [(.tmp 11)],Nt 13 12] (Cd 13 (Sr [Mc 2 14] .ret) .skip)) (.seq (Sr [Ld 14 10 1,Cl 15 90 [(.tmp 14)],Nt 16 15] (Cd 16 (Sr [Mc 2 13] .ret) .skip)) (.seq (Sr [Mc 3 0] (.block 0 (.loop ql4))) (.seq (Sr [Fa 32 0 1 1,Ld 33 0 32,Bc 34 .eql 33 6] (Cd 34 (.seq (Sr [Fa 35 8 2 1,Fa 36 0 1 35,Ld 37 0 36,Bc 38 .neq 37 0,Mv 39 38,Gd 40 (.faddr 8 2 (.tmp 1)) 39 false,Gd 41 (.faddr 1 1 (.tmp 40)) 39 false,Gd 42 (.load 0 (.tmp 41)) 39 false,Gd 43 (.len (.tmp 42)) 39 false,Gd 44 (.bin .gtr .none (.tmp 43) (ci 0)) 39 false,Op 45 (.pick (.tmp 39) (.con (.bool true)) (.tmp 44))] (Cd 45 (Sr [Mc 2 17] .ret) .skip)) (Sr [Mc 2 0] .ret)) .skip)) (.seq (.seq (.reg [Ld 46 10 1,Cl 47 60 [(.tmp 46)],Fa 48 8 2 1,Ld 49 2 48,Cl 50 61 [(.tmp 47),(.tmp 49)],Nt 51 50] [0,1,0,4,15,31] true) (Cd 51 (Sr [Mc 2 17] .ret) .skip)) (Sr [Mc 2 0] .ret)))))))))
theorem fn59 : FnOk Tryz.prog 59 52 [(2, none)] i59 := fnO Tryz.func59 Tryz.call59
def qlT : ICode := (.seq (Sr [Mv 55 6,Fa 56 5 1 1,Ld 57 0 56,Bn 58 .lss 55 57] (Cd 58 .skip (.exit 3))) (.seq (.block 4 (Rg [Ld 61 4 4,Ld 62 4 5,Op 63 (.rows 54 4 1 [(.int .i64 0),(.int .i64 0),.nil,.nil] [(0,4,(.tmp 62))]),Op 64 (.build [(.int .i64 0),(.int .i64 0),.nil,.nil] [(0,1,(ci 5)),(3,1,(.tmp 63))]),Op 65 (.rows 54 4 2 [(.int .i64 0),(.int .i64 0),.nil,.nil] [(0,4,(.tmp 61)),(4,4,(.tmp 64))]),Op 66 (.build [(.int .i64 0),(.int .i64 0),.nil,.nil] [(0,1,(ci 3)),(3,1,(.tmp 65))]),Sv 4 5 66])) (Rg [Mv 59 6,Bc 60 .add 59 1,Mv 6 60])))
def qeq : ICode := (.seq (Sr [Mv 22 8,Fa 23 2 1 1,Ld 24 0 23,Ln 25 24,Bn 26 .lss 22 25] (Cd 26 .skip (.exit 1))) (.seq (.block 2 (Sr [Op 29 (.build [(.int .i64 0),(.int .i64 0),.nil,.nil] [(0,1,(ci 1))]),Op 9 (.alloc 54 [(.int .i64 0),(.int .i64 0),.nil,.nil]),Sv 4 9 29] (.seq (Sr [Fa 30 0 1 1,Ld 31 0 30,Bc 32 .eql 31 2] (Cd 32 (Rg [Ld 33 4 4,Op 34 (.rows 54 4 1 [(.int .i64 0),(.int .i64 0),.nil,.nil] [(0,4,(.tmp 33))]),Op 35 (.build [(.int .i64 0),(.int .i64 0),.nil,.nil] [(0,1,(ci 4)),(3,1,(.tmp 34))]),Sv 4 9 35]) .skip)) (.seq (Sr [Fa 36 0 1 1,Ld 37 0 36,Bc 38 .eql 37 3] (Cd 38 (.reg [Fa 39 3 1 1,Ld 40 0 39,Ln 41 40,Fa 42 4 1 1,Ld 43 0 42,Cl 44 92 [(.tmp 43)],Op 45 (.build [(.int .i64 0),(.int .i64 0),.nil,.nil] [(0,1,(ci 7)),(1,1,(.tmp 41)),(2,1,(.tmp 44))]),Sv 4 9 45] [0,1,3,0,8,24,63,127] true) .skip)) (Rg [Fa 46 3 1 3,Ld 47 0 46,Ld 48 4 9,Op 49 (.rows 54 4 1 [(.int .i64 0),(.int .i64 0),.nil,.nil] [(0,4,(.tmp 48))]),Op 50 (.app 54 4 (.tmp 47) (.tmp 49)),Fa 51 3 1 3,Sv 0 51 50]))))) (Rg [Mv 27 8,Bc 28 .add 27 1,Mv 8 28])))
def i60 : ICode := (Sr [Bx 1 34 0,Op 2 (.alloc 54 [(.int .i64 0),(.int .i64 0),.nil,.nil])] (Sr [Fa 10 1 1 1,Ld 11 0 10,Ln 12 11,Op 13 (.build [(.int .i64 0),(.int .i64 0),.nil,.nil] [(0,1,(ci 2)),(1,1,(.tmp 12))]),Op 14 (.rows 54 4 1 [(.int .i64 0),(.int .i64 0),.nil,.nil] [(0,4,(.tmp 13))]),Op 15 (.build [(.int .i64 0),(.int .i64 0),.nil,.nil] [(0,1,(ci 3)),(3,1,(.tmp 14))]),Op 3 (.alloc 54 [(.int .i64 0),(.int .i64 0),.nil,.nil]),Sv 4 3 15] (Sr [Fa 16 3 1 1,Ld 17 0 16,Ln 18 17,Op 19 (.build [(.int .i64 0),(.int .i64 0),.nil,.nil] [(0,1,(ci 2)),(1,1,(.tmp 18))]),Op 4 (.alloc 54 [(.int .i64 0),(.int .i64 0),.nil,.nil]),Sv 4 4 19] (.seq (Sr [Fa 20 0 1 1,Ld 21 0 20] (.block 0 (Sr [Bc 53 .eql 21 4,Mv 52 53] (Cd 52 (Sr [Ld 54 4 4,Op 5 (.alloc 54 [(.int .i64 0),(.int .i64 0),.nil,.nil]),Sv 4 5 54] (.seq (Sr [Mc 6 1] (.block 3 (.loop qlT))) (Rg [Fa 67 3 1 3,Ld 68 0 67,Ld 69 4 5,Op 70 (.rows 54 4 1 [(.int .i64 0),(.int .i64 0),.nil,.nil] [(0,4,(.tmp 69))]),Op 71 (.build [(.int .i64 0),(.int .i64 0),.nil,.nil] [(0,1,(ci 5)),(3,1,(.tmp 70))]),Op 72 (.rows 54 4 1 [(.int .i64 0),(.int .i64 0),.nil,.nil] [(0,4,(.tmp 71))]),Op 73 (.app 54 4 (.tmp 68) (.tmp 72)),Fa 74 3 1 3,Sv 0 74 73]))) (Sr [Bc 76 .eql 21 5,Mv 75 76] (Cd 75 (Sr [Fa 77 2 1 1,Ld 78 0 77,Ln 79 78,Op 80 (.build [(.int .i64 0),(.int .i64 0),.nil,.nil] [(0,1,(ci 2)),(1,1,(.tmp 79))]),Fa 81 6 1 1,Ld 82 0 81,Bc 83 .add 82 2,Op 84 (.build [(.int .i64 0),(.int .i64 0),.nil,.nil] [(0,1,(ci 2)),(1,1,(.tmp 83))]),Op 85 (.rows 54 4 2 [(.int .i64 0),(.int .i64 0),.nil,.nil] [(0,4,(.tmp 80)),(4,4,(.tmp 84))]),Op 86 (.build [(.int .i64 0),(.int .i64 0),.nil,.nil] [(0,1,(ci 3)),(3,1,(.tmp 85))]),Op 7 (.alloc 54 [(.int .i64 0),(.int .i64 0),.nil,.nil]),Sv 4 7 86] (Rg [Fa 87 3 1 3,Ld 88 0 87,Ld 89 4 7,Op 90 (.rows 54 4 1 [(.int .i64 0),(.int .i64 0),.nil,.nil] [(0,4,(.tmp 89))]),Op 91 (.build [(.int .i64 0),(.int .i64 0),.nil,.nil] [(0,1,(ci 5)),(3,1,(.tmp 90))]),Op 92 (.rows 54 4 1 [(.int .i64 0),(.int .i64 0),.nil,.nil] [(0,4,(.tmp 91))]),Op 93 (.app 54 4 (.tmp 88) (.tmp 92)),Fa 94 3 1 3,Sv 0 94 93])) (Sr [Mc 8 0] (.block 1 (.loop qeq))))))))) (Sr [Ld 95 4 3,Sv 4 2 95] .ret)))))
theorem fn60 : FnOk Tryz.prog 60 96 [(2, some 4)] i60 := fnO Tryz.func60 Tryz.call60
def i61 : ICode := (Sr [Bx 2 54 0,Bx 3 25 1,Mb 4 false] (Sr [Ld 5 4 2,Cl 6 66 [(.tmp 5)],Bc 7 .eql 6 0,Mv 8 7,Gd 9 (.load 2 (.tmp 3)) 8 true,Cg 10 67 [(.tmp 9),(ci 128)] 8 true,Gd 11 (.bin .leq .none (.tmp 10) (ci 128)) 8 true,Op 12 (.pick (.tmp 8) (.tmp 11) (.con (.bool false))),Mv 13 12,Gd 14 (.load 4 (.tmp 2)) 13 true,Gd 15 (.load 2 (.tmp 3)) 13 true,Cg 16 93 [(.tmp 14),(.tmp 15)] 13 true,Op 17 (.pick (.tmp 13) (.tmp 16) (.con (.bool false))),Mv 4 17] .ret))
theorem fn61 : FnOk Tryz.prog 61 18 [(4, none)] i61 := fnO Tryz.func61 Tryz.call61
def i63 : ICode := (Sr [Op 6 (.mv (.con .nil))] (Sr [Mv 7 0,Mv 8 0,Mv 9 2,Bc 10 .add 9 1,Cl 11 16 [(.tmp 8),(.tmp 10)],Mv 12 1,Bc 13 .sub 12 1,Cl 14 35 [(.tmp 7),(.tmp 11),(.tmp 13)],Mv 6 14] .ret))
theorem fn63 : FnOk Tryz.prog 63 15 [(6, none)] i63 := fnO Tryz.func63 Tryz.call63
def qjf : ICode := (.seq (Sr [Mv 45 8,Fa 46 3 1 4,Ld 47 0 46,Ln 48 47,Bn 49 .lss 45 48] (Cd 49 .skip (.exit 1))) (.seq (.block 2 (.reg [Fa 52 1 1 7,Ld 53 0 52,Mv 54 0,Fa 55 3 1 4,Ld 56 0 55,Mv 57 8,Ia 58 4 56 57,Ld 59 4 58,Mv 60 2,Cl 61 64 [(.tmp 54),(.tmp 59),(.tmp 60)],Op 62 (.rows 25 2 1 [(.int .i64 0),.nil] [(0,2,(.tmp 61))]),Op 63 (.app 25 2 (.tmp 53) (.tmp 62)),Fa 64 1 1 7,Sv 0 64 63] [0,1,0,0,8,0,56,120,0,508,1020,2047,4095,8191] true)) (Rg [Mv 50 8,Bc 51 .add 50 1,Mv 8 51])))
def qjS : ICode := (.seq (Sr [Mv 70 9,Bc 71 .gtr 70 0] (Cd 71 .skip (.exit 3))) (.seq (.block 4 (.reg [Fa 74 1 1 7,Ld 75 0 74,Mv 76 0,Fa 77 3 1 4,Ld 78 0 77,Op 79 (.iaddr 4 none (.tmp 78) (ci 0)),Ld 80 4 79,Mv 81 2,Bc 82 .sub 81 1,Op 83 (.mm true (ci 0) (.tmp 82)),Cl 84 64 [(.tmp 76),(.tmp 80),(.tmp 83)],Op 85 (.rows 25 2 1 [(.int .i64 0),.nil] [(0,2,(.tmp 84))]),Op 86 (.app 25 2 (.tmp 75) (.tmp 85)),Fa 87 1 1 7,Sv 0 87 86] [0,1,0,0,8,24,56,0,128,384,1020,2044,4095,8191,16383] true)) (Rg [Mv 72 9,Bc 73 .sub 72 1,Mv 9 73])))
def i64 : ICode := (Sr [Bx 4 54 1,Op 6 (.alloc 25 [(.int .i64 0),.nil])] (.seq (Sr [Fa 10 0 1 4,Ld 11 0 10] (.block 0 (Sr [Bc 13 .eql 11 1,Mv 12 13] (Cd 12 (Sr [Mv 14 0,Cl 15 16 [(.tmp 14),(ci 4)],Op 16 (.build [(.int .i64 0),.nil] [(0,1,(.tmp 15))]),Sv 2 6 16] .ret) (Sr [Bc 18 .eql 11 2,Mv 17 18] (Cd 17 (Sr [Mv 19 0,Fa 20 1 1 4,Ld 21 0 20,Cl 22 16 [(.tmp 19),(.tmp 21)],Op 23 (.build [(.int .i64 0),.nil] [(0,1,(.tmp 22))]),Sv 2 6 23] .ret) (Sr [Bc 25 .eql 11 6,Mv 24 25] (Cd 24 (.seq (.reg [Mv 26 0,Fa 27 1 1 4,Ld 28 0 27,Mv 29 0,Cl 30 16 [(.tmp 29),(ci 4)],Op 31 (.bin .add .none (ci 1) (.tmp 30)),Cl 32 100 [(.tmp 26),(.tmp 28),(.tmp 31)],Cl 33 99 [(.tmp 32)],Sv 2 6 33] [0,0,2,0,8,24,63,127,255] true) .ret) (Sr [Bc 35 .eql 11 7,Mv 34 35] (Cd 34 (Sr [Mv 36 0,Fa 37 1 1 4,Ld 38 0 37,Mv 39 2,Cl 40 63 [(.tmp 36),(.tmp 38),(.tmp 39)],Cl 41 101 [(.tmp 40)],Sv 2 6 41] .ret) .skip)))))))))) (Sr [Op 7 (.alloc 25 [(.int .i64 0),.nil])] (.seq (Sr [Fa 42 0 1 4,Ld 43 0 42,Bc 44 .eql 43 3] (Cd 44 (.seq (Sr [Mc 8 0] (.block 1 (.loop qjf))) (Sr [Ld 65 2 7,Sv 2 6 65] .ret)) .skip)) (.seq (Sr [Mv 66 0,Mv 67 2,Bc 68 .add 67 1,Cl 69 16 [(.tmp 66),(.tmp 68)],Mv 9 69] (.block 3 (.loop qjS))) (Sr [Ld 88 2 7,Sv 2 6 88] .ret))))))
theorem fn64 : FnOk Tryz.prog 64 89 [(6, some 2)] i64 := fnO Tryz.func64 Tryz.call64
def qms : ICode := (.seq (Sr [Mv 20 5,Mv 21 4,Bn 22 .lss 20 21] (Cd 22 .skip (.exit 0))) (.seq (.block 1 (Rg [Fa 25 1 1 3,Ld 26 0 25,Op 27 (.build [(.int .i64 0),.nil] []),Op 28 (.rows 25 2 1 [(.int .i64 0),.nil] [(0,2,(.tmp 27))]),Op 29 (.app 25 2 (.tmp 26) (.tmp 28)),Fa 30 1 1 3,Sv 0 30 29])) (Rg [Mv 23 5,Bc 24 .add 23 1,Mv 5 24])))
def i65 : ICode := (Sr [Bx 1 34 0,Op 2 (.alloc 25 [(.int .i64 0),.nil])] (Sr [Op 6 (.build [(.int .i64 0),.nil] []),Op 7 (.rows 25 2 1 [(.int .i64 0),.nil] [(0,2,(.tmp 6))]),Op 8 (.build [(.int .i64 0),.nil] [(1,1,(.tmp 7))]),Op 3 (.alloc 25 [(.int .i64 0),.nil]),Sv 2 3 8] (Sr [Fa 9 2 1 1,Ld 10 0 9,Ln 11 10,Mv 4 11] (.seq (Sr [Fa 12 0 1 1,Ld 13 0 12,Bc 14 .eql 13 4,Mv 15 14,Gd 16 (.faddr 0 1 (.tmp 1)) 15 false,Gd 17 (.load 0 (.tmp 16)) 15 false,Gd 18 (.bin .eql .none (.tmp 17) (ci 5)) 15 false,Op 19 (.pick (.tmp 15) (.con (.bool true)) (.tmp 18))] (Cd 19 (Rg [Mc 4 1]) .skip)) (.seq (Sr [Mc 5 0] (.block 0 (.loop qms))) (Sr [Ld 31 2 3,Sv 2 2 31] .ret))))))
theorem fn65 : FnOk Tryz.prog 65 32 [(2, some 2)] i65 := fnO Tryz.func65 Tryz.call65
def i66 : ICode := (Sr [Bx 1 54 0,Mc 2 0] (.seq (Sr [Ld 3 4 1,Cl 4 102 [(.tmp 3),(ci 8)],Nt 5 4] (Cd 5 (Sr [Mc 2 6] .ret) .skip)) (Sr [Mc 2 0] .ret)))
theorem fn66 : FnOk Tryz.prog 66 6 [(2, none)] i66 := fnO Tryz.func66 Tryz.call66
def qll : ICode := (.seq (Sr [Mv 7 6,Fa 8 1 1 2,Ld 9 0 8,Ln 10 9,Bn 11 .lss 7 10,Mv 12 11,Gm 13 5 12 true,Gm 14 1 12 true,Gd 15 (.bin .leq .none (.tmp 13) (.tmp 14)) 12 true,Op 16 (.pick (.tmp 12) (.tmp 15) (.con (.bool false)))] (Cd 16 .skip (.exit 0))) (.seq (.block 1 (Rg [Mv 19 5,Fa 20 1 1 2,Ld 21 0 20,Mv 22 6,Ia 23 2 21 22,Ld 24 2 23,Mv 25 1,Mv 26 5,Bn 27 .sub 25 26,Cl 28 67 [(.tmp 24),(.tmp 27)],Bn 29 .add 19 28,Mv 5 29])) (Rg [Mv 17 6,Bc 18 .add 17 1,Mv 6 18])))
def i67 : ICode := (Sr [Bx 2 25 0,Mc 4 0] (Sr [Mc 5 1] (.seq (Sr [Mc 6 0] (.block 0 (.loop qll))) (Sr [Mv 30 5,Mv 4 30] .ret))))
theorem fn67 : FnOk Tryz.prog 67 31 [(4, none)] i67 := fnO Tryz.func67 Tryz.call67
def qdH : ICode := (.seq (Sr [Mv 11 6,Fa 12 1 1 5,Ld 13 0 12,Ln 14 13,Bn 15 .lss 11 14] (Cd 15 .skip (.exit 0))) (.seq (.block 1 (.seq (Sr [Fa 18 0 1 2,Ld 19 0 18,Bc 20 .eql 19 3,Mv 21 20,Gm 22 6 21 true,Gd 23 (.faddr 3 1 (.tmp 2)) 21 true,Gd 24 (.load 0 (.tmp 23)) 21 true,Gd 25 (.len (.tmp 24)) 21 true,Gd 26 (.bin .lss .none (.tmp 22) (.tmp 25)) 21 true,Op 27 (.pick (.tmp 21) (.tmp 26) (.con (.bool false)))] (Cd 27 (.reg [Fa 28 1 1 5,Ld 29 0 28,Mv 30 6,Fa 31 3 1 2,Ld 32 0 31,Mv 33 6,Ia 34 4 32 33,Ld 35 4 34,Fa 36 1 1 5,Ld 37 0 36,Mv 38 6,Ia 39 2 37 38,Ld 40 2 39,Cl 41 68 [(.tmp 35),(.tmp 40)],Ia 42 2 29 30,Sv 2 42 41] [0,1,0,0,8,0,56,120,0,256,0,1792,3840,8184,16383,32767] true) .skip)) (Sr [Fa 43 0 1 2,Ld 44 0 43,Bc 45 .eql 44 4,Mv 46 45,Gd 47 (.faddr 0 1 (.tmp 2)) 46 false,Gd 48 (.load 0 (.tmp 47)) 46 false,Gd 49 (.bin .eql .none (.tmp 48) (ci 5)) 46 false,Op 50 (.pick (.tmp 46) (.con (.bool true)) (.tmp 49))] (Cd 50 (.reg [Fa 51 1 1 5,Ld 52 0 51,Mv 53 6,Fa 54 3 1 2,Ld 55 0 54,Op 56 (.iaddr 4 none (.tmp 55) (ci 0)),Ld 57 4 56,Fa 58 1 1 5,Ld 59 0 58,Mv 60 6,Ia 61 2 59 60,Ld 62 2 61,Cl 63 68 [(.tmp 57),(.tmp 62)],Ia 64 2 52 53,Sv 2 64 63] [0,1,0,0,8,24,56,0,128,0,896,1920,4088,8191,16383] true) .skip)))) (Rg [Mv 16 6,Bc 17 .add 16 1,Mv 6 17])))
def qlF : ICode := (.seq (.seq (.reg [Mv 77 8,Bc 78 .gtr 77 0,Mv 79 78,Gd 80 (.faddr 1 1 (.tmp 5)) 79 true,Gd 81 (.load 0 (.tmp 80)) 79 true,Gm 82 8 79 true,Gd 83 (.iaddr 2 none (.tmp 81) (.tmp 82)) 79 true,Gd 84 (.load 2 (.tmp 83)) 79 true,Gd 85 (.faddr 1 1 (.tmp 5)) 79 true,Gd 86 (.load 0 (.tmp 85)) 79 true,Gm 87 8 79 true,Gd 88 (.bin .sub .none (.tmp 87) (ci 1)) 79 true,Gd 89 (.iaddr 2 none (.tmp 86) (.tmp 88)) 79 true,Gd 90 (.load 2 (.tmp 89)) 79 true,Cg 91 58 [(.tmp 84),(.tmp 90)] 79 true,Gd 92 (.bin .lss .none (.tmp 91) (ci 0)) 79 true,Op 93 (.pick (.tmp 79) (.tmp 92) (.con (.bool false)))] [0,1,3,7,15,7,63,127,7,263,7,1031,3847,7943,16383,32767,65535] true) (Cd 93 .skip (.exit 4))) (.seq (.block 5 (.reg [Fa 96 1 1 5,Ld 97 0 96,Mv 98 8,Fa 99 1 1 5,Ld 100 0 99,Mv 101 8,Bc 102 .sub 101 1,Fa 103 1 1 5,Ld 104 0 103,Mv 105 8,Bc 106 .sub 105 1,Ia 107 2 104 106,Ld 108 2 107,Fa 109 1 1 5,Ld 110 0 109,Mv 111 8,Ia 112 2 110 111,Ld 113 2 112,Ia 114 2 97 98,Sv 2 114 108,Ia 115 2 100 102,Sv 2 115 113] [0,1,0,0,8,0,32,0,128,0,512,1920,3968,0,8192,0,57344,122880,262023,524167,1048575,2097151] true)) (Rg [Mv 94 8,Bc 95 .sub 94 1,Mv 8 95])))
def qjA : ICode := (.seq (Sr [Mv 69 7,Fa 70 1 1 5,Ld 71 0 70,Ln 72 71,Bn 73 .lss 69 72] (Cd 73 .skip (.exit 2))) (.seq (.block 3 (Sr [Mv 76 7,Mv 8 76] (.block 4 (.loop qlF)))) (Rg [Mv 74 7,Bc 75 .add 74 1,Mv 7 75])))
def i68 : ICode := (Sr [Bx 2 54 0,Bx 3 25 1,Op 4 (.alloc 25 [(.int .i64 0),.nil])] (Sr [Ld 9 2 3,Cl 10 37 [(.tmp 9)],Op 5 (.alloc 25 [(.int .i64 0),.nil]),Sv 2 5 10] (.seq (Sr [Mc 6 0] (.block 0 (.loop qdH))) (.seq (Sr [Fa 65 0 1 2,Ld 66 0 65,Bc 67 .neq 66 5] (Cd 67 (Sr [Ld 68 2 5,Sv 2 4 68] .ret) .skip)) (.seq (Sr [Mc 7 1] (.block 2 (.loop qjA))) (Sr [Ld 116 2 5,Sv 2 4 116] .ret))))))
theorem fn68 : FnOk Tryz.prog 68 117 [(4, some 2)] i68 := fnO Tryz.func68 Tryz.call68
def i69 : ICode := (Sr [Mb 6 false] (Sr [Mv 7 0,Mv 8 1,Bn 9 .geq 7 8,Mv 10 9,Gm 11 0 10 true,Gm 12 2 10 true,Gd 13 (.bin .leq .none (.tmp 11) (.tmp 12)) 10 true,Op 14 (.pick (.tmp 10) (.tmp 13) (.con (.bool false))),Mv 6 14] .ret))
theorem fn69 : FnOk Tryz.prog 69 15 [(6, none)] i69 := fnO Tryz.func69 Tryz.call69
def i70 : ICode := (Sr [Bx 1 34 0,Mb 2 false] (Sr [Fa 4 0 1 1,Ld 5 0 4,Cl 6 103 [(.tmp 5)],Op 3 (.alloc 134 [(.int .i64 0),(.int .i64 0),(.int .i64 0),(.int .i64 0),(.int .i64 0),(.int .i64 0),(.int .i64 0),(.int .i64 0)]),Sv 8 3 6] (Sr [Fa 7 1 1 1,Ld 8 0 7,Ln 9 8,Cl 10 69 [(.tmp 9),(ci 1),(ci 8)],Mv 11 10,Gd 12 (.faddr 7 1 (.tmp 1)) 11 true,Gd 13 (.load 0 (.tmp 12)) 11 true,Gd 14 (.len (.tmp 13)) 11 true,Gd 15 (.bin .leq .none (.tmp 14) (ci 12)) 11 true,Op 16 (.pick (.tmp 11) (.tmp 15) (.con (.bool false))),Mv 17 16,Gd 18 (.faddr 2 1 (.tmp 1)) 17 true,Gd 19 (.load 0 (.tmp 18)) 17 true,Gd 20 (.len (.tmp 19)) 17 true,Gd 21 (.faddr 0 2 (.tmp 3)) 17 true,Gd 22 (.iaddr 0 (some 2) (.tmp 21) (ci 0)) 17 true,Gd 23 (.load 0 (.tmp 22)) 17 true,Gd 24 (.faddr 0 2 (.tmp 3)) 17 true,Gd 25 (.iaddr 0 (some 2) (.tmp 24) (ci 1)) 17 true,Gd 26 (.load 0 (.tmp 25)) 17 true,Cg 27 69 [(.tmp 20),(.tmp 23),(.tmp 26)] 17 true,Op 28 (.pick (.tmp 17) (.tmp 27) (.con (.bool false))),Mv 29 28,Gd 30 (.faddr 3 1 (.tmp 1)) 29 true,Gd 31 (.load 0 (.tmp 30)) 29 true,Gd 32 (.len (.tmp 31)) 29 true,Gd 33 (.faddr 2 2 (.tmp 3)) 29 true,Gd 34 (.iaddr 0 (some 2) (.tmp 33) (ci 0)) 29 true,Gd 35 (.load 0 (.tmp 34)) 29 true,Gd 36 (.faddr 2 2 (.tmp 3)) 29 true,Gd 37 (.iaddr 0 (some 2) (.tmp 36) (ci 1)) 29 true,Gd 38 (.load 0 (.tmp 37)) 29 true,Cg 39 69 [(.tmp 32),(.tmp 35),(.tmp 38)] 29 true,Op 40 (.pick (.tmp 29) (.tmp 39) (.con (.bool false))),Mv 41 40,Gd 42 (.faddr 5 1 (.tmp 1)) 41 true,Gd 43 (.load 0 (.tmp 42)) 41 true,Gd 44 (.faddr 4 2 (.tmp 3)) 41 true,Gd 45 (.iaddr 0 (some 2) (.tmp 44) (ci 0)) 41 true,Gd 46 (.load 0 (.tmp 45)) 41 true,Gd 47 (.faddr 4 2 (.tmp 3)) 41 true,Gd 48 (.iaddr 0 (some 2) (.tmp 47) (ci 1)) 41 true,Gd 49 (.load 0 (.tmp 48)) 41 true,Cg 50 69 [(.tmp 43),(.tmp 46),(.tmp 49)] 41 true,Op 51 (.pick (.tmp 41) (.tmp 50) (.con (.bool false))),Mv 52 51,Gd 53 (.faddr 6 1 (.tmp 1)) 52 true,Gd 54 (.load 0 (.tmp 53)) 52 true,Gd 55 (.faddr 6 2 (.tmp 3)) 52 true,Gd 56 (.iaddr 0 (some 2) (.tmp 55) (ci 0)) 52 true,Gd 57 (.load 0 (.tmp 56)) 52 true,Gd 58 (.faddr 6 2 (.tmp 3)) 52 true,Gd 59 (.iaddr 0 (some 2) (.tmp 58) (ci 1)) 52 true,Gd 60 (.load 0 (.tmp 59)) 52 true,Cg 61 69 [(.tmp 54),(.tmp 57),(.tmp 60)] 52 true,Op 62 (.pick (.tmp 52) (.tmp 61) (.con (.bool false))),Mv 2 62] .ret)))
theorem fn70 : FnOk Tryz.prog 70 63 [(2, none)] i70 := fnO Tryz.func70 Tryz.call70
def i71 : ICode := (Sr [Bx 1 34 0,Mb 2 false] (.seq (Sr [Fa 3 0 1 1,Ld 4 0 3,Bc 5 .neq 4 3] (Cd 5 (Sr [Fa 6 4 1 1,Ld 7 0 6,Ln 8 7,Bc 9 .eql 8 0,Mv 2 9] .ret) .skip)) (Sr [Fa 10 4 1 1,Ld 11 0 10,Ln 12 11,Fa 13 3 1 1,Ld 14 0 13,Ln 15 14,Bn 16 .eql 12 15,Mv 17 16,Gd 18 (.faddr 4 1 (.tmp 1)) 17 true,Gd 19 (.load 0 (.tmp 18)) 17 true,Cg 20 104 [(.tmp 19),(.fnc 105)] 17 true,Gd 21 (.un .not (.tmp 20)) 17 true,Op 22 (.pick (.tmp 17) (.tmp 21) (.con (.bool false))),Mv 2 22] .ret)))
theorem fn71 : FnOk Tryz.prog 71 23 [(2, none)] i71 := fnO Tryz.func71 Tryz.call71
def qmo : ICode := (Sr [Bn 22 .lss 21 20] (.seq (Cd 22 .skip (.exit 0)) (.seq (.block 1 (Sr [Ia 23 14 19 21,Ld 24 14 23,⟨some 6,.op (.alloc 60 [(.str ⟨#[]⟩),(.int .i64 0),(.int .i64 0),.nil,.nil,.nil,(.int .i64 0),(.int .i64 0),(.int .i64 0),.nil,.nil,.nil,.nil,(.int .i64 0)]), none⟩,Sv 14 6 24] (Rg [Mv 25 4,Fa 26 0 1 6,Ld 27 0 26,⟨some 28,.op (.rows 9 0 1 [(.str ⟨#[]⟩)] [(0,1,(.tmp 27))]), none⟩,Op 29 (.app 9 0 (.tmp 25) (.tmp 28)),Mv 4 29]))) (Rg [Bc 30 .add 21 1,Mv 21 30]))))
def qj3 : ICode := (Sr [Bn 34 .lss 33 32] (.seq (Cd 34 .skip (.exit 2)) (.seq (.block 3 (Sr [Ia 35 0 31 33,Ld 36 0 35,Mv 8 36] (.seq (Sr [Mv 37 8,Cl 38 107 [(.tmp 37)],Nt 39 38,Mv 40 39,Gm 41 8 40 false,Cg 42 108 [(.tmp 41)] 40 false,Op 43 (.pick (.tmp 40) (.con (.bool true)) (.tmp 42)),Mv 44 43,Gm 45 3 44 false,Gm 46 8 44 false,Gd 47 (.look true (.bool false) false (.tmp 45) (.tmp 46)) 44 false,Op 48 (.pick (.tmp 44) (.con (.bool true)) (.tmp 47))] (Cd 48 (Sr [Mb 2 false] .ret) .skip)) (Rg [Mv 49 3,Mv 50 8,St (.mset true (.tmp 49) (.tmp 50) (.con (.bool true)))])))) (Rg [Bc 51 .add 33 1,Mv 33 51]))))
def i72 : ICode := (Sr [Bx 1 34 0,Mb 2 false] (Sr [Op 9 (.mkmap),Mv 3 9] (Sr [Fa 10 1 1 1,Ld 11 0 10,Fa 12 2 1 1,Ld 13 0 12,Fa 14 3 1 1,Ld 15 0 14,Op 16 (.rows 31 0 3 [.nil] [(0,1,(.tmp 11)),(1,1,(.tmp 13)),(2,1,(.tmp 15))]),Cl 17 106 [(.tmp 16)],Mv 4 17] (.seq (Sr [Fa 18 7 1 1,Ld 19 0 18,Ln 20 19,Mc 21 0] (.block 0 (.loop qmo))) (.seq (Sr [Mv 31 4,Ln 32 31,Mc 33 0] (.block 2 (.loop qj3))) (Sr [Mb 2 true] .ret))))))
theorem fn72 : FnOk Tryz.prog 72 52 [(2, none)] i72 := fnO Tryz.func72 Tryz.call72
def i73 : ICode := (Sr [Mb 4 false] (Sr [Mv 5 0,Mv 6 1,Cl 7 109 [(.tmp 5),(.tmp 6)],Bc 8 .geq 7 0,Mv 4 8] .ret))
theorem fn73 : FnOk Tryz.prog 73 9 [(4, none)] i73 := fnO Tryz.func73 Tryz.call73
def i74 : ICode := (Sr [Bx 2 60 0,Mb 3 false] (Sr [Ld 4 10 1,Ld 5 14 2,Cl 6 75 [(.tmp 4),(.tmp 5)],Nt 7 6,Mv 3 7] .ret))
theorem fn74 : FnOk Tryz.prog 74 8 [(3, none)] i74 := fnO Tryz.func74 Tryz.call74
def i75 : ICode := (Sr [Bx 2 34 0,Bx 3 60 1,Mb 4 false] (Sr [Fa 8 1 1 2,Ld 9 0 8,Ln 10 9,Mv 5 10] (.seq (Sr [Fa 11 2 1 3,Ld 12 0 11,Mv 13 5,Cl 14 110 [(.tmp 12),(.tmp 13)],Nt 15 14,Mv 16 15,Gd 17 (.faddr 1 1 (.tmp 3)) 16 false,Gd 18 (.load 0 (.tmp 17)) 16 false,Gm 19 5 16 false,Cg 20 110 [(.tmp 18),(.tmp 19)] 16 false,Gd 21 (.un .not (.tmp 20)) 16 false,Gm 22 21 16 false,Gd 23 (.faddr 0 1 (.tmp 2)) 22 true,Gd 24 (.load 0 (.tmp 23)) 22 true,Gd 25 (.bin .neq .none (.tmp 24) (ci 6)) 22 true,Gm 26 25 22 true,Gd 27 (.faddr 1 1 (.tmp 3)) 26 false,Gd 28 (.load 0 (.tmp 27)) 26 false,Gd 29 (.bin .neq .none (.tmp 28) (.con (.int .i64 (-1)))) 26 false,Gd 30 (.pick (.tmp 26) (.con (.bool true)) (.tmp 29)) 22 true,Gd 31 (.pick (.tmp 22) (.tmp 30) (.con (.bool false))) 16 false,Op 32 (.pick (.tmp 16) (.con (.bool true)) (.tmp 31))] (Cd 32 (Sr [Mb 4 false] .ret) .skip)) (Sr [Fa 33 0 1 3,Ld 34 0 33,Fa 35 1 1 3,Ld 36 0 35,Fa 37 2 1 3,Ld 38 0 37,⟨some 39,.op (.build [(.str ⟨#[]⟩),(.int .i64 0),(.int .i64 0),.nil,.nil,.nil,(.int .i64 0),(.int .i64 0),(.int .i64 0),.nil,.nil,.nil,.nil,(.int .i64 0)] [(0,1,(.tmp 34)),(1,1,(.tmp 36)),(2,1,(.tmp 38))]), none⟩,⟨some 6,.op (.alloc 60 [(.str ⟨#[]⟩),(.int .i64 0),(.int .i64 0),.nil,.nil,.nil,(.int .i64 0),(.int .i64 0),(.int .i64 0),.nil,.nil,.nil,.nil,(.int .i64 0)]), none⟩,Sv 14 6 39] (Sr [Mb 7 false] (.seq (Sr [Fa 40 0 1 2,Ld 41 0 40] (.block 0 (Sr [Bc 81 .eql 41 1,Mv 80 81] (Cd 80 (.seq (.reg [Fa 82 3 1 3,Ld 83 0 82,Fa 84 4 1 3,Ld 85 0 84,Fa 86 5 1 3,Ld 87 0 86,Fa 88 3 1 6,Sv 0 88 83,Fa 89 4 1 6,Sv 0 89 85,Fa 90 5 1 6,Sv 0 90 87] [0,1,0,4,0,16,3,67,207,463,1023,2047] true) (Rg [Ld 91 10 2,Ld 92 14 3,Cl 93 111 [(.tmp 91),(.tmp 92)],Mv 94 93,Gd 95 (.load 10 (.tmp 2)) 94 true,Gd 96 (.load 14 (.tmp 3)) 94 true,Cg 97 112 [(.tmp 95),(.tmp 96)] 94 true,Op 98 (.pick (.tmp 94) (.tmp 97) (.con (.bool false))),Mv 7 98])) (.seq (Sr [Bc 100 .eql 41 2,Mv 99 100] (Cd 99 .skip (Rg [Bc 101 .eql 41 3,Mv 99 101]))) (Cd 99 (.seq (.reg [Fa 102 6 1 3,Ld 103 0 102,Fa 104 7 1 3,Ld 105 0 104,Fa 106 8 1 3,Ld 107 0 106,Fa 108 6 1 6,Sv 0 108 103,Fa 109 7 1 6,Sv 0 109 105,Fa 110 8 1 6,Sv 0 110 107] [0,1,0,4,0,16,3,67,207,463,1023,2047] true) (Rg [Ld 111 10 2,Ld 112 14 3,Cl 113 113 [(.tmp 111),(.tmp 112)],Mv 7 113])) (Sr [Bc 115 .eql 41 4,Mv 114 115] (Cd 114 (.seq (.reg [Fa 116 9 1 3,Ld 117 0 116,Fa 118 10 1 3,Ld 119 0 118,Fa 120 9 1 6,Sv 0 120 117,Fa 121 10 1 6,Sv 0 121 119] [0,1,0,4,3,19,63,127] true) (Rg [Ld 122 10 2,Ld 123 14 3,Cl 124 114 [(.tmp 122),(.tmp 123)],Mv 7 124])) (Sr [Bc 126 .eql 41 5,Mv 125 126] (Cd 125 (.seq (.reg [Fa 127 11 1 3,Ld 128 0 127,Fa 129 12 1 3,Ld 130 0 129,Fa 131 11 1 6,Sv 0 131 128,Fa 132 12 1 6,Sv 0 132 130] [0,1,0,4,3,19,63,127] true) (Rg [Ld 133 10 2,Ld 134 14 3,Cl 135 115 [(.tmp 133),(.tmp 134)],Mv 7 135])) (.seq (.reg [Fa 42 3 1 3,Ld 43 0 42,Fa 44 4 1 3,Ld 45 0 44,Fa 46 13 1 3,Ld 47 0 46,Fa 48 3 1 6,Sv 0 48 43,Fa 49 4 1 6,Sv 0 49 45,Fa 50 13 1 6,Sv 0 50 47] [0,1,0,4,0,16,3,67,207,463,1023,2047] true) (Rg [Ld 51 10 2,Ld 52 14 3,Cl 53 111 [(.tmp 51),(.tmp 52)],Mv 54 53,Gd 55 (.faddr 13 1 (.tmp 3)) 54 true,Gd 56 (.load 0 (.tmp 55)) 54 true,Gd 57 (.bin .eql .none (.tmp 56) (.con (.int .i64 (-1)))) 54 true,Gm 58 57 54 true,Gd 59 (.faddr 13 1 (.tmp 3)) 58 false,Gd 60 (.load 0 (.tmp 59)) 58 false,Gm 61 5 58 false,Cg 62 110 [(.tmp 60),(.tmp 61)] 58 false,Gd 63 (.pick (.tmp 58) (.con (.bool true)) (.tmp 62)) 54 true,Op 64 (.pick (.tmp 54) (.tmp 63) (.con (.bool false))),Mv 65 64,Gd 66 (.faddr 1 1 (.tmp 3)) 65 true,Gd 67 (.load 0 (.tmp 66)) 65 true,Gd 68 (.bin .geq .none (.tmp 67) (ci 0)) 65 true,Gm 69 68 65 true,Gd 70 (.faddr 13 1 (.tmp 3)) 69 false,Gd 71 (.load 0 (.tmp 70)) 69 false,Gd 72 (.bin .eql .none (.tmp 71) (.con (.int .i64 (-1)))) 69 false,Gm 73 72 69 false,Gd 74 (.faddr 3 1 (.tmp 3)) 73 true,Gd 75 (.load 0 (.tmp 74)) 73 true,Cg 76 116 [(.tmp 75),(.fnc 117)] 73 true,Gd 77 (.pick (.tmp 73) (.tmp 76) (.con (.bool false))) 69 false,Gd 78 (.pick (.tmp 69) (.con (.bool true)) (.tmp 77)) 65 true,Op 79 (.pick (.tmp 65) (.tmp 78) (.con (.bool false))),Mv 7 79])))))))))))) (Sr [Mv 136 7,Mv 137 136,Gd 138 (.load 14 (.tmp 3)) 137 true,Gd 139 (.load 14 (.tmp 6)) 137 true,Cg 140 118 [(.tmp 138),(.tmp 139)] 137 true,Op 141 (.pick (.tmp 137) (.tmp 140) (.con (.bool false))),Mv 4 141] .ret)))))))
theorem fn75 : FnOk Tryz.prog 75 142 [(4, none)] i75 := fnO Tryz.func75 Tryz.call75
def i76 : ICode := (Sr [Bx 1 34 0,Mb 2 false] (.seq (Sr [Fa 3 0 1 1,Ld 4 0 3,Bc 5 .eql 4 6] (Cd 5 (Sr [Fa 6 8 2 1,Fa 7 0 1 6,Ld 8 0 7,Bc 9 .eql 8 0,Mv 10 9,Gd 11 (.faddr 8 2 (.tmp 1)) 10 true,Gd 12 (.faddr 1 1 (.tmp 11)) 10 true,Gd 13 (.load 0 (.tmp 12)) 10 true,Gd 14 (.len (.tmp 13)) 10 true,Gd 15 (.bin .eql .none (.tmp 14) (ci 0)) 10 true,Op 16 (.pick (.tmp 10) (.tmp 15) (.con (.bool false))),Mv 2 16] .ret) .skip)) (.seq (.reg [Ld 17 10 1,Cl 18 78 [(.tmp 17)],Fa 19 8 2 1,Ld 20 2 19,Cl 21 77 [(.tmp 18),(.tmp 20)],Mv 2 21] [0,1,0,4,15,31] true) .ret)))
theorem fn76 : FnOk Tryz.prog 76 22 [(2, none)] i76 := fnO Tryz.func76 Tryz.call76
def i77 : ICode := (Sr [Bx 2 54 0,Bx 3 25 1,Mb 4 false] (Sr [Ld 5 4 2,Cl 6 119 [(.tmp 5)],Bc 7 .eql 6 0,Mv 8 7,Gd 9 (.load 2 (.tmp 3)) 8 true,Cg 10 120 [(.tmp 9)] 8 true,Gd 11 (.bin .leq .none (.tmp 10) (ci 128)) 8 true,Op 12 (.pick (.tmp 8) (.tmp 11) (.con (.bool false))),Mv 13 12,Gd 14 (.load 4 (.tmp 2)) 13 true,Gd 15 (.load 2 (.tmp 3)) 13 true,Cg 16 121 [(.tmp 14),(.tmp 15)] 13 true,Op 17 (.pick (.tmp 13) (.tmp 16) (.con (.bool false))),Mv 4 17] .ret))
theorem fn77 : FnOk Tryz.prog 77 18 [(4, none)] i77 := fnO Tryz.func77 Tryz.call77
def qer : ICode := (Sr [Bn 16 .lss 15 14] (.seq (Cd 16 .skip (.exit 1)) (.seq (.block 2 (Sr [Op 17 (.build [(.int .i64 0),(.int .i64 0),.nil,.nil] [(0,1,(ci 1))]),Op 4 (.alloc 54 [(.int .i64 0),(.int .i64 0),.nil,.nil]),Sv 4 4 17] (.seq (Sr [Fa 18 0 1 1,Ld 19 0 18] (.block 3 (Sr [Bc 21 .eql 19 2,Mv 20 21] (Cd 20 (Rg [Fa 22 3 1 1,Ld 23 0 22,Ln 24 23,Cl 25 122 [(.tmp 24)],Cl 26 124 [(ci 4),(.tmp 25)],Sv 4 4 26]) (Sr [Bc 28 .eql 19 3,Mv 27 28] (Cd 27 (.reg [Fa 29 3 1 1,Ld 30 0 29,Ln 31 30,Fa 32 4 1 1,Ld 33 0 32,Cl 34 125 [(.tmp 33)],Op 35 (.build [(.int .i64 0),(.int .i64 0),.nil,.nil] [(0,1,(ci 7)),(1,1,(.tmp 31)),(2,1,(.tmp 34))]),Sv 4 4 35] [0,1,3,0,8,24,63,127] true) .skip)))))) (Rg [Mv 36 3,Ld 37 4 4,Op 38 (.rows 54 4 1 [(.int .i64 0),(.int .i64 0),.nil,.nil] [(0,4,(.tmp 37))]),Op 39 (.app 54 4 (.tmp 36) (.tmp 38)),Mv 3 39])))) (Rg [Bc 40 .add 15 1,Mv 15 40]))))
def i78 : ICode := (Sr [Bx 1 34 0,Op 2 (.alloc 54 [(.int .i64 0),(.int .i64 0),.nil,.nil])] (Sr [Fa 5 1 1 1,Ld 6 0 5,Ln 7 6,Cl 8 122 [(.tmp 7)],Op 9 (.rows 54 4 1 [(.int .i64 0),(.int .i64 0),.nil,.nil] [(0,4,(.tmp 8))]),Mv 3 9] (.seq (Sr [Fa 10 0 1 1,Ld 11 0 10] (.block 0 (Sr [Bc 42 .eql 11 4,Mv 41 42] (Cd 41 (Rg [Mv 43 3,Fa 44 3 1 1,Ld 45 0 44,Ln 46 45,Fa 47 5 1 1,Ld 48 0 47,Cl 49 123 [(.tmp 46),(.tmp 48)],Op 50 (.rows 54 4 1 [(.int .i64 0),(.int .i64 0),.nil,.nil] [(0,4,(.tmp 49))]),Op 51 (.app 54 4 (.tmp 43) (.tmp 50)),Mv 3 51]) (Sr [Bc 53 .eql 11 5,Mv 52 53] (Cd 52 (.reg [Mv 54 3,Fa 55 2 1 1,Ld 56 0 55,Ln 57 56,Cl 58 122 [(.tmp 57)],Fa 59 6 1 1,Ld 60 0 59,Bc 61 .add 60 2,Cl 62 122 [(.tmp 61)],Op 63 (.rows 54 4 2 [(.int .i64 0),(.int .i64 0),.nil,.nil] [(0,4,(.tmp 58)),(4,4,(.tmp 62))]),Op 64 (.build [(.int .i64 0),(.int .i64 0),.nil,.nil] [(0,1,(ci 3)),(3,1,(.tmp 63))]),Cl 65 124 [(ci 5),(.tmp 64)],Op 66 (.rows 54 4 1 [(.int .i64 0),(.int .i64 0),.nil,.nil] [(0,4,(.tmp 65))]),Op 67 (.app 54 4 (.tmp 54) (.tmp 66)),Mv 3 67] [0,0,2,6,14,0,32,96,254,510,1022,2046,4094,8191,16383] true) (Sr [Fa 12 2 1 1,Ld 13 0 12,Ln 14 13,Mc 15 0] (.block 1 (.loop qer))))))))) (Sr [Mv 68 3,Op 69 (.build [(.int .i64 0),(.int .i64 0),.nil,.nil] [(0,1,(ci 3)),(3,1,(.tmp 68))]),Sv 4 2 69] .ret))))
theorem fn78 : FnOk Tryz.prog 78 70 [(2, some 4)] i78 := fnO Tryz.func78 Tryz.call78
def i79 : ICode := (Sr [Op 4 (.alloc 25 [(.int .i64 0),.nil])] (Sr [Mv 5 0,Op 6 (.build [(.int .i64 0),.nil] [(0,1,(.tmp 5))]),Op 7 (.rows 25 2 1 [(.int .i64 0),.nil] [(0,2,(.tmp 6))]),Mv 8 1,Cl 9 127 [(.tmp 8)],Op 10 (.rows 23 0 2 [.nil] [(0,1,(.tmp 7)),(1,1,(.tmp 9))]),Cl 11 126 [(.tmp 10)],Op 12 (.build [(.int .i64 0),.nil] [(1,1,(.tmp 11))]),Sv 2 4 12] .ret))
theorem fn79 : FnOk Tryz.prog 79 13 [(4, some 2)] i79 := fnO Tryz.func79 Tryz.call79
def i80 : ICode := (Sr [Op 4 (.mv (.con .nil))] (.seq (Sr [Mv 5 1,Bc 6 .lss 5 0] (Cd 6 (Rg [Op 7 (.bad),St (.bad)]) .skip)) (.seq (Sr [Mv 8 1,Mv 9 0,Op 10 (.cap (.tmp 9)),Mv 11 0,Ln 12 11,Bn 13 .sub 10 12,Bn 14 .sub 8 13,Mv 1 14] (Sr [Mv 15 1,Bc 16 .gtr 15 0] (Cd 16 (Rg [Mv 17 0,Mv 18 0,Op 19 (.cap (.tmp 18)),Op 20 (.slice 2 (.tmp 17) none (some (.tmp 19))),Mv 21 1,Op 22 (.appz 50 2 [(.int .i64 0),(.int .i64 0)] (.tmp 20) (.tmp 21)),Mv 23 0,Ln 24 23,Op 25 (.slice 2 (.tmp 22) none (some (.tmp 24))),Mv 0 25]) .skip))) (Sr [Mv 26 0,Mv 4 26] .ret))))
theorem fn80 : FnOk Tryz.prog 80 27 [(4, none)] i80 := fnO Tryz.func80 Tryz.call80
end
end Go.Proofs.YtikhhnopcjgjpaaGreat
