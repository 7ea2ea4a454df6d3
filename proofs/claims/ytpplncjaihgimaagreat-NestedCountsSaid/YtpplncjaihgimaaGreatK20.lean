/- Contracts of functions of the program, for all arguments that they name. -/
import Derived.Test.YtpplncjaihgimaaGreatK19
namespace Go.Proofs.YtpplncjaihgimaaGreat
set_option linter.unusedVariables false
section
inductive Srch (E:Nat→Nat→Bool) (m:Nat):Nat→Nat→(Nat→Int)→(Nat→Bool)→Bool→(Nat→Int)→(Nat→Bool)→Prop
 | fin {row j:Nat} {o:Nat→Int} {s:Nat→Bool} (h:m≤j):Srch E m row j o s false o s
 | skip {row j:Nat} {o o':Nat→Int} {s s':Nat→Bool} {b:Bool} (hj:j<m) (h:E row j=false∨s j=true) (k:Srch E m row (j+1) o s b o' s'):Srch E m row j o s b o' s'
 | free {row j:Nat} {o:Nat→Int} {s:Nat→Bool} (hj:j<m) (he:E row j=true) (hs:s j=false) (ho:o j = -1):Srch E m row j o s true (upd o j row) (upd s j true)
 | push {row j x:Nat} {o o2:Nat→Int} {s s2:Nat→Bool} (hj:j<m) (he:E row j=true) (hs:s j=false) (ho:o j=(x:Int)) (k:Srch E m x 0 o (upd s j true) true o2 s2) :
  Srch E m row j o s true (upd o2 j row) s2
 | back {row j x:Nat} {o o2 o':Nat→Int} {s s2 s':Nat→Bool} {b:Bool} (hj:j<m) (he:E row j=true) (hs:s j=false) (ho:o j=(x:Int)) (k:Srch E m x 0 o (upd s j true) false o2 s2)
  (k':Srch E m row (j+1) o2 s2 b o' s'):Srch E m row j o s b o' s'
variable {E:Nat→Nat→Bool} {m:Nat}
theorem Srch.same {r j:Nat}{o o':Nat→Int}{s s':Nat→Bool}{b:Bool}(h:Srch E m r j o s b o' s'):b=false→o'=o:=by
 induction h with
 | fin _=>intro _;rfl
 | skip _ _ _ ih=>exact ih
 | free _ _ _ _=>intro h;cases h
 | push _ _ _ _ _ _=>intro h;cases h
 | back _ _ _ _ _ _ ih ih'=>intro h;rw[ih' h,ih rfl]
theorem Srch.mono {r j:Nat}{o o':Nat→Int}{s s':Nat→Bool}{b:Bool}(h:Srch E m r j o s b o' s'):∀c,s c=true→s' c=true:=by
 induction h with
 | fin _=>intro c h;exact h
 | skip _ _ _ ih=>exact ih
 | free _ _ _ _=>
  intro c h
  simp only[upd];split
  ·rfl
  ·exact h
 | push _ _ _ _ _ ih=>
  intro c h
  refine ih c ?_
  simp only[upd];split
  ·rfl
  ·exact h
 | back _ _ _ _ _ _ ih ih'=>
  intro c h
  refine ih' c (ih c ?_)
  simp only[upd];split
  ·rfl
  ·exact h
theorem Srch.closed {r j:Nat}{o o':Nat→Int}{s s':Nat→Bool}{b:Bool}(h:Srch E m r j o s b o' s'):b=false→
 (∀c,s' c=true→s c=false→c<m∧∃x:Nat,o c=x∧∀c',c'<m→E x c'=true→s' c'=true)∧∀c,j≤c→c<m→E r c=true→s' c=true:=by
 induction h with
 | fin h=>exact fun _=>⟨fun c h1 h2=>by simp[h1] at h2,fun c h1 h2=>by omega⟩
 | @skip row j o o' s s' b hj h k ih=>
  intro hb
  obtain⟨h1,h2⟩:=ih hb
  refine⟨h1,fun c hc hm he=>?_⟩
  rcases Nat.lt_or_ge j c with hlt | hge
  ·exact h2 c hlt hm he
  ·have:c=j:=by omega
   subst this
   rcases h with h | h
   ·rw[h] at he;cases he
   ·exact k.mono c h
 | free _ _ _ _=>intro h;cases h
 | push _ _ _ _ _ _=>intro h;cases h
 | @back row j x o o2 o' s s2 s' b hj he hs ho k k' ih ih'=>
  intro hb
  obtain⟨h1,h2⟩:=ih rfl
  have hoo:o2=o:=k.same rfl
  subst hoo
  obtain⟨h3,h4⟩:=ih' hb
  refine⟨fun c hc hn=>?_,fun c hc hm hE=>?_⟩
  ·cases hs2:s2 c with
   | false=>exact h3 c hc hs2
   | true=>
    by_cases hcj:c=j
    ·subst hcj
     exact⟨hj,x,ho,fun c' hc' hE'=>k'.mono c' (h2 c' (Nat.zero_le _) hc' hE')⟩
    ·obtain⟨hm,y,hy,hcl⟩:=h1 c hs2 (by rw[upd_ne _ _ hcj];exact hn)
     exact⟨hm,y,hy,fun c' hc' hE'=>k'.mono c' (hcl c' hc' hE')⟩
  ·rcases Nat.lt_or_ge j c with hlt | hge
   ·exact h4 c hlt hm hE
   ·have:c=j:=by omega
    subst this
    exact k'.mono c (k.mono c (upd_same _ _ _))
theorem Srch.dead {D C:Nat→Bool}{r j:Nat}{o o':Nat→Int}{s s':Nat→Bool}{b:Bool}(h:Srch E m r j o s b o' s') :
 (∀x c,D x=true→c<m→E x c=true→s c=true∨C c=true)→(∀c,C c=true→∃x:Nat,o c=x∧D x=true)→
 (D r=true→b=false)∧∀c,C c=true→o' c=o c:=by
 induction h with
 | fin _=>exact fun _ _=>⟨fun _=>rfl,fun _ _=>rfl⟩
 | skip _ _ _ ih=>exact ih
 | @free row j o s hj he hs ho=>
  intro h1 h2
  have hC:C j=false:=by
   cases hc:C j with
   | false=>rfl
   | true=>obtain⟨x,hx,_⟩:=h2 j hc;omega
  refine⟨fun hD=>?_,fun c hc=>?_⟩
  ·rcases h1 row j hD hj he with h | h
   ·rw[hs] at h;cases h
   ·rw[hC] at h;cases h
  ·rw[upd_ne];intro e;rw[e,hC] at hc;cases hc
 | @push row j x o o2 s s2 hj he hs ho k ih=>
  intro h1 h2
  obtain⟨h3,h4⟩:=ih (fun y c hy hm hE=>(h1 y c hy hm hE).imp (fun h=>by simp only[upd];split;rfl;exact h) id) h2
  have hC:C j=false:=by
   cases hc:C j with
   | false=>rfl
   | true=>
    obtain⟨y,hy,hd⟩:=h2 j hc
    have:y=x:=by omega
    subst this
    have:=h3 hd
    cases this
  refine⟨fun hD=>?_,fun c hc=>?_⟩
  ·rcases h1 row j hD hj he with h | h
   ·rw[hs] at h;cases h
   ·rw[hC] at h;cases h
  ·rw[upd_ne]
   ·exact h4 c hc
   ·intro e;rw[e,hC] at hc;cases hc
 | @back row j x o o2 o' s s2 s' b hj he hs ho k k' ih ih'=>
  intro h1 h2
  have hoo:o2=o:=k.same rfl
  subst hoo
  exact ih' (fun y c hy hm hE=>(h1 y c hy hm hE).imp (fun h=>k.mono c (by simp only[upd];split;rfl;exact h)) id) h2
structure Aug (E:Nat→Nat→Bool) (r:Nat) (o:Nat→Int) (s:Nat→Bool) (o':Nat→Int):Prop where
 keep:∀c,s c=true→o' c=o c
 edge:∀c,o' c = -1∨∃x:Nat,o' c=x∧E x c=true
 inj:∀c c',s c=false→s c'=false→o' c=o' c'→o' c ≠ -1→c=c'
 rows:∀x:Nat,(∃c,s c=false∧o' c=x)↔(x=r∨∃c,s c=false∧o c=x)
theorem Aug.lift {r:Nat}{o o':Nat→Int}{s s2:Nat→Bool}(h:Aug E r o s2 o')(hm:∀c,s c=true→s2 c=true)
 (hinj:∀c c',o c=o c'→o c ≠ -1→c=c') (hr:∀c,s c=false→o c≠r):Aug E r o s o':=by
 have mixed:∀c c',s c=false→s2 c=true→s2 c'=false→o' c=o' c'→o' c ≠ -1→False:=by
  intro c c' hc h2 h2' e hn
  have hk:=h.keep c h2
  rcases h.edge c with hx | ⟨x,hx,_⟩
  ·exact hn hx
  ·rcases (h.rows x).1 ⟨c',h2',by rw[←e,hx]⟩ with rfl | ⟨c2,hs2,ho2⟩
   ·exact hr c hc (by rw[←hk,hx])
   ·have:c2=c:=hinj c2 c (by rw[ho2,←hk,hx]) (by rw[ho2];omega)
    subst this
    rw[h2] at hs2;cases hs2
 refine⟨fun c hc=>h.keep c (hm c hc),h.edge,fun c c' hc hc' e hn=>?_,fun x=>⟨?_,?_⟩⟩
 ·cases h2:s2 c with
  | true=>
   cases h2':s2 c' with
   | true=>exact hinj c c' (by rw[←h.keep c h2,←h.keep c' h2',e]) (by rw[←h.keep c h2];exact hn)
   | false=>exact (mixed c c' hc h2 h2' e hn).elim
  | false=>
   cases h2':s2 c' with
   | true=>exact (mixed c' c hc' h2' h2 e.symm (by rw[←e];exact hn)).elim
   | false=>exact h.inj c c' h2 h2' e hn
 ·rintro ⟨c,hc,hx⟩
  cases h2:s2 c with
  | true=>exact .inr ⟨c,hc,by rw[←h.keep c h2,hx]⟩
  | false=>
   rcases (h.rows x).1 ⟨c,h2,hx⟩ with rfl | ⟨c2,hs2,ho2⟩
   ·exact .inl rfl
   ·refine .inr ⟨c2,?_,ho2⟩
    cases hsc:s c2 with
    | false=>rfl
    | true=>rw[hm c2 hsc] at hs2;cases hs2
 ·have low:∀c,s2 c=false→s c=false:=fun c h2=>by
   cases hsc:s c with
   | false=>rfl
   | true=>rw[hm c hsc] at h2;cases h2
  rintro (rfl | ⟨c,hc,hx⟩)
  ·obtain⟨c,h2,hx⟩:=(h.rows x).2 (.inl rfl)
   exact⟨c,low c h2,hx⟩
  ·cases h2:s2 c with
   | true=>exact⟨c,hc,by rw[h.keep c h2,hx]⟩
   | false=>
    obtain⟨c2,h3,hx2⟩:=(h.rows x).2 (.inr ⟨c,h2,hx⟩)
    exact⟨c2,low c2 h3,hx2⟩
theorem Srch.aug {r j:Nat}{o o':Nat→Int}{s s':Nat→Bool}{b:Bool}(h:Srch E m r j o s b o' s'):b=true→
 (∀c,o c = -1∨∃x:Nat,o c=x∧E x c=true)→(∀c c',o c=o c'→o c ≠ -1→c=c')→(∀c,s c=false→o c≠r)→Aug E r o s o':=by
 induction h with
 | fin _=>intro h;cases h
 | skip _ _ _ ih=>exact ih
 | @free row j o s hj he hs ho=>
  intro _ hv hi hr
  refine⟨fun c hc=>upd_ne _ _ (by rintro rfl;rw[hs] at hc;cases hc),fun c=>?_,fun c c' hc hc' e hn=>?_,fun x=>⟨?_,?_⟩⟩
  ·by_cases hcj:c=j
   ·subst hcj;exact .inr ⟨row,upd_same _ _ _,he⟩
   ·rw[upd_ne _ _ hcj];exact hv c
  ·by_cases hcj:c=j<;>by_cases hcj':c'=j
   ·rw[hcj,hcj']
   ·subst hcj;rw[upd_same,upd_ne _ _ hcj'] at e;exact (hr c' hc' e.symm).elim
   ·subst hcj';rw[upd_same,upd_ne _ _ hcj] at e;exact (hr c hc e).elim
   ·rw[upd_ne _ _ hcj,upd_ne _ _ hcj'] at e;rw[upd_ne _ _ hcj] at hn;exact hi c c' e hn
  ·rintro ⟨c,hc,hx⟩
   by_cases hcj:c=j
   ·subst hcj;rw[upd_same] at hx;exact .inl (by omega)
   ·rw[upd_ne _ _ hcj] at hx;exact .inr ⟨c,hc,hx⟩
  ·rintro (rfl | ⟨c,hc,hx⟩)
   ·exact⟨j,hs,upd_same _ _ _⟩
   ·have hcj:c≠j:=by rintro rfl;omega
    exact⟨c,hc,by rw[upd_ne _ _ hcj];exact hx⟩
 | @push row j x o o2 s s2 hj he hs ho k ih=>
  intro _ hv hi hr
  have hxr:x≠row:=by rintro rfl;exact hr j hs ho
  have low:∀c,upd s j true c=false→c≠j∧s c=false:=fun c hc=>by
   by_cases hcj:c=j
   ·subst hcj;rw[upd_same] at hc;cases hc
   ·rw[upd_ne _ _ hcj] at hc;exact⟨hcj,hc⟩
  have A:=ih rfl hv hi (fun c hc e=>(low c hc).1 (hi c j (by rw[e,ho]) (by omega)))
  refine⟨fun c hc=>?_,fun c=>?_,fun c c' hc hc' e hn=>?_,fun y=>⟨?_,?_⟩⟩
  ·have hcj:c≠j:=by rintro rfl;rw[hs] at hc;cases hc
   rw[upd_ne _ _ hcj]
   exact A.keep c (by rw[upd_ne _ _ hcj];exact hc)
  ·by_cases hcj:c=j
   ·subst hcj;exact .inr ⟨row,upd_same _ _ _,he⟩
   ·rw[upd_ne _ _ hcj];exact A.edge c
  ·have far:∀d,d≠j→s d=false→o2 d≠(row:Int):=fun d hd hsd e=>by
    rcases (A.rows row).1 ⟨d,by rw[upd_ne _ _ hd];exact hsd,e⟩ with h | ⟨c2,h2,h3⟩
    ·exact hxr h.symm
    ·exact hr c2 (low c2 h2).2 h3
   by_cases hcj:c=j<;>by_cases hcj':c'=j
   ·rw[hcj,hcj']
   ·subst hcj;rw[upd_same,upd_ne _ _ hcj'] at e;exact (far c' hcj' hc' e.symm).elim
   ·subst hcj';rw[upd_same,upd_ne _ _ hcj] at e;exact (far c hcj hc e).elim
   ·rw[upd_ne _ _ hcj,upd_ne _ _ hcj'] at e;rw[upd_ne _ _ hcj] at hn
    exact A.inj c c' (by rw[upd_ne _ _ hcj];exact hc) (by rw[upd_ne _ _ hcj'];exact hc') e hn
  ·rintro ⟨c,hc,hy⟩
   by_cases hcj:c=j
   ·subst hcj;rw[upd_same] at hy;exact .inl (by omega)
   ·rw[upd_ne _ _ hcj] at hy
    rcases (A.rows y).1 ⟨c,by rw[upd_ne _ _ hcj];exact hc,hy⟩ with rfl | ⟨c2,h2,h3⟩
    ·exact .inr ⟨j,hs,ho⟩
    ·exact .inr ⟨c2,(low c2 h2).2,h3⟩
  ·have give:∀y:Nat,(∃c,upd s j true c=false∧o2 c=y)→∃c,s c=false∧upd o2 j (row:Int) c=y:=fun y ⟨c,hc,hy⟩=>
    ⟨c,(low c hc).2,by rw[upd_ne _ _ (low c hc).1];exact hy⟩
   rintro (rfl | ⟨c,hc,hy⟩)
   ·exact⟨j,hs,upd_same _ _ _⟩
   ·by_cases hcj:c=j
    ·subst hcj
     have:y=x:=by omega
     subst this
     exact give y ((A.rows y).2 (.inl rfl))
    ·exact give y ((A.rows y).2 (.inr ⟨c,by rw[upd_ne _ _ hcj];exact hc,hy⟩))
 | @back row j x o o2 o' s s2 s' b hj he hs ho k k' ih ih'=>
  intro hb hv hi hr
  have hoo:o2=o:=k.same rfl
  subst hoo
  have hm:∀c,s c=true→s2 c=true:=fun c hc=>k.mono c (by simp only[upd];split;rfl;exact hc)
  have low:∀c,s2 c=false→s c=false:=fun c h2=>by
   cases hsc:s c with
   | false=>rfl
   | true=>rw[hm c hsc] at h2;cases h2
  exact (ih' hb hv hi (fun c hc=>hr c (low c hc))).lift hm hi hr
theorem qeY {α:Type}[DecidableEq α]:∀ {l l':List α},l.Nodup→(∀x∈l,x∈l')→l.length≤l'.length
 | [],_,_,_=>Nat.zero_le _
 | a::l,l',hn,hs=>by
  have ha:a∈l':=hs a (by simp)
  have hn':=List.nodup_cons.1 hn
  have:=qeY (l:=l) (l':=l'.erase a) hn'.2 (fun x hx=>(List.mem_erase_of_ne (fun e=>hn'.1 (by rw[←e];exact hx))).2 (hs x (by simp[hx])))
  rw[List.length_erase_of_mem ha] at this
  have:0<l'.length:=List.length_pos_of_mem ha
  simp only[List.length_cons];omega
theorem qfS {α β:Type}{f:α→β}{l:List α}(hl:l.Nodup)(hf:∀x∈l,∀y∈l,f x=f y→x=y):(l.map f).Nodup:=by
 unfold List.Nodup at*
 rw[List.pairwise_map]
 exact List.Pairwise.imp_of_mem (fun hx hy hne e=>hne (hf _ hx _ hy e)) hl
def Mat (E:Nat→Nat→Bool)(m:Nat)(used:Nat→Bool)(lo hi:Nat)(M:List (Nat×Nat)):Prop:=
 (M.map (·.1)).Nodup∧(M.map (·.2)).Nodup∧∀p∈M,lo≤p.1∧p.1<hi∧p.2<m∧E p.1 p.2=true∧used p.2=false
def qub (E:Nat→Nat→Bool)(m:Nat)(used:Nat→Bool)(lo hi n:Nat):Prop:=
 ∃D C:Nat→Bool,(∀r c,D r=true→lo≤r→r<hi→c<m→E r c=true→used c=false→C c=true)∧
  ((List.range m).filter C).length+((List.range hi).filter fun r=>decide (lo≤r)&&!D r).length≤n
def qpt (E:Nat→Nat→Bool)(m:Nat)(used:Nat→Bool)(lo hi n:Nat):Prop:=
 (∃M,Mat E m used lo hi M∧M.length=n)∧qub E m used lo hi n
theorem qub.bound {used:Nat→Bool}{lo hi n:Nat}(h:qub E m used lo hi n){M:List (Nat×Nat)}(hM:Mat E m used lo hi M):M.length≤n:=by
 obtain⟨D,C,hc,hn⟩:=h
 obtain⟨h1,h2,h3⟩:=hM
 have e:M.length=(M.filter fun p=>D p.1).length+(M.filter fun p=>!D p.1).length:=by
  have:=List.countP_eq_countP_filter_add M (fun _=>true) (fun p=>D p.1)
  simp only[List.countP_true] at this
  exact this
 have a1:(M.filter fun p=>D p.1).length≤((List.range m).filter C).length:=by
  rw[←List.length_map (f:=(·.2))]
  refine qeY (h2.sublist (List.filter_sublist.map _)) fun x hx=>?_
  obtain⟨p,hp,rfl⟩:=List.mem_map.1 hx
  obtain⟨hp,hd⟩:=List.mem_filter.1 hp
  obtain⟨b1,b2,b3,b4,b5⟩:=h3 p hp
  exact List.mem_filter.2 ⟨List.mem_range.2 b3,hc _ _ hd b1 b2 b3 b4 b5⟩
 have a2:(M.filter fun p=>!D p.1).length≤((List.range hi).filter fun r=>decide (lo≤r)&&!D r).length:=by
  rw[←List.length_map (f:=(·.1))]
  refine qeY (h1.sublist (List.filter_sublist.map _)) fun x hx=>?_
  obtain⟨p,hp,rfl⟩:=List.mem_map.1 hx
  obtain⟨hp,hd⟩:=List.mem_filter.1 hp
  obtain⟨b1,b2,b3,b4,b5⟩:=h3 p hp
  exact List.mem_filter.2 ⟨List.mem_range.2 b2,by simp[b1];simpa using hd⟩
 omega
structure Inv (E:Nat→Nat→Bool) (m:Nat) (used:Nat→Bool) (lo i:Nat) (o:Nat→Int) (n:Nat) (F D C:Nat→Bool):Prop where
 val:∀c,o c = -1∨∃r:Nat,o c=r∧lo≤r∧r<i∧E r c=true
 free:∀c,o c ≠ -1→c<m∧used c=false
 inj:∀c c',o c=o c'→o c ≠ -1→c=c'
 mat:∀r:Nat,lo≤r→r<i→F r=false→∃c,o c=r
 unm:∀r:Nat,F r=true→∀c,o c≠r
 fd:∀r,F r=true→D r=true∧r<i
 d1:∀r c,D r=true→c<m→E r c=true→used c=true∨C c=true
 d2:∀c,C c=true→∃r:Nat,o c=r∧D r=true
 num:n=((List.range i).filter fun r=>decide (lo≤r)&&!F r).length
theorem Inv.start (used:Nat→Bool)(lo:Nat):Inv E m used lo lo (fun _ => -1) 0 (fun _=>false) (fun _=>false) (fun _=>false) where
 val:=fun _=>.inl rfl
 free:=fun _ h=>absurd rfl h
 inj:=fun _ _ _ h=>absurd rfl h
 mat:=fun r h1 h2=>by omega
 unm:=fun r h=>by cases h
 fd:=fun r h=>by cases h
 d1:=fun r c h=>by cases h
 d2:=fun c h=>by cases h
 num:=by
  rw[List.filter_eq_nil_iff.2]
  ·rfl
  ·intro r hr;have:=List.mem_range.1 hr;simp;omega
theorem Srch.bound {r j:Nat}{o o':Nat→Int}{s s':Nat→Bool}{b:Bool}(h:Srch E m r j o s b o' s'):(∀c,o c ≠ -1→c<m)→∀c,o' c ≠ -1→c<m:=by
 induction h with
 | fin _=>exact fun h=>h
 | skip _ _ _ ih=>exact ih
 | @free row j o s hj _ _ _=>
  intro h c hc
  by_cases e:c=j
  ·subst e;exact hj
  ·rw[upd_ne _ _ e] at hc;exact h c hc
 | @push row j x o o2 s s2 hj _ _ _ _ ih=>
  intro h c hc
  by_cases e:c=j
  ·subst e;exact hj
  ·rw[upd_ne _ _ e] at hc;exact ih h c hc
 | back _ _ _ _ _ _ ih ih'=>exact fun h=>ih' (ih h)
theorem Inv.yes {used:Nat→Bool}{lo i n:Nat}{o o':Nat→Int}{s' F D C:Nat→Bool}(h:Inv E m used lo i o n F D C)(hlo:lo≤i)(hs:Srch E m i 0 o used true o' s'):Inv E m used lo (i+1) o' (n+1) F D C:=by
 have hi:∀c,o c≠i:=fun c e=>by
  rcases h.val c with h1 | ⟨r,h1,_,h2,_⟩<;>omega
 have A:=hs.aug rfl (fun c=>(h.val c).imp id fun ⟨r,a1,_,_,a2⟩=>⟨r,a1,a2⟩) h.inj (fun c _=>hi c)
 have hdead:=(hs.dead (D:=D) (C:=C) h.d1 h.d2).2
 have fresh:∀c,o' c ≠ -1→used c=false:=fun c hc=>by
  cases hu:used c with
  | false=>rfl
  | true=>
   rw[A.keep c hu] at hc
   rw[←hu];exact (h.free c hc).2
 have rows:∀x:Nat,(∃c,o' c=x)↔(x=i∨∃c,o c=x):=fun x=>by
  constructor
  ·rintro ⟨c,hc⟩
   rcases (A.rows x).1 ⟨c,fresh c (by omega),hc⟩ with h1 | ⟨c',_,h1⟩
   ·exact .inl h1
   ·exact .inr ⟨c',h1⟩
  ·rintro (h1 | ⟨c,h1⟩)
   ·obtain⟨c',_,h2⟩:=(A.rows x).2 (.inl h1)
    exact⟨c',h2⟩
   ·obtain⟨c',_,h2⟩:=(A.rows x).2 (.inr ⟨c,(h.free c (by omega)).2,h1⟩)
    exact⟨c',h2⟩
 have hFi:F i=false:=by
  cases hf:F i with
  | false=>rfl
  | true=>have:=(h.fd i hf).2;omega
 refine⟨fun c=>?_,fun c hc=>⟨hs.bound (fun c hc=>(h.free c hc).1) c hc,fresh c hc⟩,fun c c' e hc=>A.inj c c' (fresh c hc) (fresh c' (by rw[←e];exact hc)) e hc,fun r h1 h2 h3=>?_,fun r hr c hc=>?_,fun r hr=>⟨(h.fd r hr).1,by have:=(h.fd r hr).2;omega⟩,h.d1,fun c hc=>?_,?_⟩
 ·rcases A.edge c with h1 | ⟨x,h1,h2⟩
  ·exact .inl h1
  ·refine .inr ⟨x,h1,?_⟩
   rcases (rows x).1 ⟨c,h1⟩ with rfl | ⟨c',h3⟩
   ·exact⟨hlo,by omega,h2⟩
   ·rcases h.val c' with h4 | ⟨r,h4,h5,h6,_⟩
    ·omega
    ·have:r=x:=by omega
     subst this
     exact⟨h5,by omega,h2⟩
 ·by_cases e:r=i
  ·exact (rows r).2 (.inl e)
  ·exact (rows r).2 (.inr (h.mat r h1 (by omega) h3))
 ·rcases (rows r).1 ⟨c,hc⟩ with rfl | ⟨c',h1⟩
  ·rw[hFi] at hr;cases hr
  ·exact h.unm r hr c' h1
 ·rw[hdead c hc];exact h.d2 c hc
 ·rw[List.range_succ,List.filter_append,List.length_append,←h.num]
  simp[hFi,hlo]
open Classical in
theorem Inv.no {used:Nat→Bool}{lo i n:Nat}{o o':Nat→Int}{s' F D C:Nat→Bool}(h:Inv E m used lo i o n F D C)(hs:Srch E m i 0 o used false o' s') :
 o'=o∧∃F' D' C',Inv E m used lo (i+1) o n F' D' C':=by
 have hi:∀c,o c≠i:=fun c e=>by
  rcases h.val c with h1 | ⟨r,h1,_,h2,_⟩<;>omega
 obtain⟨h1,h2⟩:=hs.closed rfl
 refine⟨hs.same rfl,fun r=>F r || decide (r=i),fun r=>D r || decide (r=i) || decide (∃c,s' c=true∧used c=false∧o c=(r:Int)),fun c=>C c || (s' c&&!used c),?_⟩
 have hFi:F i=false:=by
  cases hf:F i with
  | false=>rfl
  | true=>have:=(h.fd i hf).2;omega
 refine⟨fun c=>(h.val c).imp id fun ⟨r,a1,a2,a3,a4⟩=>⟨r,a1,a2,by omega,a4⟩,h.free,h.inj,fun r a1 a2 a3=>?_,fun r hr c hc=>?_,fun r hr=>?_,fun r c hr hc hE=>?_,fun c hc=>?_,?_⟩
 ·simp only[Bool.or_eq_false_iff,decide_eq_false_iff_not] at a3
  exact h.mat r a1 (by omega) a3.1
 ·simp only[Bool.or_eq_true,decide_eq_true_eq] at hr
  rcases hr with hr | rfl
  ·exact h.unm r hr c hc
  ·exact hi c hc
 ·simp only[Bool.or_eq_true,decide_eq_true_eq] at hr ⊢
  rcases hr with hr | rfl
  ·have:=h.fd r hr;exact⟨.inl (.inl this.1),by omega⟩
  ·exact⟨.inl (.inr rfl),by omega⟩
 ·have seen:s' c=true→used c=true∨(C c || (s' c&&!used c))=true:=fun hsc=>by
   cases hu:used c with
   | true=>exact .inl rfl
   | false=>exact .inr (by simp[hsc])
  simp only[Bool.or_eq_true,decide_eq_true_eq] at hr
  rcases hr with (hr | rfl) | ⟨c0,a1,a2,a3⟩
  ·rcases h.d1 r c hr hc hE with a | a
   ·exact .inl a
   ·exact .inr (by simp[a])
  ·exact seen (h2 c (Nat.zero_le _) hc hE)
  ·obtain⟨_,x,b1,b2⟩:=h1 c0 a1 a2
   have:x=r:=by omega
   subst this
   exact seen (b2 c hc hE)
 ·simp only[Bool.or_eq_true,Bool.and_eq_true,Bool.not_eq_true'] at hc
  rcases hc with hc | ⟨a1,a2⟩
  ·obtain⟨r,b1,b2⟩:=h.d2 c hc
   exact⟨r,b1,by simp[b2]⟩
  ·obtain⟨_,x,b1,_⟩:=h1 c a1 a2
   exact⟨x,b1,by
    have:decide (∃c,s' c=true∧used c=false∧o c=(x:Int))=true:=decide_eq_true ⟨c,a1,a2,b1⟩
    simp[this]⟩
 ·rw[List.range_succ,List.filter_append,List.length_append,h.num]
  have e:(List.range i).filter (fun r=>decide (lo≤r)&&!(F r || decide (r=i)))=(List.range i).filter fun r=>decide (lo≤r)&&!F r:=by
   refine List.filter_congr fun r hr=>?_
   have:=List.mem_range.1 hr
   have:decide (r=i)=false:=by simp;omega
   simp[this]
  rw[e]
  simp
theorem Inv.max {used:Nat→Bool}{lo hi n:Nat}{o:Nat→Int}{F D C:Nat→Bool}(h:Inv E m used lo hi o n F D C):qpt E m used lo hi n:=by
 have hcol:∀r:Nat,∃c,lo≤r→r<hi→F r=false→o c=r:=fun r=>by
  by_cases hr:lo≤r∧r<hi∧F r=false
  ·obtain⟨c,hc⟩:=h.mat r hr.1 hr.2.1 hr.2.2
   exact⟨c,fun _ _ _=>hc⟩
  ·exact⟨0,fun a b c=>absurd ⟨a,b,c⟩ hr⟩
 obtain⟨col,hcol⟩:=Classical.skolem.1 hcol
 have hmem:∀r,r∈(List.range hi).filter (fun r=>decide (lo≤r)&&!F r)→lo≤r∧r<hi∧F r=false:=fun r hr=>by
  obtain⟨a,b⟩:=List.mem_filter.1 hr
  simp only[Bool.and_eq_true,decide_eq_true_eq,Bool.not_eq_true'] at b
  exact⟨b.1,List.mem_range.1 a,b.2⟩
 have hnd:((List.range hi).filter fun r=>decide (lo≤r)&&!F r).Nodup:=List.nodup_range.sublist List.filter_sublist
 refine⟨⟨((List.range hi).filter fun r=>decide (lo≤r)&&!F r).map fun r=>(r,col r),⟨?_,?_,fun p hp=>?_⟩,by rw[List.length_map,h.num]⟩,D,C,fun r c hd _ _ hc hE hu=>(h.d1 r c hd hc hE).resolve_left (by simp[hu]),?_⟩
 ·rw[List.map_map]
  exact qfS hnd fun x _ y _ e=>e
 ·rw[List.map_map]
  refine qfS hnd fun x hx y hy e=>?_
  obtain⟨a1,a2,a3⟩:=hmem x hx
  obtain⟨b1,b2,b3⟩:=hmem y hy
  have e1:=hcol x a1 a2 a3
  have e2:=hcol y b1 b2 b3
  have e':col x=col y:=e
  rw[e',e2] at e1
  omega
 ·obtain⟨r,hr,rfl⟩:=List.mem_map.1 hp
  obtain⟨a1,a2,a3⟩:=hmem r hr
  have e1:=hcol r a1 a2 a3
  obtain⟨b1,b2⟩:=h.free (col r) (by omega)
  refine⟨a1,a2,b1,?_,b2⟩
  rcases h.val (col r) with c1 | ⟨x,c1,_,_,c2⟩
  ·omega
  ·have:x=r:=by omega
   subst this;exact c2
 ·have e:=List.countP_eq_countP_filter_add (List.range hi) (fun r=>decide (lo≤r)&&!F r) D
  rw[List.countP_eq_length_filter,←h.num,List.countP_filter,List.countP_filter,List.countP_eq_length_filter,List.countP_eq_length_filter] at e
  have a1:((List.range m).filter C).length≤((List.range hi).filter fun r=>decide (lo≤r)&&!F r&&D r).length:=by
   rw[←List.length_map (f:=fun c=>(o c).toNat)]
   refine qeY (qfS (List.nodup_range.sublist List.filter_sublist) fun x hx y hy e=>?_) fun x hx=>?_
   ·obtain⟨r,r1,_⟩:=h.d2 x (List.mem_filter.1 hx).2
    obtain⟨r',r2,_⟩:=h.d2 y (List.mem_filter.1 hy).2
    exact h.inj x y (by simp only[r1,r2,Int.toNat_natCast] at e;omega) (by omega)
   ·obtain⟨c,hc,rfl⟩:=List.mem_map.1 hx
    obtain⟨r,r1,r2⟩:=h.d2 c (List.mem_filter.1 hc).2
    rcases h.val c with c1 | ⟨y,c1,c2,c3,_⟩
    ·omega
    ·have:y=r:=by omega
     subst this
     refine List.mem_filter.2 ⟨List.mem_range.2 (by omega),?_⟩
     have hF:F y=false:=by
      cases hf:F y with
      | false=>rfl
      | true=>exact absurd r1 (h.unm y hf c)
     rw[r1,Int.toNat_natCast]
     simp[c2,hF,r2]
  have a2:((List.range hi).filter fun r=>decide (lo≤r)&&!D r)=(List.range hi).filter fun r=>decide (lo≤r)&&!F r&&!D r:=by
   refine List.filter_congr fun r hr=>?_
   cases hd:D r with
   | true=>simp
   | false=>
    have:F r=false:=by
     cases hf:F r with
     | false=>rfl
     | true=>rw[(h.fd r hf).1] at hd;cases hd
    simp[this]
  rw[a2]
  omega
end
end Go.Proofs.YtpplncjaihgimaaGreat
