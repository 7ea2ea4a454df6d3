/- Contracts of functions of the program, for all arguments that they name. -/
import Derived.Below
import Derived.Test.YtncpdpbpcnoeeaaGreatK23
import Derived.Test.YtncpdpbpcnoeeaaGreatK26
namespace Go.Proofs.YtncpdpbpcnoeeaaGreat
set_option linter.unusedVariables false
section
open Go.RowKit
theorem qbu {l z:List Nn}{j:Nat}(h:j<l.length):(l++z).getD j default=l.getD j default:=by
 simp[List.getD_eq_getElem?_getD,List.getElem?_append_left h]
theorem qng {l:List Nn}(hp:Par l)(z:List Nn)(s:Int):∀(f:Nat) (i:Int),i<l.length→upF (l++z) s f i=upF l s f i
 | 0,_,_=>rfl
 | f+1,i,h=>by
  by_cases hi:i<0
  ·rw[qdI _ _ _ _ hi,qdI _ _ _ _ hi]
  ·have hj:i.toNat<l.length:=by omega
   have hb:=hp i.toNat hj
   rw[upF,upF,if_neg hi,if_neg hi,qbu hj,qng hp z s f _ (by omega)]
theorem qqJ {l:List Nn}(hp:Par l)(z:List Nn)(s i:Int)(h:i<l.length):upL (l++z) s i=upL l s i:=by
 rw[upL,upL,qng hp z s _ i h]
 exact qhc hp s _ i _ h (by rw[List.length_append];omega) (by omega)
theorem qi3 {l:List Nn}(hp:Par l)(z:List Nn)(s i:Int)(h:i<l.length):upV (l++z) s i=upV l s i:=by
 rw[upV,upV,qqJ hp z s i h]
 exact List.map_congr_left fun j hj=>by rw[qbu (qnh hp s i h j hj)]
structure FromF (m:Md) (l:List Nn) (i p q:Nat):Prop where
 lt:p<i
 rl:q<m.rules.length
 fits:qdS (m.rules.getD q rlZ) (l.getD p default).st (l.getD p default).vec=true
 aft:aftO (m.rules.getD q rlZ) (l.getD p default).vec=true
 node:l.getD i default=⟨(m.rules.getD q rlZ).to_,qaZ (upV l (m.rules.getD q rlZ).to_ p) (aftR (m.rules.getD q rlZ) (l.getD p default).vec),p,q⟩
theorem FromF.app {m:Md}{l:List Nn}{i p q:Nat}(h:FromF m l i p q)(hp:Par l)(hi:i<l.length)(z:List Nn):FromF m (l++z) i p q:=by
 have h0:=h.lt
 refine⟨h.lt,h.rl,?_,?_,?_⟩
 ·rw[qbu (by omega)];exact h.fits
 ·rw[qbu (by omega)];exact h.aft
 ·rw[qbu hi,qbu (by omega),qi3 hp z _ _ (by omega)];exact h.node
theorem qel {m:Md}{N:Nat}(hr:qbg N m.rules){l0:List Nn}{k:Nat}(hk:k<l0.length)(hG0:TreeG N l0):∀(rs:List Rl) (i:Nat) (l:List Nn),m.rules.drop i=rs→(∃z,l=l0++z)→TreeG N l→(qbv k (l0.getD k default).st (l0.getD k default).vec rs i l).1=0→
 (∃z,(qbv k (l0.getD k default).st (l0.getD k default).vec rs i l).2=l++z)∧
 (∀j,l.length≤j→j<(qbv k (l0.getD k default).st (l0.getD k default).vec rs i l).2.length→∃q,FromF m (qbv k (l0.getD k default).st (l0.getD k default).vec rs i l).2 j k q)∧
 (∀q,i≤q→q<m.rules.length→qdS (m.rules.getD q rlZ) (l0.getD k default).st (l0.getD k default).vec=true→∃j,l.length≤j∧j<(qbv k (l0.getD k default).st (l0.getD k default).vec rs i l).2.length∧FromF m (qbv k (l0.getD k default).st (l0.getD k default).vec rs i l).2 j k q)
 | [],i,l,hd,_,_,_=>by
  refine⟨⟨[],by simp[qbv]⟩,fun j h1 h2=>?_,fun q h1 h2 _=>?_⟩
  ·simp only[qbv] at h2;omega
  ·have:=List.drop_eq_nil_iff.1 hd;omega
 | r::rs,i,l,hd,hz,hG,h0=>by
  have hil:i<m.rules.length:=by
   refine Classical.byContradiction fun hn=>?_
   rw[List.drop_eq_nil_of_le (by omega)] at hd;cases hd
  have hdr:m.rules.getD i rlZ=r∧m.rules.drop (i+1)=rs:=by
   rw[List.drop_eq_getElem_cons hil] at hd
   injection hd with e1 e2
   exact⟨by rw[←e1];simp[List.getD_eq_getElem?_getD,hil],e2⟩
  have hlk:k<l.length:=by obtain⟨z,rfl⟩:=hz;rw[List.length_append];omega
  have hlg:l.getD k default=l0.getD k default:=by obtain⟨z,rfl⟩:=hz;exact qbu hk
  have hmem:r∈m.rules:=by rw[←hdr.1];simp[List.getD_eq_getElem?_getD,hil]
  rw[qbv] at h0 ⊢
  by_cases hf:qdS r (l0.getD k default).st (l0.getD k default).vec=true
  ·rw[if_pos hf] at h0 ⊢
   by_cases hc:aftO r (l0.getD k default).vec=true∧l.length<256
   ·rw[if_pos hc] at h0 ⊢
    have hv:=hG0.vec k hk
    have hw:VecOk N (qaZ (upV l r.to_ k) (aftR r (l0.getD k default).vec)):=qdZ _ _ _ (qiq hr hv hmem hf hc.1)
    have hG1:=hG.app ⟨r.to_,qaZ (upV l r.to_ k) (aftR r (l0.getD k default).vec),k,i⟩ (by simp) (by simpa using hlk) hc.2 hw
    have ih:=qel hr hk hG0 rs (i+1) _ hdr.2 (by obtain⟨z,rfl⟩:=hz;exact⟨_,List.append_assoc _ _ _⟩) hG1 h0
    generalize hX:(⟨r.to_,qaZ (upV l r.to_ k) (aftR r (l0.getD k default).vec),k,i⟩:Nn)=x at*
    generalize qbv k (l0.getD k default).st (l0.getD k default).vec rs (i+1) (l++[x])=G at*
    obtain⟨⟨z,h1⟩,h2,h3⟩:=ih
    have hlen:G.2.length=l.length+1+z.length:=by rw[h1];simp;omega
    have hx:G.2.getD l.length default=x:=by rw[h1];simp[List.getD_eq_getElem?_getD]
    have hGk:G.2.getD k default=l0.getD k default:=by rw[h1,List.append_assoc,qbu hlk,hlg]
    have hnew:FromF m G.2 l.length k i:=by
     refine⟨hlk,hil,?_,?_,?_⟩
     ·rw[hdr.1,hGk];exact hf
     ·rw[hdr.1,hGk];exact hc.1
     ·rw[hx,hdr.1,hGk,←hX,h1,List.append_assoc,qi3 hG.ok.par _ _ _ (by omega)]
    refine⟨⟨[x]++z,by rw[h1,List.append_assoc]⟩,fun j j1 j2=>?_,fun q q1 q2 q3=>?_⟩
    ·by_cases hj:j=l.length
     ·subst hj;exact⟨i,hnew⟩
     ·exact h2 j (by simp;omega) j2
    ·by_cases hq:q=i
     ·subst hq;exact⟨l.length,Nat.le_refl _,by omega,hnew⟩
     ·obtain⟨j,j1,j2,j3⟩:=h3 q (by omega) q2 q3
      exact⟨j,by simp at j1;omega,j2,j3⟩
   ·rw[if_neg hc] at h0
    cases h0
  ·rw[if_neg hf] at h0 ⊢
   have ih:=qel hr hk hG0 rs (i+1) l hdr.2 hz hG h0
   obtain⟨h1,h2,h3⟩:=ih
   refine⟨h1,h2,fun q q1 q2 q3=>?_⟩
   by_cases hq:q=i
   ·subst hq;rw[hdr.1] at q3;exact absurd q3 hf
   ·exact h3 q (by omega) q2 q3
structure TInv (m:Md) (N:Nat) (s0:Int) (v0:List Int) (l:List Nn) (k:Nat):Prop where
 good:TreeG N l
 pos:0<l.length
 kl:k≤l.length
 root:l.getD 0 default=qd1 s0 v0
 from_:∀i,0<i→i<l.length→∃p q,p<k∧FromF m l i p q
 done:∀j,j<k→(l.getD j default).vec∈upV l (l.getD j default).st (l.getD j default).par∨∀q,q<m.rules.length→qdS (m.rules.getD q rlZ) (l.getD j default).st (l.getD j default).vec=true→∃i,i<l.length∧FromF m l i j q
theorem TInv.start {m:Md}{N:Nat}{s0:Int}{v0:List Int}(h:VecOk N v0):TInv m N s0 v0 [qd1 s0 v0] 0:=
 ⟨qfH h,by simp,Nat.zero_le _,rfl,fun i h1 h2=>by simp at h2;omega,fun j hj=>absurd hj (Nat.not_lt_zero _)⟩
theorem TInv.step {m:Md}{N:Nat}{s0:Int}{v0:List Int}{l:List Nn}{k:Nat}(hr:qbg N m.rules)(h:TInv m N s0 v0 l k)(hk:k<l.length)(h0:(qbJ m l k).1=0):TInv m N s0 v0 (qbJ m l k).2 (k+1):=by
 have hp:=h.good.ok.par
 rw[qbJ] at h0 ⊢
 by_cases hm:(l.getD k default).vec∈upV l (l.getD k default).st (l.getD k default).par
 ·rw[if_pos hm]
  refine⟨h.good,h.pos,hk,h.root,fun i i1 i2=>?_,fun j hj=>?_⟩
  ·obtain⟨p,q,h1,h2⟩:=h.from_ i i1 i2
   exact⟨p,q,by omega,h2⟩
  ·by_cases e:j=k
   ·subst e;exact .inl hm
   ·exact h.done j (by omega)
 ·rw[if_neg hm] at h0 ⊢
  have hgd:=(qdf hr (h.good.vec k hk) (at_:=k) (s:=(l.getD k default).st) m.rules 0 l (fun r hr=>hr) h.good hk).1
  obtain⟨⟨z,h1⟩,h2,h3⟩:=qel hr hk h.good m.rules 0 l rfl ⟨[],by simp⟩ h.good h0
  generalize qbv k (l.getD k default).st (l.getD k default).vec m.rules 0 l=G at*
  have hlen:G.2.length=l.length+z.length:=by rw[h1];simp
  have hgk:∀j,j<l.length→G.2.getD j default=l.getD j default:=fun j hj=>by rw[h1,qbu hj]
  refine⟨hgd,by have:=h.pos;omega,by omega,by rw[hgk 0 h.pos];exact h.root,fun i i1 i2=>?_,fun j hj=>?_⟩
  ·by_cases hi:i<l.length
   ·obtain⟨p,q,a1,a2⟩:=h.from_ i i1 hi
    exact⟨p,q,by omega,by rw[h1];exact a2.app hp hi z⟩
   ·obtain⟨q,hq⟩:=h2 i (by omega) i2
    exact⟨k,q,by omega,hq⟩
  ·by_cases e:j=k
   ·subst e
    refine .inr fun q q1 q2=>?_
    rw[hgk j hk] at q2
    obtain⟨i,i1,i2,i3⟩:=h3 q (Nat.zero_le _) q1 q2
    exact⟨i,i2,i3⟩
   ·have hjl:j<l.length:=by have:=h.kl;omega
    have hpj:=hp j hjl
    rcases h.done j (by omega) with hd | hd
    ·left
     rw[hgk j hjl,h1,qi3 hp z _ _ (by omega)];exact hd
    ·right
     intro q q1 q2
     rw[hgk j hjl] at q2
     obtain⟨i,i1,i2⟩:=hd q q1 q2
     exact⟨i,by omega,by rw[h1];exact i2.app hp i1 z⟩
theorem TInv.run {m:Md}{N:Nat}{s0:Int}{v0:List Int}(hr:qbg N m.rules):∀(f:Nat) (l:List Nn) (k n:Nat),TInv m N s0 v0 l k→n=k→TInv m N s0 v0 (runM m f l k n).1 (runM m f l k n).2.1∧(runM m f l k n).2.1=(runM m f l k n).2.2.1
 | 0,l,k,n,h,e=>⟨h,e.symm⟩
 | f+1,l,k,n,h,e=>by
  rw[runM]
  split
  ·exact⟨h,e.symm⟩
  ·split
   ·rename_i h1 h2
    exact TInv.run hr f _ _ _ (h.step hr (by omega) h2) (by omega)
   ·exact⟨h,e.symm⟩
end
section
open Go.RowKit
set_option maxHeartbeats 2000000
attribute [local simp] qae qbb qaV qbD
theorem qpd {N:Nat}(hN:N≤6){v:List Int}(h:VecOk N v):vOk v=true:=by
 have hl:=h.len
 simp only[vOk,Bool.and_eq_true,decide_eq_true_eq,List.all_eq_true]
 refine⟨by omega,fun x hx=>?_⟩
 obtain⟨j,hj,rfl⟩:=List.getElem_of_mem hx
 have:=h.ent j
 simp only[List.getD_eq_getElem?_getD,List.getElem?_eq_getElem hj,Option.getD_some] at this
 simp only[elO,Bool.or_eq_true,Bool.and_eq_true,decide_eq_true_eq,beq_iff_eq]
 omega
theorem qqN {N:Nat}(hN:N≤6){a b:List Int}(ha:VecOk N a)(hb:VecOk N b):vLe a b=true↔∀j,a.getD j 0≤b.getD j 0:=by
 have h1:=qpd hN ha
 have h2:=qpd hN hb
 have h3:((a.length:Int)==b.length)=true:=by rw[ha.len,hb.len];simp
 rw[vLe,h1,h2,h3,Bool.true_and,Bool.true_and,Bool.true_and,leI,qbC]
 refine⟨fun h j=>?_,fun h j _ hj=>?_⟩
 ·by_cases hj:j<a.length
  ·have:=h j (Nat.zero_le _) (by omega)
   simp only[Bool.not_eq_true',decide_eq_false_iff_not] at this
   omega
  ·rw[qcb (by omega),qcb (by rw[hb.len,←ha.len];omega)];omega
 ·have:=h j
  simp only[Bool.not_eq_true',decide_eq_false_iff_not]
  omega
theorem qmB {N:Nat}{a v:List Int}(h:VecOk N v)(j:Nat):v.getD j 0≤(qbK a v).getD j 0:=by
 have:=h.ent j
 by_cases hj:j<v.length
 ·rw[qbO a v j hj];split<;>omega
 ·rw[qcb (by omega),qcb (by rw[qa3];omega)];omega
theorem qh3 {N:Nat}(vs:List (List Int)):∀(f:Nat) (v:List Int),VecOk N v→∀j,v.getD j 0≤(qce vs f v).getD j 0
 | 0,_,_,_=>Int.le_refl _
 | f+1,v,h,j=>by
  rw[qce]
  split
  ·exact Int.le_refl _
  ·exact Int.le_trans (qmB h j) (qh3 vs f _ (qh2 h) j)
theorem qpn {r:Rl}{s:Int}{v:List Int}(hn:r.need.length=v.length)(h:qdS r s v=true):canR r v=true:=by
 rw[canR,qbC]
 intro j _ hj
 have:=(qgB h).2 j (by omega)
 simp only[Bool.not_eq_true',decide_eq_false_iff_not]
 omega
theorem FromF.fromP {m:Md}{N:Nat}(hN:N≤6)(hr:qbg N m.rules){l:List Nn}(hG:TreeG N l){i p q:Nat}(hi:i<l.length)(h:FromF m l i p q):FromP m l i p q:=by
 have hmem:m.rules.getD q rlZ∈m.rules:=by simp[List.getD_eq_getElem?_getD,h.rl]
 have hv:=hG.vec p (by have:=h.lt;omega)
 have hroom:=hr.room hv hmem
 have ha:=qiq hr hv hmem h.fits h.aft
 refine⟨by rw[h.node],by rw[h.node],h.lt,h.rl,qpn hroom.need h.fits,(qgB h.fits).1,by rw[h.node],?_,hroom⟩
 rw[h.node]
 exact (qqN hN ha (qdZ _ _ _ ha)).2 (qh3 _ _ _ ha)
theorem TInv.nodeP {m:Md}{N:Nat}(hN:N≤6)(hr:qbg N m.rules){s0:Int}{v0:List Int}{l:List Nn}{k:Nat}(h:TInv m N s0 v0 l k)(i:Nat)(hi:i<l.length):NodeP m l i:=by
 by_cases h0:i=0
 ·subst h0
  exact .inl ⟨rfl,by rw[h.root];rfl,by rw[h.root];rfl⟩
 ·obtain⟨p,q,_,hF⟩:=h.from_ i (by omega) hi
  exact .inr ⟨by omega,p,q,hF.fromP hN hr h.good hi⟩
set_option maxHeartbeats 8000000 in
theorem qkD (s:List Int)(hs:∀j,0≤s.getD j 0∧s.getD j 0≤255)(hsl:s.length≤9223372036854775807):TP Tryz.prog 6 [.list (qbE s)] (.bool true):=by
 have hnew:=qqk s hsl
 have hd:=qqb hs
 generalize newD s=d at*
 have hct:=qkm d hd
 have hok:=ct_ok hd
 obtain⟨o1,o2,o3,o4,o5,o6,o7,o8⟩:=hok
 generalize qho d=m at*
 generalize (ctD d).2=d1 at*
 generalize (ctD d).1.2.2.2=v at*
 generalize (ctD d).1.2.1=a2 at*
 have hst:=qkc m o1 o3 0 v o5 (by have:=o6.len;omega)
 have hrn:=qlT m o1 o3 (1+a2) (by omega) (by omega) o4 20 (by omega) [qd1 0 v] 0 (qfH o6)
 obtain⟨hI,hk⟩:=TInv.run o4 20 [qd1 0 v] 0 0 (TInv.start (m:=m) o6) rfl
 obtain⟨R,hR⟩:∃R,runM m 20 [qd1 0 v] 0 0=R:=⟨_,rfl⟩
 rw[hR] at hrn hI hk
 obtain⟨t,k,n,e⟩:=R
 simp only at hI hk
 subst hk
 have hgd:=hI.good
 have hll:=hgd.ok.len
 have hP:=hI.nodeP (by omega) o4
 have hL:=fun Q h=>qmt m (by have:=o1.rules;omega) t (by omega) (fun j hj=>by rw[hgd.ok.vec j hj];omega) k d1 hP Q h t.length 0 (by omega)
 have hz:((0:Int) != 0)=false:=rfl
 have hkk:((k:Int) != (k:Int))=false:=by simp
 simp only[qaA,qbm,grC,runT,paE,paH,sMg,mdC,List.cons_append,List.nil_append] at hct hst hrn hL
 have fX:=(cJ2 @hz @hkk)
 refine qai fn6 (by simp) ?_
 unfold i6
 simp only[argL]
 refine wR0 0 [0] fX ?_
 refine wRn 100 [0,16] fX ?_
 refine rC fX ?_
 refine⟨_,qqq,rE fX ?_⟩
 refine wF fX ?_
 refine wRn 300 [3] fX ?_
 refine rU [] [(99999,dcB d)] fX ?_
 refine⟨_,hnew,rE fX ?_⟩
 refine wRn 400 [4] fX ?_
 refine rU [(99999,dcB d)] [(99999,dcB d1)] fX ?_
 refine⟨_,hct.fulD,rE fX ?_⟩
 refine wRn 500 [4,5,6] fX ?_
 refine rC fX ?_
 refine⟨_,hst,rE fX ?_⟩
 refine wR0 600 [4,5,27] fX ?_
 refine wF @hz ?_
 refine wRn 800 [4,5,7] fX ?_
 refine rC fX ?_
 refine⟨_,hrn,rE fX ?_⟩
 refine wR0 900 [4,5,38] fX ?_
 refine wF @hkk ?_
 refine wR0 1100 [4,5,40,41,42] fX ?_
 refine wL ?_
 refine hL _ ?_
 ·intro j
  refine wN ?_
  refine wR0 2400 [2] fX ?_
  refine wP ?_
  exact .same rfl
end
section
open Go.RowKit
open Go.ChangeShapes
def qlb (k:IntKind)(w:World)(a:Option Addr)(len cap:Nat)(zs:List Int):Prop:=
 (a=none∧len=0∧cap=0∧zs=[])∨
 ∃x,a=some x∧len≤cap∧cap≤maxLen∧zs.length=cap∧(∀i,i<zs.length→w.cell? (x.add i)=some (.int k (zs.getD i 0)))∧∀n∈zs,(Lit.int k n).wf=true
def staW (w:World):Sta:=fun b _=>b<w.heap.size
def qfd (k:IntKind)(l:List Int):List T:=l.map fun n=>.int k n
theorem qf8 (k:IntKind):∀l:List Int,flat (qfd k l)=qfd k l
 | []=>rfl
 | x::l=>by
  show (T.int k x).cells++flat (qfd k l)=_
  rw[qf8 k l]
  rfl
theorem qlb.rep {k:IntKind}{w:World}{a:Option Addr}{len cap:Nat}{zs:List Int}(μ:Nat→Nat)(H:Heap)(h:qlb k w a len cap zs):Rep w (staW w) μ H (.slice a len cap) (.list (qfd k (zs.take len))):=by
 rcases h with⟨rfl,rfl,rfl,rfl⟩ | ⟨x,rfl,h1,h2,h3,h4,_⟩
 ·exact .lnil
 ·have hl:(qfd k (zs.take len)).length=len:=by simp[qfd];omega
  have hf:flat (qfd k (zs.take len))=qfd k (zs.take len):=qf8 k _
  have hcell:∀p,p<len→w.cell? (x.add p)=some (.int k (zs.getD p 0)):=fun p hp=>h4 p (by omega)
  have hg:∀p,p<len→(qfd k (zs.take len)).getD p .undef=.int k (zs.getD p 0):=fun p hp=>by
   simp[qfd,List.getD_eq_getElem?_getD,hp,show p<zs.length by omega]
  have:=Rep.list (w:=w) (A:=staW w) (μ:=μ) (H:=H) x cap 1 (qfd k (zs.take len)) (fun p=>.int k (zs.getD p 0)) (fun y hy=>by
   obtain⟨n,_,rfl⟩:=List.mem_map.1 hy
   rfl) (by omega) (by
    rw[hf]
    intro c hc
    obtain⟨n,_,rfl⟩:=List.mem_map.1 hc
    rfl) (fun p hp=>by
    rw[hf,hl] at hp
    have:=qcL (hcell p hp)
    rwa [qbq] at this) (fun p hp=>by
    rw[hf,hl] at hp
    exact hcell p hp) (fun p hp=>by
    rw[hf,hl] at hp
    rw[hf,hg p hp]
    exact .int k _)
  rw[hl] at this
  exact this
theorem law_of {P:Program}{f:FuncId}{xs:List T}{vs:Array Value}{w:World}(h:TP P f xs (.bool true))(hR:Reps w (staW w) id (fun _=>.free) vs xs) :
 Calls P f vs w fun e w'=>e=.returned (.bool true)∧Below w.heap.size w w':=by
 refine (h.2 w (staW w) id vs ⟨(fun i j hi=>by cases hi),(fun i b hb=>by cases hb),(fun i es hb=>by cases hb),(fun i hi=>by cases hi),fun b o hb=>hb⟩ hR).mono ?_
 rintro e w' ⟨v,A',μ',rfl,h1,h2,h3⟩
 cases h1
 exact⟨rfl,h3.os,h3.tape.1,h3.output,h3.size,fun b hb=>(h3.un b hb (fun i hi=>by cases hi)).1⟩
theorem u8_of {n:Int}(h:(Lit.int .u8 n).wf=true):0≤n∧n≤255:=by
 simp only[Lit.wf,Bool.and_eq_true,decide_eq_true_eq] at h
 exact⟨h.1,h.2⟩
theorem qp8 {P:Program}{f:FuncId}{w:World}{a:Option Addr}{len cap:Nat}{zs:List Int}(h:∀l:List Int,(∀j,0≤l.getD j 0∧l.getD j 0≤255)→l.length≤9223372036854775807→TP P f [.list (qbE l)] (.bool true))(w0:qlb .u8 w a len cap zs) :
 Calls P f #[.slice a len cap] w fun e w'=>e=.returned (.bool true)∧Below w.heap.size w w':=by
 have hz:∀n∈zs,0≤n∧n≤255:=by
  rcases w0 with⟨_,_,_,rfl⟩ | ⟨x,_,_,_,_,_,h5⟩
  ·intro n hn;cases hn
  ·exact fun n hn=>u8_of (h5 n hn)
 have hl:(zs.take len).length≤9223372036854775807:=by
  rcases w0 with⟨_,_,_,rfl⟩ | ⟨x,_,h2,h3,h4,_,_⟩
  ·simp
  ·have hm:maxLen≤9223372036854775807:=by decide
   rw[List.length_take];omega
 refine law_of (h (zs.take len) (fun j=>?_) hl) ⟨rfl,fun i hi=>by
  cases i with
  | zero=>exact w0.rep _ _
  | succ i=>simp at hi⟩
 by_cases hj:j<(zs.take len).length
 ·have:=hz (zs.take len)[j] (List.mem_of_mem_take (List.getElem_mem hj))
  rw[List.getD_eq_getElem?_getD,List.getElem?_eq_getElem hj];exact this
 ·have e:(zs.take len).getD j 0=0:=by rw[List.getD_eq_getElem?_getD,List.getElem?_eq_none (Nat.not_lt.1 hj)];rfl
  rw[e];omega
end
end Go.Proofs.YtncpdpbpcnoeeaaGreat
