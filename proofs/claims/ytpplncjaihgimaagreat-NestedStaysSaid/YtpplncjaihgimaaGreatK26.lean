/- Contracts of functions of the program, for all arguments that they name. -/
import Derived.Test.YtpplncjaihgimaaGreatK13
import Derived.Test.YtpplncjaihgimaaGreatK18
import Derived.Test.YtpplncjaihgimaaGreatK24
import Derived.Test.YtpplncjaihgimaaGreatK25
namespace Go.Proofs.YtpplncjaihgimaaGreat
set_option linter.unusedVariables false
section
open Go.RowKit
structure Nd where
 lab:Int
 kids:List Int
def nd0:Nd:=⟨0,[]⟩
def qaD (L:Int)(x:Nd):V:=if L > 1 then .mk 0 [.mk x.lab [],.mk 0 (qaP x.kids)] else .mk x.lab []
def unN (L:Int)(v:V):Nd:=if L > 1 then ⟨(v.kids.getD 0 v0).n,(v.kids.getD 1 v0).kids.map V.n⟩ else ⟨v.n,[]⟩
def qcq (l L:Int):Ty:=if L > 1 then .mk 3 0 [] [qaK l,qa3 5 (qaK l)] else qaK l
def bagV (s:Int)(ks:List V):V:=.mk 0 [.mk s [],.mk 0 ks]
def cfgN (L s:Int)(l:List Nd):V:=bagV s (l.map (qaD L))
def qdB (L:Int)(l:List Nd):Prop:=L≤1→∀x∈l,x.kids=[]
theorem qkJ (ks:List Int):(qaP ks).map V.n=ks:=by
 induction ks with
 | nil=>rfl
 | cons x l ih=>simpa [qaP,V.n] using ih
theorem qj8 (L:Int)(x:Nd)(h:L≤1→x.kids=[]):unN L (qaD L x)=x:=by
 by_cases hL:L > 1
 ·simp[unN,qaD,hL,V.kids,V.n,qkJ]
 ·have hk:=h (by omega)
  rcases x with⟨a,ks⟩
  simp only at hk
  subst hk
  simp[unN,qaD,hL,V.n]
theorem qoS (l L:Int):qdr l L=qa3 5 (qcq l L):=by unfold qdr qcq;split<;>rfl
theorem qe5 {m:Md}(hk:m.kind=4):qau m=qaZ [qaK m.states.length,qa3 5 (qcq m.letters.length m.levels)]:=by
 rw[qau,if_pos hk,qoS]
def ndOk (l L:Int)(x:Nd):Prop:=0≤x.lab∧x.lab<l∧x.kids.length≤12∧(∀k∈x.kids,0≤k∧k<l)∧x.kids.Pairwise (·≤·)∧(L≤1→x.kids=[])
theorem qmO (x y:Int):cmpV (.mk x []) (.mk y [])<0↔x<y:=by rw[qpP];simp[cmpL]
theorem qjE (ks:List Int):Asc (qaP ks)↔ks.Pairwise (·≤·):=by
 rw[Asc,qaP,List.pairwise_map]
 constructor<;>intro h<;>refine h.imp fun {a b} hab=>?_
 ·rw[qmO] at hab;omega
 ·rw[qmO];omega
theorem qiV {P:Int→Prop}:∀ {ks:List V},(∀v∈ks,∃p,v=.mk p []∧P p)→∃l:List Int,ks=qaP l∧∀x∈l,P x
 | [],_=>⟨[],rfl,by simp⟩
 | k::ks,h=>by
  obtain⟨p,e,hp⟩:=h k (by simp)
  obtain⟨l,e2,hl⟩:=qiV fun v hv=>h v (List.mem_cons_of_mem _ hv)
  refine⟨p::l,by rw[e,e2];rfl,fun x hx=>?_⟩
  rcases List.mem_cons.1 hx with rfl | hx
  ·exact hp
  ·exact hl x hx
theorem qg2 {L:Int}{P:Nd→Prop}:∀ {ks:List V},(∀v∈ks,∃x,v=qaD L x∧P x)→∃l:List Nd,ks=l.map (qaD L)∧∀x∈l,P x
 | [],_=>⟨[],rfl,by simp⟩
 | k::ks,h=>by
  obtain⟨p,e,hp⟩:=h k (by simp)
  obtain⟨l,e2,hl⟩:=qg2 fun v hv=>h v (List.mem_cons_of_mem _ hv)
  refine⟨p::l,by rw[e,e2];rfl,fun x hx=>?_⟩
  rcases List.mem_cons.1 hx with rfl | hx
  ·exact hp
  ·exact hl x hx
theorem qjK (t:Ty)(v:V):ofV (qa3 5 t) v=true↔v.n=0∧v.kids.length≤12∧(∀x∈v.kids,ofV t x=true)∧Asc v.kids:=by
 rw[qa3,ofV]
 simp[qeu,←qh8]
 constructor
 ·rintro ⟨⟨h1,h2⟩,h3,h4⟩
  exact⟨h1,by omega,h3,h4⟩
 ·rintro ⟨h1,h2,h3,h4⟩
  exact⟨⟨h1,by omega⟩,h3,h4⟩
theorem qkX (a b:Ty)(v:V):ofV (.mk 3 0 [] [a,b]) v=true↔∃x y,v=.mk 0 [x,y]∧ofV a x=true∧ofV b y=true:=by
 rw[ofV]
 rcases v with⟨n,ks⟩
 simp only[V.n,V.kids]
 constructor
 ·intro h
  simp at h
  obtain⟨⟨h0,h1⟩,h2⟩:=h
  match ks,h1,h2 with
  | [x,y],_,h2=>
   simp only[qdH,Bool.and_eq_true] at h2
   exact⟨x,y,by rw[h0],h2.1,h2.2.1⟩
  | [],h1,_=>simp at h1
  | [_],h1,_=>simp at h1
  | _::_::_::_,h1,_=>simp at h1;omega
 ·rintro ⟨x,y,e,h1,h2⟩
  simp only[V.mk.injEq] at e
  obtain⟨rfl,rfl⟩:=e
  simp[qdH,h1,h2]
theorem qqz (l:Int)(ks:List V):(∀x∈ks,ofV (qaK l) x=true)↔∃ws,ks=qaP ws∧∀w∈ws,0≤w∧w<l:=by
 constructor
 ·intro h
  refine qiV (P:=fun w=>0≤w∧w<l) fun v hv=>?_
  obtain⟨h1,h2,h3⟩:=(qfp l v).1 (h v hv)
  rcases v with⟨n,us⟩
  simp only[V.kids] at h3
  subst h3
  exact⟨n,rfl,h1,h2⟩
 ·rintro ⟨ws,rfl,h⟩ x hx
  obtain⟨w,hw,rfl⟩:=List.mem_map.1 hx
  exact (qfp _ _).2 ⟨(h w hw).1,(h w hw).2,rfl⟩
theorem qnB (l L:Int)(v:V):ofV (qcq l L) v=true↔∃x,v=qaD L x∧ndOk l L x:=by
 by_cases hL:L > 1
 ·rw[qcq,if_pos hL,qkX]
  constructor
  ·rintro ⟨x,y,rfl,h1,h2⟩
   obtain⟨a1,a2,a3⟩:=(qfp _ _).1 h1
   obtain⟨b1,b2,b3,b4⟩:=(qjK _ _).1 h2
   obtain⟨ws,b5,b6⟩:=(qqz _ _).1 b3
   rcases x with⟨a,us⟩
   rcases y with⟨b,vs⟩
   simp only[V.n,V.kids] at a1 a2 a3 b1 b2 b4 b5
   subst a3 b1 b5
   refine⟨⟨a,ws⟩,by rw[qaD,if_pos hL],a1,a2,by simpa [qcF] using b2,b6,(qjE ws).1 b4,fun h=>by omega⟩
  ·rintro ⟨x,rfl,h1,h2,h3,h4,h5,_⟩
   rw[qaD,if_pos hL]
   refine⟨_,_,rfl,(qfp _ _).2 ⟨h1,h2,rfl⟩,(qjK _ _).2 ⟨rfl,by simpa [V.kids,qcF] using h3,(qqz _ _).2 ⟨_,rfl,h4⟩,(qjE _).2 h5⟩⟩
 ·rw[qcq,if_neg hL,qfp]
  constructor
  ·rintro ⟨h1,h2,h3⟩
   rcases v with⟨n,us⟩
   simp only[V.kids] at h3
   subst h3
   exact⟨⟨n,[]⟩,by rw[qaD,if_neg hL],h1,h2,by simp,by simp,List.Pairwise.nil,fun _=>rfl⟩
  ·rintro ⟨x,rfl,h1,h2,_⟩
   rw[qaD,if_neg hL]
   exact⟨h1,h2,rfl⟩
structure OkN (m:Md) (s:Int) (l:List Nd):Prop where
 s0:0≤s
 s1:s<m.states.length
 len:l.length≤12
 nd:∀x∈l,ndOk m.letters.length m.levels x
 asc:Asc (l.map (qaD m.levels))
 size:qbt (cfgN m.levels s l) 128≤128
theorem OkN.leaf {m:Md}{s:Int}{l:List Nd}(o:OkN m s l):qdB m.levels l:=fun h x hx=>(o.nd x hx).2.2.2.2.2 h
theorem qqL {m:Md}(hk:m.kind=4)(c:V):ofV (qau m) c=true↔∃s l,c=cfgN m.levels s l∧0≤s∧s<m.states.length∧l.length≤12∧(∀x∈l,ndOk m.letters.length m.levels x)∧Asc (l.map (qaD m.levels)):=by
 rw[qe5 hk,qaZ,qkX]
 constructor
 ·rintro ⟨x,y,rfl,h1,h2⟩
  obtain⟨a1,a2,a3⟩:=(qfp _ _).1 h1
  obtain⟨b1,b2,b3,b4⟩:=(qjK _ _).1 h2
  obtain⟨l,b5,b6⟩:=qg2 (P:=ndOk m.letters.length m.levels) fun v hv=>(qnB _ _ v).1 (b3 v hv)
  rcases x with⟨a,us⟩
  rcases y with⟨b,vs⟩
  simp only[V.n,V.kids] at a1 a2 a3 b1 b2 b4 b5
  subst a3 b1 b5
  exact⟨a,l,rfl,a1,a2,by simpa using b2,b6,b4⟩
 ·rintro ⟨s,l,rfl,h1,h2,h3,h4,h5⟩
  refine⟨_,_,rfl,(qfp _ _).2 ⟨h1,h2,rfl⟩,(qjK _ _).2 ⟨rfl,by simpa [V.kids] using h3,fun v hv=>?_,h5⟩⟩
  obtain⟨x,hx,rfl⟩:=List.mem_map.1 hv
  exact (qnB _ _ _).2 ⟨x,rfl,h4 x hx⟩
theorem qc1 {m:Md}(hk:m.kind=4)(h:qaM m=0):qba (qau m)=0∧qaR (qau m) m.start=true:=by
 unfold qaM at h
 repeat' split at h
 all_goals first | cases h | skip
 rename_i hb
 have hv:qaR (qau m) m.start=true:=by
  have:qbo m=true:=by simpa using hb
  rw[qbo,if_neg (by omega)] at this
  exact this
 refine⟨?_,hv⟩
 unfold qaR at hv
 simp only[Bool.and_eq_true] at hv
 simpa using hv.1.1
theorem qcd {m:Md}(hk:m.kind=4)(ht:qba (qau m)=0)(c:V):qaR (qau m) c=true↔∃s l,c=cfgN m.levels s l∧OkN m s l:=by
 rw[qaR,ht]
 simp only[BEq.rfl,Bool.true_and,Bool.and_eq_true,decide_eq_true_eq,qqL hk]
 constructor
 ·rintro ⟨hs,s,l,rfl,h1,h2,h3,h4,h5⟩
  exact⟨s,l,rfl,h1,h2,h3,h4,h5,hs⟩
 ·rintro ⟨s,l,rfl,h⟩
  exact⟨h.size,s,l,rfl,h.s0,h.s1,h.len,h.nd,h.asc⟩
theorem qiH {m:Md}(hk:m.kind=4)(h:qaM m=0)(c:V):qrR m c=true↔∃s l,c=cfgN m.levels s l∧OkN m s l:=by
 rw[qrR,h,←qcd hk (qc1 hk h).1]
 simp
theorem qbf {m:Md}(hk:m.kind=4)(h:qaM m=0):1≤m.states.length∧m.states.length≤8∧1≤m.letters.length∧m.letters.length≤6∧1≤m.levels∧m.levels≤2∧m.rules.length≤12:=by
 unfold qaM at h
 repeat' split at h
 all_goals first | cases h | skip
 rename_i h1 h2 h3 h4 h5 h6
 have hs:qa9 m=true:=by simpa using h2
 have hl:limC m.kind=[0,0,1,6,1,2,0,0]:=by rw[hk];rfl
 simp[qa9,btw,hl] at hs
 omega
theorem qdF {m:Md}(hk:m.kind=4)(h:qaM m=0){r:Rl}(hr:r∈m.rules):(0≤r.from_∧r.from_<m.states.length)∧(0≤r.to_∧r.to_<m.states.length)∧(r.path.length:Int)≤m.levels∧(r.next.length:Int)≤m.levels∧0<r.path.length+r.next.length∧(∀x∈r.path,0≤x∧x<m.letters.length)∧(∀x∈r.next,0≤x∧x<m.letters.length):=by
 unfold qaM at h
 repeat' split at h
 all_goals first | cases h | skip
 rename_i h1 h2 h3 h4 h5 h6
 have hr2:qbF m r=true:=by
  have:(m.rules.any fun r=>!qbF m r)=false:=by simpa using h5
  have:=List.any_eq_false.1 this r hr
  simpa using this
 rw[qbF,Bool.and_eq_true,Bool.and_eq_true] at hr2
 obtain⟨hb,hf,_⟩:=hr2
 rw[qlW,if_neg (by omega),if_neg (by omega),if_pos hk] at hf
 simp only[qhU,btw,Bool.and_eq_true,decide_eq_true_eq,List.all_eq_true] at hf
 simp[qke,btw,hk] at hb
 obtain⟨⟨⟨⟨a1,a2⟩,a3⟩,a4⟩,a5⟩:=hf
 refine⟨by omega,by omega,a1,a2,by omega,fun x hx=>?_,fun x hx=>?_⟩
 ·have:=a4 x hx;omega
 ·have:=a5 x hx;omega
theorem qf3 (n:Int)(v:V):qbi (qaK n) v=v:=by
 rcases v with⟨a,ks⟩
 rw[qaK,qb4,if_neg (by omega),rowOf,if_neg (by omega),if_neg (by omega),if_neg (by omega)]
theorem qlu (t:Ty)(n:Int)(ks:List V):qbi (qa3 5 t) (.mk n ks)=.mk n (qbu (ks.map fun v=>qbi t v)):=by
 rw[qa3,qb4,if_pos rfl,rowOf,if_neg (by omega),if_neg (by omega),if_pos rfl,qd8,qbu]
theorem qh4 (a b:Ty)(n:Int)(x y:V):qbi (.mk 3 0 [] [a,b]) (.mk n [x,y])=.mk n [qbi a x,qbi b y]:=by
 rw[qb4,if_neg (by omega),rowOf,if_pos rfl,qcl,qcl,qcl]
def qpi (ks:List Int):List Int:=(qbu (qaP ks)).map V.n
theorem quJ {ks:List V}{l:List Int}(h:ks.Perm (qaP l)):qaP (ks.map V.n)=ks:=by
 have hk:∀v∈ks,∃p,v=.mk p []∧True:=fun v hv=>by
  obtain⟨x,_,rfl⟩:=List.mem_map.1 (h.mem_iff.1 hv)
  exact⟨x,rfl,trivial⟩
 obtain⟨l',rfl,_⟩:=qiV (P:=fun _=>True) hk
 rw[qkJ]
theorem qoH (ks:List Int):qaP (qpi ks)=qbu (qaP ks):=quJ (qbJ _)
theorem qgp (ks:List Int):(qpi ks).Perm ks:=by
 have:=(qbJ (qaP ks)).map V.n
 rwa [qkJ] at this
theorem qtx {ks:List Int}(h:ks.Pairwise (·≤·)):qpi ks=ks:=by
 have h':=(qjE ks).2 h
 rw[qpi,←qjY (List.Perm.refl _) h',qkJ]
def kidS (x:Nd):Nd:=⟨x.lab,qpi x.kids⟩
def qe9 (L:Int)(l:List Nd):List Nd:=(qbu ((l.map kidS).map (qaD L))).map (unN L)
theorem qnA {L:Int}{ks:List V}{l:List Nd}(hl:qdB L l)(h:ks.Perm (l.map (qaD L))):(ks.map (unN L)).map (qaD L)=ks∧(ks.map (unN L)).Perm l:=by
 have hk:∀v∈ks,∃x,v=qaD L x∧(L≤1→x.kids=[]):=fun v hv=>by
  obtain⟨x,hx,rfl⟩:=List.mem_map.1 (h.mem_iff.1 hv)
  exact⟨x,rfl,fun h=>hl h x hx⟩
 have hu:∀l:List Nd,(∀x∈l,L≤1→x.kids=[])→(l.map (qaD L)).map (unN L)=l:=fun l hl=>by
  rw[List.map_map]
  conv=>rhs;rw[←List.map_id l]
  exact List.map_congr_left fun x hx=>qj8 L x (hl x hx)
 obtain⟨l',rfl,hl'⟩:=qg2 hk
 rw[hu l' hl']
 refine⟨rfl,?_⟩
 have:=h.map (unN L)
 rwa [hu l' hl',hu l (fun x hx h=>hl h x hx)] at this
theorem qdB.kidS {L:Int}{l:List Nd}(h:qdB L l):qdB L (l.map kidS):=fun hL x hx=>by
 obtain⟨y,hy,rfl⟩:=List.mem_map.1 hx
 show qpi y.kids=[]
 rw[h hL y hy];rfl
theorem qe2 {L:Int}{l:List Nd}(h:qdB L l):(qe9 L l).Perm (l.map kidS):=(qnA h.kidS (qbJ _)).2
theorem qms {L:Int}{l:List Nd}(h:qdB L l):(qe9 L l).map (qaD L)=qbu ((l.map kidS).map (qaD L)):=(qnA h.kidS (qbJ _)).1
theorem qpj (l L:Int)(x:Nd):qbi (qcq l L) (qaD L x)=qaD L (kidS x):=by
 by_cases hL:L > 1
 ·have e:(qaP x.kids).map (fun v=>qbi (qaK l) v)=qaP x.kids:=by
   conv=>rhs;rw[←List.map_id (qaP x.kids)]
   exact List.map_congr_left fun v _=>qf3 l v
  rw[qcq,if_pos hL,qaD,if_pos hL,qh4,qf3,qlu,e,←qoH,qaD,if_pos hL]
  rfl
 ·rw[qcq,if_neg hL,qaD,if_neg hL,qf3,qaD,if_neg hL]
  rfl
theorem qiS {m:Md}(hk:m.kind=4)(s:Int){l:List Nd}(hl:qdB m.levels l):qbi (qau m) (cfgN m.levels s l)=cfgN m.levels s (qe9 m.levels l):=by
 rw[qe5 hk,qaZ,cfgN,bagV,qh4,qf3,qlu,cfgN,bagV,qms hl,List.map_map,List.map_map]
 have e:l.map ((fun v=>qbi (qcq m.letters.length m.levels) v)∘qaD m.levels)=l.map (qaD m.levels∘kidS):=List.map_congr_left fun x _=>qpj _ _ x
 rw[e]
theorem qty {m:Md}{s:Int}{l:List Nd}(o:OkN m s l):qe9 m.levels l=l:=by
 have e:l.map kidS=l:=by
  conv=>rhs;rw[←List.map_id l]
  refine List.map_congr_left fun x hx=>?_
  rcases x with⟨a,ks⟩
  simp only[kidS,id,Nd.mk.injEq,true_and]
  exact qtx (o.nd _ hx).2.2.2.2.1
 rw[qe9,e,←qjY (List.Perm.refl _) o.asc]
 rw[List.map_map]
 conv=>rhs;rw[←List.map_id l]
 exact List.map_congr_left fun x hx=>qj8 _ x (fun h=>o.leaf h x hx)
theorem qpl {m:Md}(hk:m.kind=4)(h:qaM m=0)(s:Int){l:List Nd}(hl:qdB m.levels l)(h0:(qaX (qau m) (cfgN m.levels s l)).2=0) :
 (qaX (qau m) (cfgN m.levels s l)).1=cfgN m.levels s (qe9 m.levels l)∧OkN m s (qe9 m.levels l):=by
 unfold qaX at h0 ⊢
 split at h0
 ·cases h0
 ·rename_i h1
  rw[if_neg h1]
  split at h0
  ·cases h0
  ·rename_i h2
   rw[if_neg h2]
   split at h0
   ·cases h0
   ·rename_i h3
    rw[if_neg h3]
    rw[qiS hk s hl] at h3 ⊢
    refine⟨rfl,?_⟩
    obtain⟨s',l',e,o⟩:=(qcd hk (qc1 hk h).1 _).1 (by simpa using h3)
    have hlf:qdB m.levels (qe9 m.levels l):=fun hL x hx=>hl.kidS hL x ((qe2 hl).mem_iff.1 hx)
    simp only[cfgN,bagV,V.mk.injEq,List.cons.injEq,and_true,true_and] at e
    obtain⟨rfl,e⟩:=e
    have e2:qe9 m.levels l=l':=by
     have hu:∀l:List Nd,qdB m.levels l→(l.map (qaD m.levels)).map (unN m.levels)=l:=fun l hl=>by
      rw[List.map_map]
      conv=>rhs;rw[←List.map_id l]
      exact List.map_congr_left fun x hx=>qj8 _ x (fun h=>hl h x hx)
     rw[←hu _ hlf,e,hu _ o.leaf]
    rw[e2];exact o
theorem qda {m:Md}(hk:m.kind=4)(h:qaM m=0){s:Int}{l:List Nd}(o:OkN m s l)(s':Int)(h0:0≤s')(h1:s'<m.states.length) :
 qaX (qau m) (cfgN m.levels s' l)=(cfgN m.levels s' l,0)∧OkN m s' l:=by
 have hsz:∀s:Int,qbt (cfgN m.levels s l) 128=qcI [.mk 0 (l.map (qaD m.levels))] 2 128:=fun s=>by
  rw[cfgN,bagV,qnW,qpd,if_pos (by omega),qnW,qrm];rfl
 have o':OkN m s' l:=⟨h0,h1,o.len,o.nd,o.asc,by rw[hsz s',←hsz s];exact o.size⟩
 have hv:qaR (qau m) (cfgN m.levels s' l)=true:=(qcd hk (qc1 hk h).1 _).2 ⟨s',l,rfl,o'⟩
 have ht:qar (qau m) 8=true:=by
  have:=(qc1 hk h).1
  unfold qba at this
  split at this
  ·assumption
  ·cases this
 refine⟨?_,o'⟩
 have hs:=o'.size
 rw[qaX,if_neg (by simp[ht]),if_neg (by omega),qiS hk s' o.leaf,qty o',if_neg (by simp[hv])]
end
end Go.Proofs.YtpplncjaihgimaaGreat
