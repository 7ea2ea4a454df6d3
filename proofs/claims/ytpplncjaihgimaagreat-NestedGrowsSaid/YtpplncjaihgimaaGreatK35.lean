/- Contracts of functions of the program, for all arguments that they name. -/
import Derived.Test.YtpplncjaihgimaaGreatK09
import Derived.Test.YtpplncjaihgimaaGreatK25
import Derived.Test.YtpplncjaihgimaaGreatK32
import Derived.Test.YtpplncjaihgimaaGreatK34
namespace Go.Proofs.YtpplncjaihgimaaGreat
set_option linter.unusedVariables false
section
open Go.RowKit
set_option maxHeartbeats 2000000
attribute [local simp] qay qae
def rl0:Rl:=⟨⟨#[]⟩,0,0,[],[],[],0,0,0,[],[],[],[],0⟩
def qaA (m:Md)(i:Int):Rl:=m.rules.getD i.toNat rl0
theorem qhk (m:Md)(i:Int)(h:i.toNat<m.rules.length):(qaN m.rules).getD i.toNat .undef=.agg (rlC (qaA m i)):=by
 simp[qaN,qaA,qbK,List.getD_eq_getElem?_getD,h]
def qpG (m:Md)(s:Int)(l:List Nd):V×Int:=qaX (qau m) (cfgN m.levels s l)
def outN (m:Md)(r:Rl)(l:List Nd)(p:List Int):V×Int:=qpG m r.to_ (qaO l p r.next)
def qa7 (m:Md)(r:Rl)(s:Int)(l:List Nd):List V×Int:=
 if s≠r.from_ then ([],0) else if ((qa4 l r.path).any fun p=>!((outN m r l p).2==0))=true then ([],1) else (qaV (qbu ((qa4 l r.path).map fun p=>(outN m r l p).1)),0)
theorem qug (a b:V)(ha:a.fit)(hb:b.fit):TP Tryz.prog 46 [encV a,encV b] (.bool (cmpV a b==0)):=by
 have hc:=qjI a b ha hb
 rcases a with⟨x,ks⟩
 rcases b with⟨y,ls⟩
 refine qan fn46 (by simp) ?_
 unfold i46
 simp only[argL,encV]
 refine wR0 0 [2,3] cJ0 ?_
 refine wRn 100 [4] cJ0 ?_
 refine rC cJ0 ?_
 refine⟨_,hc,rE cJ0 ?_⟩
 refine wP ?_
 exact .same rfl
theorem qlN (f:FuncId):TP Tryz.prog 45 [.nil,.fn f []] (.list []):=by
 have hd:decide ((0:Int)<2)=true:=rfl
 refine qan fn45 (by simp) ?_
 unfold i45
 simp only[argL]
 refine wR0 0 [0,1] cJ0 ?_
 refine wR0 100 [0,1,10] cJ0 ?_
 refine wT @hd ?_
 refine wR0 200 [4] cJ0 ?_
 refine wP ?_
 exact .nil
theorem qqK (m:Md)(i:Int)(hm:m.fit)(hk:m.kind=4)(h0:qaM m=0)(hi0:0≤i)(hin:i<m.rules.length):TP Tryz.prog 37 [qax m,.int .i64 i] (.int .i64 0):=by
 have hck:=qfO m hm
 rw[h0] at hck
 have hd1:((0:Int) != 0)=false:=rfl
 have hd2:(m.kind != 4)=false:=by simp[hk]
 have hi:decide (i<0)=false:=decide_eq_false (by omega)
 have hge:decide (i≥((qaN m.rules).length:Int))=false:=decide_eq_false (by rw[qaB];omega)
 have fX:=(cJ2 @hi @hge)
 refine qan fn37 (by simp) ?_
 unfold i37
 simp only[argL,qax,mdC]
 refine wR0 0 [1,2] fX ?_
 refine wRn 100 [1,2,5] fX ?_
 refine rC fX ?_
 refine⟨_,hck,rE fX ?_⟩
 refine wR0 200 [1,2,5,9] fX ?_
 refine wF @hd1 ?_
 refine wR0 400 [1,2,11] fX ?_
 refine wF @hd2 ?_
 refine wR0 600 [15] fX ?_
 refine wF fX ?_
 refine wR0 800 [4] fX ?_
 refine wP ?_
 exact .same rfl
attribute [local simp] qfF qcL
set_option maxHeartbeats 20000000 in
theorem qkN (m:Md)(r:Rl)(l:List Nd)(c1:List T)(h1:∀D,clL D c1=true)(G:List Int→V×Int)(ps:List (List Int))(hps:ps.length≤100000)
 (hcall:∀p∈ps,TP Tryz.prog 42 [ndsT l,.list (qab p),.list (qab r.next)] (.list (qaY ((qaO l p r.next).map nL)))∧TP Tryz.prog 41 [qax m,.int .i64 r.to_,.list (qaY ((qaO l p r.next).map nL))] (.tup [encV (G p).1,.bool ((G p).2==0)])) (Q:IExit→(Nat→T)→Heap→Prop):∀(rest pre:List (List Int)) (n:Nat) (acc:List V),ps=pre++rest→pre.length=n→acc.length=n→
 ((rest.any fun p=>!((G p).2==0))=false→∀i:Int,Q (.exit 0) (ofL [(3,.ref 0 10 0),(9,.ref 605 14 0),(10,ndsT l),(11,rowT 1703 (acc++rest.map fun p=>(G p).1)),(45,.list (qb5 ps)),(46,.int .i64 ps.length),(47,.int .i64 i),(48,.bool false)]) (hpL ([(0,sM m),(1,.live ⟨25,c1⟩),(605,sR r)]++rowH 1703 25 (acc++rest.map fun p=>(G p).1))))→
 ((rest.any fun p=>!((G p).2==0))=true→∀H,Q .ret (ofL [(6,.nil),(7,.int .i64 1)]) H)→
 WL Tryz.prog 74 qfI (ofL [(3,.ref 0 10 0),(9,.ref 605 14 0),(10,ndsT l),(11,rowT 1703 acc),(45,.list (qb5 ps)),(46,.int .i64 ps.length),(47,.int .i64 n)]) (hpL ([(0,sM m),(1,.live ⟨25,c1⟩),(605,sR r)]++rowH 1703 25 acc)) Q:=by
 have hmc:∀D,clL D (mdC m)=true:=fun D=>by simp
 have hrc:∀D,clL D (rlC r)=true:=fun D=>by simp
 have hql:(qb5 ps).length=ps.length:=qcB ps
 intro rest
 induction rest with
 | nil=>
  intro pre n acc he hn ha hQ hQ1
  have hd:decide ((n:Int)<(ps.length:Int))=false:=by simp[he,hn]
  have hQ0:=hQ rfl
  simp only[List.map_nil,List.append_nil] at hQ0
  simp only[List.cons_append,List.nil_append] at hQ0 ⊢
  have fX:=@hd
  refine qaa qfI.eq_1 ?_
  refine wR0 1200 [3,9,10,11,45,46,47,48] fX ?_
  refine wF @hd ?_
  refine wX ?_
  refine wN ?_
  exact hQ0 _
 | cons p rest ih=>
  intro pre n acc he hn ha hQ hQ1
  have hlt:(n:Int)<(ps.length:Int):=by rw[he];simp;omega
  have hlb:n≤100000:=by rw[he] at hps;simp at hps;omega
  have hd:decide ((n:Int)<(ps.length:Int))=true:=decide_eq_true hlt
  have hg:(qb5 ps).getD (n:Int).toNat .undef=.list (qab p):=by rw[Int.toNat_natCast,he,←hn];simp[qb5,List.getD_eq_getElem?_getD]
  have hw:IntKind.wrap .i64 ((n:Int)+1)=((n+1:Nat):Int):=by rw[wrap64 (by omega) (by omega)];rfl
  obtain⟨hch,hb⟩:=hcall p (by rw[he];simp)
  rcases hG:G p with⟨⟨b0,bks⟩,e⟩
  rw[hG] at hb
  simp only[qax,encV] at hb
  rcases hz:(e==0) with _ | _
  ·rw[hz] at hb
   cases acc with
   | nil=>
    simp only[rowT,rowH,List.append_nil]
    have fX:=(cJ8 @hd @hg @hw @qbp @qcp @mdC.eq_1 @rlC.eq_1 @hql)
    refine qaa qfI.eq_1 ?_
    refine W_gc ?_
    refine wR0 1200 [3,9,10,11,45,46,47,48] fX ?_
    refine wT fX ?_
    refine wR0 1300 [3,9,10,11,13,45,46,47] fX ?_
    refine wRn 1400 [3,9,10,11,14,15,45,46,47] fX ?_
    refine rC fX ?_
    refine⟨_,hch,rN fX ?_⟩
    refine rC fX ?_
    refine⟨_,hb,rE fX ?_⟩
    refine wR0 1500 [3,9,10,11,14,45,46,47,64] fX ?_
    refine wT @Bool.not_false ?_
    refine wR0 1600 [6,7] fX ?_
    refine wE ?_
    refine wN ?_
    exact hQ1 (by have hz0:¬e=0:=(by simpa using hz);simp[hG,hz0]) _
   | cons a acc=>
    simp only[rowT,rowH,List.cons_append,List.nil_append]
    have fX:=(cJ8 @hd @hg @hw @qbp @qcp @mdC.eq_1 @rlC.eq_1 @hql)
    refine qaa qfI.eq_1 ?_
    refine W_gc ?_
    refine wR0 1200 [3,9,10,11,45,46,47,48] fX ?_
    refine wT fX ?_
    refine wR0 1300 [3,9,10,11,13,45,46,47] fX ?_
    refine wRn 1400 [3,9,10,11,14,15,45,46,47] fX ?_
    refine rC fX ?_
    refine⟨_,hch,rN fX ?_⟩
    refine rC fX ?_
    refine⟨_,hb,rE fX ?_⟩
    refine wR0 1500 [3,9,10,11,14,45,46,47,64] fX ?_
    refine wT @Bool.not_false ?_
    refine wR0 1600 [6,7] fX ?_
    refine wE ?_
    refine wN ?_
    exact hQ1 (by have hz0:¬e=0:=(by simpa using hz);simp[hG,hz0]) _
  ·rw[hz] at hb
   have hQ':=ih (pre++[p]) (n+1) (acc++[.mk b0 bks]) (by simpa using he) (by simp[hn]) (by simp[ha]) (by simpa [hG,hz] using hQ) (by simpa [hG,hz] using hQ1)
   cases acc with
   | nil=>
    simp only[rowT,rowH,List.append_nil,List.cons_append,List.nil_append] at hQ' ⊢
    have fX:=(cJ8 @hd @hg @hw @qbp @qcp @mdC.eq_1 @rlC.eq_1 @hql)
    refine qaa qfI.eq_1 ?_
    refine W_gc ?_
    refine wR0 1200 [3,9,10,11,45,46,47,48] fX ?_
    refine wT fX ?_
    refine wR0 1300 [3,9,10,11,13,45,46,47] fX ?_
    refine wRn 1400 [3,9,10,11,14,15,45,46,47] fX ?_
    refine rC fX ?_
    refine⟨_,hch,rN fX ?_⟩
    refine rC fX ?_
    refine⟨_,hb,rE fX ?_⟩
    refine wR0 1500 [3,9,10,11,14,45,46,47,64] fX ?_
    refine wF @Bool.not_true ?_
    refine wR0 1700 [3,9,10,11,45,46,47] fX ?_
    refine wR0 1800 [3,9,10,11,45,46,47] fX ?_
    refine wN ?_
    refine qaC [0,1,605,1703] (by simp[inL]) (by simp[inL,T.cl,qbc,qcL]) (by simp[qam,inL,Slot.cl,T.cl,clL,hmc,hrc,h1,qai]) ?_
    simpa [qam,inL,qaq,V.n,V.kids] using hQ'
   | cons a acc=>
    have hs:qaq (a::(acc++[V.mk b0 bks]))=qaq (a::acc)++[.int .i64 b0,.list (qac bks)]:=qbk (a::acc) (.mk b0 bks)
    have hm2:(acc.length+1+1)*2=(acc.length+1)*2+2:=by omega
    have hla:acc.length+1≤100000:=by simp at ha;omega
    simp only[rowT,rowH,List.cons_append,List.nil_append,hs,List.length_append,List.length_cons,List.length_nil,Nat.zero_add,hm2] at hQ' ⊢
    have fX:=(cJ8 @hd @hg @hw @qbp @qcp @mdC.eq_1 @rlC.eq_1 (cJ2 @hql @qaz))
    refine qaa qfI.eq_1 ?_
    refine W_gc ?_
    refine wR0 1200 [3,9,10,11,45,46,47,48] fX ?_
    refine wT fX ?_
    refine wR0 1300 [3,9,10,11,13,45,46,47] fX ?_
    refine wRn 1400 [3,9,10,11,14,15,45,46,47] fX ?_
    refine rC fX ?_
    refine⟨_,hch,rN fX ?_⟩
    refine rC fX ?_
    refine⟨_,hb,rE fX ?_⟩
    refine wR0 1500 [3,9,10,11,14,45,46,47,64] fX ?_
    refine wF @Bool.not_true ?_
    refine wR0 1700 [3,9,10,11,45,46,47] fX ?_
    refine wR0 1800 [3,9,10,11,45,46,47] fX ?_
    refine wN ?_
    refine qaC [0,1,605,1703] (by simp[inL]) (by simp[inL,T.cl,qbc,qcL]) (by simp[qam,inL,Slot.cl,T.cl,clL,qao,hmc,hrc,h1,qai]) ?_
    simpa [qam,inL] using hQ'
theorem qdt {L:Int}{l:List Nd}{path next p:List Int}(hL:L=1∨L=2)(h1:(path.length:Int)≤L)(h2:(next.length:Int)≤L)(h0:0<path.length+next.length)(hp:p∈qa4 l path)(hlf:qdB L l)(hk:∀x∈l,x.kids.length≤50) :
 qdB L (qaO l p next)∧(qaO l p next).length≤l.length+1∧∀x∈qaO l p next,x.kids.length≤100:=by
 have hn2:next.length≤2:=by omega
 have hnl:L≤1→next.length≤1:=fun h=>by omega
 have hpl:path.length≤2:=by omega
 have hpl1:L≤1→path.length≤1:=fun h=>by omega
 match path,hp,hpl,hpl1 with
 | [],hp,_,_=>
  rw[qqU] at hp
  subst hp
  rcases next with _ | ⟨x,nx⟩
  ·simp at h0
  ·rw[qfA]
   refine⟨fun h y hy=>?_,by simp,fun y hy=>?_⟩
   ·rcases List.mem_append.1 hy with hy | hy
    ·exact hlf h y hy
    ·rw[List.mem_singleton] at hy;subst hy
     have:=hnl h
     exact List.length_eq_zero_iff.1 (by simp at this ⊢;omega)
   ·rcases List.mem_append.1 hy with hy | hy
    ·have:=hk y hy;omega
    ·rw[List.mem_singleton] at hy;subst hy
     simp at hn2 ⊢;omega
 | [a],hp,_,_=>
  obtain⟨A,n,B,rfl,ha,rfl⟩:=(qoV _ _ _).1 hp
  have hkn:=hk n (by simp)
  rcases next with _ | ⟨x,nx⟩
  ·rw[qbz]
   refine⟨fun h y hy=>hlf h y ?_,by simp;omega,fun y hy=>?_⟩
   ·rcases List.mem_append.1 hy with hy | hy<;>simp[hy]
   ·have:=hk y (by rcases List.mem_append.1 hy with hy | hy<;>simp[hy]);omega
  ·rw[qeI]
   refine⟨fun h y hy=>?_,by simp,fun y hy=>?_⟩
   ·rcases List.mem_append.1 hy with hy | hy
    ·exact hlf h y (by simp[hy])
    ·rcases List.mem_cons.1 hy with rfl | hy
     ·have e1:=hlf h n (by simp)
      have:=hnl h
      have e2:nx=[]:=List.length_eq_zero_iff.1 (by simp at this ⊢;omega)
      rw[e1,e2];rfl
     ·exact hlf h y (by simp[hy])
   ·rcases List.mem_append.1 hy with hy | hy
    ·have:=hk y (by simp[hy]);omega
    ·rcases List.mem_cons.1 hy with rfl | hy
     ·simp at hn2 ⊢;omega
     ·have:=hk y (by simp[hy]);omega
 | [a,b],hp,_,hpl1=>
  obtain⟨A,n,B,E,F,rfl,ha,h,rfl⟩:=(qoW _ _ _ _).1 hp
  have hkn:=hk n (by simp)
  have hkn':E.length+(F.length+1)≤50:=by rw[h] at hkn;simpa using hkn
  have hL2:¬L≤1:=fun h=>by have:=hpl1 h;simp at this
  match next,hn2 with
  | [],_=>
   rw[qbz]
   refine⟨fun h=>absurd h hL2,by simp;omega,fun y hy=>?_⟩
   have:=hk y (by rcases List.mem_append.1 hy with hy | hy<;>simp[hy]);omega
  | [x],_=>
   rw[qfB A n B E F b h]
   refine⟨fun h=>absurd h hL2,by simp,fun y hy=>?_⟩
   rcases List.mem_append.1 hy with hy | hy
   ·have:=hk y (by simp[hy]);omega
   ·rcases List.mem_cons.1 hy with rfl | hy
    ·simp;omega
    ·have:=hk y (by simp[hy]);omega
  | x::y::nx,_=>
   rw[qeJ A n B E F b h]
   refine⟨fun h=>absurd h hL2,by simp,fun z hz=>?_⟩
   rcases List.mem_append.1 hz with hz | hz
   ·have:=hk z (by simp[hz]);omega
   ·rcases List.mem_cons.1 hz with rfl | hz
    ·simp;omega
    ·have:=hk z (by simp[hz]);omega
theorem OkN.kids {m:Md}{s:Int}{l:List Nd}(o:OkN m s l):∀x∈l,x.kids.length≤12:=fun x hx=>(o.nd x hx).2.2.1
theorem OkN.fit {m:Md}{s:Int}{l:List Nd}(o:OkN m s l):(cfgN m.levels s l).fit:=qmJ _ _ _ (by have:=o.len;omega) fun x hx=>by have:=o.kids x hx;omega
theorem qbY {l:List Nd}(hl:l.length≤12)(hk:∀x∈l,x.kids.length≤12)(labels:List Int):cntF l labels≤200:=by
 unfold cntF
 split
 ·omega
 ·have:∀l:List Nd,(∀x∈l,x.kids.length≤12)→(l.map (cntN labels)).sum≤12*l.length:=fun l=>by
   induction l with
   | nil=>simp
   | cons x l ih=>
    intro h
    have h1:=ih fun y hy=>h y (List.mem_cons_of_mem _ hy)
    have h2:cntN labels x≤12:=by
     unfold cntN
     have:=h x (by simp)
     split
     ·split
      ·omega
      ·have:=List.count_le_length (a:=labels.getD 1 0) (l:=x.kids);omega
     ·omega
    simp only[List.map_cons,List.sum_cons,List.length_cons]
    omega
  have:=this l hk
  omega
theorem qdO {m:Md}{i:Nat}(h:i<m.rules.length):qaA m i∈m.rules:=by
 rw[qaA,Int.toNat_natCast,List.getD_eq_getElem?_getD,List.getElem?_eq_getElem h]
 exact List.getElem_mem h
theorem quS {m:Md}(hm:m.fit)(hk:m.kind=4)(h0:qaM m=0){r:Rl}(hr:r∈m.rules){s:Int}{l:List Nd}(o:OkN m s l):∀p∈qa4 l r.path,
 TP Tryz.prog 42 [ndsT l,.list (qab p),.list (qab r.next)] (.list (qaY ((qaO l p r.next).map nL)))∧TP Tryz.prog 41 [qax m,.int .i64 r.to_,.list (qaY ((qaO l p r.next).map nL))] (.tup [encV (outN m r l p).1,.bool ((outN m r l p).2==0)]):=by
 intro p hp
 obtain⟨b1,b2,b3,b4,b5,b6,b7⟩:=qbf hk h0
 obtain⟨r1,r2,r3,r4,r5,r6,r7⟩:=qdF hk h0 hr
 have hL:m.levels=1∨m.levels=2:=by omega
 have hl:=o.len
 have ok:=qdt hL r3 r4 r5 hp o.leaf fun x hx=>by have:=o.kids x hx;omega
 exact⟨ql5 l r.path r.next p hp (by omega) (by omega) r5 (by omega) fun x hx=>by have:=o.kids x hx;omega,
  qqJ m hm h0 hL r.to_ _ (by omega) ok.1 fun x hx=>by have:=ok.2.2 x hx;omega⟩
theorem qhR {m:Md}(hk:m.kind=4)(h0:qaM m=0){r:Rl}(hr:r∈m.rules){s:Int}{l:List Nd}(o:OkN m s l){p:List Int}(hp:p∈qa4 l r.path)(h:(outN m r l p).2=0) :
 (outN m r l p).1=cfgN m.levels r.to_ (qe9 m.levels (qaO l p r.next))∧OkN m r.to_ (qe9 m.levels (qaO l p r.next)):=by
 obtain⟨b1,b2,b3,b4,b5,b6,b7⟩:=qbf hk h0
 obtain⟨r1,r2,r3,r4,r5,r6,r7⟩:=qdF hk h0 hr
 have hL:m.levels=1∨m.levels=2:=by omega
 have ok:=qdt hL r3 r4 r5 hp o.leaf fun x hx=>by have:=o.kids x hx;omega
 exact qpl hk h0 r.to_ ok.1 h
end
section
open Go.RowKit
set_option maxHeartbeats 2000000
attribute [local simp] qay qae qcL
theorem qtC (D:Nat→Bool)(xs:List V):clL D (qfu xs)=true:=by
 rw[qfu]
 generalize xs.length - (qaV xs).length=n
 induction n with
 | zero=>rfl
 | succ n ih=>
  simp only[repl,List.replicate_succ,List.flatten_cons,List.cons_append,List.nil_append] at ih ⊢
  simpa [clL,T.cl] using ih
theorem qiG (m:Md)(r:Rl)(l:List Nd)(c1:List T)(h1:∀D,clL D c1=true)(G:List Int→V×Int)(ps:List (List Int))(hps:ps.length≤100000)
 (hcall:∀p∈ps,TP Tryz.prog 42 [ndsT l,.list (qab p),.list (qab r.next)] (.list (qaY ((qaO l p r.next).map nL)))∧TP Tryz.prog 41 [qax m,.int .i64 r.to_,.list (qaY ((qaO l p r.next).map nL))] (.tup [encV (G p).1,.bool ((G p).2==0)])) (Q:IExit→(Nat→T)→Heap→Prop)
 (hok:(ps.any fun p=>!((G p).2==0))=false)
 (hQ:∀i:Int,Q (.exit 0) (ofL [(3,.ref 0 10 0),(9,.ref 605 14 0),(10,ndsT l),(11,rowT 1703 (ps.map fun p=>(G p).1)),(45,.list (qb5 ps)),(46,.int .i64 ps.length),(47,.int .i64 i),(48,.bool false)]) (hpL ([(0,sM m),(1,.live ⟨25,c1⟩),(605,sR r)]++rowH 1703 25 (ps.map fun p=>(G p).1)))) :
 WL Tryz.prog 74 qfI (ofL [(3,.ref 0 10 0),(9,.ref 605 14 0),(10,ndsT l),(11,.nil),(45,.list (qb5 ps)),(46,.int .i64 ps.length),(47,.int .i64 0)]) (hpL [(0,sM m),(1,.live ⟨25,c1⟩),(605,sR r)]) Q:=
 qkN m r l c1 h1 G ps hps hcall Q ps [] 0 [] rfl rfl rfl (fun _=>hQ) (fun h=>absurd h (by rw[hok];simp))
theorem qoR (m:Md)(r:Rl)(l:List Nd)(c1:List T)(h1:∀D,clL D c1=true)(G:List Int→V×Int)(ps:List (List Int))(hps:ps.length≤100000)
 (hcall:∀p∈ps,TP Tryz.prog 42 [ndsT l,.list (qab p),.list (qab r.next)] (.list (qaY ((qaO l p r.next).map nL)))∧TP Tryz.prog 41 [qax m,.int .i64 r.to_,.list (qaY ((qaO l p r.next).map nL))] (.tup [encV (G p).1,.bool ((G p).2==0)])) (Q:IExit→(Nat→T)→Heap→Prop)
 (hok:(ps.any fun p=>!((G p).2==0))=true)
 (hQ:∀H,Q .ret (ofL [(6,.nil),(7,.int .i64 1)]) H) :
 WL Tryz.prog 74 qfI (ofL [(3,.ref 0 10 0),(9,.ref 605 14 0),(10,ndsT l),(11,.nil),(45,.list (qb5 ps)),(46,.int .i64 ps.length),(47,.int .i64 0)]) (hpL [(0,sM m),(1,.live ⟨25,c1⟩),(605,sR r)]) Q:=
 qkN m r l c1 h1 G ps hps hcall Q ps [] 0 [] rfl rfl rfl (fun h=>absurd h (by rw[hok];simp)) (fun _=>hQ)
set_option maxHeartbeats 20000000 in
theorem qdE (m:Md)(hm:m.fit)(hk:m.kind=4)(h0:qaM m=0)(i:Nat)(hi:i<m.rules.length){s:Int}{l:List Nd}(o:OkN m s l):TP Tryz.prog 16 [qax m,.int .i64 i,encV (cfgN m.levels s l)] (.tup [.list (qac (qa7 m (qaA m i) s l).1),.int .i64 (qa7 m (qaA m i) s l).2]):=by
 have hg:(qaN m.rules).getD (i:Int).toNat .undef=.agg (rlC (qaA m i)):=qhk m i (by omega)
 have hlr:(qaN m.rules).length=m.rules.length:=qaB _
 have hck:=qqK m i hm hk h0 (by omega) (by omega)
 have hvv:=qkM m (cfgN m.levels s l) hm o.fit
 rw[(qiH hk h0 _).2 ⟨s,l,rfl,o⟩] at hvv
 obtain⟨b1,b2,b3,b4,b5,b6,b7⟩:=qbf hk h0
 have hrm:=qdO hi
 obtain⟨r,hr⟩:∃r,r=qaA m i:=⟨_,rfl⟩
 rw[←hr] at hrm hg ⊢
 have hL:m.levels=1∨m.levels=2:=by omega
 have hlen:=o.len
 have hkk:=o.kids
 have hnn:=qkQ m hL s l (by omega) o.leaf fun x hx=>by have:=hkk x hx;omega
 have hpp:=qkV l r.path (by omega) fun x hx=>by have:=hkk x hx;omega
 have hcl:(qa4 l r.path).length≤200:=by rw[qcw];exact qbY hlen hkk _
 have hql:(qb5 (qa4 l r.path)).length=(qa4 l r.path).length:=qcB _
 have hout:=quS hm hk h0 hrm o
 have hz:((0:Int) != 0)=false:=rfl
 have hb0:(0:Int)<(([T.agg [.int .i64 s,.list []],T.agg [.int .i64 0,.list (qac (l.map (qaD m.levels)))]]:List T).length:Int):=by simp
 have hz0:([T.agg [.int .i64 s,.list []],T.agg [.int .i64 0,.list (qac (l.map (qaD m.levels)))]]:List T).getD (0:Int).toNat .undef=.agg [.int .i64 s,.list []]:=rfl
 simp only[cfgN,bagV,encV,qac] at hvv hnn
 by_cases hs:s=r.from_
 case neg=>
  have hd:(s != r.from_)=true:=by simpa using hs
  rw[qa7,if_pos hs]
  have fX:=(cJ4 @hz0 @hb0 @hlr @hql)
  refine qan fn16 (by simp) ?_
  unfold i16
  simp only[argL,encV,qax,mdC,cfgN,bagV,qac]
  refine wR0 0 [1,3,5] fX ?_
  refine wRn 100 [1,3,5,8] fX ?_
  refine rC fX ?_
  refine⟨_,hck,rE fX ?_⟩
  refine wR0 200 [1,3,5,8,20] fX ?_
  refine wF @hz ?_
  refine wRn 400 [1,3,5,25] fX ?_
  refine rC fX ?_
  refine⟨_,hvv,rE fX ?_⟩
  refine wF @Bool.not_true ?_
  refine wR0 600 [3,5,9] (cJ3 @hg @rlC.eq_1 fX) ?_
  refine wR0 700 [3,5,9,38] fX ?_
  refine wT @hd ?_
  refine wR0 800 [6,7] fX ?_
  refine wP ?_
  exact Frz.tupL (.cons .nil (.cons (.same rfl) .nil))
 have hd:(s != r.from_)=false:=by simp[hs]
 rw[qa7,if_neg (by simpa using hs)]
 rcases hok:((qa4 l r.path).any fun p=>!((outN m r l p).2==0)) with _ | _
 ·rw[if_neg (by simp)]
  have hfit:∀v∈(qa4 l r.path).map (fun p=>(outN m r l p).1),v.fit:=fun v hv=>by
   obtain⟨p,hp,rfl⟩:=List.mem_map.1 hv
   have h2:(outN m r l p).2=0:=by
    have:=List.any_eq_false.1 hok p hp
    simpa using this
   obtain⟨e,o'⟩:=qhR hk h0 hrm o hp h2
   rw[e];exact o'.fit
  have hbl:((qa4 l r.path).map fun p=>(outN m r l p).1).length≤200:=by rw[List.length_map];exact hcl
  rcases hbv:(qa4 l r.path).map (fun p=>(outN m r l p).1) with _ | ⟨b,bs⟩
  ·have hnc:=qlN 46
   have hsn:=qgA 44
   have fX:=(cJ4 @hz0 @hb0 @hlr @hql)
   refine qan fn16 (by simp) ?_
   unfold i16
   simp only[argL,encV,qax,mdC,cfgN,bagV,qac]
   refine wR0 0 [1,3,5] fX ?_
   refine wRn 100 [1,3,5,8] fX ?_
   refine rC fX ?_
   refine⟨_,hck,rE fX ?_⟩
   refine wR0 200 [1,3,5,8,20] fX ?_
   refine wF @hz ?_
   refine wRn 400 [1,3,5,25] fX ?_
   refine rC fX ?_
   refine⟨_,hvv,rE fX ?_⟩
   refine wF @Bool.not_true ?_
   refine wR0 600 [3,5,9] (cJ3 @hg @rlC.eq_1 fX) ?_
   refine wR0 700 [3,5,9,38] fX ?_
   refine wF @hd ?_
   refine wRn 900 [3,9,10] fX ?_
   refine rC fX ?_
   refine⟨_,hnn,rE fX ?_⟩
   refine wR0 1000 [3,9,10,11] fX ?_
   refine wRn 1100 [3,9,10,11,45,46,47] (cJ2 @rlC.eq_1 fX) ?_
   refine rC (cJ2 @rlC.eq_1 fX) ?_
   refine⟨_,hpp,rE (cJ2 @rlC.eq_1 fX) ?_⟩
   refine wL ?_
   refine qiG m r l _ ?_ (outN m r l) _ (by omega) hout _ hok ?_
   intro D
   simp[clL,T.cl,qai]
   rw[hbv]
   ·intro i
    refine wN ?_
    simp only[rowT,rowH]
    refine wRn 1900 [11] fX ?_
    refine rC fX ?_
    refine⟨_,hsn,rE fX ?_⟩
    refine wRn 2000 [6,7] fX ?_
    refine rC fX ?_
    refine⟨_,hnc,rE fX ?_⟩
    refine wP ?_
    exact Frz.tupL (.cons (.same rfl) (.cons (.same rfl) .nil))
  ·rw[hbv] at hfit hbl
   have hll:bs.length+1≤200:=by simpa using hbl
   have hso:=qn4 1703 25 (b::bs) (by simp) (by simp;omega) hfit
   rw[List.length_cons] at hso
   have hfs:∀v∈qbu (b::bs),v.fit:=fun v hv=>hfit v ((qbJ _).mem_iff.1 hv)
   have hne:qbu (b::bs)≠[]:=fun h=>by have:=qcJ (b::bs);rw[h] at this;simp at this
   have hco:TC Tryz.prog 45 [.sl 1703 ((qbu (b::bs)).length*2) 2 0 (qbu (b::bs)).length,.fn 46 []] (hpL [(1703,.live ⟨25,qaq (qbu (b::bs))⟩)]) (.sl 1703 ((qbu (b::bs)).length*2) 2 0 (qaV (qbu (b::bs))).length) (hpL [(1703,.live ⟨25,qaq (qaV (qbu (b::bs)))++qfu (qbu (b::bs))⟩)]):=by
    have h9:=qos 46 (qbu (b::bs)) hne (by rw[qcJ];simp;omega) hfs qug
    have r5:∀σ:Nat→Nat,renL σ (qaq (qbu (b::bs)))=qaq (qbu (b::bs)):=fun σ=>qby _ (qay _ _)
    have r6:∀σ:Nat→Nat,renL σ (qaq (qaV (qbu (b::bs)))++qfu (qbu (b::bs)))=qaq (qaV (qbu (b::bs)))++qfu (qbu (b::bs)):=fun σ=>qby _ (by show clL _ _=true;rw[qao,qay,qtC];rfl)
    refine qg0 [(700,1703)] h9 ?_ ?_ ?_ ?_
    all_goals simp[renL,T.ren,Slot.ren,swps,swp,r5,r6]
   have htl:=qrK (qbu (b::bs))
   rw[qcJ,List.length_cons] at hco htl
   have fX:=(cJ4 @hz0 @hb0 @hlr @hql)
   refine qan fn16 (by simp) ?_
   unfold i16
   simp only[argL,encV,qax,mdC,cfgN,bagV,qac]
   refine wR0 0 [1,3,5] fX ?_
   refine wRn 100 [1,3,5,8] fX ?_
   refine rC fX ?_
   refine⟨_,hck,rE fX ?_⟩
   refine wR0 200 [1,3,5,8,20] fX ?_
   refine wF @hz ?_
   refine wRn 400 [1,3,5,25] fX ?_
   refine rC fX ?_
   refine⟨_,hvv,rE fX ?_⟩
   refine wF @Bool.not_true ?_
   refine wR0 600 [3,5,9] (cJ3 @hg @rlC.eq_1 fX) ?_
   refine wR0 700 [3,5,9,38] fX ?_
   refine wF @hd ?_
   refine wRn 900 [3,9,10] fX ?_
   refine rC fX ?_
   refine⟨_,hnn,rE fX ?_⟩
   refine wR0 1000 [3,9,10,11] fX ?_
   refine wRn 1100 [3,9,10,11,45,46,47] (cJ2 @rlC.eq_1 fX) ?_
   refine rC (cJ2 @rlC.eq_1 fX) ?_
   refine⟨_,hpp,rE (cJ2 @rlC.eq_1 fX) ?_⟩
   refine wL ?_
   refine qiG m r l _ ?_ (outN m r l) _ (by omega) hout _ hok ?_
   intro D
   simp[clL,T.cl,qai]
   rw[hbv]
   ·intro i
    refine wN ?_
    simp only[rowT,rowH]
    refine wRn 1900 [11] fX ?_
    refine rU [(1703,.live ⟨25,qaq (b::bs)⟩)] [(1703,.live ⟨25,qaq (qbu (b::bs))⟩)] fX ?_
    refine⟨_,hso.full1,rE fX ?_⟩
    refine wRn 2000 [6,7] fX ?_
    refine rU [(1703,.live ⟨25,qaq (qbu (b::bs))⟩)] [(1703,.live ⟨25,qaq (qaV (qbu (b::bs)))++qfu (qbu (b::bs))⟩)] fX ?_
    refine⟨_,hco.full1,rE fX ?_⟩
    refine wP ?_
    exact Frz.tupL (.cons (qso (qaV (qbu (b::bs))) (qfu (qbu (b::bs))) rfl htl) (.cons (.same rfl) .nil))
 ·rw[if_pos rfl]
  have fX:=(cJ4 @hz0 @hb0 @hlr @hql)
  refine qan fn16 (by simp) ?_
  unfold i16
  simp only[argL,encV,qax,mdC,cfgN,bagV,qac]
  refine wR0 0 [1,3,5] fX ?_
  refine wRn 100 [1,3,5,8] fX ?_
  refine rC fX ?_
  refine⟨_,hck,rE fX ?_⟩
  refine wR0 200 [1,3,5,8,20] fX ?_
  refine wF @hz ?_
  refine wRn 400 [1,3,5,25] fX ?_
  refine rC fX ?_
  refine⟨_,hvv,rE fX ?_⟩
  refine wF @Bool.not_true ?_
  refine wR0 600 [3,5,9] (cJ3 @hg @rlC.eq_1 fX) ?_
  refine wR0 700 [3,5,9,38] fX ?_
  refine wF @hd ?_
  refine wRn 900 [3,9,10] fX ?_
  refine rC fX ?_
  refine⟨_,hnn,rE fX ?_⟩
  refine wR0 1000 [3,9,10,11] fX ?_
  refine wRn 1100 [3,9,10,11,45,46,47] (cJ2 @rlC.eq_1 fX) ?_
  refine rC (cJ2 @rlC.eq_1 fX) ?_
  refine⟨_,hpp,rE (cJ2 @rlC.eq_1 fX) ?_⟩
  refine wL ?_
  refine qoR m r l _ ?_ (outN m r l) _ (by omega) hout _ hok ?_
  intro D
  simp[clL,T.cl,qai]
  ·intro H
   refine wN ?_
   exact⟨by simp,_,rfl,by exact Frz.tupL (.cons .nil (.cons (.same rfl) .nil))⟩
set_option maxHeartbeats 20000000 in
theorem qcG (m:Md)(hm:m.fit)(hk:m.kind=4)(h0:qaM m=0){s:Int}{l:List Nd}(o:OkN m s l)(path:List Int)(hp:(path.length:Int)≤m.levels):TP Tryz.prog 20 [qax m,encV (cfgN m.levels s l),.list (qab path)] (.tup [.int .i64 (cntF l path),.int .i64 0]):=by
 have hck:=qfO m hm
 rw[h0] at hck
 have hvv:=qkM m (cfgN m.levels s l) hm o.fit
 rw[(qiH hk h0 _).2 ⟨s,l,rfl,o⟩] at hvv
 obtain⟨b1,b2,b3,b4,b5,b6,b7⟩:=qbf hk h0
 have hL:m.levels=1∨m.levels=2:=by omega
 have hlen:=o.len
 have hkk:=o.kids
 have hnn:=qkQ m hL s l (by omega) o.leaf fun x hx=>by have:=hkk x hx;omega
 have hpp:=qkV l path (by omega) fun x hx=>by have:=hkk x hx;omega
 have hql:(qb5 (qa4 l path)).length=cntF l path:=by rw[qcB,qcw]
 have hpl:(qab path).length=path.length:=qah _
 have hz:((0:Int) != 0)=false:=rfl
 have hk4:(m.kind != 4)=false:=by simp[hk]
 have hd:decide ((path.length:Int) > m.levels)=false:=decide_eq_false (by omega)
 simp only[cfgN,bagV,encV,qac] at hvv hnn
 have fX:=(cJ2 @hql @hpl)
 refine qan fn20 (by simp) ?_
 unfold i20
 simp only[argL,encV,qax,mdC,cfgN,bagV,qac]
 refine wR0 0 [2,3,4] fX ?_
 refine wRn 100 [2,3,4,8] fX ?_
 refine rC fX ?_
 refine⟨_,hck,rE fX ?_⟩
 refine wR0 200 [2,3,4,8,12] fX ?_
 refine wF @hz ?_
 refine wR0 400 [2,3,4,14] fX ?_
 refine wF @hk4 ?_
 refine wRn 600 [2,3,4,18] fX ?_
 refine rC fX ?_
 refine⟨_,hvv,rE fX ?_⟩
 refine wF @Bool.not_true ?_
 refine wR0 800 [2,3,4,23] fX ?_
 refine wF @hd ?_
 refine wRn 1000 [6,7] fX ?_
 refine rC fX ?_
 refine⟨_,hnn,rN fX ?_⟩
 refine rC fX ?_
 refine⟨_,hpp,rE fX ?_⟩
 refine wP ?_
 exact Frz.tupL (.cons (.same rfl) (.cons (.same rfl) .nil))
end
section
open Go.RowKit
set_option maxHeartbeats 2000000
theorem quO (l:List Int):TC Tryz.prog 11 [.list (qab l)] (hpL []) (.ref 102 3 0) (hpL [(102,dkB ⟨l,0,11400714819323198485⟩)]):=by
 refine qcj fn11 (by simp) ?_
 unfold i11
 simp only[argL]
 refine wR0 0 [0] cJ0 ?_
 refine wR0 100 [2] cJ0 ?_
 refine wE ?_
 refine wN ?_
 exact⟨by simp,rfl,rfl⟩
def dk0 (l:List Int):Dk:=⟨l,0,11400714819323198485⟩
theorem qm2 {l:List Int}(h:l.length≤400):(dk0 l).ok:=⟨by simp only[dk0];omega,by simp only[dk0];omega⟩
theorem qnx (l:List Int):TC Tryz.prog 11 [.list (qab l)] (hpL []) dkR (hpL [(99999,dkB (dk0 l))]):=by
 have r1:∀σ:Nat→Nat,renL σ (qab l)=qab l:=fun σ=>qby _ (qae _ l)
 refine qg0 [(102,99999)] (quO l) ?_ rfl rfl ?_
 ·simp[renL,T.ren,r1]
 ·simp[renL,T.ren,swps,swp,Slot.ren,r1,dk0]
theorem qm3 (l:List Int):TP Tryz.prog 9 [.list (qab l)] (.bool (decide (l.length≤400))):=by
 have e:decide ((l.length:Int)≤400)=decide (l.length≤400):=decide_eq_decide.2 (by omega)
 rw[←e]
 have fX:=@qah
 refine qan fn9 (by simp) ?_
 unfold i9
 simp only[argL]
 refine wR0 0 [0] fX ?_
 refine wR0 100 [2] fX ?_
 refine wP ?_
 exact .same rfl
end
end Go.Proofs.YtpplncjaihgimaaGreat
