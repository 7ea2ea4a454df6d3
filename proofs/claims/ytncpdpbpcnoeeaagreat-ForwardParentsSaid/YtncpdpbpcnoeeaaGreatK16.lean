/- Contracts of functions of the program, for all arguments that they name. -/
import Derived.Test.YtncpdpbpcnoeeaaGreatK13
import Derived.Test.YtncpdpbpcnoeeaaGreatK15
namespace Go.Proofs.YtncpdpbpcnoeeaaGreat
set_option linter.unusedVariables false
section
open Go.RowKit
theorem qpc {l:List Nn}(hp:Par l)(s:Int):∀(f:Nat) (i:Int),i<l.length→∀j∈upF l s f i,j<l.length
 | 0,_,_,j,hj=>by cases hj
 | f+1,i,hi,j,hj=>by
  rw[upF] at hj
  split at hj
  ·cases hj
  ·rename_i hn
   have hb:=hp i.toNat (by omega)
   rcases List.mem_append.1 hj with h | h
   ·split at h
    ·rw[List.mem_singleton.1 h];omega
    ·cases h
   ·exact qpc hp s f _ (by omega) j h
theorem qnh {l:List Nn}(hp:Par l)(s i:Int)(hi:i<l.length):∀j∈upL l s i,j<l.length:=qpc hp s _ i hi
theorem X_skip {P:Program}{N:Nat}{ro:Option Nat}{env:Nat→T}{H:Heap}{Q:XE→(Nat→T)→Heap→Prop}(h:Q .normal env H):XRun P N ro .skip env H Q:=fun w0 A0 μ0 H0 a w A μ hs Q' hQ=>wpIn_skip (hQ .normal env H a w A μ h hs)
def upV (l:List Nn)(s i:Int):List (List Int):=(upL l s i).map fun j=>(l.getD j default).vec
theorem qqM {x9 x15 x17 x y:T}{l:List Nn}{next p s:Int}{n:Nat}(t:Nat):ofL (raE l next p s n x9 x15 y) t=qfS [16,17] [x,y] (ofL (raE l next p s n x9 x15 x17)) t∨ofL (raE l next p s n x9 x15 y) t=.undef:=by
 simp only[qfS,putE]
 by_cases h17:t=17
 ·subst h17;left;rfl
 ·by_cases h16:t=16
  ·subst h16;right;rfl
  ·left
   rw[if_neg h17,if_neg h16]
   simp only[qbk,qfA]
   repeat (split;rfl)
   first
    | rfl
    | (rw[if_neg (fun h=>h17 h.symm),if_neg (fun h=>h17 h.symm)])
    | simp[h17]
set_option maxHeartbeats 4000000 in
theorem qkI (l:List Nn)(hp:Par l)(hl:l≠[])(hll:l.length≤100000)(next p s:Int)(hpi:-1≤p∧p<l.length)(n:Nat)(hn:n≤1000000)(hvec:∀j,j<l.length→(l.getD j default).vec.length=n)(F:List Int)
 (Q:XE→(Nat→T)→Heap→Prop) (hQ:∀env,Q .normal env (hpL (raH l next n F))) (v:List Int) (hv:v.length=n) (hF:qaZ (upV l s p) v=F) (x9 x15 x17:T) {g:Operand} {assign body r1 lab:Code} (hlab:∀env H (Q:XE→(Nat→T)→Heap→Prop),Q .normal env H→XRun Tryz.prog 39 none lab env H Q)
 (hr1:qah Tryz.prog 39 r1=some qnR) (ha:qah Tryz.prog 39 assign=some qnS) (hg:opd g=some (.tmp 15)) {p3 p4:Code} (hb:body=.block 1 (.seq p3 (.seq p4 (.goto 0)))) (h3:qah Tryz.prog 39 p3=some qlZ) (h4:qah Tryz.prog 39 p4=some qnT)
 (K:(Nat→T)→Heap→Prop) (hK:∀v',v'.length=n→bnd v'<bnd v→qaZ (upV l s p) v'=F→∀y9 y15 y17,K (ofL (raE l next p s n y9 y15 y17)) (hpL (raH l next n v'))) :
 XRun Tryz.prog 39 none (.seq lab (.seq r1 (.block 0 (.rangeFunc g #[16,17] assign body)))) (ofL (raE l next p s n x9 x15 x17)) (hpL (raH l next n v)) (jmpX 0 K Q):=by
 subst hb
 refine qeU (hlab _ _ _ ?_)
 show XRun _ _ _ _ _ _ _
 refine qeU (qcW hr1 ?_)
 subst hv
 refine qog l next p s v x9 x15 x17 _ ?_
 show XRun _ _ _ _ _ _ _
 refine qip ?_
 have hH:hpL (raH l next v.length v) 700=sG l:=rfl
 refine X_rng (caps:=qeB 700 l next p s) (xs:=upX l (upL l s p)) hg rfl (qni hp hl hll hpi hH) (fun q hq=>by
  simp only[List.mem_cons,List.not_mem_nil,or_false] at hq
  rcases hq with rfl | rfl<;>decide) (fun x hx=>by
  obtain⟨j,_,rfl⟩:=List.mem_map.1 hx;rfl) (fun k=>qcT ((upV l s p).getD k []) v=false) (fun k e H'=>e=.goto 0∧qcT ((upV l s p).getD k []) v=true∧H'=hpL (raH l next v.length (qbK ((upV l s p).getD k []) v))) ?_ ?_ ?_
 ·intro k hk _ lp
  have hk':k<(upL l s p).length:=by simpa [upX] using hk
  have hjl:=qnh hp s p hpi.2 _ (List.getElem_mem hk')
  obtain⟨a,haE⟩:∃a,(upV l s p).getD k []=a:=⟨_,rfl⟩
  have haV:(l.getD (upL l s p)[k] default).vec=a:=by rw[←haE];simp[upV,List.getD_eq_getElem?_getD,hk']
  have hal:a.length=v.length:=by rw[←haV];exact hvec _ hjl
  have hxs:(upX l (upL l s p)).getD k []=[.int .i64 (((upL l s p)[k]:Nat):Int),.list (qab a)]:=by
   rw[←haV];simp[upX,List.getD_eq_getElem?_getD,hk']
  rw[hxs]
  simp only[haE]
  refine⟨_,_,ha,qja qqM (qoh l next p s v _ _ (.list (qab a)) _ ⟨rfl,rfl,rfl⟩),?_⟩
  refine qip ?_
  refine qeU (qcW h3 ?_)
  refine qoi l next p s v a (by omega) hn _ _ _ (fun hlb x=>?_) (fun hlb x=>?_)
  ·simp[IExit.x,thnX,inBX,hlb]
  ·show XRun _ _ _ _ _ _ _
   refine qeU (qcW h4 ?_)
   refine qoj l next p s v a v.length rfl hal hn _ _ _ _ (fun env=>?_)
   show XRun _ _ _ _ _ _ _
   refine X_goto ?_
   exact .inr ⟨by simp,rfl,hlb,rfl⟩
 ·intro hC
  show Q .normal _ _
  have hno:∀a∈upV l s p,qcT a v=false:=fun a ha=>by
   obtain⟨k,hk,rfl⟩:=List.getElem_of_mem ha
   have:=hC k (by simpa [upX,upV] using hk)
   simpa [List.getD_eq_getElem?_getD,hk] using this
  rw[qiR hno] at hF
  rw[←hF] at hQ
  exact hQ _
 ·rintro k e H' hk hC hne ⟨rfl,hlb,rfl⟩
  have hk':k<(upV l s p).length:=by simpa [upX,upV] using hk
  refine⟨rfl,hK _ (qa3 _ _) (qeX hlb) ?_ _ _ _⟩
  rw[←hF]
  exact (qiS hk' hC hlb).symm
theorem qkH:∃r0 r1 g assign p3 p4,Tryz.f93.body=some (.seq r0 (.scope (.seq (.label 0) (.seq r1 (.block 0 (.rangeFunc g #[16,17] assign (.block 1 (.seq p3 (.seq p4 (.goto 0))))))))))∧
 qah Tryz.prog 39 r0=some qp3∧qah Tryz.prog 39 r1=some qnR∧qah Tryz.prog 39 assign=some qnS∧qah Tryz.prog 39 p3=some qlZ∧qah Tryz.prog 39 p4=some qnT∧opd g=some (.tmp 15):=
 ⟨_,_,_,_,_,_,rfl,by kernel_rfl,by kernel_rfl,by kernel_rfl,by kernel_rfl,by kernel_rfl,by rfl⟩
set_option maxHeartbeats 4000000 in
theorem qok (l:List Nn)(hp:Par l)(hl:l≠[])(hll:l.length≤100000)(next p s:Int)(hpi:-1≤p∧p<l.length)(v:List Int)(hn:v.length≤1000000)(hvec:∀j,j<l.length→(l.getD j default).vec.length=v.length) :
 TC Tryz.prog 93 [.agg (grT 700 l next),.int .i64 p,.int .i64 s,.sl 701 v.length 0 0 v.length] (hpL [(700,sG l),(701,sVv v)]) (.tup []) (hpL [(700,sG l),(701,sVv (qaZ (upV l s p) v))]):=by
 obtain⟨r0,r1,g,assign,p3,p4,hb,c0,c1,c2,c3,c4,hg⟩:=qkH
 have pass:∀(lab:Code) (hlab:∀env H (Q:XE→(Nat→T)→Heap→Prop),Q .normal env H→XRun Tryz.prog 39 none lab env H Q) (v':List Int) (x9 x15 x17:T) (K:(Nat→T)→Heap→Prop),v'.length=v.length→qaZ (upV l s p) v'=qaZ (upV l s p) v→(∀v2,v2.length=v.length→bnd v2<bnd v'→qaZ (upV l s p) v2=qaZ (upV l s p) v→∀y9 y15 y17,K (ofL (raE l next p s v.length y9 y15 y17)) (hpL (raH l next v.length v2)))→_:=fun lab hlab v' x9 x15 x17 K h1 h3 hK=>
  qkI l hp hl hll next p s hpi v.length hn hvec _ (fun e env' H''=>(e=.ret∨e=.normal)∧resT env' H'' []=some (.tup [])∧H''=hpL (raH l next v.length (qaZ (upV l s p) v))) (fun env=>⟨.inr rfl,rfl,rfl⟩) v' h1 h3 x9 x15 x17 hlab c1 c2 hg rfl c3 c4 K hK
 have key:TC Tryz.prog 93 [.agg (grT 700 l next),.int .i64 p,.int .i64 s,.sl 701 v.length 0 0 v.length] (hpL [(700,sG l),(701,sVv v)]) (.tup []) (hpL (raH l next v.length (qaZ (upV l s p) v))):=by
  refine TC_X (N:=39) (rs:=[]) Tryz.func93 hb rfl Tryz.call93 rfl (by simp) ?_
  refine qeU (qcW c0 ?_)
  refine qof l next p s v _ ?_
  show XRun _ _ _ _ _ _ _
  refine qpg (rest:=.seq .skip (.seq r1 (.block 0 (.rangeFunc g #[16,17] assign (.block 1 (.seq p3 (.seq p4 (.goto 0)))))))) 0 rfl (fun n env H=>∃v' x9 x15 x17,v'.length=v.length∧bnd v'=n∧qaZ (upV l s p) v'=qaZ (upV l s p) v∧env=ofL (raE l next p s v.length x9 x15 x17)∧H=hpL (raH l next v.length v')) ?_ ?_
  ·refine pass _ (fun env H Q h=>qpf h) v _ _ _ _ rfl rfl ?_
   exact fun v' h1 _ h3 y9 y15 y17=>⟨_,v',y9,y15,y17,h1,rfl,h3,rfl,rfl⟩
  ·rintro n env H ⟨v',x9,x15,x17,h1,h2,h3,rfl,rfl⟩
   refine pass _ (fun env H Q h=>X_skip h) v' _ _ _ _ h1 h3 ?_
   exact fun v2 k1 k2 k3 y9 y15 y17=>⟨_,h2▸k2,v2,y9,y15,y17,k1,rfl,k3,rfl,rfl⟩
 exact qc7 [700,701] key rfl rfl (by simp[qak,inL,Slot.cl,qaW,qae])
end
section
open Go.RowKit
set_option maxHeartbeats 2000000
attribute [local simp] qae
theorem qmx (r:Rl):TP Tryz.prog 88 [qaU r] (.bool (decide ((r.move.length:Int) > 0))):=by
 refine qai fn88 (by simp) ?_
 unfold i88
 simp only[argL,qaU,rlC]
 refine wR0 0 [1] cJ0 ?_
 refine wR0 100 [2] cJ0 ?_
 refine wP ?_
 exact qad (by rw[qac])
def qjV (m:Md):Bool:=(m.kind==1)&&!m.rules.any fun r=>decide ((r.move.length:Int) > 0)
theorem qod (m:Md)(hm:m.fit):TP Tryz.prog 53 [qaA m] (.bool (qjV m)):=by
 have hl:=hm.rules
 refine qai fn53 (by simp) ?_
 unfold i53
 simp only[argL,qaA,mdC]
 refine wR0 0 [1] cJ0 ?_
 refine wRn 100 [2] cJ0 ?_
 refine rCi cJ0 ?_
 refine⟨_,fun hw=>qlj 88 [] rfl (fun r=>decide ((r.move.length:Int) > 0)) m.rules (by omega) (fun k hk=>qmx k),rE cJ0 ?_⟩
 refine wP ?_
 exact qad rfl
def qbs (m:Md):Int:=if qcM m≠0 then qcM m else if qjV m=true then 0 else 15
theorem qhn (m:Md)(hm:m.fit):TP Tryz.prog 27 [qaA m] (.int .i64 (qbs m)):=by
 have hc:=qmd m hm
 have hp:=qod m hm
 simp only[qaA] at hc hp
 refine qai fn27 (by simp) ?_
 unfold i27
 simp only[argL,qaA,mdC]
 refine wR0 0 [1] cJ0 ?_
 refine wRn 100 [1,3] @mdC.eq_1 ?_
 refine rC @mdC.eq_1 ?_
 refine⟨_,hc,rE @mdC.eq_1 ?_⟩
 refine wR0 200 [1,3,7] cJ0 ?_
 refine wS cJ0 (fun hc200=>?_) (fun hc200=>?_)
 ·skip
  refine wR0 300 [2] cJ0 ?_
  refine wP ?_
  exact qaB (by simp at hc200;rw[qbs,if_pos hc200])
 ·skip
  refine wRn 400 [11] @mdC.eq_1 ?_
  refine rC @mdC.eq_1 ?_
  refine⟨_,hp,rE @mdC.eq_1 ?_⟩
  refine wS cJ0 (fun hc400=>?_) (fun hc400=>?_)
  ·skip
   refine wR0 500 [2] cJ0 ?_
   refine wP ?_
   exact qaB (by simp at hc200 hc400;rw[qbs,if_neg (by simp[hc200]),if_neg (by simp[hc400])])
  ·skip
   refine wR0 600 [2] cJ0 ?_
   refine wP ?_
   exact qaB (by simp at hc200 hc400;rw[qbs,if_neg (by simp[hc200]),if_pos (by simp[hc400])])
def qdS (r:Rl)(s:Int)(v:List Int):Bool:=(r.from_==s)&&allI (fun j=>!decide (v.getD j 0<r.need.getD j 0)) 0 r.need.length
theorem fits_l (r:Rl)(a b:List Int)(hl:a.length≤1000000)(hab:a.length=b.length)(Q:IExit→(Nat→T)→Heap→Prop):∀(k i:Nat),i+k=a.length→
 (allI (fun j=>!decide (b.getD j 0<a.getD j 0)) i k=true→∀j:Int,Q (.exit 0) (ofL [(2,.list (qab b)),(14,.list (qab a)),(15,.int .i64 (qab a).length),(16,.int .i64 j),(17,.bool false)]) (hpL [(0,.live ⟨66,rlC r⟩)]))→
 (allI (fun j=>!decide (b.getD j 0<a.getD j 0)) i k=false→Q .ret (ofL [(6,.bool false)]) (hpL [(0,.live ⟨66,rlC r⟩)]))→
 WL Tryz.prog 28 qjE (ofL [(2,.list (qab b)),(14,.list (qab a)),(15,.int .i64 (qab a).length),(16,.int .i64 i)]) (hpL [(0,.live ⟨66,rlC r⟩)]) Q:=by
 simp only[rlC]
 intro k
 induction k with
 | zero=>
  intro i hk hQ0 hQ1
  have hd:decide ((i:Int)<((qab a).length:Int))=false:=decide_eq_false (by rw[qac];omega)
  have fX:=@hd
  refine qaa qjE.eq_1 ?_
  refine wR0 400 [2,14,15,16,17] fX ?_
  refine wF @hd ?_
  refine wX ?_
  refine wN ?_
  exact hQ0 rfl _
 | succ k ih=>
  intro i hk hQ0 hQ1
  have hlt:(i:Int)<((qab a).length:Int):=by rw[qac];omega
  have hd:decide ((i:Int)<((qab a).length:Int))=true:=decide_eq_true hlt
  have hw:IntKind.wrap .i64 ((i:Int)+1)=((i+1:Nat):Int):=by rw[wrap64 (by omega) (by omega)];rfl
  have hga:=qaE a i (by omega);have hgb:=qaE b i (by omega);have hlb:(i:Int)<((qab b).length:Int):=by rw[qac];omega
  have fX:=(cJ4 @hd @hw @hga @hgb)
  refine qaa qjE.eq_1 ?_
  refine wR0 400 [2,14,15,16,17] fX ?_
  refine wT @hd ?_
  refine wR0 500 [2,7,8,14,15,16] fX ?_
  refine wR0 600 [2,14,15,16,26] fX ?_
  refine wS cJ0 (fun hc600=>?_) (fun hc600=>?_)
  ·skip
   refine wR0 700 [6] fX ?_
   refine wE ?_
   refine wN ?_
   simp at hc600
   exact hQ1 (by simp[allI,hc600])
  ·skip
   refine wR0 800 [2,14,15,16] fX ?_
   refine wN ?_
   simp at hc600
   have e:allI (fun j=>!decide (b.getD j 0<a.getD j 0)) i (k+1)=allI (fun j=>!decide (b.getD j 0<a.getD j 0)) (i+1) k:=(by simp[allI,hc600])
   rw[e] at hQ0 hQ1
   exact ih (i+1) (by omega) hQ0 hQ1
theorem qpF (r:Rl)(s:Int)(v:List Int)(hr:r.need.length=v.length)(hl:v.length≤1000000):TP Tryz.prog 91 [qaU r,.int .i64 s,.list (qab v)] (.bool (qdS r s v)):=by
 refine qai fn91 (by simp) ?_
 unfold i91
 simp only[argL,qaU,rlC]
 refine wR0 0 [1,2,3] cJ0 ?_
 refine wR0 100 [2,3,12] cJ0 ?_
 refine wS cJ0 (fun hc100=>?_) (fun hc100=>?_)
 ·skip
  refine wR0 200 [6] cJ0 ?_
  refine wP ?_
  exact qad (by simp at hc100;simp[qdS,hc100])
 ·skip
  refine wR0 300 [2,14,15,16] cJ0 ?_
  refine wL ?_
  refine fits_l r r.need v (by omega) hr _ r.need.length 0 (by omega) ?_ ?_
  ·intro h i
   refine wN ?_
   refine wR0 900 [6] cJ0 ?_
   refine wP ?_
   exact qad (by simp at hc100;rw[qdS,h,hc100];simp)
  ·intro h
   refine wN ?_
   exact⟨by simp,_,rfl,by exact qad (by simp at hc100;rw[qdS,h];simp)⟩
def aft1 (r:Rl)(v:List Int)(j:Nat):Int:=if v.getD j 0=1099511627776 then 1099511627776 else v.getD j 0 - r.need.getD j 0+r.give.getD j 0
def aftR (r:Rl)(v:List Int):List Int:=(List.range v.length).map (aft1 r v)
def aftO (r:Rl)(v:List Int):Bool:=allI (fun j=>(v.getD j 0==1099511627776) || decide (aft1 r v j≤1048576)) 0 v.length
theorem qbB (r:Rl)(v:List Int):(aftR r v).length=v.length:=by simp[aftR]
theorem qcD (r:Rl)(v:List Int)(j:Nat)(h:j<v.length):(aftR r v).getD j 0=aft1 r v j:=by simp[aftR,List.getD_eq_getElem?_getD,h]
end
section
open Go.RowKit
set_option maxHeartbeats 2000000
attribute [local simp] qae
theorem rp0 (zs:List T):repl 0 zs=[]:=rfl
theorem qnu (x:Int)(l:List Int)(hl:(x::l).length≤1000000):TC Tryz.prog 33 [.list (qab (x::l))] (hpL []) (.sl 300 (l.length+1) 0 0 (l.length+1)) (hpL [(300,.live ⟨3,qab (x::l)⟩)]):=by
 have hsz:=qfc (x::l)
 have hle:l.length+1≤1000000000:=by simp at hl;omega
 have hne:qab (x::l)≠[]:=by simp
 have hlen:(qab (x::l)).length=l.length+1:=by simp[qac]
 have hq:binT .eql .slice (.list (qab (x::l))) .nil=some (.bool false):=rfl
 have fX:=(cJ5 @qby @hsz @hq @rp0 @hlen)
 refine qd9 fn33 (by simp) ?_
 unfold i33
 simp only[argL]
 refine wR0 0 [0] fX ?_
 refine wR0 100 [0,4] fX ?_
 refine wF @true_and ?_
 refine wR0 300 [2] fX ?_
 refine wE ?_
 refine wN ?_
 first | exact⟨by simp,rfl,rfl⟩ | exact⟨by simp,rfl,trivial⟩
theorem qlm (v:List Int)(hv:v≠[])(hl:v.length≤1000000):TC Tryz.prog 33 [.list (qab v)] (hpL []) (.sl 701 v.length 0 0 v.length) (hpL [(701,sVv v)]):=by
 cases v with
 | nil=>exact absurd rfl hv
 | cons x l=>
  have q3:∀(σ:Nat→Nat) (l:List Int),renL σ (qab l)=qab l:=fun σ l=>qbe _ (qae _ l)
  refine qhe [(300,701)] (qnu x l hl) ?_ rfl ?_ ?_
  ·simp[renL,T.ren,q3]
  ·simp[T.ren,swps,swp]
  ·simp[Slot.ren,swps,swp,q3]
structure RoomR (r:Rl) (v:List Int):Prop where
 need:r.need.length=v.length
 give:r.give.length=v.length
 needB:∀j,0≤r.need.getD j 0∧r.need.getD j 0≤1048576
 giveB:∀j,0≤r.give.getD j 0∧r.give.getD j 0≤1048576
 vec:∀j,0≤v.getD j 0∧(v.getD j 0≤1048576∨v.getD j 0=1099511627776)
def mixA (r:Rl)(v:List Int)(i:Nat):List Int:=(aftR r v).take i++v.drop i
theorem qgT (r:Rl)(v:List Int)(i:Nat)(h:i≤v.length):(mixA r v i).length=v.length:=by simp[mixA,qbB];omega
theorem qjK (r:Rl)(v:List Int)(i:Nat)(h:i<v.length):(mixA r v i).getD i 0=v.getD i 0:=by
 simp only[mixA,List.getD_eq_getElem?_getD]
 rw[List.getElem?_append_right (by rw[List.length_take];omega),List.length_take,qbB,Nat.min_eq_left (by omega),Nat.sub_self]
 simp
theorem qhX (r:Rl)(v:List Int)(i:Nat)(h:i<v.length):mixA r v (i+1)=(mixA r v i).set i ((aftR r v).getD i 0):=by
 have hr:i<(aftR r v).length:=by rw[qbB];exact h
 rw[mixA,qc6 _ _ hr,mixA,List.set_append_right _ _ (by rw[List.length_take];omega),List.length_take,qbB,Nat.min_eq_left (by omega),Nat.sub_self,List.drop_eq_getElem_cons h,List.set_cons_zero]
 simp
theorem qmf (r:Rl)(v:List Int)(i:Nat)(h:i<v.length)(hc:v.getD i 0=1099511627776):mixA r v (i+1)=mixA r v i:=by
 rw[qhX r v i h,qcD _ _ _ h,aft1,if_pos hc,←hc,←qjK r v i h]
 have hm:i<(mixA r v i).length:=by rw[qgT r v i (by omega)];exact h
 apply List.ext_getElem
 ·simp
 ·intro k h1 h2
  rw[List.getElem_set]
  split
  ·rename_i e;subst e;simp[List.getD_eq_getElem?_getD,hm]
  ·rfl
abbrev afH (r:Rl)(w:List Int):List (Nat×Slot):=[(0,.live ⟨66,rlC r⟩),(701,sVv w)]
abbrev afE (n:Nat)(v:List Int)(b:Bool)(i:Int):List (Nat×T):=[(2,.ref 0 14 0),(6,.sl 701 n 0 0 n),(7,.bool b),(12,.list (qab v)),(13,.int .i64 (qab v).length),(14,.int .i64 i)]
set_option maxHeartbeats 4000000 in
theorem qpi (r:Rl)(v:List Int)(n:Nat)(hn:v.length=n)(hl:n≤1000000)(hr:RoomR r v)(Q:IExit→(Nat→T)→Heap→Prop)
 (hQ:∀j:Int,Q (.exit 0) (ofL (afE n v (aftO r v) j++[(15,.bool false)])) (hpL (afH r (aftR r v)))):∀(k i:Nat),i+k=n→∀b:Bool,(b&&allI (fun j=>(v.getD j 0==1099511627776) || decide (aft1 r v j≤1048576)) i k)=aftO r v→
 WL Tryz.prog 48 qhM (ofL (afE n v b i)) (hpL (afH r (mixA r v i))) Q:=by
 simp only[afE,afH,rlC,List.cons_append,List.nil_append] at hQ ⊢
 have hal:(qab v).length=n:=by rw[qac];exact hn
 intro k
 induction k with
 | zero=>
  intro i hk b hb
  have hd:decide ((i:Int)<((qab v).length:Int))=false:=decide_eq_false (by omega)
  have e:mixA r v i=aftR r v:=by
   rw[mixA,List.take_of_length_le (by rw[qbB];omega),List.drop_of_length_le (by omega),List.append_nil]
  simp only[allI,Bool.and_true] at hb
  rw[e,hb]
  have fX:=@hd
  refine qaa qhM.eq_1 ?_
  refine wR0 300 [2,6,7,12,13,14,15] fX ?_
  refine wF @hd ?_
  refine wX ?_
  refine wN ?_
  exact hQ _
 | succ k ih=>
  intro i hk b hb
  have hi:i<v.length:=by omega
  have hlt:(i:Int)<((qab v).length:Int):=by omega
  have hd:decide ((i:Int)<((qab v).length:Int))=true:=decide_eq_true hlt
  have hw:IntKind.wrap .i64 ((i:Int)+1)=((i+1:Nat):Int):=by rw[wrap64 (by omega) (by omega)];rfl
  have hga:=qaE v i (by omega)
  have hml:=qgT r v i (by omega)
  have hj1:((i:Nat):Int).toNat*1=i:=by simp
  have hin:(i:Int)<(n:Int):=by omega
  have hel:(qab (mixA r v i)).length=n:=by rw[qac];omega
  have hsr:=qmE (mixA r v i) i (by omega)
  rw[qjK r v i hi] at hsr
  by_cases hc:v.getD i 0=1099511627776
  ·have hcd:(!decide (v.getD i 0=1099511627776))=false:=by rw[hc];rfl
   have hQ':=ih (i+1) (by omega) b (by rw[←hb,allI,hc];simp)
   rw[qmf r v i hi hc] at hQ'
   have fX:=(cJ7 @hd @hw @hga @hj1 @hel @hsr @hcd)
   refine qaa qhM.eq_1 ?_
   refine wR0 300 [2,6,7,12,13,14,15] fX ?_
   refine wT @hd ?_
   refine wR0 400 [2,6,7,8,9,12,13,14] fX ?_
   refine wR0 500 [2,6,7,8,9,12,13,14,20] fX ?_
   refine wF @hcd ?_
   refine wR0 800 [2,6,7,12,13,14] fX ?_
   refine wN ?_
   exact hQ'
  ·have hcd:(!decide (v.getD i 0=1099511627776))=true:=by rw[Bool.not_eq_true',decide_eq_false_iff_not];exact hc
   have hbe:(v.getD i 0==1099511627776)=false:=beq_eq_false_iff_ne.2 hc
   have hgn:=qaE r.need i (by have:=hr.need;omega)
   have hgg:=qaE r.give i (by have:=hr.give;omega)
   have hln:(i:Int)<((qab r.need).length:Int):=by rw[qac];have:=hr.need;omega
   have hlg:(i:Int)<((qab r.give).length:Int):=by rw[qac];have:=hr.give;omega
   have h1:=hr.needB i
   have h2:=hr.giveB i
   have h3:=hr.vec i
   have hw1:IntKind.wrap .i64 (v.getD i 0 - r.need.getD i 0)=v.getD i 0 - r.need.getD i 0:=wrap64 (by omega) (by omega)
   have hw2:IntKind.wrap .i64 (v.getD i 0 - r.need.getD i 0+r.give.getD i 0)=v.getD i 0 - r.need.getD i 0+r.give.getD i 0:=wrap64 (by omega) (by omega)
   have hsw:=qkf (mixA r v i) (v.getD i 0 - r.need.getD i 0+r.give.getD i 0) i (by omega)
   have ha1:aft1 r v i=v.getD i 0 - r.need.getD i 0+r.give.getD i 0:=by rw[aft1,if_neg hc]
   have hms:=qhX r v i hi
   rw[qcD _ _ _ hi,ha1] at hms
   rw[←hms] at hsw
   have hml2:=qgT r v (i+1) (by omega)
   have hel2:(qab (mixA r v (i+1))).length=n:=by rw[qac];omega
   have hsr2:=qmE (mixA r v (i+1)) i (by omega)
   have hg2:(mixA r v (i+1)).getD i 0=v.getD i 0 - r.need.getD i 0+r.give.getD i 0:=by
    rw[hms,List.getD_eq_getElem?_getD,List.getElem?_set_self (by omega)];rfl
   rw[hg2] at hsr2
   have hQ':=ih (i+1) (by omega) (b&&decide (v.getD i 0 - r.need.getD i 0+r.give.getD i 0≤1048576)) (by rw[←hb,allI];simp only[ha1,hbe,Bool.false_or,Bool.and_assoc])
   have fX:=(cJ8 @hd @hw @hga @hj1 @hel @hsr @hcd (cJ7 @hgn @hgg @hw1 @hw2 @hsw @hel2 @hsr2))
   refine qaa qhM.eq_1 ?_
   refine wR0 300 [2,6,7,12,13,14,15] fX ?_
   refine wT @hd ?_
   refine wR0 400 [2,6,7,8,9,12,13,14] fX ?_
   refine wR0 500 [2,6,7,8,9,12,13,14,20] fX ?_
   refine wT @hcd ?_
   refine wR0 600 [2,6,7,8,12,13,14] fX ?_
   refine wR0 700 [2,6,7,12,13,14] fX ?_
   refine wR0 800 [2,6,7,12,13,14] fX ?_
   refine wN ?_
   exact hQ'
theorem qnq (r:Rl)(v:List Int)(hv:v≠[])(hl:v.length≤1000000)(hr:RoomR r v) :
 TC Tryz.prog 92 [qaU r,.list (qab v)] (hpL []) (.tup [.sl 701 v.length 0 0 v.length,.bool (aftO r v)]) (hpL [(701,sVv (aftR r v))]):=by
 have hL:=fun Q h=>qpi r v v.length rfl hl hr Q h v.length 0 (by omega) true (by rw[Bool.true_and];rfl)
 have e0:mixA r v 0=v:=by simp[mixA]
 rw[e0] at hL
 have hcv:=qlm v hv hl
 simp only[afE,afH,rlC,List.cons_append,List.nil_append] at hL
 have key:TC Tryz.prog 92 [qaU r,.list (qab v)] (hpL []) (.tup [.sl 701 v.length 0 0 v.length,.bool (aftO r v)]) (hpL (afH r (aftR r v))):=by
  refine qd9 fn92 (by simp) ?_
  unfold i92
  simp only[argL,qaU,rlC]
  refine wR0 0 [1,2] cJ0 ?_
  refine wRn 100 [1,2,6,7] cJ0 ?_
  refine rU [] [(701,sVv v)] cJ0 ?_
  refine⟨_,hcv,rE cJ0 ?_⟩
  refine wR0 200 [2,6,7,12,13,14] cJ0 ?_
  refine wL ?_
  refine hL _ ?_
  ·intro j
   refine wN ?_
   refine wR0 900 [4,5] cJ0 ?_
   refine wE ?_
   refine wN ?_
   first | exact⟨by simp,rfl,rfl⟩ | exact⟨by simp,rfl,trivial⟩
 exact qc7 [701] key rfl rfl (by simp[qak,inL,Slot.cl,qae])
end
end Go.Proofs.YtncpdpbpcnoeeaaGreat
