/- Contracts of functions of the program, for all arguments that they name. -/
import Derived.Test.YtkbjpglehdhjfaaGreatDoorK20
import Derived.Test.YtkbjpglehdhjfaaGreatDoorK26
namespace Go.Proofs.YtkbjpglehdhjfaaGreatDoor
set_option linter.unusedVariables false
section
open Go.RowKit
set_option maxHeartbeats 2000000
def qqG (a b:V):Bool:=cmpV a b==0
theorem qqI (a b:V)(h:a.fit):TP Tryz.prog 24 [encV a,encV b] (.bool (qqG a b)):=by
 rcases a with⟨A,xs⟩
 rcases b with⟨B,ys⟩
 refine qag fn24 (by simp) ?_
 unfold i24
 simp only[argL,encV]
 refine wN ?_
 refine wR0 0 [2,3] cJ0 ?_
 refine wN ?_
 refine wRn 100 [4] cJ0 ?_
 refine rC cJ0 ?_
 refine⟨_,qme (.mk A xs) (.mk B ys) h,rE cJ0 ?_⟩
 refine wN ?_
 refine qaW ?_
 (try simp only)
 exact⟨by simp,_,rfl,by exact .same rfl⟩
end
section
open Go.RowKit
set_option maxHeartbeats 2000000
attribute [local simp] qah qak qax
structure St3 where
 q:Int
 s:Int
 v:List Int
def stC (x:St3):List T:=[.int .i64 x.q,.int .i64 0,.list (.agg [.int .i64 x.s,.list []]::qaj (x.v.map natV))]
theorem qf1 (D:Nat→Bool)(x:St3):clL D (stC x)=true:=by simp[stC,clL,T.cl,qak]
def qbG (l:List St3):List T:=l.map fun x=>.agg (stC x)
end
section
open Go.RowKit
set_option maxHeartbeats 2000000
attribute [local simp] qah qak qax qaT
instance:Inhabited St3:=⟨⟨0,0,[]⟩⟩
end
section
open Go.RowKit
theorem qrT {p:Pg}{x:Int×Ev}(hx:MgOk p x)(r:Nat){s:Int}{v:List Int}(hl:v.length=(plcs p).length)(hv:∀j,0≤v.getD j 0):qcn (mrl p r x) s v=((x.1==s)&&decide (v.getD (evNo p x.2) 0 > 0)):=by
 have hno:=hx.no
 rw[qcn,(qjQ p r x).1]
 show ((x.1==s)&&_)=_
 congr 1
 rw[Bool.eq_iff_iff,qdR,decide_eq_true_eq]
 constructor
 ·intro h
  have:=h (evNo p x.2) (Nat.zero_le _) (by omega)
  simp only[mrl,Bool.not_eq_true',decide_eq_false_iff_not,qbO _ _ _ hno,if_true] at this
  omega
 ·intro h j _ hj
  rw[Bool.not_eq_true',decide_eq_false_iff_not]
  show ¬v.getD j 0<(qaN (plcs p).length (evNo p x.2)).getD j 0
  rw[qbO _ _ j (by omega)]
  have:=hv j
  split
  ·rename_i e;rw[e];omega
  ·omega
theorem qoy {p:Pg}{x:Int×Ev}(hx:MgOk p x)(r:Nat){v:List Int}(hl:v.length=(plcs p).length)(hv:∀j,v.getD j 0≠1099511627776):aftR (mrl p r x) v=doC p v x.2:=by
 apply List.ext_getElem (by rw[qeL,qjd])
 intro j h1 h2
 have q1:(aftR (mrl p r x) v)[j]=(aftR (mrl p r x) v).getD j 0:=by rw[List.getD_eq_getElem?_getD,List.getElem?_eq_getElem h1];rfl
 have q2:(doC p v x.2)[j]=(doC p v x.2).getD j 0:=by rw[List.getD_eq_getElem?_getD,List.getElem?_eq_getElem h2];rfl
 rw[qeL] at h1
 have e3:=qjc p (qaN (plcs p).length (evNo p x.2)) x.2 j (by rw[qaV];omega)
 rw[q1,q2,qfy (mrl p r x) v j h1,qjc p v x.2 j h1,aft1,if_neg (hv j)]
 show v.getD j 0 - (qaN (plcs p).length (evNo p x.2)).getD j 0+(doC p (qaN (plcs p).length (evNo p x.2)) x.2).getD j 0=_
 rw[e3];omega
theorem ql9 {p:Pg}{x:Int×Ev}(hx:MgOk p x)(r:Nat){B:Int}(hB:0≤B∧B≤1000000){v:List Int}(hl:v.length=(plcs p).length)(hv:∀j,0≤v.getD j 0∧v.getD j 0≤B)(hpos:v.getD (evNo p x.2) 0 > 0):aftO (mrl p r x) v=true:=by
 have ha:=qoy hx r hl (fun j=>by have:=hv j;omega)
 rw[aftO,qdR]
 intro j _ hj
 have h1:=qfy (mrl p r x) v j (by omega)
 rw[ha] at h1
 have h2:=qo2 (e:=x.2) hv hpos hB.1 j
 rw[←h1,decide_eq_true (by omega),Bool.or_true]
theorem qeU {p:Pg}{x:Int×Ev}(hx:MgOk p x)(r:Nat){B s:Int}{v:List Int}(h:StOk p B s v):qcn (mrl p r x) s v=canM p s v x:=by
 rw[qrT hx r h.len (fun j=>(h.ent j).1),canM]
theorem qlB {p:Pg}{q:Nat}(hq:q<(mngs p).length)(d:Rl)(e:Int×Ev):(mdl p).rules.getD q d=mrl p q ((mngs p).getD q e):=by
 simp[mdl,List.getD_eq_getElem?_getD,hq]
theorem qiL (p:Pg):(mdl p).rules.length=(mngs p).length:=by simp[mdl]
end
section
open Go.RowKit
set_option maxHeartbeats 2000000
attribute [local simp] qau qav qaD qaJ qa1 qbo qaB qah qa5 qaI qdX
def befN (p:Pg)(i:Nat):Nat:=((p.ths.take i).map fun t=>t.lines.length).sum
theorem qoH (p:Pg)(i:Nat)(h:i<p.ths.length):befN p (i+1)=befN p i+(p.ths.getD i default).lines.length:=by
 simp only[befN]
 rw[←List.take_append_getElem h,List.map_append,List.sum_append]
 simp[List.getD_eq_getElem?_getD,h]
theorem qh9:∀(l:List Nat) (i:Nat),(l.take i).sum≤l.sum
 | [],i=>by simp
 | x::l,0=>by simp
 | x::l,i+1=>by have:=qh9 l i;simp only[List.take_succ_cons,List.sum_cons];omega
theorem qoG (p:Pg)(i:Nat):befN p i≤qcd p.ths:=by
 rw[befN,List.map_take];exact qh9 _ _
set_option maxHeartbeats 4000000 in
theorem qsy (p:Pg)(h6:qcd p.ths≤6)(hl6:p.ths.length≤6)(i k:Nat)(hi:i≤p.ths.length)(hk:k≤1000)(Q:IExit→(Nat→T)→Heap→Prop)
 (hQ:Q (.exit 0) (ofL [(1,.int .i64 i),(3,.ref 0 2 0),(7,.int .i64 ((befN p i+k:Nat):Int)),(8,.int .i64 i),(12,.bool false)]) (hpL [(0,.live ⟨28,pgC p⟩)])):∀(f j:Nat),j+f=i→
 WL Tryz.prog 25 qmD (ofL [(1,.int .i64 i),(3,.ref 0 2 0),(7,.int .i64 ((befN p j+k:Nat):Int)),(8,.int .i64 j)]) (hpL [(0,.live ⟨28,pgC p⟩)]) Q:=by
 simp only[pgC] at hQ ⊢
 intro f
 induction f with
 | zero=>
  intro j hj
  obtain rfl:j=i:=by omega
  have hd:decide ((j:Int)<(j:Int))=false:=decide_eq_false (by omega)
  have fX:=@hd
  refine qaa qmD.eq_1 ?_
  refine wR0 300 [1,3,7,8,12] fX ?_
  refine wF @hd ?_
  refine wX ?_
  refine wN ?_
  exact hQ
 | succ f ih=>
  intro j hj
  have hd:decide ((j:Int)<(i:Int))=true:=decide_eq_true (by omega)
  have hlt:(j:Int)<((qa4 p.ths).length:Int):=by rw[qbd];omega
  have hw:IntKind.wrap .i64 ((j:Int)+1)=((j+1:Nat):Int):=by rw[wrap64 (by omega) (by omega)];rfl
  have hg:=qnw p j (by omega)
  have hb:=qoH p j (by omega)
  have hle:=qoG p j
  have hle2:=qoG p (j+1)
  have hll:=qa8 (p.ths.getD j default).lines
  have hw2:IntKind.wrap .i64 (((befN p j+k:Nat):Int)+((qa7 (p.ths.getD j default).lines).length:Int))=((befN p (j+1)+k:Nat):Int):=by rw[wrap64 (by omega) (by omega)];omega
  have hQ':=ih (j+1) (by omega)
  generalize p.ths.getD j default=u at*
  have fX:=(cJ4 @hd @hw @hg @hw2)
  refine qaa qmD.eq_1 ?_
  refine wR0 300 [1,3,7,8,12] fX ?_
  refine wT @hd ?_
  refine wR0 400 [1,3,7,8] fX ?_
  refine wR0 500 [1,3,7,8] fX ?_
  refine wN ?_
  exact hQ'
theorem qh0 (p:Pg)(hok:okP p=true)(i k:Nat)(hi:i≤p.ths.length)(hk:k≤1000):TP Tryz.prog 62 [qar p,.int .i64 (i:Int),.int .i64 (k:Int)] (.int .i64 ((plNo p i k:Nat):Int)):=by
 have ho:=qbq hok
 have hL:=fun Q a=>qsy p ho.six ho.len i k hi hk Q a i 0 (by omega)
 have h0:((befN p 0+k:Nat):Int)=(k:Int):=by simp[befN]
 have hn:plNo p i k=befN p i+k:=rfl
 simp only[h0,pgC,Int.natCast_zero] at hL
 refine qag fn62 (by simp) ?_
 unfold i62
 simp only[argL,qar,pgC]
 refine wR0 0 [1,2,3] cJ0 ?_
 refine wR0 100 [1,3,7] cJ0 ?_
 refine wR0 200 [1,3,7,8] cJ0 ?_
 refine wL ?_
 refine hL _ ?_
 ·skip
  refine wN ?_
  refine wR0 600 [6] cJ0 ?_
  refine wP ?_
  exact qaC (by rw[hn])
end
section
open Go.RowKit
set_option maxHeartbeats 2000000
attribute [local simp] qau qav qaD qaJ qa1 qbo qaB qah qa5 qaI qdX
set_option maxHeartbeats 8000000 in
theorem rat_t (p:Pg)(i k:Nat)(t:Th)(l:Lne)(v:Int)(H:EvHd p i k t l)(h1:1≤l.k∧l.k≤7)(ha:0≤l.a)(hb:((((k+1:Nat):Int))==((qa7 t.lines).length:Int))=true):TP Tryz.prog 55 [qar p,.int .i64 v,.int .i64 (i:Int),.int .i64 (k:Int)] (.list (qaG (evK i k l v (-1)))):=by
 have hlt1:=H.h1
 have hlt2:=H.h2
 have hg1:=H.g1
 have hg2:=H.g2
 have hw:=H.w
 clear H
 obtain⟨kk,a,num⟩:=l
 simp only at h1 ha
 have hcs:kk=1∨kk=2∨kk=3∨kk=4∨kk=5∨kk=6∨kk=7:=by omega
 simp only[thC,lnC] at hg1 hg2 ⊢
 rcases hcs with rfl | rfl | rfl | rfl | rfl | rfl | rfl
 ·rw[show evK i k ⟨1,a,num⟩ v (-1)=[⟨i,k,num,a,-1⟩] from by simp[evK]]
  have fX:=(cJ4 @hg1 @hg2 @hw @hb)
  refine qag fn55 (by simp) ?_
  unfold i55
  simp only[argL,qar,pgC]
  refine wR0 0 [1,2,3,4] fX ?_
  refine wR0 100 [1,2,3,4,9] fX ?_
  refine wR0 200 [1,2,3,4,9,10] fX ?_
  refine wR0 300 [1,9,10,38] fX ?_
  refine wT @hb ?_
  refine wR0 400 [1,9,10] fX ?_
  refine wR0 500 [1,9,10,41] fX ?_
  refine wR0 600 [1,9,10,41,42] fX ?_
  refine wT fX ?_
  refine wR0 700 [10] fX ?_
  refine wR0 2500 [8] fX ?_
  refine wP ?_
  exact qbb [⟨i,k,num,a,-1⟩] rfl rfl rfl
 ·by_cases hv:v=a
  ·have hva:(v != a)=false:=by simp[hv]
   have e:evK i k ⟨2,a,num⟩ v (-1)=[⟨i,k,num,v,-1⟩]:=by simp[evK,hv]
   rw[e]
   have fX:=(cJ5 @hg1 @hg2 @hw @hb @hva)
   refine qag fn55 (by simp) ?_
   unfold i55
   simp only[argL,qar,pgC]
   refine wR0 0 [1,2,3,4] fX ?_
   refine wR0 100 [1,2,3,4,9] fX ?_
   refine wR0 200 [1,2,3,4,9,10] fX ?_
   refine wR0 300 [1,9,10,38] fX ?_
   refine wT @hb ?_
   refine wR0 400 [1,9,10] fX ?_
   refine wR0 500 [1,9,10,41] fX ?_
   refine wR0 600 [1,9,10,41,42] fX ?_
   refine wF fX ?_
   refine wR0 800 [1,9,10,41,47] fX ?_
   refine wT fX ?_
   refine wR0 900 [10,52] fX ?_
   refine wF @hva ?_
   refine wR0 2500 [8] fX ?_
   refine wP ?_
   exact qbb [⟨i,k,num,v,-1⟩] rfl rfl rfl
  ·have hva:(v != a)=true:=by simpa using hv
   have e:evK i k ⟨2,a,num⟩ v (-1)=[]:=by simp[evK,hv]
   rw[e]
   have fX:=(cJ5 @hg1 @hg2 @hw @hb @hva)
   refine qag fn55 (by simp) ?_
   unfold i55
   simp only[argL,qar,pgC]
   refine wR0 0 [1,2,3,4] fX ?_
   refine wR0 100 [1,2,3,4,9] fX ?_
   refine wR0 200 [1,2,3,4,9,10] fX ?_
   refine wR0 300 [1,9,10,38] fX ?_
   refine wT @hb ?_
   refine wR0 400 [1,9,10] fX ?_
   refine wR0 500 [1,9,10,41] fX ?_
   refine wR0 600 [1,9,10,41,42] fX ?_
   refine wF fX ?_
   refine wR0 800 [1,9,10,41,47] fX ?_
   refine wT fX ?_
   refine wR0 900 [10,52] fX ?_
   refine wT @hva ?_
   refine wR0 1000 [8] fX ?_
   refine wP ?_
   exact .nil
 ·rw[show evK i k ⟨3,a,num⟩ v (-1)=[⟨i,k,num,v,a⟩] from by simp[evK]]
  have fX:=(cJ4 @hg1 @hg2 @hw @hb)
  refine qag fn55 (by simp) ?_
  unfold i55
  simp only[argL,qar,pgC]
  refine wR0 0 [1,2,3,4] fX ?_
  refine wR0 100 [1,2,3,4,9] fX ?_
  refine wR0 200 [1,2,3,4,9,10] fX ?_
  refine wR0 300 [1,9,10,38] fX ?_
  refine wT @hb ?_
  refine wR0 400 [1,9,10] fX ?_
  refine wR0 500 [1,9,10,41] fX ?_
  refine wR0 600 [1,9,10,41,42] fX ?_
  refine wF fX ?_
  refine wR0 800 [1,9,10,41,47] fX ?_
  refine wF fX ?_
  refine wR0 1100 [9,10,41,53] fX ?_
  refine wT fX ?_
  refine wR0 1200 [10] fX ?_
  refine wR0 2500 [8] fX ?_
  refine wP ?_
  exact qbb [⟨i,k,num,v,a⟩] rfl rfl rfl
 ·have e4:evK i k ⟨4,a,num⟩ v (-1)=(qcs a (-1)).map fun n=>⟨i,k,num,v,n⟩:=by simp[evK]
  rw[e4]
  have hne:(a == -1)=false:=by rw[beq_eq_false_iff_ne];omega
  have eb:qcs a (-1)=[a,-1]:=by rw[qcs,if_neg (by omega),if_neg (by omega)]
  rw[eb]
  have fX:=(cJ5 @hg1 @hg2 @hw @hb @hne)
  refine qag fn55 (by simp) ?_
  unfold i55
  simp only[argL,qar,pgC]
  refine wR0 0 [1,2,3,4] fX ?_
  refine wR0 100 [1,2,3,4,9] fX ?_
  refine wR0 200 [1,2,3,4,9,10] fX ?_
  refine wR0 300 [1,9,10,38] fX ?_
  refine wT @hb ?_
  refine wR0 400 [1,9,10] fX ?_
  refine wR0 500 [1,9,10,41] fX ?_
  refine wR0 600 [1,9,10,41,42] fX ?_
  refine wF fX ?_
  refine wR0 800 [1,9,10,41,47] fX ?_
  refine wF fX ?_
  refine wR0 1100 [9,10,41,53] fX ?_
  refine wF fX ?_
  refine wR0 1300 [9,10,41,58] fX ?_
  refine wT fX ?_
  refine wR0 1400 [9,10,11] fX ?_
  refine wR0 1500 [10,11] fX ?_
  refine wR0 1600 [10,11,64] fX ?_
  refine wF @hne ?_
  refine wR0 1800 [10,11,72] fX ?_
  refine wT fX ?_
  refine wR0 1900 [8] fX ?_
  refine wP ?_
  exact qbb [⟨i,k,num,v,a⟩,⟨i,k,num,v,-1⟩] rfl rfl rfl
 ·rw[show evK i k ⟨5,a,num⟩ v (-1)=[⟨i,k,num,v,-1⟩] from by simp[evK]]
  have fX:=(cJ4 @hg1 @hg2 @hw @hb)
  refine qag fn55 (by simp) ?_
  unfold i55
  simp only[argL,qar,pgC]
  refine wR0 0 [1,2,3,4] fX ?_
  refine wR0 100 [1,2,3,4,9] fX ?_
  refine wR0 200 [1,2,3,4,9,10] fX ?_
  refine wR0 300 [1,9,10,38] fX ?_
  refine wT @hb ?_
  refine wR0 400 [1,9,10] fX ?_
  refine wR0 500 [1,9,10,41] fX ?_
  refine wR0 600 [1,9,10,41,42] fX ?_
  refine wF fX ?_
  refine wR0 800 [1,9,10,41,47] fX ?_
  refine wF fX ?_
  refine wR0 1100 [9,10,41,53] fX ?_
  refine wF fX ?_
  refine wR0 1300 [9,10,41,58] fX ?_
  refine wF fX ?_
  refine wR0 2100 [10,41,89] fX ?_
  refine wF fX ?_
  refine wR0 2300 [10,92] fX ?_
  refine wF fX ?_
  refine wR0 2500 [8] fX ?_
  refine wP ?_
  exact qbb [⟨i,k,num,v,-1⟩] rfl rfl rfl
 ·rw[show evK i k ⟨6,a,num⟩ v (-1)=[⟨i,k,num,v,-1⟩] from by simp[evK]]
  have fX:=(cJ4 @hg1 @hg2 @hw @hb)
  refine qag fn55 (by simp) ?_
  unfold i55
  simp only[argL,qar,pgC]
  refine wR0 0 [1,2,3,4] fX ?_
  refine wR0 100 [1,2,3,4,9] fX ?_
  refine wR0 200 [1,2,3,4,9,10] fX ?_
  refine wR0 300 [1,9,10,38] fX ?_
  refine wT @hb ?_
  refine wR0 400 [1,9,10] fX ?_
  refine wR0 500 [1,9,10,41] fX ?_
  refine wR0 600 [1,9,10,41,42] fX ?_
  refine wF fX ?_
  refine wR0 800 [1,9,10,41,47] fX ?_
  refine wF fX ?_
  refine wR0 1100 [9,10,41,53] fX ?_
  refine wF fX ?_
  refine wR0 1300 [9,10,41,58] fX ?_
  refine wF fX ?_
  refine wR0 2100 [10,41,89] fX ?_
  refine wT fX ?_
  refine wR0 2200 [10] fX ?_
  refine wR0 2500 [8] fX ?_
  refine wP ?_
  exact qbb [⟨i,k,num,v,-1⟩] rfl rfl rfl
 ·rw[show evK i k ⟨7,a,num⟩ v (-1)=[] from by simp[evK]]
  have fX:=(cJ4 @hg1 @hg2 @hw @hb)
  refine qag fn55 (by simp) ?_
  unfold i55
  simp only[argL,qar,pgC]
  refine wR0 0 [1,2,3,4] fX ?_
  refine wR0 100 [1,2,3,4,9] fX ?_
  refine wR0 200 [1,2,3,4,9,10] fX ?_
  refine wR0 300 [1,9,10,38] fX ?_
  refine wT @hb ?_
  refine wR0 400 [1,9,10] fX ?_
  refine wR0 500 [1,9,10,41] fX ?_
  refine wR0 600 [1,9,10,41,42] fX ?_
  refine wF fX ?_
  refine wR0 800 [1,9,10,41,47] fX ?_
  refine wF fX ?_
  refine wR0 1100 [9,10,41,53] fX ?_
  refine wF fX ?_
  refine wR0 1300 [9,10,41,58] fX ?_
  refine wF fX ?_
  refine wR0 2100 [10,41,89] fX ?_
  refine wF fX ?_
  refine wR0 2300 [10,92] fX ?_
  refine wT fX ?_
  refine wR0 2400 [8] fX ?_
  refine wP ?_
  exact .nil
set_option maxHeartbeats 8000000 in
theorem rat_f (p:Pg)(i k:Nat)(t:Th)(l:Lne)(v:Int)(H:EvHd p i k t l)(h1:1≤l.k∧l.k≤7)(ha:0≤l.a)(hb:((((k+1:Nat):Int))==((qa7 t.lines).length:Int))=false):TP Tryz.prog 55 [qar p,.int .i64 v,.int .i64 (i:Int),.int .i64 (k:Int)] (.list (qaG (evK i k l v (((k+1:Nat):Int))))):=by
 have hlt1:=H.h1
 have hlt2:=H.h2
 have hg1:=H.g1
 have hg2:=H.g2
 have hw:=H.w
 clear H
 obtain⟨kk,a,num⟩:=l
 simp only at h1 ha
 have hcs:kk=1∨kk=2∨kk=3∨kk=4∨kk=5∨kk=6∨kk=7:=by omega
 simp only[thC,lnC] at hg1 hg2 ⊢
 rcases hcs with rfl | rfl | rfl | rfl | rfl | rfl | rfl
 ·rw[show evK i k ⟨1,a,num⟩ v (((k+1:Nat):Int))=[⟨i,k,num,a,((k+1:Nat):Int)⟩] from by simp[evK]]
  have fX:=(cJ4 @hg1 @hg2 @hw @hb)
  refine qag fn55 (by simp) ?_
  unfold i55
  simp only[argL,qar,pgC]
  refine wR0 0 [1,2,3,4] fX ?_
  refine wR0 100 [1,2,3,4,9] fX ?_
  refine wR0 200 [1,2,3,4,9,10] fX ?_
  refine wR0 300 [1,9,10,38] fX ?_
  refine wF @hb ?_
  refine wR0 500 [1,9,10,41] fX ?_
  refine wR0 600 [1,9,10,41,42] fX ?_
  refine wT fX ?_
  refine wR0 700 [10] fX ?_
  refine wR0 2500 [8] fX ?_
  refine wP ?_
  exact qbb [⟨i,k,num,a,((k+1:Nat):Int)⟩] rfl rfl rfl
 ·by_cases hv:v=a
  ·have hva:(v != a)=false:=by simp[hv]
   have e:evK i k ⟨2,a,num⟩ v (((k+1:Nat):Int))=[⟨i,k,num,v,((k+1:Nat):Int)⟩]:=by simp[evK,hv]
   rw[e]
   have fX:=(cJ5 @hg1 @hg2 @hw @hb @hva)
   refine qag fn55 (by simp) ?_
   unfold i55
   simp only[argL,qar,pgC]
   refine wR0 0 [1,2,3,4] fX ?_
   refine wR0 100 [1,2,3,4,9] fX ?_
   refine wR0 200 [1,2,3,4,9,10] fX ?_
   refine wR0 300 [1,9,10,38] fX ?_
   refine wF @hb ?_
   refine wR0 500 [1,9,10,41] fX ?_
   refine wR0 600 [1,9,10,41,42] fX ?_
   refine wF fX ?_
   refine wR0 800 [1,9,10,41,47] fX ?_
   refine wT fX ?_
   refine wR0 900 [10,52] fX ?_
   refine wF @hva ?_
   refine wR0 2500 [8] fX ?_
   refine wP ?_
   exact qbb [⟨i,k,num,v,((k+1:Nat):Int)⟩] rfl rfl rfl
  ·have hva:(v != a)=true:=by simpa using hv
   have e:evK i k ⟨2,a,num⟩ v (((k+1:Nat):Int))=[]:=by simp[evK,hv]
   rw[e]
   have fX:=(cJ5 @hg1 @hg2 @hw @hb @hva)
   refine qag fn55 (by simp) ?_
   unfold i55
   simp only[argL,qar,pgC]
   refine wR0 0 [1,2,3,4] fX ?_
   refine wR0 100 [1,2,3,4,9] fX ?_
   refine wR0 200 [1,2,3,4,9,10] fX ?_
   refine wR0 300 [1,9,10,38] fX ?_
   refine wF @hb ?_
   refine wR0 500 [1,9,10,41] fX ?_
   refine wR0 600 [1,9,10,41,42] fX ?_
   refine wF fX ?_
   refine wR0 800 [1,9,10,41,47] fX ?_
   refine wT fX ?_
   refine wR0 900 [10,52] fX ?_
   refine wT @hva ?_
   refine wR0 1000 [8] fX ?_
   refine wP ?_
   exact .nil
 ·rw[show evK i k ⟨3,a,num⟩ v (((k+1:Nat):Int))=[⟨i,k,num,v,a⟩] from by simp[evK]]
  have fX:=(cJ4 @hg1 @hg2 @hw @hb)
  refine qag fn55 (by simp) ?_
  unfold i55
  simp only[argL,qar,pgC]
  refine wR0 0 [1,2,3,4] fX ?_
  refine wR0 100 [1,2,3,4,9] fX ?_
  refine wR0 200 [1,2,3,4,9,10] fX ?_
  refine wR0 300 [1,9,10,38] fX ?_
  refine wF @hb ?_
  refine wR0 500 [1,9,10,41] fX ?_
  refine wR0 600 [1,9,10,41,42] fX ?_
  refine wF fX ?_
  refine wR0 800 [1,9,10,41,47] fX ?_
  refine wF fX ?_
  refine wR0 1100 [9,10,41,53] fX ?_
  refine wT fX ?_
  refine wR0 1200 [10] fX ?_
  refine wR0 2500 [8] fX ?_
  refine wP ?_
  exact qbb [⟨i,k,num,v,a⟩] rfl rfl rfl
 ·have e4:evK i k ⟨4,a,num⟩ v (((k+1:Nat):Int))=(qcs a (((k+1:Nat):Int))).map fun n=>⟨i,k,num,v,n⟩:=by simp[evK]
  rw[e4]
  have hn1:(((k+1:Nat):Int) == -1)=false:=by rw[beq_eq_false_iff_ne];omega
  by_cases h0:a=((k+1:Nat):Int)
  ·have hee:(a==((k+1:Nat):Int))=true:=by simpa using h0
   have eb:qcs a ((k+1:Nat):Int)=[((k+1:Nat):Int)]:=by rw[qcs,if_pos h0,h0]
   rw[eb]
   have fX:=(cJ5 @hg1 @hg2 @hw @hb @hee)
   refine qag fn55 (by simp) ?_
   unfold i55
   simp only[argL,qar,pgC]
   refine wR0 0 [1,2,3,4] fX ?_
   refine wR0 100 [1,2,3,4,9] fX ?_
   refine wR0 200 [1,2,3,4,9,10] fX ?_
   refine wR0 300 [1,9,10,38] fX ?_
   refine wF @hb ?_
   refine wR0 500 [1,9,10,41] fX ?_
   refine wR0 600 [1,9,10,41,42] fX ?_
   refine wF fX ?_
   refine wR0 800 [1,9,10,41,47] fX ?_
   refine wF fX ?_
   refine wR0 1100 [9,10,41,53] fX ?_
   refine wF fX ?_
   refine wR0 1300 [9,10,41,58] fX ?_
   refine wT fX ?_
   refine wR0 1400 [9,10,11] fX ?_
   refine wR0 1500 [10,11] fX ?_
   refine wR0 1600 [10,11,64] fX ?_
   refine wT @hee ?_
   refine wR0 1700 [8] fX ?_
   refine wP ?_
   exact qbb [⟨i,k,num,v,((k+1:Nat):Int)⟩] rfl rfl rfl
  ·have hee:(a==((k+1:Nat):Int))=false:=by simpa using h0
   by_cases h2:a<((k+1:Nat):Int)
   ·have hlt:decide (a<((k+1:Nat):Int))=true:=decide_eq_true h2
    have eb:qcs a ((k+1:Nat):Int)=[a,((k+1:Nat):Int)]:=by rw[qcs,if_neg h0,if_neg (by omega)]
    rw[eb]
    have fX:=(cJ7 @hg1 @hg2 @hw @hb @hee @hn1 @hlt)
    refine qag fn55 (by simp) ?_
    unfold i55
    simp only[argL,qar,pgC]
    refine wR0 0 [1,2,3,4] fX ?_
    refine wR0 100 [1,2,3,4,9] fX ?_
    refine wR0 200 [1,2,3,4,9,10] fX ?_
    refine wR0 300 [1,9,10,38] fX ?_
    refine wF @hb ?_
    refine wR0 500 [1,9,10,41] fX ?_
    refine wR0 600 [1,9,10,41,42] fX ?_
    refine wF fX ?_
    refine wR0 800 [1,9,10,41,47] fX ?_
    refine wF fX ?_
    refine wR0 1100 [9,10,41,53] fX ?_
    refine wF fX ?_
    refine wR0 1300 [9,10,41,58] fX ?_
    refine wT fX ?_
    refine wR0 1400 [9,10,11] fX ?_
    refine wR0 1500 [10,11] fX ?_
    refine wR0 1600 [10,11,64] fX ?_
    refine wF @hee ?_
    refine wR0 1800 [10,11,72] fX ?_
    refine wT fX ?_
    refine wR0 1900 [8] fX ?_
    refine wP ?_
    exact qbb [⟨i,k,num,v,a⟩,⟨i,k,num,v,((k+1:Nat):Int)⟩] rfl rfl rfl
   ·have hlt:decide (a<((k+1:Nat):Int))=false:=decide_eq_false h2
    have eb:qcs a ((k+1:Nat):Int)=[((k+1:Nat):Int),a]:=by rw[qcs,if_neg h0,if_pos (by omega)]
    rw[eb]
    have fX:=(cJ7 @hg1 @hg2 @hw @hb @hee @hn1 @hlt)
    refine qag fn55 (by simp) ?_
    unfold i55
    simp only[argL,qar,pgC]
    refine wR0 0 [1,2,3,4] fX ?_
    refine wR0 100 [1,2,3,4,9] fX ?_
    refine wR0 200 [1,2,3,4,9,10] fX ?_
    refine wR0 300 [1,9,10,38] fX ?_
    refine wF @hb ?_
    refine wR0 500 [1,9,10,41] fX ?_
    refine wR0 600 [1,9,10,41,42] fX ?_
    refine wF fX ?_
    refine wR0 800 [1,9,10,41,47] fX ?_
    refine wF fX ?_
    refine wR0 1100 [9,10,41,53] fX ?_
    refine wF fX ?_
    refine wR0 1300 [9,10,41,58] fX ?_
    refine wT fX ?_
    refine wR0 1400 [9,10,11] fX ?_
    refine wR0 1500 [10,11] fX ?_
    refine wR0 1600 [10,11,64] fX ?_
    refine wF @hee ?_
    refine wR0 1800 [10,11,72] fX ?_
    refine wF fX ?_
    refine wR0 2000 [8] fX ?_
    refine wP ?_
    exact qbb [⟨i,k,num,v,((k+1:Nat):Int)⟩,⟨i,k,num,v,a⟩] rfl rfl rfl
 ·rw[show evK i k ⟨5,a,num⟩ v (((k+1:Nat):Int))=[⟨i,k,num,v,((k+1:Nat):Int)⟩] from by simp[evK]]
  have fX:=(cJ4 @hg1 @hg2 @hw @hb)
  refine qag fn55 (by simp) ?_
  unfold i55
  simp only[argL,qar,pgC]
  refine wR0 0 [1,2,3,4] fX ?_
  refine wR0 100 [1,2,3,4,9] fX ?_
  refine wR0 200 [1,2,3,4,9,10] fX ?_
  refine wR0 300 [1,9,10,38] fX ?_
  refine wF @hb ?_
  refine wR0 500 [1,9,10,41] fX ?_
  refine wR0 600 [1,9,10,41,42] fX ?_
  refine wF fX ?_
  refine wR0 800 [1,9,10,41,47] fX ?_
  refine wF fX ?_
  refine wR0 1100 [9,10,41,53] fX ?_
  refine wF fX ?_
  refine wR0 1300 [9,10,41,58] fX ?_
  refine wF fX ?_
  refine wR0 2100 [10,41,89] fX ?_
  refine wF fX ?_
  refine wR0 2300 [10,92] fX ?_
  refine wF fX ?_
  refine wR0 2500 [8] fX ?_
  refine wP ?_
  exact qbb [⟨i,k,num,v,((k+1:Nat):Int)⟩] rfl rfl rfl
 ·rw[show evK i k ⟨6,a,num⟩ v (((k+1:Nat):Int))=[⟨i,k,num,v,-1⟩] from by simp[evK]]
  have fX:=(cJ4 @hg1 @hg2 @hw @hb)
  refine qag fn55 (by simp) ?_
  unfold i55
  simp only[argL,qar,pgC]
  refine wR0 0 [1,2,3,4] fX ?_
  refine wR0 100 [1,2,3,4,9] fX ?_
  refine wR0 200 [1,2,3,4,9,10] fX ?_
  refine wR0 300 [1,9,10,38] fX ?_
  refine wF @hb ?_
  refine wR0 500 [1,9,10,41] fX ?_
  refine wR0 600 [1,9,10,41,42] fX ?_
  refine wF fX ?_
  refine wR0 800 [1,9,10,41,47] fX ?_
  refine wF fX ?_
  refine wR0 1100 [9,10,41,53] fX ?_
  refine wF fX ?_
  refine wR0 1300 [9,10,41,58] fX ?_
  refine wF fX ?_
  refine wR0 2100 [10,41,89] fX ?_
  refine wT fX ?_
  refine wR0 2200 [10] fX ?_
  refine wR0 2500 [8] fX ?_
  refine wP ?_
  exact qbb [⟨i,k,num,v,-1⟩] rfl rfl rfl
 ·rw[show evK i k ⟨7,a,num⟩ v (((k+1:Nat):Int))=[] from by simp[evK]]
  have fX:=(cJ4 @hg1 @hg2 @hw @hb)
  refine qag fn55 (by simp) ?_
  unfold i55
  simp only[argL,qar,pgC]
  refine wR0 0 [1,2,3,4] fX ?_
  refine wR0 100 [1,2,3,4,9] fX ?_
  refine wR0 200 [1,2,3,4,9,10] fX ?_
  refine wR0 300 [1,9,10,38] fX ?_
  refine wF @hb ?_
  refine wR0 500 [1,9,10,41] fX ?_
  refine wR0 600 [1,9,10,41,42] fX ?_
  refine wF fX ?_
  refine wR0 800 [1,9,10,41,47] fX ?_
  refine wF fX ?_
  refine wR0 1100 [9,10,41,53] fX ?_
  refine wF fX ?_
  refine wR0 1300 [9,10,41,58] fX ?_
  refine wF fX ?_
  refine wR0 2100 [10,41,89] fX ?_
  refine wF fX ?_
  refine wR0 2300 [10,92] fX ?_
  refine wT fX ?_
  refine wR0 2400 [8] fX ?_
  refine wP ?_
  exact .nil
theorem rat_tp (p:Pg)(hp:p.fit)(i k:Nat)(h:IsPl p i k)(hk:LnOk p (p.ths.getD i default).lines.length ((p.ths.getD i default).lines.getD k default))(v:Int):TP Tryz.prog 55 [qar p,.int .i64 v,.int .i64 (i:Int),.int .i64 (k:Int)] (.list (qaG (evL p v i k))):=by
 rw[evL_K,behL]
 by_cases hb:k+1=(p.ths.getD i default).lines.length
 ·rw[if_pos hb]
  exact rat_t p i k _ _ v (qeo hp h) hk.k hk.a0 (by rw[qa8,beq_iff_eq];omega)
 ·rw[if_neg hb]
  exact rat_f p i k _ _ v (qeo hp h) hk.k hk.a0 (by rw[qa8,beq_eq_false_iff_ne];omega)
end
section
open Go.RowKit
set_option maxHeartbeats 2000000
attribute [local simp] qau qav qaD qaJ qa1 qbo qaB qah qa5 qaI qaO qdz
abbrev miE (l:List (Int×Ev))(i:Int)(done:List Ev):List (Nat×T):=[(6,qbt 804 done),(17,.list (qcc l)),(18,.int .i64 (qcc l).length),(19,.int .i64 i)]
abbrev miH (p:Pg)(done:List Ev):List (Nat×Slot):=[(0,.live ⟨28,pgC p⟩)]++qbj 804 64 done
set_option maxHeartbeats 8000000 in
theorem qnX (p:Pg)(l:List (Int×Ev))(hl:l.length≤1000)(R:List Ev)(Q:IExit→(Nat→T)→Heap→Prop)(hQ:∀j:Int,Q (.exit 0) (ofL (miE l j R++[(20,.bool false)])) (hpL (miH p R))):∀(rest:List (Int×Ev)) (k:Nat) (done:List Ev),l.drop k=rest→k+rest.length=l.length→done.length=k→done++rest.map (·.2)=R→
 WL Tryz.prog 30 qkx (ofL (miE l k done)) (hpL (miH p done)) Q:=by
 simp only[miE,miH,List.cons_append,List.nil_append] at hQ ⊢
 intro rest
 induction rest with
 | nil=>
  intro k done he hk hdl hR
  have hd:decide ((k:Int)<((qcc l).length:Int))=false:=decide_eq_false (by rw[qdA];simp at hk;omega)
  simp only[List.map_nil,List.append_nil] at hR
  subst hR
  have fX:=@hd
  refine qaa qkx.eq_1 ?_
  refine wR0 600 [6,17,18,19,20] fX ?_
  refine wF @hd ?_
  refine wX ?_
  refine wN ?_
  exact hQ _
 | cons x rest ih=>
  intro k done he hk hdl hR
  simp only[List.length_cons] at hk
  have hkl:k<l.length:=by omega
  have hlt:(k:Int)<((qcc l).length:Int):=by rw[qdA];omega
  have hd:decide ((k:Int)<((qcc l).length:Int))=true:=decide_eq_true hlt
  have hg:=qiw l k hkl
  rw[drop_at hkl he] at hg
  have hw:IntKind.wrap .i64 ((k:Int)+1)=((k+1:Nat):Int):=by rw[wrap64 (by omega) (by omega)];rfl
  have hQ':=ih (k+1) (done++[x.2]) (by rw[←List.drop_drop,he];rfl) (by omega) (by simp[hdl]) (by rw[←hR];simp)
  obtain⟨v,e⟩:=x
  simp only[mgC,pgC] at hg hQ' ⊢
  cases done with
  | nil=>
   simp only[qbt,qbj,List.nil_append,List.append_nil,List.length_nil,List.flatMap_cons,List.flatMap_nil,Nat.zero_add] at hQ' ⊢
   have fX:=(cJ4 @hd @hw @hg @qb0)
   refine qaa qkx.eq_1 ?_
   refine W_gc ?_
   refine wR0 600 [6,17,18,19,20] fX ?_
   refine wT @hd ?_
   refine wR0 700 [6,8,17,18,19] fX ?_
   refine wR0 800 [6,17,18,19] fX ?_
   refine wR0 900 [6,17,18,19] fX ?_
   refine wN ?_
   refine qay [0,804] (by simp[inL]) (by simp[inL,T.cl]) (by simp[qaf,inL,Slot.cl,T.cl,clL]) ?_
   simpa [qaf,inL,evC] using hQ'
  | cons z zs=>
   have hsn:∀c:Ev,(z::(zs++[c])).flatMap evC=(z::zs).flatMap evC++evC c:=fun c=>by simp[List.flatMap_append]
   have hm2:(zs.length+1+1)*5=(zs.length+1)*5+5:=by omega
   have hfl:((z::zs).flatMap evC).length=(zs.length+1)*5:=qdV _
   have hzb:zs.length+1≤100000:=by simp at hdl;omega
   simp only[qbt,qbj,List.cons_append,List.length_append,List.length_cons,List.length_nil,Nat.zero_add,hsn,hm2] at hQ' ⊢
   have fX:=(cJ5 @hd @hw @hg @qb0 @hfl)
   refine qaa qkx.eq_1 ?_
   refine W_gc ?_
   refine wR0 600 [6,17,18,19,20] fX ?_
   refine wT @hd ?_
   refine wR0 700 [6,8,17,18,19] fX ?_
   refine wR0 800 [6,17,18,19] fX ?_
   refine wR0 900 [6,17,18,19] fX ?_
   refine wN ?_
   refine qay [0,804] (by simp[inL]) (by simp[inL,T.cl]) (by simp[qaf,inL,Slot.cl,T.cl,clL,qab,evC,qa5]) ?_
   simpa [qaf,inL,evC] using hQ'
def qfN (p:Pg):T:=if okP p=true then (if (mngs p).length≤12 then .tup [.list (qaG ((mngs p).map (·.2))),.int .i64 0] else .tup [.list [],.int .i64 1]) else .tup [.list [],.int .i64 47]
set_option maxHeartbeats 8000000 in
theorem qgh (p:Pg)(hp:p.fit):TP Tryz.prog 20 [qar p] (qfN p):=by
 have hof:=qny p hp
 unfold qfN
 unfold ofT at hof
 by_cases hok:okP p=true
 ·rw[if_pos hok] at hof ⊢
  by_cases hl:(mngs p).length≤12
  ·rw[if_pos hl] at hof ⊢
   have hz:((0:Int) != 0)=false:=rfl
   have hL:=fun Q a=>qnX p (mngs p) (by omega) ((mngs p).map (·.2)) Q a (mngs p) 0 [] rfl (by omega) rfl (by simp)
   generalize hR:(mngs p).map (·.2)=R at*
   clear hR hl
   generalize mngs p=ms at*
   simp only[miE,miH,qar,pgC,List.cons_append,List.nil_append,List.append_nil,Int.natCast_zero,qbt,qbj] at hof hL ⊢
   cases R with
   | nil=>
    simp only at hL
    have fX:=@hz
    refine qag fn20 (by simp) ?_
    unfold i20
    simp only[argL]
    refine wR0 0 [1] fX ?_
    refine wRn 100 [4,5] fX ?_
    refine rC fX ?_
    refine⟨_,hof,rE fX ?_⟩
    refine wR0 200 [4,5,15] fX ?_
    refine wF @hz ?_
    refine wR0 400 [4,6] fX ?_
    refine wR0 500 [6,17,18,19] fX ?_
    refine wL ?_
    refine hL _ ?_
    ·intro j
     refine wN ?_
     refine wR0 1000 [2,3] fX ?_
     refine wP ?_
     exact qaK .nil (.same rfl)
   | cons z zs=>
    simp only at hL
    have fX:=@hz
    refine qag fn20 (by simp) ?_
    unfold i20
    simp only[argL]
    refine wR0 0 [1] fX ?_
    refine wRn 100 [4,5] fX ?_
    refine rC fX ?_
    refine⟨_,hof,rE fX ?_⟩
    refine wR0 200 [4,5,15] fX ?_
    refine wF @hz ?_
    refine wR0 400 [4,6] fX ?_
    refine wR0 500 [6,17,18,19] fX ?_
    refine wL ?_
    refine hL _ ?_
    ·intro j
     refine wN ?_
     refine wR0 1000 [2,3] fX ?_
     refine wP ?_
     exact qaK (qbb (z::zs) rfl rfl rfl) (.same rfl)
  ·rw[if_neg hl] at hof ⊢
   have hz:((1:Int) != 0)=true:=rfl
   simp only[qar,pgC] at hof ⊢
   have fX:=@hz
   refine qag fn20 (by simp) ?_
   unfold i20
   simp only[argL]
   refine wR0 0 [1] fX ?_
   refine wRn 100 [4,5] fX ?_
   refine rC fX ?_
   refine⟨_,hof,rE fX ?_⟩
   refine wR0 200 [4,5,15] fX ?_
   refine wT @hz ?_
   refine wR0 300 [2,3] fX ?_
   refine wP ?_
   exact qaK .nil (.same rfl)
 ·rw[if_neg hok] at hof ⊢
  have hz:((47:Int) != 0)=true:=rfl
  simp only[qar,pgC] at hof ⊢
  have fX:=@hz
  refine qag fn20 (by simp) ?_
  unfold i20
  simp only[argL]
  refine wR0 0 [1] fX ?_
  refine wRn 100 [4,5] fX ?_
  refine rC fX ?_
  refine⟨_,hof,rE fX ?_⟩
  refine wR0 200 [4,5,15] fX ?_
  refine wT @hz ?_
  refine wR0 300 [2,3] fX ?_
  refine wP ?_
  exact qaK .nil (.same rfl)
end
end Go.Proofs.YtkbjpglehdhjfaaGreatDoor
